/-
 Part 3.
-/
import Derived.Test.YtmfnimjnneflnaaGreatN1
set_option linter.unusedVariables false
set_option linter.unusedSimpArgs false
set_option maxRecDepth 100000
set_option maxHeartbeats 16000000
namespace Go.Proofs.YtmfnimjnneflnaaGreat
inductive Tr where
 |done
 |alt (a b:Tr)
 |step (i:Nat) (zs:List Nat) (keep:Bool) (t:Tr)
def VW(i:Nat)(a:List Nat):List Nat:=a.filter fun j=>j != i
def Bh(b a:List Nat):List Nat:=b.filter fun z=>!a.contains z
theorem sx{i k:Nat}{a:List Nat}:k∈VW i a↔k∈a∧k≠i:=by simp[VW]
theorem gA{a b:List Nat}{k:Nat}:k∈Bh a b↔k∈a∧k ∉ b:=by simp[Bh]
def oY:Tr→List Nat
 | .done=>[]
 | .alt a b=>oY a++oY b
 | .step i _ _ _=>[i]
def W5(a:List Nat)(hs:List Nat)(t:Tr):Bool:=hs.all fun j=>(oY t).contains j||hs.any fun p=>wt a j p
def RY(ops:Array Oper)(a:List Nat)(t:Tr):Prop:=∀j,j∈a→j∈oY t∨∃p,p∈a∧Waits ops j p
def W6(ops:Array Oper)(z:Nat):Bool:=match ops[z]? with
 |some o=>KH o.op
 |none=>false
def VX(ops:Array Oper)(e za is:List Nat):List Nat→List Nat→Tr→Bool
 |zv,hs,.done=>hs.isEmpty&&za.all fun z=>zv.contains z
 |zv,hs,.alt a b=>VX ops e za is zv hs a&&VX ops e za is zv hs b
 | zv,hs,.step i zs keep t=>hs.contains i && (keep || za.all fun z=>W6 ops z || wt e i z || is.any fun h=>!hs.contains h && wt e h z) && (match cB ops i with
   |some d=>zv.all fun z=>!(iE ops z).contains d||wt e i z
   |none=>true)&&(zs.all fun z=>wt e z i)&&(zs.all fun z=>za.contains z)&&im ops (zv++zs)&&eR (zv++zs)&&W5 e (VW i hs) t&&VX ops e za is (zv++zs) (VW i hs) t
def Nb(ops:Array Oper)(e is:List Nat):List Nat→List Nat→Tr→Prop
 |zv,hs,.done=>hs=[]∧∀z,z∈e→z∈zv
 |zv,hs,.alt a b=>Nb ops e is zv hs a∧Nb ops e is zv hs b
 | zv,hs,.step i zs keep t=>(i ∈ hs∧(keep=false→∀ z,z ∈ e→W6 ops z=false→Waits ops i z ∨ ∃ h,h ∈ is∧h ∉ hs∧Waits ops h z))∧(∀ d,cB ops i=some d→∀ z,z ∈ zv→d ∈ iE ops z→Waits ops i z)∧(∀ z,z ∈ zs→Waits ops z i)∧(∀ z,z ∈ zs→z ∈ e) ∧
   im ops (zv++zs)=true∧eR (zv++zs)=true∧RY ops (VW i hs) t∧Nb ops e is (zv++zs) (VW i hs) t
theorem Nc{ops:Array Oper}{a:List Nat}{t:Tr}(h:W5 (W0 ops) a t=true):RY ops a t:=by
 intro j b;have:=fa.1 h j b;rw[Bool.or_eq_true]at this;rcases this with h|h;exact .inl (by simpa using h);obtain⟨p,e,d⟩:=List.any_eq_true.1 h;exact .inr ⟨p,e,lC d⟩
theorem Iz{ops:Array Oper}{p is:List Nat}:∀(t:Tr){j g:List Nat},VX ops (W0 ops) p is j g t=true→Nb ops p is j g t
 | .done,j,g,h=>by
  simp only[VX,Bool.and_eq_true,List.isEmpty_iff]at h;exact⟨h.1,fun z e=>by simpa using fa.1 h.2 z e⟩
 | .alt a b,j,g,h=>by
  simp only[VX,Bool.and_eq_true]at h;exact⟨Iz a h.1,Iz b h.2⟩
 | .step i zs keep t,j,g,h=>by
  simp only[VX,Bool.and_eq_true]at h;obtain⟨⟨⟨⟨⟨⟨⟨⟨B,o⟩,m⟩,y⟩,E⟩,D⟩,r⟩,u⟩,C⟩:=h;refine⟨⟨by simpa using B,fun A z e k=>?_⟩,fun d v z e s=>?_,fun z e=>lC (fa.1 y z e),fun z e=>by simpa using fa.1 E z e,D,r,Nc u,Iz t C⟩
  rw[A,Bool.false_or]at o;have f:=fa.1 o z e;rw[k,Bool.false_or,Bool.or_eq_true]at f;rcases f with h|h;exact .inl (lC h);obtain⟨q,x,l⟩:=List.any_eq_true.1 h;rw[Bool.and_eq_true]at l;exact .inr ⟨q,x,by simpa using l.1,lC l.2⟩;simp only[v]at m;have:=fa.1 m z e;simp only[s,List.contains_eq_mem,decide_true,Bool.not_true,Bool.false_or]at this;exact lC this
section
variable (P:Program) (ops:Array Oper) (base:Nat) (hp0:Hp) (K:Fr→Hp→Prop)
def zg:Tr→Fr→Hp→Prop
 | .done,fr,hp=>K fr hp
 | .alt a b,fr,hp=>zg a fr hp∧zg b fr hp
 | .step i zs keep t,fr,hp=>match ops[i]? with
  | some o=>(match o.guard with
   |none=>bZ P fr hp (base+32*i) o.op fun v hp'=>(keep=true→dM hp0 hp')∧zW P ops base hp0 (fun fr=>zg t fr hp') zs (bz fr o.dst v)
   | some (g,want)=>(match (ops[g]?).bind (·.dst) with
    |some d=>(match fv d fr with
     | .d (.bool b)=>(b=want→bZ P fr hp (base+32*i) o.op fun v hp'=>(keep=true→dM hp0 hp')∧zW P ops base hp0 (fun fr=>zg t fr hp') zs (bz fr o.dst v)) ∧
       (b=!want→zW P ops base hp0 (fun fr=>zg t fr hp) zs (bz fr o.dst (.tup [])))
     | .tup []=>zW P ops base hp0 (fun fr=>zg t fr hp) zs (bz fr o.dst (.tup []))
     |_=>False)
    |none=>False))
  |none=>False
end
section
variable {P:Program} {c:Ctx} {ops:Array Oper} {base:Nat} {hp0:Hp} {K:Fr→Hp→Prop} {fr fr':Fr}
theorem DN{e is d:List Nat}{hp:Hp}:∀(t:Tr),Nb ops e is d [] t→zg P ops base hp0 K t fr hp→K fr hp
 | .done,_,h=>h
 | .alt a b,hT,h=>DN a hT.1 h.1
 | .step i d keep t,hT,h=>by have:=hT.1.1;simp at this
theorem xg{g is:List Nat}:∀(t:Tr){f d:List Nat}{z:Nat},Nb ops g is f d t→z∈g→z ∉ f→∃p,p∈d∧Waits ops z p
 | .done,f,d,z,hT,h1,h2=>absurd (hT.2 z h1) h2
 | .alt a b,f,d,z,hT,h1,h2=>xg a hT.1 h1 h2
 | .step i zj keep t,f,d,z,hT,h1,h2=>by
  obtain⟨j,q,l,s,u,v,r,k⟩:=hT;rcases Classical.em (z∈zj)with h|h;exact⟨i,j.1,l z h⟩;obtain⟨p,o,m⟩:=xg t k h1 (fun e=>(cD.1 e).elim h2 h);exact⟨p,(sx.1 o).1,m⟩
theorem ud{d is e f:List Nat}{hp:Hp}{i:Nat}:∀(t:Tr),i∈oY t→Nb ops d is e f t→zg P ops base hp0 K t fr hp→∃zj keep t',Nb ops d is e f (.step i zj keep t')∧zg P ops base hp0 K (.step i zj keep t') fr hp
 | .done,h,_,_=>by simp[oY]at h
 | .alt a b,h,hT,hW=>by
  rcases cD.1 h with h|h;exact ud a h hT.1 hW.1;exact ud b h hT.2 hW.2
 | .step j zj keep t',h,hT,hW=>by
  simp only[oY,List.mem_singleton]at h;subst h;exact⟨zj,keep,t',hT,hW⟩
theorem W7 {za is:List Nat} {Q:Exit→Act→World→Prop} (hB:RegOk c.n ops za is)
  (hQ:∀fr hp a w U,K fr hp→(∀k,U k→k<base+32*ops.size)→oK c fr hp U a w→Q .normal a w) :
  ∀(fuel:Nat)(listed:Array Bool)(zs hs:List Nat)(t:Tr)(fr:Fr)(hp:Hp)(a:Act)(w:World),RV listed≤fuel→Nb ops za is zs hs t→RY ops hs t→(∀i,i∈hs→i∈is)→(∀z,z∈zs→z∈za) →
   RInv P c ops base hp0 (za.filter fun z=>!W6 ops z) zs (hs++Bh za zs) listed fr hp a w→zg P ops base hp0 K t fr hp→wpAny P .any ops Q fuel listed a w:=by
 have notboth:∀{listed:Array Bool}{i:Nat},listed.getD i true=false→listed.getD i false=true→False:=by
  intro listed i h1 h2;rw[kY h2]at h1;cases h1
 -- where nothing is left
 have u7:∀ (listed:Array Bool) (zs hs:List Nat) (t:Tr) (fr:Fr) (hp:Hp) (a:Act) (w:World),Nb ops za is zs hs t→(∀ i,i ∈ hs→i ∈ is)→RInv P c ops base hp0 (za.filter fun z=>!W6 ops z) zs (hs ++ Bh za zs) listed fr hp a w→zg P ops base hp0 K t fr hp→Region.ready .any ops listed=[]→Q .normal a w:=by
  intro listed zs hs t fr hp a w hT hsub hI hW hr0;have all:∀k j,j≤k→j<ops.size→listed.getD j false=true:=by
   intro k
   induction k with
   | zero =>
    intro j hj hjs;cases hl:listed.getD j false with
    |true=>rfl
    | false =>
     have hmem:j∈Region.ready .any ops listed:=mem_ready.2 ⟨j7 (by rw[hI.size];exact hjs) hl,ops[j],dg hjs,fun e he hb=>by
      have:=hB.low j _ (dg hjs) e he hb
      omega⟩
     rw[hr0]at hmem;simp at hmem
   | succ k ih =>
    intro j hj hjs;cases hl:listed.getD j false with
    |true=>rfl
    | false =>
     have hmem:j∈Region.ready .any ops listed:=mem_ready.2 ⟨j7 (by rw[hI.size];exact hjs) hl,ops[j],dg hjs,fun e he hb=>by
      have:=hB.low j _ (dg hjs) e he hb
      exact ih e.on aq aq⟩
     rw[hr0]at hmem;simp at hmem
  have hnil:hs=[]:=by
   cases hs with
   |nil=>rfl
   |cons j r =>
    have h1:=hI.un j (cD.2 (.inl (dz ..)));exact(notboth h1 (all j j (cL _) (hB.inb j (hsub j (dz ..))))).elim
  subst hnil;have hW:=DN t hT hW;obtain⟨U,σ,hr,hh,hU,hf⟩:=hI.sim;refine hQ fr hp a w U hW (fun k hk=>?_) ⟨hI.def_,hI.tmps,σ,hr,fun t=>hf t fun z hz hun=>?_,hh⟩;rcases hU k hk with h|⟨j,hj1,hj2,hj⟩;omega;have:j<listed.size:=by
   rcases Nat.lt_or_ge j listed.size with h|h;exact h;simp[ct,Array.getElem?_eq_none h]at hj
  have:=hI.size;omega;intro he;have:z<ops.size:=by
   rcases Nat.lt_or_ge z ops.size with h|h;exact h;simp[cB,Array.getElem?_eq_none h]at he
  exact notboth hun (all z z (cL _) this)
 intro fuel
 induction fuel with
 | zero =>
  intro listed zs hs t fr hp a w hf hT hcov hsub hza hI hW;have hr0:Region.ready .any ops listed=[]:=by
   rw[List.eq_nil_iff_forall_not_mem];intro i hi;have:=vX (mem_ready.1 hi).1;omega
  exact⟨hr0,u7 listed zs hs t fr hp a w hT hsub hI hW hr0⟩
 | succ fuel ih =>
  intro listed zs hs tr fr hp a w hfuel hT hcov hsub hza hI hW;refine⟨u7 listed zs hs tr fr hp a w hT hsub hI hW,fun i hi=>?_⟩;obtain⟨hun,o,ho,haft⟩:=mem_ready.1 hi;have his:i<ops.size:=(Array.getElem?_eq_some_iff.1 ho).1;have hil:i<listed.size:=by rw[hI.size];exact his
  have hdi:cB ops i=o.dst:=by simp[cB,ho]
  have hli:iE ops i=o.looksAt ops:=by simp[iE,ho]
  have hwl:∀z,Waits ops i z→listed.getD z false=true:=fun z hz=>nN hI.closed hz fun o' ho'=>by
   rw[ho]at ho';injection ho' with ho';subst ho';exact haft
  have hzza:∀z,z∈zs→z∈za:=hza;have hdst:ii c.n o.dst:=by
   unfold ii;cases hd:o.dst with
   |none=>trivial
   |some d=>exact hB.lt i d (by rw[hdi,hd])
  have hun':∀z,(listed.setIfInBounds i true).getD z true=false→listed.getD z true=false∧z≠i:=by
   intro z hz;rw[aL true hil]at hz;split at hz;cases hz;rename_i hne;exact⟨hz,fun h=>hne h.symm⟩
  have hclosed':∀j o',ops[j]?=some o'→(listed.setIfInBounds i true).getD j false=true→∀e,e∈o'.after→Region.binds .any e=true→(listed.setIfInBounds i true).getD e.on false=true:=by
   intro j o' hj hl e he hb;rw[aL false hil]at hl⊢;split;rfl;split at hl;rename_i hij;subst hij;rw[ho]at hj;injection hj with hj;subst hj;exact haft e he hb;exact hI.closed j o' hj hl e he hb
  have hfuel':RV (listed.setIfInBounds i true)≤fuel:=by
   have:=vX hun;omega
  obtain⟨U,σ,hr,hh,hU,hf⟩:=hI.sim;have hNU:Free U (base+32*i):=by
   intro k k1 k2 h;rcases hU _ h with h|⟨j,hj,hj2,hl⟩;omega;have:j=i:=aq;subst this;exact notboth hun hl
  have hU':∀k,eN U (base+32*i) k→k<base∨∃j,base+32*j≤k∧k<base+32*j+32∧(listed.setIfInBounds i true).getD j false=true:=by
   rintro k(h|h);rcases hU k h with h|⟨j,h1,h1',h2⟩;exact .inl h;exact .inr ⟨j,h1,h1',by rw[aL false hil];split<;>simp[h2]⟩;exact .inr ⟨i,h.1,h.2,by rw[aL false hil];simp⟩
  obtain⟨frm,hm1,hm2⟩:=Gx fr (zs.filterMap fun z=>if listed.getD z true=true then none else cB ops z);have hml:∀t,t∈(zs.filterMap fun z=>if listed.getD z true=true then none else cB ops z)↔∃z,z∈zs∧listed.getD z true=false∧cB ops z=some t:=by
   intro t;rw[List.mem_filterMap];constructor;rintro⟨z,hz,h⟩;split at h;cases h;rename_i hne;exact⟨z,hz,by simpa using hne,h⟩;rintro⟨z,hz,h1,h2⟩;exact⟨z,hz,by simp[h1,h2]⟩
  have hfm:∀t,AIs w (bQ c w σ hp) σ hp U (fv t frm) (a.tmps.getD t undef):=by
   intro t;by_cases hm:t∈(zs.filterMap fun z=>if listed.getD z true=true then none else cB ops z);rw[hm1 t hm];exact .any _;rw[hm2 t hm];exact hf t fun z hz hzu he=>hm ((hml t).2 ⟨z,hz,hzu,he⟩)
  have hlook:∀t,t∈o.looksAt ops→fv t frm=fv t fr:=by
   intro t ht';refine hm2 t fun hm=>?_;obtain⟨z,hz,hzu,he⟩:=(hml t).1 hm;exact notboth hzu (hwl z (hB.zdst z (hzza z hz) t he i (by rw[hli];exact ht')))
  have hlook':∀t,t∈o.looksAt ops→fv t fr=fv t frm:=fun t ht'=>(hlook t ht').symm;have hgu:∀{g want d},o.guard=some (g,want)→(ops[g]?).bind (·.dst)=some d→fv d fr=.tup []→¬(yielded ops a.tmps g=some want):=by
   intro g want d hg hd hb;have hx:=hfm d;rw[hlook d (kt hg hd),hb]at hx;unfold yielded;rw[hd];cases ht:a.tmps[d]? with
   |none=>simp[ht]
   |some u =>
    have e:a.tmps.getD d undef=u:=(by simp[ct,ht]);rw[e]at hx;cases hx with
    |tup _ xs _ _=>simp[ht]
  have hgv:∀{g want d b},o.guard=some (g,want)→(ops[g]?).bind (·.dst)=some d→fv d fr=.d (.bool b)→yielded ops a.tmps g=some b:=by
   intro g want d b hg hd hb;have hx:=hfm d;rw[hlook d (kt hg hd),hb]at hx;have hv:=gZ hx;unfold yielded;rw[hd];have hv':a.tmps[d]?.getD undef=.bool b:=(by simpa using hv);cases ht:a.tmps[d]? with
   |none=>rw[ht]at hv';cases hv'
   |some u=>rw[ht]at hv';simp at hv';subst hv';simp[ht]
  unfold wpOp;simp only[ho];by_cases hz:i∈zs
  ·
   have hopw:∀(K':AV→Hp→Prop)(v:AV),mY P frm hp0 o.op v→K' v hp→bZ P frm hp (base+32*i) o.op K':=by
    intro K' v hs hk;rcases hI.sa with h|h;exact hs hp _ K' h hk;have hn:KH o.op=true:=by
     cases hn:KH o.op with
     |true=>rfl
     |false =>
      have:=h i (List.mem_filter.2 ⟨hzza i hz,by simp[W6,ho,hn]⟩);rw[hun]at this;cases this
    exact RS hn hs hp _ K' hk
   have hsa':uW hp0 hp∨∀z,z∈(za.filter fun z=>!W6 ops z)→(listed.setIfInBounds i true).getD z true=true:=hI.sa.imp id fun h z hz'=>by
    rw[aL true hil];split;rfl;exact h z hz'
   have hirest:i ∉ hs++Bh za zs:=fun h=>by
    rcases cD.1 h with h|h;exact(hB.part i his).2 ⟨hzza i hz,hsub i h⟩;exact(gA.1 h).2 hz
   obtain⟨v,o',ho',hdv,hzk⟩:=hI.facts i hz hun;rw[ho]at ho';injection ho' with ho';subst ho';have next:∀a' w',oK c (bz frm o.dst v) hp (eN U (base+32*i)) a' w'→wpAny P .any ops Q fuel (listed.setIfInBounds i true) a' w':=by
    rintro a' w'⟨q1,q2,σ',q3,q4,q5⟩;refine ih _ zs hs tr fr hp a' w' hfuel' hT hcov hsub hza ⟨by simp[hI.size],hclosed',fun j hj=>?_,fun j hj hjz hjr=>?_,q1,q2,⟨_,σ',q3,q5,hU',fun t htu=>?_⟩,fun z hz' hzu=>hI.facts z hz' (hun' z hzu).1,hsa'⟩ hW;rw[aL true hil,if_neg (fun e=>hirest (by rw[e];exact hj))];exact hI.un j hj;rw[aL false hil];split;rfl;exact hI.done j hj hjz hjr;have:=q4 t;by_cases hd:o.dst=some t;rw[hd,ku]at this;rw[hdv t hd];exact this;rw[mL hd,hm2 t fun hm=>?_]at this;exact this;obtain⟨z,hz',hzu,he⟩:=(hml t).1 hm;refine htu z hz' ?_ he;rw[aL true hil,if_neg];exact hzu;intro e;subst e;exact hd (by rw[←hdi];exact he)
   have exec:mY P fr hp0 o.op v→o.wp P a w (wpAny P .any ops Q fuel (listed.setIfInBounds i true)) Q:=by
    intro hs;have hop:=hopw (fun v' hp'=>v'=v∧hp'=hp) v (mo hlook' hs) ⟨rfl,rfl⟩;have hok:=sn (o:=o) hr (fun x=>zD hfm x) hNU hop;refine rW hI.def_ hI.tmps hdst hfm hh hok fun v' hp' a' w' hK hS=>?_;obtain⟨rfl,rfl⟩:=hK;exact next a' w' hS
   unfold M9 at hzk;split at hzk;rename_i hg;rw[if_pos (by simp[Region.wanted,hg])];exact .inl (exec hzk)
   ·rename_i g want hg;obtain⟨d,hd,⟨b,hb,h1,h2⟩|⟨hb,hv⟩⟩:=hzk
    ·have hy:=hgv hg hd hb;by_cases hbw:b=want;rw[if_pos (by simp[Region.wanted,hg,hy,hbw])];exact .inl (exec (h1 hbw))
     ·rw[if_neg (by simp[Region.wanted,hg,hy,hbw])];have hv:=h2 (by cases b<;>cases want<;>simp_all)
      subst hv;exact next _ _ (mq hI.def_ hI.tmps hr hh hfm)
    ·have hy:=hgu hg hd hb;rw[if_neg (by simp[Region.wanted,hg,hy])];subst hv;exact next _ _ (mq hI.def_ hI.tmps hr hh hfm)
  ·
   have hir:i∈hs++Bh za zs:=by
    rcases Classical.em (i∈hs++Bh za zs)with h|h;exact h;exact(notboth hun (hI.done i his hz h)).elim
   have far:∀p,p∈hs→Waits ops i p→False:=fun p hp1 hp2=>notboth (hI.un p (cD.2 (.inl hp1))) (hwl p hp2);have hih:i∈hs:=by
    rcases cD.1 hir with h|h;exact h;obtain⟨p,hp1,hp2⟩:=xg tr hT (gA.1 h).1 (gA.1 h).2;exact(far p hp1 hp2).elim
   have hfi:i∈oY tr:=by
    rcases hcov i hih with h|⟨p,hp1,hp2⟩;exact h;exact(far p hp1 hp2).elim
   obtain⟨zj,keep,t',hT',hW'⟩:=ud tr hfi hT hW;clear hT hW hcov hfi;obtain⟨p1,p2,p3,p4,p5,p6,p7,p8⟩:=hT';have hW:=hW';clear hW'
   ·have hiza:i ∉ za:=fun h=>(hB.part i his).2 ⟨h,hsub i hih⟩;have hzj:∀z,z∈zj→z∈za:=p4;have hza':∀z,z∈zs++zj→z∈za:=fun z hz'=>(cD.1 hz').elim (hza z) (p4 z);have hordj:=lD p5;have hnzj:=jU p6;have hmr:∀{k},k∈VW i hs++Bh za (zs++zj)→k∈hs++Bh za zs∧k≠i:=by
     intro k hk;rcases cD.1 hk with h|h;exact⟨cD.2 (.inl (sx.1 h).1),(sx.1 h).2⟩;have h':=gA.1 h;exact⟨cD.2 (.inr (gA.2 ⟨h'.1,fun e=>h'.2 (cD.2 (.inl e))⟩)),fun e=>hiza (by rw[←e];exact h'.1)⟩
    have hunj:∀z,z∈zj→listed.getD z true=false:=fun z hz'=>hI.un z (cD.2 (.inr (gA.2 ⟨hzj z hz',fun e=>hnzj.2.2 z e hz'⟩)));simp only[zg,ho]at hW;have next:∀v hp' a' w',(keep=true→uW hp0 hp'∨∀z,z∈(za.filter fun z=>!W6 ops z)→listed.getD z true=true)→zW P ops base hp0 (fun fr=>zg P ops base hp0 K t' fr hp') zj (bz fr o.dst v)→oK c (bz frm o.dst v) hp' (eN U (base+32*i)) a' w'→wpAny P .any ops Q fuel (listed.setIfInBounds i true) a' w':=by
     rintro v hp' a' w' hsa hW'⟨q1,q2,σ',q3,q4,q5⟩;obtain⟨frZ,g1,g2,g3⟩:=oW hB.uniq zj _ hordj.2.1 hnzj.2.1 hW';refine ih _ (zs++zj) (VW i hs) t' frZ hp' a' w' hfuel' p8 p7 (fun k hk=>hsub k (sx.1 hk).1) hza' ⟨by simp[hI.size],hclosed',fun k hk=>?_,fun k hk hkz hkr=>?_,q1,q2,⟨_,σ',q3,q5,hU',fun t htu=>?_⟩,fun z hz' hzu=>?_,?_⟩ g1;rw[aL true hil,if_neg (fun e=>(hmr hk).2 e.symm)];exact hI.un k (hmr hk).1;rw[aL false hil];split;rfl;rename_i hne;exact hI.done k hk (fun h=>hkz (cD.2 (.inl h))) (fun h=>by
      rcases cD.1 h with h|h;exact hkr (cD.2 (.inl (sx.2 ⟨h,fun e=>hne e.symm⟩)))
      exact hkr (cD.2 (.inr (gA.2 ⟨(gA.1 h).1,hkz⟩))))
     have hnj:∀z,z∈zj→cB ops z≠some t:=fun z hz'=>htu z (cD.2 (.inr hz')) (by
      rw[aL true hil,if_neg (fun e=>hiza (by rw[e];exact hzj z hz'))]
      exact hunj z hz')
     rw[g2 t hnj];have:=q4 t;by_cases hd:o.dst=some t;rw[hd,ku]at this⊢;exact this;rw[mL hd]at this⊢;rw[hm2 t fun hm=>?_]at this;exact this;obtain⟨z,hz',hzu,he⟩:=(hml t).1 hm;refine htu z (cD.2 (.inl hz')) ?_ he;rw[aL true hil,if_neg (fun e=>hz (by rw[e];exact hz'))];exact hzu;rcases cD.1 hz' with hz'|hz';obtain⟨hzu1,hzi⟩:=hun' z hzu;obtain⟨vz,oz,hoz,hdz,hzk⟩:=hI.facts z hz' hzu1;have hdz':cB ops z=oz.dst:=(by simp[cB,hoz]);have hlz:iE ops z=oz.looksAt ops:=(by simp[iE,hoz]);refine⟨vz,oz,hoz,fun d hd=>?_,uc (fun t ht'=>?_) hzk⟩;rw[g2 d fun y hy he=>?_,mL];exact hdz d hd;intro he;exact hzi (hB.uniq z i d (by rw[hdz'];exact hd) (by rw[hdi];exact he));have:=hB.uniq z y d (by rw[hdz'];exact hd) he;subst this;exact hnzj.2.2 z hz' hy;rw[g2 t fun y hy=>hordj.2.2 z hz' y hy t (by rw[hlz];exact ht'),mL];intro he;exact notboth hzu1 (hwl z (p2 t (by rw[hdi];exact he) z hz' (by rw[hlz];exact ht')));exact g3 z hz';cases hk:keep with
     | false =>
      right;intro z hz';have hz'':=List.mem_filter.1 hz';have:listed.getD z false=true:=by
       rcases p1.2 hk z hz''.1 (by simpa using hz''.2)with h|⟨q,h1,h2,h3⟩;exact hwl z h;have hqz:q ∉ za:=fun e=>(hB.part q (hB.inb q h1)).2 ⟨e,h1⟩;have hl:=hI.done q (hB.inb q h1) (fun e=>hqz (hza q e)) (fun e=>(cD.1 e).elim h2 fun e=>hqz (gA.1 e).1);exact nN hI.closed h3 fun o' ho'=>hI.closed q o' ho' hl
      rw[aL true hil];split;rfl;exact kY this
     | true =>
      rcases hsa hk with h|h;exact .inl h;right;intro z hz';rw[aL true hil];split;rfl;exact h z hz'
    have exec:bZ P fr hp (base+32*i) o.op (fun v hp'=>(keep=true→dM hp0 hp')∧zW P ops base hp0 (fun fr=>zg P ops base hp0 K t' fr hp') zj (bz fr o.dst v))→o.wp P a w (wpAny P .any ops Q fuel (listed.setIfInBounds i true)) Q:=by
     intro hop;rw[ua (xe hlook')]at hop;have hok:=sn (o:=o) hr (fun x=>zD hfm x) hNU hop;refine rW hI.def_ hI.tmps hdst hfm hh hok fun v' hp' a' w' hK hS=>?_;exact next v' hp' a' w' (fun h=>.inl (DL (hK.1 h))) hK.2 hS
    split at hW;rename_i hg;rw[if_pos (by simp[Region.wanted,hg])];exact .inl (exec hW)
    ·rename_i g want hg;split at hW
     ·rename_i d hd;split at hW
      ·rename_i b hb;have hy:=hgv hg hd hb;by_cases hbw:b=want;rw[if_pos (by simp[Region.wanted,hg,hy,hbw])];exact .inl (exec (hW.1 hbw))
       ·rw[if_neg (by simp[Region.wanted,hg,hy,hbw])];have hv:=hW.2 (by cases b<;>cases want<;>simp_all)
        exact next (.tup []) hp _ _ (fun hm=>hI.sa) hv (mq hI.def_ hI.tmps hr hh hfm)
      ·rename_i hb;have hy:=hgu hg hd hb;rw[if_neg (by simp[Region.wanted,hg,hy])];exact next (.tup []) hp _ _ (fun hm=>hI.sa) hW (mq hI.def_ hI.tmps hr hh hfm)
      ·exact hW.elim
     ·exact hW.elim
def VY(n:Nat)(ops:Array Oper)(f:List Nat)(b is a:List Nat)(t:Tr):Bool :=
 (List.range ops.size).all (fun j=>(a.contains j||is.contains j)&&!(a.contains j&&is.contains j)) &&
 is.all (fun j=>decide (j<ops.size))&&a.all (fun j=>decide (j<ops.size))&&eR b&&im ops b&&(b.all fun z=>a.contains z) &&
 (List.range ops.size).all (fun i=>match cB ops i with
  |some d=>decide (d<n)&&(List.range ops.size).all fun j=>j==i||cB ops j != some d
  |none=>true) &&
 a.all (fun z=>match cB ops z with
  |some d=>(List.range ops.size).all fun j=>!(iE ops j).contains d||wt f j z
  |none=>true) &&
 VX ops f a is b is t&&W5 f is t &&
 (List.range ops.size).all (fun j=>match ops[j]? with
  |some o=>o.after.all fun e=>!Region.binds .any e||decide (e.on<j)
  |none=>true)
def xh(n:Nat)(ops:Array Oper)(b is a:List Nat)(t:Tr):Bool:=VY n ops (W0 ops) b is a t
theorem Nh{n:Nat}{l is k:List Nat}{t:Tr}(h:xh n ops l is k t=true):RegOk n ops k is∧Nb ops k is l is t∧RY ops is t∧im ops l=true∧eR l=true∧(∀z,z∈l→z∈k)∧∀z,z∈k→z<ops.size:=by
 unfold xh at h;simp only[VY,Bool.and_eq_true]at h;obtain⟨⟨⟨⟨⟨⟨⟨⟨⟨⟨D,B⟩,q⟩,x⟩,r⟩,p⟩,u⟩,G⟩,E⟩,v⟩,m⟩:=h;have inr:∀{i d},cB ops i=some d→i∈List.range ops.size:=by
  intro i d f;rw[List.mem_range];rcases Nat.lt_or_ge i ops.size with h|h;exact h;simp[cB,Array.getElem?_eq_none h]at f
 refine⟨⟨fun j a=>?_,fun j a=>?_,fun i d f=>?_,fun i j d f a=>?_,fun z g d y j a=>?_,fun j o s e F A=>?_⟩,Iz t E,Nc v,r,x,fun z g=>by simpa using fa.1 p z g,fun z g=>by simpa using fa.1 q z g⟩
 have:=fa.1 D j (List.mem_range.2 a);simp at this;exact⟨this.1,fun h=>by rcases this.2 with C|C<;>simp_all⟩
 simpa using fa.1 B j a;have:=fa.1 u i (inr f);simp only[f,Bool.and_eq_true,decide_eq_true_eq]at this;exact this.1;have:=fa.1 u i (inr f);simp only[f,Bool.and_eq_true]at this;have:=fa.1 this.2 j (inr a);simp only[a,bne_self_eq_false,Bool.or_false,beq_iff_eq]at this;exact this.symm;have:=fa.1 G z g;simp only[y]at this;have b:j∈List.range ops.size:=by
  rw[List.mem_range];rcases Nat.lt_or_ge j ops.size with h|h;exact h;simp[iE,Array.getElem?_eq_none h]at a
 have:=fa.1 this j b;simp only[a,List.contains_eq_mem,decide_true,Bool.not_true,Bool.false_or]at this;exact lC this;have b:j∈List.range ops.size:=by
  rw[List.mem_range];exact(Array.getElem?_eq_some_iff.1 s).1
 have:=fa.1 m j b;simp only[s]at this;have:=Array.all_eq_true_iff_forall_mem.1 this e F;simpa[A]using this
theorem RZ{p is T:List Nat}{t:Tr}{id:Nat}{U:Nat→Prop}{a:Act}{w:World}{Q:Exit→Act→World→Prop}(i:P.follows .mixedOrders=true)(B:xh c.n ops p is T t=true)
  (I:∀fr hp a w U,K fr hp→(∀k,U k→k<base+32*ops.size)→oK c fr hp U a w→Q .normal a w)
  (A:∀k,U k→k<base) (G:oK c fr hp0 U a w) (h:zW P ops base hp0 (fun fr=>zg P ops base hp0 K t fr hp0) p fr):(Code.region id ops true).wp P Q a w:=by
 obtain⟨b,E,f,m,s,r,g⟩:=Nh B;obtain⟨q,R,N,C⟩:=oW b.uniq p fr m s h;obtain⟨L,J,σ,H,D,F⟩:=G;have u:=kq H;have Kp:∀j,(Array.replicate ops.size false).getD j false=false:=by
  intro j;simp only[ct,Array.getElem?_replicate];split<;>rfl
 have d:∀j,j<ops.size→(Array.replicate ops.size false).getD j true=false:=by
  intro j e;simp[ct,Array.getElem?_replicate,e]
 refine wp_region_any i (W7 b I ops.size _ p is t q hp0 a w.drew ?_ E f (fun _ h=>h) r ⟨aw,fun j o V v=>(by rw[Kp]at v;cases v),fun j e=>?_,fun j e l x=>?_,L,J,
  ⟨U,σ,u,F.trans cQ,fun k O=>.inl (A k O),fun t M=>?_⟩,fun z l _=>C z l,.inl fun _ _ h=>h⟩ R)
 unfold RV;refine Nat.le_trans (List.length_filter_le _ _) ?_;simp;refine d j ?_;rcases cD.1 e with h|h;exact b.inb j h;exact g j (gA.1 h).1;rcases(b.part j e).1 with h|h;exact absurd (cD.2 (.inr (gA.2 ⟨h,l⟩))) x;exact absurd (cD.2 (.inl h)) x;rw[N t fun z l y=>?_];exact(D t).step cQ;refine M z l (d z ?_) y;rcases Nat.lt_or_ge z ops.size with h|h;exact h;simp[cB,Array.getElem?_eq_none h]at y
end
def AV.deep1:AV→Prop
 | .any=>True
 | .d _=>True
 | .rop _=>True
 | .fn _ cs=>cs=[]
 | .mth _ cs=>cs=[]
 | .nil=>True
 |_=>False
def AV.deep:AV→Prop
 | .agg cs=>∀c,c∈cs→c.deep1
 | .tup cs=>∀c,c∈cs→(c.deep1∨∃xs,c=.agg xs∧∀x,x∈xs→x.deep1)
 | .fn _ cs=>∀c,c∈cs→c.deep1
 | .mth _ cs=>∀c,c∈cs→c.deep1
 |v=>v.deep1
def DV.flat:DV→Prop
 | .int _ _=>True
 | .bool _=>True
 | .str _=>True
 | .nilp=>True
 | .ro _ _=>False
 | .rof _ _=>False
 | .box _=>False
def AV.flat1:AV→Prop
 | .d v=>v.flat
 | .any=>True
 | .nil=>True
 |_=>False
def AV.flat:AV→Prop
 | .agg cs=>∀c,c∈cs→c.flat1
 | .tup cs=>∀c,c∈cs→(c.flat1∨∃xs,c=.agg xs∧∀x,x∈xs→x.flat1)
 |v=>v.flat1
section
variable {w:World} {S S':Nat→Prop} {σ σ':Nat→Option Nat} {hp hp':Hp} {U U':Nat→Prop}
theorem lF{v:AV}{x:Value}(a:v.deep1)(g:∀b,S b→S' b)(h:AIs w S σ hp U v x):AIs w S' σ' hp' U' v x:=by
 cases h with
 |any=>exact .any _
 |d h=>exact .d (h.mono g fun _ _=>rfl)
 |rop e ad vs h1 h2 h3=>exact .rop e ad vs (g _ h1) h2 fun j y i=>(h3 j y i).mono g fun _ _=>rfl
 |fn f e xs hl h=>obtain rfl:e=[]:=a;exact .fn f [] xs hl aw
 |mth f e xs hl h=>obtain rfl:e=[]:=a;exact .mth f [] xs hl aw
 |agg=>exact a.elim
 |tup=>exact a.elim
 |own=>exact a.elim
 |sub=>exact a.elim
 |ptr=>exact a.elim
 |nil=>exact .nil
 |mp=>exact a.elim
theorem nO{v:AV}{x:Value}(e:v.deep)(d:∀b,S b→S' b)(h:AIs w S σ hp U v x):AIs w S' σ' hp' U' v x:=by
 cases v with
 |agg cs =>
  cases h with
  |agg _ xs hl g h=>exact .agg cs xs hl g fun i c x hc a=>lF (e c (cr hc)) d (h i c x hc a)
 | tup cs =>
  cases h with
  | tup _ xs hl h =>
   refine .tup cs xs hl fun i c x hc a=>?_;have j:=h i c x hc a;rcases e c (cr hc)with g|⟨k,rfl,g⟩;exact lF g d j;cases j with
   |agg _ zs hl h2 h=>exact .agg k zs hl h2 fun i c x hc a=>lF (g c (cr hc)) d (h i c x hc a)
 |fn f cs =>
  cases h with
  |fn _ _ xs hl h=>exact .fn f cs xs hl fun i c x hc a=>lF (e c (cr hc)) d (h i c x hc a)
 |mth f cs =>
  cases h with
  |mth _ _ xs hl h=>exact .mth f cs xs hl fun i c x hc a=>lF (e c (cr hc)) d (h i c x hc a)
 |_=>exact lF e d h
theorem Ni{v:DV}{x:Value}(a:v.flat)(h:DIs w S v x):DIs w S' v x:=by
 cases h with
 |int=>exact .int _ _
 |bool=>exact .bool _
 |str=>exact .str _
 |nilp=>exact .nilp
 |ro=>exact a.elim
 |rof=>exact a.elim
 |box=>exact a.elim
theorem sy{v:AV}{x:Value}(a:v.flat1)(h:AIs w S σ hp U v x):AIs w S' σ' hp' U' v x:=by
 cases h with
 |d h=>exact .d (Ni a h)
 |any=>exact .any _
 |nil=>exact .nil
 |_=>exact a.elim
theorem R7{v:AV}{x:Value}(d:v.flat)(h:AIs w S σ hp U v x):AIs w S' σ' hp' U' v x:=by
 cases v with
 |agg cs =>
  cases h with
  |agg _ xs hl b h=>exact .agg cs xs hl b fun i c x hc a=>sy (d c (cr hc)) (h i c x hc a)
 | tup cs =>
  cases h with
  | tup _ xs hl h =>
   refine .tup cs xs hl fun i c x hc a=>?_;have e:=h i c x hc a;rcases d c (cr hc)with b|⟨f,rfl,b⟩;exact sy b e;cases e with
   |agg _ zs hl h2 h=>exact .agg f zs hl h2 fun i c x hc a=>sy (b c (cr hc)) (h i c x hc a)
 |_=>exact sy d h
end
inductive SnapD(hp:Hp)(I:Nat→Prop):AV→DV→Prop
 |d (v:DV):SnapD hp I (.d v) v
 |nil (e:Nat):SnapD hp I .nil (.ro e [])
 | own {id i0 len tot:Nat} {b:Blk} {es:List (List DV)} (hI:I id) (hb:lk id hp=some b) (ht:b.es.length=tot) (hl:es.length=len) (he:∀ r,r ∈ es→r.length=b.e)
   (hes:∀(i j:Nat)(row:List AV)(c:AV)(r:List DV)(y:DV),b.es[i0+i]?=some row→row[j]?=some c→es[i]?=some r→r[j]?=some y→SnapD hp I c y):SnapD hp I (.own id i0 len tot) (.ro b.e es)
 | sub {id i off e len cap tot:Nat} {b:Blk} {row:List AV} {es:List (List DV)} (hI:I id) (hb:lk id hp=some b) (ht:b.es.length=tot) (hr:b.es[i]?=some row) (he:0<e) (hl:es.length=len) (hel:∀ r,r ∈ es→r.length=e)
   (hes:∀(k j:Nat)(c:AV)(r:List DV)(y:DV),row[off+k*e+j]?=some c→es[k]?=some r→r[j]?=some y→SnapD hp I c y):SnapD hp I (.sub id i off e len cap tot) (.ro e es)
theorem xi{c:Ctx}{hp:Hp}{U:Nat→Prop}{σ:Nat→Option Nat}{w:World}{I S':Nat→Prop}(hS:∀b,bQ c w σ hp b→S' b)(L:∀id blk g,I id→lk id hp=some blk→σ id=some g→S' g)(hr:Rel c hp U σ w){v:AV}{d:DV}(hs:SnapD hp I v d) :
  ∀{x:Value},AIs w (bQ c w σ hp) σ hp U v x→DIs w S' d x:=by
 induction hs with
 |d v =>
  intro x h;cases h with|d h=>exact h.mono hS fun _ _=>rfl
 |nil e =>
  intro x h;cases h with|nil=>exact .ro _ [] none 0 (fun _ _=>default) aw aw aw aw aw
 | own hI hb ht hl he hes ih =>
  rename_i id s V O b z;intro x h;cases h with
  | own _ _ _ _ A o hN hlc hA0 h =>
   subst hl;obtain⟨h1,X⟩:=h _ hb;obtain⟨h3,ac,h4⟩:=X ht;rcases Nat.eq_zero_or_pos z.length with H|H;have:z=[]:=List.eq_nil_of_length_eq_zero H;subst this;exact .ro _ [] A o (fun _ _=>default) aw aw aw aw aw;obtain⟨g,M,N,_⟩:=h4 aq;obtain⟨a,Z,k2,k3,k4,k5⟩:=hr.at hb M;have l:∀i r j y,z[i]?=some r→r[j]?=some y→∃u,a[(s+i)*b.e+j]?=some u∧DIs w S' y u:=by
    intro i r j y F q;have af:=(ci.1 F).1;have m:b.es[s+i]?=some b.es[s+i]:=cm aq;have T:=k3 _ (cr m);have ab:j<b.e:=by
     have:=(ci.1 q).1;rw[he r (cr F)]at this;exact this
    have hc:(b.es[s+i])[j]?=some (b.es[s+i])[j]:=cm aq;have t:(s+i)*b.e+j<a.size:=by
     have:(s+i+1)*b.e≤b.es.length*b.e:=fk _ aq;rw[Nat.add_mul,Nat.one_mul]at this;omega
    exact⟨a[(s+i)*b.e+j],dg t,ih i j _ _ r y m hc F q (k5 (s+i) j _ _ _ m hc (dg t))⟩
   refine .ro b.e z A o (fun i j=>a.getD ((s+i)*b.e+j) undef) hlc he (fun r J=>⟨_,N,L id _ g hI hb M⟩) (fun ad D i j r y F q=>?_) (fun i j r y F q=>?_);rw[N]at D;injection D with D;subst D;obtain⟨u,C,_⟩:=l i r j y F q;rw[ik,cell_of_row w _ _ a _ _ Z];rw[show s*b.e+(i*b.e+j)=(s+i)*b.e+j by rw[Nat.add_mul];omega,C];simp[ct,C];obtain⟨u,C,R⟩:=l i r j y F q;simp only[ct,C,Option.getD_some];exact R
 | sub hI hb ht m hpe hl hel hes ih =>
  rename_i id i f e V o O b E z;intro x h;cases h with
  | sub _ _ _ _ _ _ _ A hN hlc hA0 h =>
   subst hl;obtain⟨h1,X⟩:=h _ hb;obtain⟨h3,h4,N⟩:=X ht;by_cases hz:z.length=0;obtain rfl:=List.eq_nil_of_length_eq_zero hz;exact .ro e [] A o (fun _ _=>undef) hlc aw aw aw aw;obtain⟨g,M,Y⟩:=N aq;obtain⟨a,Z,k2,k3,k4,k5⟩:=hr.at hb M;have G:∀hc:0<o,A=some ⟨g,i*b.e+f,none⟩:=fun hc=>Y;have T:E.length=b.e:=k3 _ (cr m);have W:∀k,k<z.length→f+k*e+e≤b.e:=by
    intro k hk;have h6:(k+1)*e≤z.length*e:=fk _ aq;have h7:z.length*e≤o*e:=fk _ hlc;rw[Nat.add_mul,Nat.one_mul]at h6;omega
   have l:∀k r j y,z[k]?=some r→r[j]?=some y→∃u,a[i*b.e+f+(k*e+j)]?=some u∧DIs w S' y u:=by
    intro k r j y p q;have ae:=W k (ci.1 p).1;have aa:j<e:=by
     have:=(ci.1 q).1;rw[hel r (cr p)]at this;exact this
    have hc:E[f+k*e+j]?=some E[f+k*e+j]:=cm aq;have t:i*b.e+f+(k*e+j)<a.size:=by
     have:(i+1)*b.e≤b.es.length*b.e:=fk _ aq;rw[Nat.add_mul,Nat.one_mul]at this;omega
    refine⟨a[i*b.e+f+(k*e+j)],dg t,ih k j _ r y hc p q (k5 i (f+k*e+j) _ _ _ m hc ?_)⟩;rw[show i*b.e+(f+k*e+j)=i*b.e+f+(k*e+j)by omega];exact dg t
   refine .ro e z A o (fun k j=>a.getD (i*b.e+f+(k*e+j)) undef) hlc hel (fun r J=>?_) (fun ad D k j r y p q=>?_) (fun k j r y p q=>?_);have B:0<o:=by
    have:=List.length_pos_of_mem J;omega
   exact⟨_,G B,L id _ g hI hb M⟩;have B:0<o:=by
    have:=(ci.1 p).1;omega
   rw[G B]at D;injection D with D;subst D;obtain⟨u,C,_⟩:=l k r j y p q;rw[ik,cell_of_row w _ _ a _ _ Z,C];simp[ct,C];obtain⟨u,C,R⟩:=l k r j y p q;simp only[ct,C,Option.getD_some];exact R
inductive CellsR(hp:Hp)(I:Nat→Prop):List AV→List DV→Prop
 |nil:CellsR hp I [] []
 |cons {c:AV} {y:DV} {cs:List AV} {ys:List DV} (h:SnapD hp I c y) (t:CellsR hp I cs ys):CellsR hp I (c::cs) (y::ys)
inductive RowsR(hp:Hp)(I:Nat→Prop):List (List AV)→List (List DV)→Prop
 |nil:RowsR hp I [] []
 |cons {c:List AV} {y:List DV} {cs:List (List AV)} {ys:List (List DV)} (h:CellsR hp I c y) (t:RowsR hp I cs ys):RowsR hp I (c::cs) (y::ys)
theorem CellsR.at{hp:Hp}{I:Nat→Prop}{cs:List AV}{b:List DV}(h:CellsR hp I cs b):∀(j:Nat)(c:AV)(y:DV),cs[j]?=some c→b[j]?=some y→SnapD hp I c y:=by
 induction h with
 |nil=>intro j c y h;simp at h
 |cons h t ih =>
  intro j c y hc a;cases j with
  |zero=>simp at hc a;subst hc;subst a;exact h
  |succ j=>simp at hc a;exact ih j c y hc a
theorem CellsR.len{hp:Hp}{I:Nat→Prop}{cs:List AV}{a:List DV}(h:CellsR hp I cs a):cs.length=a.length:=by
 induction h with
 |nil=>rfl
 |cons _ _ ih=>simp[ih]
theorem RowsR.at{hp:Hp}{I:Nat→Prop}{cs:List (List AV)}{b:List (List DV)}(h:RowsR hp I cs b):∀(j:Nat)(c:List AV)(y:List DV),cs[j]?=some c→b[j]?=some y→CellsR hp I c y:=by
 induction h with
 |nil=>intro j c y h;simp at h
 |cons h t ih =>
  intro j c y hc a;cases j with
  |zero=>simp at hc a;subst hc;subst a;exact h
  |succ j=>simp at hc a;exact ih j c y hc a
theorem RowsR.len{hp:Hp}{I:Nat→Prop}{cs:List (List AV)}{a:List (List DV)}(h:RowsR hp I cs a):cs.length=a.length:=by
 induction h with
 |nil=>rfl
 |cons _ _ ih=>simp[ih]
theorem lp{hp:Hp}{I:Nat→Prop}:∀a:List DV,CellsR hp I (a.map .d) a
 |[]=>.nil
 |y::r=>.cons (.d y) (lp r)
theorem lG{hp:Hp}{I:Nat→Prop}:∀a:List (List DV),RowsR hp I (a.map fun r=>r.map .d) a
 |[]=>.nil
 |y::r=>.cons (lp y) (lG r)
theorem RowsR.append{hp:Hp}{I:Nat→Prop}{a c:List (List AV)}{b d:List (List DV)}(h:RowsR hp I a b)(e:RowsR hp I c d):RowsR hp I (a++c) (b++d):=by
 induction h with
 |nil=>exact e
 |cons h t ih=>exact .cons h ih
theorem kJ{hp:Hp}{I:Nat→Prop}{id i0 len a:Nat}{ty:TypeId}{e:Nat}{rows:List (List AV)}{es:List (List DV)}(l:lk id hp=some ⟨ty,e,rows⟩)(k:I id)(q:rows.length=a)(g:RowsR hp I ((rows.drop i0).take len) es)(h:es.length=len)(t:∀r,r∈es→r.length=e) :
  SnapD hp I (.own id i0 len a) (.ro e es):=by
 refine .own (b:=⟨ty,e,rows⟩) k l q h t fun i j d c r y s m f o=>?_;have p:i<len:=by
  have:=(ci.1 f).1;omega
 refine(g.at i d r ?_ f).at j c y m o;rw[List.getElem?_take,if_pos p,List.getElem?_drop];exact s
theorem eB{hp:Hp}{I:Nat→Prop}{id n:Nat}{ty:TypeId}{e:Nat}{es:List (List DV)}(f:lk id hp=some ⟨ty,e,es.map fun r=>r.map .d⟩)(b:I id)(a:es.length=n)(g:∀r,r∈es→r.length=e):SnapD hp I (.own id 0 n n) (.ro e es):=by
 refine kJ f b (by simp[a]) ?_ a g;have:((es.map fun r=>r.map AV.d).drop 0).take n=es.map fun r=>r.map .d:=by
  rw[List.drop_zero,cx (by simp[a])]
 rw[this];exact lG es
def fP(hp:Hp)(I:Nat→Prop)(c a:AV):Prop:=(a=c∧c.deep1)∨∃d,a=.d d∧SnapD hp I c d
def sA(hp:Hp)(I:Nat→Prop)(cs cs':List AV):Prop:=cs'.length=cs.length∧∀(i:Nat)(c a:AV),cs[i]?=some c→cs'[i]?=some a→fP hp I c a
inductive Snap(hp:Hp)(I:Nat→Prop):AV→AV→Prop
 |one {v v':AV} (h:fP hp I v v'):Snap hp I v v'
 |deep {v:AV} (h:v.deep):Snap hp I v v
 |agg {cs cs':List AV} (h:sA hp I cs cs'):Snap hp I (.agg cs) (.agg cs')
 |tup {cs cs':List AV} (hl:cs'.length=cs.length) (h:∀(i:Nat)(c c':AV),cs[i]?=some c→cs'[i]?=some c'→fP hp I c c'∨∃xs xs',c=.agg xs∧c'=.agg xs'∧sA hp I xs xs'):Snap hp I (.tup cs) (.tup cs')
 |ptr {id i off tot:Nat} {b:Blk} {row:List AV} {cs:List DV} (hI:I id) (hb:lk id hp=some b) (ht:b.es.length=tot) (hr:b.es[i]?=some row) (hc:CellsR hp I (row.drop off) cs):Snap hp I (.ptr id i off tot) (.rop cs)
 |fnp {f:FuncId} {id i off tot:Nat} {b:Blk} {row:List AV} {cs:List DV} (hI:I id) (hb:lk id hp=some b) (ht:b.es.length=tot) (hr:b.es[i]?=some row) (hc:CellsR hp I (row.drop off) cs):Snap hp I (.fn f [.ptr id i off tot]) (.fn f [.rop cs])
theorem nP{c:Ctx}{hp:Hp}{U U':Nat→Prop}{σ σ':Nat→Option Nat}{hp':Hp}{w:World}{I:Nat→Prop}{v M:AV}{x:Value}{S':Nat→Prop}(Y:∀b,bQ c w σ hp b→S' b)(F:∀id blk g,I id→lk id hp=some blk→σ id=some g→S' g)(Z:Rel c hp U σ w)(E:Snap hp I v M)(h:AIs w (bQ c w σ hp) σ hp U v x) :
  AIs w S' σ' hp' U' M x:=by
 have one:∀{v M:AV}{x:Value},fP hp I v M→AIs w (bQ c w σ hp) σ hp U v x→AIs w S' σ' hp' U' M x:=by
  intro v M x E h;rcases E with ⟨rfl,t⟩|⟨d,rfl,t⟩;exact lF t Y h;exact .d (xi Y F Z t h)
 have r:∀{p m:List AV}{q:Array Value},sA hp I p m→p.length=q.size→(∀(i:Nat)(x:Value),q[i]?=some x→x.oneCell'=true)→(∀(i:Nat)(c':AV)(x:Value),p[i]?=some c'→q[i]?=some x→AIs w (bQ c w σ hp) σ hp U c' x)→AIs w S' σ' hp' U' (.agg m) (.agg q):=by
  intro p m q E C z h;refine .agg m q (by rw[E.1,C]) z fun i u x k T=>?_;have V:i<p.length:=by
   have:=(ci.1 k).1;rw[E.1]at this;exact this
  exact one (E.2 i _ u (cm V) k) (h i _ x (cm V) T)
 have s:∀{id i a B:Nat}{b:Blk}{l:List AV}{p:List DV}{x:Value},I id→lk id hp=some b→b.es.length=B→b.es[i]?=some l→CellsR hp I (l.drop a) p→AIs w (bQ c w σ hp) σ hp U (.ptr id i a B) x→AIs w S' σ' hp' U' (.rop p) x:=by
  intro id i a B b l p x R N W f o h;obtain⟨g,D,hg,rfl,G,aa,ac,ab,J⟩:=pK Z h N f W;have X:∀(j:Nat)(y:DV),p[j]?=some y→∃u,D[i*b.e+a+j]?=some u∧DIs w S' y u:=by
   intro j y L;have hj:j<(l.drop a).length:=by
    rw[o.len];exact(ci.1 L).1
   have O:(l.drop a)[j]?=some (l.drop a)[j]:=cm hj;have A:=O;rw[List.getElem?_drop]at A;obtain⟨u,k,t⟩:=J (a+j) _ A;exact⟨u,by rw[Nat.add_assoc];exact k,xi Y F Z (o.at j _ y O L) t⟩
  refine .rop _ _ (fun j=>D.getD (i*b.e+a+j) undef) (F id b g R N hg) (fun j y L=>?_) (fun j y L=>?_);obtain⟨u,k,_⟩:=X j y L;rw[ik,cell_of_row w _ _ D _ _ G,k];simp[ct,k];obtain⟨u,k,t⟩:=X j y L;simp only[ct,k,Option.getD_some];exact t
 cases E with
 |one z=>exact one z h
 |deep t=>exact nO t Y h
 |agg hc =>
  cases h with
  |agg _ q C z h=>exact r hc C z h
 | tup hl' hc =>
  rename_i p m;cases h with
  | tup _ q C h =>
   refine .tup m q (by rw[hl',C]) fun i u x k T=>?_;have V:i<p.length:=by
    have:=(ci.1 k).1;rw[hl']at this;exact this
   have H:=h i _ x (cm V) T;rcases hc i _ u (cm V) k with z|⟨ys,ad,e1,e2,z⟩;exact one z H;rw[e1]at H;subst e2;cases H with
   |agg _ xs' hl2 h2 h3=>exact r z hl2 h2 h3
 |ptr R N W f o=>exact s R N W f o h
 | fnp R N W f o =>
  cases h with
  | fn _ _ q C h =>
   refine .fn _ _ q (by simpa using C) fun i u x k T=>?_;cases i with
   |succ i=>simp at k
   |zero =>
    simp only[List.getElem?_cons_zero,Option.some.injEq]at k;subst k;exact s R N W f o (h 0 _ x rfl T)
def aC(a:List Nat):Hp→Hp
 |[]=>[]
 |(m,b)::t=>if a.contains m then aC a t else(m,b)::aC a t
theorem kz(a:List Nat)(i:Nat):∀hp:Hp,lk i (aC a hp)=if a.contains i=true then none else lk i hp
 |[]=>by simp[aC,lk]
 | (m,b) :: t=>by
  have f:=kz a i t;simp only[aC];by_cases d:a.contains m=true;rw[if_pos d,f];split;rfl;rename_i g;simp only[lk];rw[if_neg (fun e=>g (by rw[←e];exact d))];rw[if_neg d];simp only[lk,f];by_cases e:m=i;subst e;rw[if_pos rfl,if_neg d];simp;rw[if_neg e];simp[e]
theorem sB{c:Ctx}{hp:Hp}{U:Nat→Prop}{σ:Nat→Option Nat}{w:World}(d:List Nat)(e:Rel c hp U σ w) :
  Rel c (aC d hp) U σ w∧Step w (bQ c w σ hp) σ hp U w (bQ c w σ (aC d hp)) σ (aC d hp) U:=by
 have a:∀i b,lk i (aC d hp)=some b→lk i hp=some b:=by
  intro i b h;rw[kz]at h;split at h;cases h;exact h
 have f:Step w (bQ c w σ hp) σ hp U w (bQ c w σ (aC d hp)) σ (aC d hp) U :=
  ⟨fun b h=>⟨⟨h.1.1,fun id m g t l=>h.1.2 id m g (a _ _ t) l⟩,h.2⟩,fun _ _=>rfl,fun _ h=>h,fun id r _ h=>⟨r,a _ _ h,rfl,rfl,cL _,fun _ g l=>⟨l,fun _ h=>h⟩⟩⟩
 refine⟨⟨fun i j o q g s p=>e.inj i j o q g (a _ _ s) (a _ _ p),fun i b h=>e.lt i b (a _ _ h),fun i b h=>?_,fun i b g h=>e.mine i b g (a _ _ h),e.os,e.tape,e.output,e.size,e.old⟩,f⟩;rcases e.blk i b (a _ _ h)with k|⟨g,u,k2⟩;exact .inl k;exact .inr ⟨g,u,k2.step f rfl⟩
theorem W8(a fr:Fr)(n:Nat):fv n (a++fr)=match lk n a with
  |some v=>v
  |none=>fv n fr:=by
 induction a with
 |nil=>rfl
 |cons p r ih =>
  obtain⟨m,v⟩:=p;show fv n ((m,v)::(r++fr))=_;rw[j5,ih];simp only[lk];split<;>rfl
theorem VZ{α:Type}{n:Nat}{v:α}:∀{l:List (Nat×α)},lk n l=some v→(n,v)∈l
 |[],h=>by simp[lk]at h
 |(m,u)::t,h=>by
  simp only[lk]at h;split at h;rename_i a;injection h with h;subst a;subst h;exact dz ..;exact cS _ (VZ h)
theorem Nj{c:Ctx}{fr:Fr}{hp:Hp}{U:Nat→Prop}{a:Act}{w:World}(f:List Nat)(l:Fr)(hz:∀p,p∈l→Snap hp (fun id=>id∈f) (fv p.1 fr) p.2)
  (A:oK c fr hp U a w):oK c (l++fr) (aC f hp) U a w:=by
 obtain⟨E,C,σ,i,u,y⟩:=A;obtain⟨B,r⟩:=sB f i;refine⟨E,C,σ,B,fun n=>?_,y.trans r⟩;rw[W8];cases z:lk n l with
 |none=>exact(u n).step r
 | some v =>
  refine nP (fun b D=>r.sub b D) (fun id j g q t s=>⟨⟨ee (i.at t s),fun m k F d o e=>?_⟩,?_⟩) i (hz _ (VZ z)) (u n);subst e;rw[kz]at d;split at d;cases d;rename_i x;have:=i.inj id m j k g t d s o;subst this;exact x (by simpa using q);rcases i.mine id j g t s with h|h;exact .inl (c.hM g h);exact .inr h
structure St where
 fr:Fr
 hp:Hp
 nx:Nat
def mM(c:Ctx)(st:St)(a:Act)(w:World):Prop:=oK c st.fr st.hp (fun i=>i<st.nx) a w
def OpK(f:St→Prop)(fr:Fr)(nx:Nat)(a:Option Tmp)(v:AV)(hp:Hp):Prop:=f ⟨bz fr a v,hp,nx+32⟩
def sC (P:Program) (n:Nat) (ops:Array Oper):List Oper→(St→Prop)→St→Prop
 |[],K,st=>K st
 | o :: rest,K,st =>
  match o.guard with
  |none=>ii n o.dst∧bZ P st.fr st.hp st.nx o.op (OpK (sC P n ops rest K) st.fr st.nx o.dst)
  | some (j,want) =>
   match(ops[j]?).bind (·.dst)with
   |some d =>
    (match fv d st.fr with
    | .d (.bool b)=>ii n o.dst∧(b=want→bZ P st.fr st.hp st.nx o.op (OpK (sC P n ops rest K) st.fr st.nx o.dst)) ∧
      (b=!want→OpK (sC P n ops rest K) st.fr st.nx o.dst (.tup []) st.hp)
    | .tup []=>ii n o.dst∧OpK (sC P n ops rest K) st.fr st.nx o.dst (.tup []) st.hp
    |_=>False)
   |none=>False
def Nk(Q:Exit→St→Prop)(st:St):Prop:=Q .normal st
def jP(f:St→Prop)(Q:Exit→St→Prop):Exit→St→Prop
 | .normal,st=>f st
 |e,st=>Q e st
def uf(id:Nat)(Q:Exit→St→Prop):Exit→St→Prop
 | .exit i,st=>if i=id then Q .normal st else Q (.exit i) st
 |e,st=>Q e st
def AV.l(N:Nat):AV→Prop
 | .own id _ _ _=>id<N
 | .sub id _ _ _ _ _ _=>id<N
 | .ptr id _ _ _=>id<N
 | .mp id=>id<N
 | .agg _=>False
 | .tup _=>False
 | .fn _ cs=>cs=[]
 | .mth _ cs=>cs=[]
 |_=>True
def AV.low(N:Nat):AV→Prop
 | .agg cs=>∀c,c∈cs→c.l N
 | .fn _ cs=>∀c,c∈cs→c.l N
 | .mth _ cs=>∀c,c∈cs→c.l N
 |v=>v.l N
def ai(st st':St)(v u:AV):Prop :=
 u=v ∨ (v=.nil∧match u with
  | .own id 0 0 0=>(match lk id st'.hp with
   |some b=>b.es=[]
   |none=>False)
  |_=>False)
def aA(st st':St):Prop :=
 (∀p,p∈st'.fr→ai st st' (fv p.1 st.fr) p.2∧p.2.low st'.nx) ∧
 (∀p,p∈st'.hp→(lk p.1 st.hp=some p.2∨(st.nx≤p.1∧p.2.es=[]))∧p.1<st'.nx∧∀r,r∈p.2.es→∀v,v∈r→v.l st'.nx)∧(st.nx≤st'.nx∨64≤st'.nx)
def Wk(st st':St):Prop:=∀(c:Ctx)(a:Act)(w:World),mM c st a w→mM c st' a w
theorem Wk.trans{e d b:St}(h:Wk e d)(k:Wk d b):Wk e b:=fun c a w f=>k c a w (h c a w f)
def DO(I:Nat→St→Prop)(m:Nat)(Q:Exit→St→Prop):Exit→St→Prop
 | .normal,st=>∃m' st',m'<m∧Wk st st'∧I m' st'
 |e,st=>Q e st
def V0(W:(Exit→St→Prop)→St→Prop)(Q:Exit→St→Prop)(st:St):Prop :=
 ∃I:Nat→St→Prop,(∃m st',Wk st st'∧I m st')∧∀m st',I m st'→W (DO I m Q) st'
def oL(P:Program)(n:Nat):Code→(Exit→St→Prop)→St→Prop
 | .skip,Q,st=>Q .normal st
 | .region _ ops false,Q,st=>sC P n ops ops.toList (Nk Q) st
 | .region _ ops true,Q,st=>(∃ zs ss m,Gw n ops zs ss m=true∧P.follows .mixedOrders=true∧zW P ops st.nx st.hp (fun fr=>F8 P ops st.nx st.hp (fun fr hp=>Q .normal ⟨fr,hp,st.nx+32*ops.size⟩) ss m fr st.hp) zs st.fr) ∨
   ∃zs is za t st',xh n ops zs is za t=true∧P.follows .mixedOrders=true∧zW P ops st.nx st.hp (fun fr=>zg P ops st.nx st.hp (fun fr hp=>Wk ⟨fr,hp,st.nx+32*ops.size⟩ st') t fr st.hp) zs st.fr∧Q .normal st'
 | .seq x y,Q,st=>oL P n x (jP (oL P n y Q) Q) st
 | .cond c x y,Q,st =>
  match ev st.fr c with
  | .d (.bool b)=>(b=true→oL P n x Q st)∧(b=false→oL P n y Q st)
  |_=>False
 | .block id x,Q,st=>oL P n x (uf id Q) st
 | .loop x,Q,st=>V0 (oL P n x) Q st
 | .exit id,Q,st=>Q (.exit id) st
 | .ret,Q,st=>Q .ret st
 |_,_,_=>False
section
variable {P:Program} {c:Ctx}
theorem Nl(nx i:Nat):eN (fun i=>i<nx) nx i↔i<nx+32:=by unfold eN;omega
theorem xj(nx:Nat):eN (fun i=>i<nx) nx=fun i=>i<nx+32:=funext fun i=>propext (Nl nx i)
theorem Gz{st:St}{a:Act}{w:World}(h:mM c st a w):∃ σ,Rel c st.hp (fun i=>i<st.nx) σ w∧(∀n,AIs w (bQ c w σ st.hp) σ st.hp (fun i=>i<st.nx) (fv n st.fr) (a.tmps.getD n undef))∧∀x,AIs w (bQ c w σ st.hp) σ st.hp (fun i=>i<st.nx) (ev st.fr x) (a.eval x):=by
 obtain⟨_,_,σ,d,b,_⟩:=h;exact⟨σ,d,b,fun x=>zD b x⟩
theorem IA{st:St}{a:Act}{w:World}{o:Oper}{f:St→Prop}{next:Act→World→Prop}{Q:Exit→Act→World→Prop}
  (q:mM c st a w) (p:ii c.n o.dst) (h:bZ P st.fr st.hp st.nx o.op (OpK f st.fr st.nx o.dst))
  (j:∀st' a' w',f st'→mM c st' a' w'→next a' w'):o.wp P a w next Q:=by
 obtain⟨g,r,σ,l,e,m⟩:=q;have b:=sn (o:=o) (N:=st.nx) l (fun x=>zD e x) (fun i g _ k=>by have t:i<st.nx:=k;omega) h;refine rW g r p e m b fun v hp' a' w' s d=>j _ a' w' s ?_;rw[xj]at d;exact d
theorem IB{st:St}{a:Act}{w:World}{e:Option Tmp}(o:mM c st a w):mM c ⟨bz st.fr e (.tup []),st.hp,st.nx+32⟩ (a.put e undef) w:=by
 obtain⟨l,j,σ,p,g,k⟩:=o;have f:Rel c st.hp (fun i=>i<st.nx+32) σ w:=by rw[←xj];exact p.more
 have b:Step w (bQ c w σ st.hp) σ st.hp (fun i=>i<st.nx) w (bQ c w σ st.hp) σ st.hp (fun i=>i<st.nx+32):=by rw[←xj];exact Step.more
 cases e with
 |none=>exact⟨l,j,σ,f,fun n=>(g n).step b,k.trans b⟩
 | some d =>
  refine⟨l,by simp[Act.put,j],σ,f,fun n=>?_,k.trans b⟩;simp only[bz,Act.put,j5];by_cases h:d=n;subst h;have m:(a.tmps.setIfInBounds d undef).getD d undef=.tuple #[]:=by
   simp only[ct,Array.getElem?_setIfInBounds,if_true];split<;>rfl
  rw[m];simp only[if_true];exact .tup [] #[] rfl aw;simp only[if_neg h];have:(a.tmps.setIfInBounds d undef).getD n undef=a.tmps.getD n undef:=by
   simp only[ct,Array.getElem?_setIfInBounds,if_neg h]
  rw[this];exact(g n).step b
theorem IC{ops:Array Oper}{Q:Exit→Act→World→Prop}{K:St→Prop}(E:∀st a w,K st→mM c st a w→Q .normal a w) :
  ∀(l:List Oper)(st:St)(a:Act)(w:World),sC P c.n ops l K st→mM c st a w→wpList P ops Q l a w
 |[],st,a,w,h,hs=>E st a w h hs
 | o :: rest,st,a,w,h,hs=>by
  have v:=IC (ops:=ops) (Q:=Q) E rest;simp only[sC]at h;unfold wpList;split at h;rename_i q;obtain⟨s,h⟩:=h;rw[if_pos (by simp[Region.wanted,q])];exact .inl (IA hs s h fun m x y C k=>v m x y C k);rename_i j f q;split at h;rename_i d s;split at h;rename_i b A;obtain⟨i,G,B⟩:=h;obtain⟨σ,F,z,_⟩:=Gz hs;have t:=gZ (A▸z d);have r:yielded ops a.tmps j=some b:=by
   unfold yielded;rw[s];have g:a.tmps[d]?.getD undef=.bool b:=(by simpa using t);cases p:a.tmps[d]? with
   |none=>rw[p]at g;cases g
   |some u=>rw[p]at g;simp at g;subst g;simp[p]
  by_cases D:b=f;rw[if_pos (by simp[Region.wanted,q,r,D])];exact .inl (IA hs i (G D) fun m x y C k=>v m x y C k);rw[if_neg (by simp[Region.wanted,q,r,D])];exact v _ _ _ (B (by cases b<;>cases f<;>simp_all)) (IB hs)
  rename_i A;obtain⟨i,B⟩:=h;obtain⟨σ,F,z,_⟩:=Gz hs;have t:=A▸z d;have r:¬(yielded ops a.tmps j=some f):=by
   unfold yielded;rw[s];cases p:a.tmps[d]? with
   |none=>simp[p]
   |some u =>
    have e:a.tmps.getD d undef=u:=(by simp[ct,p]);rw[e]at t;cases t with
    |tup _ xs _ _=>simp[p]
  rw[if_neg (by simp[Region.wanted,q,r])];exact v _ _ _ B (IB hs);exact h.elim;exact h.elim
theorem mZ{w:World}{S S':Nat→Prop}{σ σ':Nat→Option Nat}{hp hp':Hp}{U:Nat→Prop}{N:Nat}(p:∀b,S b→S' b)(o:∀id b,U id→lk id hp'=some b→lk id hp=some b)(q:∀id,U id→σ' id=σ id){v:AV}{x:Value}(k:v.l N)(h:AIs w S σ hp U v x) :
  AIs w S' σ' hp' (fun i=>i<N) v x:=by
 cases h with
 |any=>exact .any _
 |d h=>exact .d (h.mono p fun _ _=>rfl)
 |agg=>exact k.elim
 |tup=>exact k.elim
 |own id i0 len tot A cap hN hle h0 h=>exact .own id i0 len tot A cap k hle h0 fun b l=>by rw[q id hN];exact h b (o id b hN l)
 |sub id i off e len cap tot A hN hle h0 h=>exact .sub id i off e len cap tot A k hle h0 fun b l=>by rw[q id hN];exact h b (o id b hN l)
 |ptr id i off tot a hN h=>exact .ptr id i off tot a k fun b l=>by rw[q id hN];exact h b (o id b hN l)
 |rop m ad vs h1 h2 h3=>exact .rop m ad vs (p _ h1) h2 fun j y r=>(h3 j y r).mono p fun _ _=>rfl
 |fn f m xs hle h=>obtain rfl:m=[]:=k;exact .fn f [] xs hle aw
 |mth f m xs hle h=>obtain rfl:m=[]:=k;exact .mth f [] xs hle aw
 |nil=>exact .nil
 |mp id g hN h=>exact .mp id g k fun b l=>h b (o id b hN l)
theorem Nn{w:World}{S S':Nat→Prop}{σ σ':Nat→Option Nat}{hp hp':Hp}{U:Nat→Prop}{N:Nat}(d:∀b,S b→S' b)(g:∀id b,U id→lk id hp'=some b→lk id hp=some b)(e:∀id,U id→σ' id=σ id){v:AV}{x:Value}(j:v.low N)(h:AIs w S σ hp U v x) :
  AIs w S' σ' hp' (fun i=>i<N) v x:=by
 cases v with
 |agg cs =>
  cases h with
  |agg _ xs hle h1 h=>exact .agg cs xs hle h1 fun i c x hc a=>mZ d g e (j c (cr hc)) (h i c x hc a)
 |fn f cs =>
  cases h with
  |fn _ _ xs hle h=>exact .fn f cs xs hle fun i c x hc a=>mZ d g e (j c (cr hc)) (h i c x hc a)
 |mth f cs =>
  cases h with
  |mth _ _ xs hle h=>exact .mth f cs xs hle fun i c x hc a=>mZ d g e (j c (cr hc)) (h i c x hc a)
 |_=>exact mZ d g e j h
theorem bR{α:Type}{n:Nat}{v:α}:∀{l:List (Nat×α)},lk n l=some v→(n,v)∈l
 |[],h=>by cases h
 |(m,u)::t,h=>by
  simp only[lk]at h;split at h;rename_i e;injection h with h;subst e;subst h;exact dz ..;exact cS _ (bR h)
theorem Np{st st':St}{a:Act}{w:World}(hw:aA st st')(hs:mM c st a w):mM c st' a w:=by
 obtain⟨I,k,G⟩:=hw;obtain⟨h1,h2,σ,l,W,d⟩:=hs;have p:∀id b,id<st.nx→lk id st'.hp=some b→lk id st.hp=some b:=fun id b aa h=>by
  rcases(k _ (bR h)).1 with h|⟨h,_⟩;exact h;simp only at h;omega
 let σ':Nat→Option Nat:=fun id=>if st.nx≤id then none else σ id
 have q:∀id,id<st.nx→σ' id=σ id:=fun id h=>if_neg aq;have o:∀id g,σ' id=some g→id<st.nx∧σ id=some g:=by
  intro id g h;by_cases N:st.nx≤id;simp only[σ',if_pos N]at h;cases h;exact⟨aq,by rw[q id aq]at h;exact h⟩
 have C:∀b,bQ c w σ st.hp b→bQ c w σ' st'.hp b:=fun b A=>⟨⟨A.1.1,fun id z g h u=>by
  obtain⟨e,m⟩:=o id g u
  exact A.1.2 id z g (p id z e h) m⟩,A.2⟩
 refine⟨h1,h2,σ',⟨fun i j O R g B hj J M=>?_,fun i b h=>(k _ (bR h)).2.1,fun i b h=>?_,fun i b g h u=>?_,l.os,l.tape,l.output,l.size,l.old⟩,fun n=>?_,⟨fun b h=>C b (d.sub b h),d.cell,fun i h=>?_,fun id X V D=>?_⟩⟩;obtain⟨s,r⟩:=o i g J;obtain⟨H,b2⟩:=o j g M;exact l.inj i j O R g (p i O s B) (p j R H hj) r b2;rcases(k _ (bR h)).1 with f|⟨f,e⟩;simp only at f;have B:i<st.nx:=l.lt i b f;rcases l.blk i b f with ⟨L,k2⟩|⟨g,L,E,k2,k3,k4,k5,k6⟩;exact .inl ⟨(q i B).trans L,k2⟩;exact .inr ⟨g,(q i B).trans L,E,k2,k3,k4,k5,fun i' j x y v s r Y=>mZ C p q ((k _ (bR h)).2.2 x (cr s) y (cr r)) (k6 i' j x y v s r Y)⟩;exact .inl ⟨if_pos f,.inl e⟩;obtain⟨s,r⟩:=o i g u;exact l.mine i b g (p i b s h) r;cases t:lk n st'.fr with
 |none=>simp only[fv,t];exact .any _
 | some v =>
  have:=I _ (bR t);simp only[fv,t,Option.getD_some];obtain⟨e,m⟩:=this;simp only at e m;rcases e with e|⟨e,T⟩;refine Nn (U:=fun i=>i<st.nx) C p q m ?_;rw[e];exact W n;have F:=W n;rw[e]at F;generalize a.tmps.getD n undef=x at F;cases F with
  |nil =>
   split at T;rename_i id;exact .own id 0 0 0 none 0 m (cL _) (fun _=>rfl) fun b A=>⟨Nat.zero_le _,fun _=>⟨cL _,cL _,fun h=>aq⟩⟩;exact T.elim
 ·have f:=d.le i h;have e:=c.hk;rcases G with m|m;exact Nat.lt_of_lt_of_le f m;exact Nat.lt_of_lt_of_le (Nat.lt_of_lt_of_le h e) m
 ·have f:=d.le id V;obtain⟨H,f0,Z,f2,f3,f4⟩:=d.blk id X V (p id X f D);refine⟨H,f0,Z,f2,f3,fun t g u=>?_⟩;obtain⟨p1,p2⟩:=f4 t g u;exact⟨(q id f).trans p1,p2⟩
theorem b8{st st':St}(h:aA st st'):Wk st st':=fun _ _ _ a=>Np h a
theorem ID(a:List Nat)(b:Fr){st:St}(hz:∀p,p∈b→Snap st.hp (fun id=>id∈a) (fv p.1 st.fr) p.2):Wk st ⟨b++st.fr,aC a st.hp,st.nx⟩:=fun _ _ _ d=>Nj a b hz d
theorem xk{st st':St}(a:List Nat)(b:Fr)(hz:∀p,p∈b→Snap st.hp (fun id=>id∈a) (fv p.1 st.fr) p.2)(h:aA ⟨b++st.fr,aC a st.hp,st.nx⟩ st'):Wk st st':=(ID a b hz).trans (b8 h)
theorem zN{fr:Fr}{hp:Hp}{U U':Nat→Prop}{a:Act}{w:World}(h:∀k,U k→U' k)(o:oK c fr hp U a w):oK c fr hp U' a w:=by
 obtain⟨r,q,σ,d,m,l⟩:=o;have st:Step w (bQ c w σ hp) σ hp U w (bQ c w σ hp) σ hp U':=⟨fun _ h=>h,fun _ _=>rfl,h,fun id p _ h=>⟨p,h,rfl,rfl,cL _,fun _ g f=>⟨f,fun _ h=>h⟩⟩⟩;refine⟨r,q,σ,⟨d.inj,fun i b j=>h _ (d.lt i b j),fun i b j=>?_,d.mine,d.os,d.tape,d.output,d.size,d.old⟩,fun n=>(m n).step st,l.trans st⟩;rcases d.blk i b j with e|⟨g,f,e⟩;exact .inl e;exact .inr ⟨g,f,e.step st rfl⟩
theorem kZ:∀ (x:Code) (Q:Exit→St→Prop) (st:St) (a:Act) (w:World),oL P c.n x Q st→mM c st a w→x.wp P (fun e a' w'=>∃ st',Q e st'∧mM c st' a' w') a w
 | .skip,Q,st,a,w,h,hs=>wp_skip ⟨st,h,hs⟩
 | .region id ops false,Q,st,a,w,h,hs=>wp_region_list (IC (Q:=fun e a' w'=>∃st',Q e st'∧mM c st' a' w') (fun st a w hK hs=>⟨st,hK,hs⟩) ops.toList st a w h hs)
 | .region id ops true,Q,st,a,w,h,hs=>by
  rcases h with ⟨zs,ss,m,hB,hm,h⟩|⟨zs,is,za,t,st',hB,hm,h,hq⟩;exact Gy hm hB (fun fr hp a w U hK hU hS=>⟨_,hK,zN hU hS⟩) (fun k hk=>hk) hs h;exact RZ hm hB (fun fr hp a w U hK hU hS=>⟨st',hq,hK c _ _ (zN hU hS)⟩) (fun k hk=>hk) hs h
 | .seq x y,Q,st,a,w,h,hs=>by
  refine wp_seq (wp_mono (kZ x _ st a w h hs) fun e a' w'⟨st',hq,hs'⟩=>?_);cases e with
  |normal=>exact kZ y Q st' a' w' hq hs'
  |_=>exact⟨st',hq,hs'⟩
 | .cond cnd x y,Q,st,a,w,h,hs=>by
  simp only[oL]at h;split at h;rename_i b hb;obtain⟨σ,_,_,E⟩:=Gz hs;have hv:=gZ (hb▸E cnd);refine wp_cond_split hv (fun ht=>?_) (fun hf=>?_);exact kZ x Q st a w (h.1 ht) hs;exact kZ y Q st a w (h.2 hf) hs;exact h.elim
 | .block id x,Q,st,a,w,h,hs=>by
  refine wp_block (wp_mono (kZ x _ st a w h hs) fun e a' w'⟨st',hq,hs'⟩=>?_);cases e with
  |exit i =>
   simp only[uf]at hq;simp only[Exit.inBlock];split at hq;rename_i hi;rw[if_pos hi];exact⟨st',hq,hs'⟩;rename_i hi;rw[if_neg hi];exact⟨st',hq,hs'⟩
  |_=>exact⟨st',hq,hs'⟩
 | .loop x,Q,st,a,w,h,hs=>by
  obtain⟨I,⟨m0,st0,hw0,hI0⟩,hround⟩:=h
  have key:∀ m st a w,I m st→mM c st a w→(Code.loop x).wp P (fun e a' w'=>∃ st',Q e st'∧mM c st' a' w') a w:=by
   intro m0 st0 a0 w0 hI hsim
   -- a measure: the least m with which some state of the relation is there
   refine wp_loop (fun a w=>∃m st,I m st∧mM c st a w) (fun a w=>Classical.epsilon fun m=>(∃st,I m st∧mM c st a w)∧∀m',(∃st,I m' st∧mM c st a w)→m≤m') ⟨m0,st0,hI,hsim⟩ ?_;rintro a1 w1⟨m1,st1,h1,h2⟩;have least:∃m,(∃st,I m st∧mM c st a1 w1)∧∀m',(∃st,I m' st∧mM c st a1 w1)→m≤m':=by
    have hex:∃m,∃st,I m st∧mM c st a1 w1:=⟨m1,st1,h1,h2⟩;clear h1 h2;have:∀k,(∃m,m≤k∧∃st,I m st∧mM c st a1 w1)→∃m,(∃st,I m st∧mM c st a1 w1)∧∀m',(∃st,I m' st∧mM c st a1 w1)→m≤m':=by
     intro k
     induction k with
     |zero =>
      rintro⟨m,hm,hx⟩;exact⟨m,hx,fun m' _=>aq⟩
     | succ k ih =>
      rintro⟨m,hm,hx⟩;by_cases hk:∃m,m≤k∧∃st,I m st∧mM c st a1 w1;exact ih hk;refine⟨m,hx,fun m' hm'=>?_⟩;rcases Nat.lt_or_ge m' m with hlt|hge;exact absurd ⟨m',aq,hm'⟩ hk;exact hge
    obtain⟨m,hx⟩:=hex;exact this m ⟨m,cL _,hx⟩
   have hmu:=Classical.epsilon_spec least;generalize(Classical.epsilon fun m=>(∃st,I m st∧mM c st a1 w1)∧∀m',(∃st,I m' st∧mM c st a1 w1)→m≤m')=mu at hmu;obtain⟨⟨st2,h3,h4⟩,_⟩:=hmu;refine wp_mono (kZ x _ st2 a1 w1 (hround mu st2 h3) h4) fun e a' w'⟨st',hq,hs'⟩=>?_;cases e with
   | normal =>
    obtain⟨m',st'',hlt,hweak,hI'⟩:=hq;have hs'':=hweak c _ _ hs';refine⟨⟨m',st'',hI',hs''⟩,?_⟩;have least':∃m,(∃st,I m st∧mM c st a' w')∧∀m',(∃st,I m' st∧mM c st a' w')→m≤m':=by
     have:∀k,(∃m,m≤k∧∃st,I m st∧mM c st a' w')→∃m,(∃st,I m st∧mM c st a' w')∧∀m',(∃st,I m' st∧mM c st a' w')→m≤m':=by
      intro k
      induction k with
      |zero =>
       rintro⟨m,hm,hx⟩;exact⟨m,hx,fun m' _=>aq⟩
      | succ k ih =>
       rintro⟨m,hm,hx⟩;by_cases hk:∃m,m≤k∧∃st,I m st∧mM c st a' w';exact ih hk;refine⟨m,hx,fun m' hm'=>?_⟩;rcases Nat.lt_or_ge m' m with hlt|hge;exact absurd ⟨m',aq,hm'⟩ hk;exact hge
     exact this m' ⟨m',cL _,st'',hI',hs''⟩
    have hmu':=Classical.epsilon_spec least';exact Nat.lt_of_le_of_lt (hmu'.2 m' ⟨st'',hI',hs''⟩) hlt
   |_=>exact⟨st',hq,hs'⟩
  exact key m0 st0 a w hI0 (hw0 c _ _ hs)
 | .exit id,Q,st,a,w,h,hs=>wp_exit ⟨st,h,hs⟩
 | .ret,Q,st,a,w,h,hs=>wp_ret ⟨st,h,hs⟩
 | .rangeFunc ..,Q,st,a,w,h,hs=>h.elim
 | .scope _,Q,st,a,w,h,hs=>h.elim
 | .label _,Q,st,a,w,h,hs=>h.elim
 | .goto _,Q,st,a,w,h,hs=>h.elim
 | .refuse _,Q,st,a,w,h,hs=>h.elim
end
def ar(P:Program)(g:FuncId)(args:List AV)(Q:AV→Prop):Prop :=
 (∃ fn, P.funcs[g]? = some fn ∧ (fn.name == "runtime.NumGoroutine") = false ∧ fn.body.isNone = false) ∧
 ∀ (w:World) (S:Nat→Prop) (vs:List Value),(∀ b,S b→b<w.heap.size)→vs.length=args.length →
  (∀(i:Nat)(v:AV)(x:Value),args[i]?=some v→vs[i]?=some x→AIs w S (fun _=>none) [] (fun _=>False) v x) →
  Calls P g vs.toArray w fun e w'=>∃x r,e=.returned x∧Q r∧r.deep∧RowKit.Below w.heap.size w w' ∧
   AIs w' (fun b=>S b∨(w.heap.size≤b∧b<w'.heap.size)) (fun _=>none) [] (fun _=>False) r x
abbrev fm(P:Program)(g:FuncId)(a:List AV)(v:AV):Prop:=ar P g a fun r=>r=v
section
variable {P:Program}
theorem zO{g:FuncId}{args:List AV}{hp:Hp}{N:Nat}{K:AV→Hp→Prop}{Q:AV→Prop}(h:ar P g args Q)(p:∀v,v∈args→v.deep)(C:∀r,Q r→K r hp):gx P g args hp N K:=by
 refine⟨h.1,fun c U σ w m j F o s=>?_⟩;refine(h.2 w (bQ c w σ hp) m (fun b a=>a.1.1) o (fun i v x l k=>nO (p v (cr l)) (fun _ h=>h) (s i v x l k))).mono fun e G E=>?_;obtain⟨x,r,rfl,u,f,a,k⟩:=E;obtain⟨D,q⟩:=pR (N:=N) j a;refine⟨x,rfl,r,hp,σ,C r u,D,q,nO f (fun b d=>?_) k⟩;rcases d with h|⟨B,z⟩;exact⟨⟨Nat.lt_of_lt_of_le h.1.1 a.size,h.1.2⟩,h.2⟩;exact⟨⟨z,fun id y g A t=>by have:=ee (j.at A t);omega⟩,.inr (Nat.le_trans j.size B)⟩
theorem DR{g:FuncId}{args args':List AV}{hp:Hp}{N:Nat}{K:AV→Hp→Prop}{Q:AV→Prop}(h:ar P g args' Q)(j:args.length=args'.length)
  (u:∀(i:Nat)(v f:AV),args[i]?=some v→args'[i]?=some f→Snap hp (fun _=>True) v f) (t:∀r,Q r→r.flat) (D:∀r,Q r→K r hp):gx P g args hp N K:=by
 refine⟨h.1,fun c U σ w q k G s z=>?_⟩;refine(h.2 w (fun b=>b<w.heap.size) q (fun b d=>d) (s.trans j) (fun i f x o l=>?_)).mono fun e H F=>?_;have a:i<args.length:=by have:=(ci.1 o).1;omega
 exact nP (fun b d=>d.1.1) (fun id B g _ C A=>ee (k.at C A)) k (u i _ f (cm a) o) (z i _ x (cm a) l);obtain⟨x,r,rfl,m,p,d,l⟩:=F;obtain⟨E,y⟩:=pR (N:=N) k d;exact⟨x,rfl,r,hp,σ,D r m,E,y,R7 (t r m) l⟩
theorem DT(a:List Nat){g:FuncId}{args args':List AV}{hp:Hp}{N:Nat}{K:AV→Hp→Prop}{Q:AV→Prop}(h:ar P g args' Q)(s:args.length=args'.length)
  (I:∀(i:Nat)(v q:AV),args[i]?=some v→args'[i]?=some q→Snap hp (fun id=>id∈a) v q) (T:∀r,Q r→K r (aC a hp)):gx P g args hp N K:=by
 refine⟨h.1,fun c U σ w G j X H L=>?_⟩;obtain⟨D,C⟩:=sB a j;refine(h.2 w (bQ c w σ (aC a hp)) G (fun b k=>k.1.1) (H.trans s) (fun i q x E B=>?_)).mono fun e Z W=>?_;have l:i<args.length:=by have:=(ci.1 E).1;omega
 refine nP (fun b k=>C.sub b k) (fun id f g A p m=>⟨⟨ee (j.at p m),fun y o Y d z e=>?_⟩,?_⟩) j (I i _ q (cm l) E) (L i _ x (cm l) B);subst e;rw[kz]at d;split at d;cases d;rename_i F;have:=j.inj id y f o g p d m z;subst this;exact F (by simpa using A);rcases j.mine id f g p m with h|h;exact .inl (c.hM g h);exact .inr h;obtain⟨x,r,rfl,M,u,k,B⟩:=W;obtain⟨V,J⟩:=pR (N:=N) D k;refine⟨x,rfl,r,_,σ,T r M,V,C.trans J,nO u (fun b t=>?_) B⟩;rcases t with h|⟨R,O⟩;exact⟨⟨Nat.lt_of_lt_of_le h.1.1 k.size,h.1.2⟩,h.2⟩;refine⟨⟨O,fun id f g p m e=>?_⟩,.inr (Nat.le_trans j.size R)⟩;have:=ee (D.at p m);omega
def Bi(tmps:Array Value):ResultVar→Sem Value
 | .tmp t=>pure (tmps.getD t undef)
 | .cell a t=>do loadVar t (←asAddr (tmps.getD a undef))
theorem GA(fn:Func)(tmps:Array Value):results fn tmps=(do let vs ←fn.results.toList.toArray.mapM (Bi tmps);pure (if h:vs.size=1 then vs[0]else .tuple vs)):=by
 unfold results;have:(fun x:ResultVar=>(match x with | .tmp t=>pure (tmps.getD t undef) | .cell a t=>do loadVar t (←asAddr (tmps.getD a undef)):Sem Value))=Bi tmps:=by
  funext x;cases x<;>rfl
 rw[←this,Array.toArray_toList];rfl
def ah (P:Program) (st:St):ResultVar→Option AV
 | .tmp t=>some (fv t st.fr)
 | .cell t ty =>
  match fv t st.fr with
  | .ptr id i off tot =>
   (match lk id st.hp with
   |some b =>
    (match b.es[i]? with
    |some row=>if b.es.length=tot then Gh P ty (row.drop off)else none
    |none=>none)
   |none=>none)
  |_=>none
def DU(P:Program)(rs:List ResultVar)(R:AV→St→Prop)(st:St):Prop :=
 match rs with
 |[]=>R (.tup []) st
 |[x]=>(match ah P st x with
  |some v=>R v st
  |none=>False)
 |[x,y]=>(match ah P st x,ah P st y with
  |some v,some u=>R (.tup [v,u]) st
  |_,_=>False)
 |[x,y,z]=>(match ah P st x,ah P st y,ah P st z with
  |some v,some u,some t=>R (.tup [v,u,t]) st
  |_,_,_=>False)
 |_=>False
def Nq(P:Program)(rs:List ResultVar)(R:AV→St→Prop):Exit→St→Prop
 | .normal,st=>DU P rs R st
 | .ret,st=>DU P rs R st
 |_,_=>False
theorem pS {c:Ctx} {st:St} {w:World} {σ:Nat→Option Nat} {tmps:Array Value} (G:Rel c st.hp (fun i=>i<st.nx) σ w)
  (E:∀n,AIs w (bQ c w σ st.hp) σ st.hp (fun i=>i<st.nx) (fv n st.fr) (tmps.getD n undef)) {D:ResultVar} {v:AV} (h:ah P st D=some v) :
  ∃x,(Bi tmps D).run P w=.ok x w∧AIs w (bQ c w σ st.hp) σ st.hp (fun i=>i<st.nx) v x:=by
 cases D with
 |tmp t =>
  simp only[ah]at h;injection h with h;subst h;exact⟨_,rfl,E t⟩
 | cell t ty =>
  simp only[ah]at h;split at h;rename_i id i a F H;have r:=E t;rw[H]at r;split at h;rename_i b J;split at h;rename_i z p;split at h;rename_i L;obtain⟨g,l,N,C,m,s,I,M,o⟩:=pK G r J p L;have k:∀(j:Nat)(y:AV),(z.drop a)[j]?=some y→∃u,l[i*b.e+a+j]?=some u∧AIs w (bQ c w σ st.hp) σ st.hp (fun i=>i<st.nx) y u:=by
   intro j y f;rw[List.getElem?_drop]at f;obtain⟨u,d,q⟩:=o _ y f;exact⟨u,by rw[Nat.add_assoc];exact d,q⟩
  obtain⟨u,A,B⟩:=jr (P:=P) (w:=w) (S:=bQ c w σ st.hp) (σ:=σ) (hp:=st.hp) (U:=fun i=>i<st.nx) (ad:=⟨g,i*b.e+a,none⟩) (vs:=fun j=>l.getD (i*b.e+a+j) undef) h
   (fun j y f=>by
    obtain⟨u,d,q⟩:=k j y f;rw[ik,cell_of_row w _ _ l _ _ m,d]
    simp[ct,d])
   (fun j y f=>by
    obtain⟨u,d,q⟩:=k j y f;simp only[ct,d,Option.getD_some]
    exact s _ u d)
   (fun j y f=>by
    obtain⟨u,d,q⟩:=k j y f;simp only[ct,d,Option.getD_some]
    exact q)
  refine⟨u,?_,B⟩;simp only[Bi,C,asAddr,Sem.run_bind,Sem.run_pure,Result.andThen_ok,A];cases h;cases h;cases h;cases h
theorem Bj{c:Ctx}{fn:Func}{R:AV→St→Prop}{st:St}{a:Act}{w:World}(u:mM c st a w)(h:DU P fn.results.toList R st) :
  ∃v x,R v st∧(results fn a.tmps).run P w=.ok x w∧∃ σ,Rel c st.hp (fun i=>i<st.nx) σ w∧AIs w (bQ c w σ st.hp) σ st.hp (fun i=>i<st.nx) v x∧Dt c st.hp (fun i=>i<st.nx) σ w:=by
 obtain⟨_,_,σ,d,g,l⟩:=u;rw[GA];generalize fn.results.toList=rs at h;unfold DU at h;split at h;exact⟨_,.tuple #[],h,aw,σ,d,.tup [] #[] rfl aw,l⟩;rename_i D;split at h;rename_i v z;obtain⟨x,k,j⟩:=pS d g z;exact⟨v,x,h,by simp[k],σ,d,j,l⟩;exact h.elim
 ·rename_i A B;split at h
  ·rename_i y s e f;obtain⟨p,k,q⟩:=pS d g e;obtain⟨o,j,k2⟩:=pS d g f;refine⟨_,.tuple #[p,o],h,by simp[k,j],σ,d,.tup _ _ rfl fun i c x hc b=>?_,l⟩
   match i,hc,b with
   |0,hc,b=>simp at hc b;subst hc;subst b;exact q
   |1,hc,b=>simp at hc b;subst hc;subst b;exact k2
   |n+2,hc,b=>simp at hc
  ·exact h.elim
 ·rename_i A B E;split at h
  ·rename_i y s C e f m;obtain⟨p,k,q⟩:=pS d g e;obtain⟨o,j,k2⟩:=pS d g f;obtain⟨t,r,k3⟩:=pS d g m;refine⟨_,.tuple #[p,o,t],h,by simp[k,j,r],σ,d,.tup _ _ rfl fun i c x hc b=>?_,l⟩
   match i,hc,b with
   |0,hc,b=>simp at hc b;subst hc;subst b;exact q
   |1,hc,b=>simp at hc b;subst hc;subst b;exact k2
   |2,hc,b=>simp at hc b;subst hc;subst b;exact k3
   |n+3,hc,b=>simp at hc
  ·exact h.elim
 ·exact h.elim
def ME(k:Nat):List AV→Fr
 |[]=>[]
 |v::r=>(k,v)::ME (k+1) r
theorem Bl:∀(args:List AV)(k n:Nat),lk n (ME k args)=if k≤n then args[n-k]? else none
 |[],k,n=>by simp[ME,lk]
 | v :: r,k,n=>by
  simp only[ME,lk,Bl r (k+1) n];by_cases h:k=n;subst h;simp;rw[if_neg h];by_cases a:k≤n;rw[if_pos aq,if_pos a,show n-k=(n-(k+1))+1 by omega,List.getElem?_cons_succ];rw[if_neg aq,if_neg a]
def dG(Q:AV→Prop)(v:AV)(st:St):Prop:=∃r,Snap st.hp (fun _=>True) v r∧r.deep∧Q r
theorem aa{Q:AV→Prop}{v:AV}{st:St}(a:v.deep)(hq:Q v):dG Q v st:=⟨v,.deep a,a,hq⟩
theorem d5{Q:AV→Prop}{v a:AV}{st:St}(h:fP st.hp (fun _=>True) v a)(b:a.deep)(hq:Q a):dG Q v st:=⟨a,.one h,b,hq⟩
theorem eC{Q:AV→Prop}{cs cs':List AV}{st:St}(h:∀(i:Nat)(c a:AV),cs[i]?=some c→cs'[i]?=some a→fP st.hp (fun _=>True) c a)(e:cs'.length=cs.length)(b:(AV.tup cs').deep)(hq:Q (.tup cs')):dG Q (.tup cs) st :=
 ⟨.tup cs',.tup e (fun i c a f d=>.inl (h i c a f d)),b,hq⟩
theorem xm{Q:AV→Prop}{cs cs':List AV}{st:St}(h:∀(i:Nat)(c a:AV),cs[i]?=some c→cs'[i]?=some a→fP st.hp (fun _=>True) c a)(d:cs'.length=cs.length)(b:(AV.agg cs').deep)(hq:Q (.agg cs')):dG Q (.agg cs) st :=
 ⟨.agg cs',.agg ⟨d,h⟩,b,hq⟩
theorem KI {g : FuncId} {fn : Func} {code : Code} {args : List AV} {Q : AV → Prop} (hf : P.funcs[g]? = some fn) (hn : (fn.name == "runtime.NumGoroutine") = false) (hb : fn.body = some code)
  {n:Nat} {rs:List ResultVar} (hnt:fn.ntmps=n) (hrs:fn.results.toList=rs) (hle:args.length≤n) (hd:∀v,v∈args→v.deep)
  (h:oL P n code (Nq P rs (dG Q)) ⟨ME 0 args,[],0⟩):ar P g args Q:=by
 subst hnt;subst hrs;refine⟨⟨fn,hf,hn,by simp[hb]⟩,fun w S vs hS hl hv=>?_⟩;have hsz:((vs.toArray++Array.replicate (fn.ntmps-vs.toArray.size) undef):Array Value).size=fn.ntmps:=by simp;omega
 refine calls_of_wp hf hb ?_
 let c:Ctx:=⟨w,fun _=>False,S,fn.ntmps,fun _ h=>h.elim,fun _=>False,fun _=>none,[],0,aq⟩
 have hsim:mM c ⟨ME 0 args,[],0⟩ { tmps:=vs.toArray++Array.replicate (fn.ntmps-vs.toArray.size) undef,defers:=[] } w:=by
  refine⟨rfl,hsz,fun _=>none,⟨(fun i j bi bj g h=>by cases h),(fun i b h=>by cases h),(fun i b h=>by cases h),(fun i b g h=>by cases h),rfl,rfl,rfl,cL _,fun _ _ _=>rfl⟩,fun n=>?_,⟨fun _ h=>h.elim,fun _ h=>h.elim,fun i h=>absurd h (Nat.not_lt_zero _),fun i b' h=>absurd h (Nat.not_lt_zero _)⟩⟩;simp only[fv,Bl,Nat.zero_le,if_true,Nat.sub_zero]
  cases hn:args[n]? with
  |none=>exact .any _
  | some v =>
   have hlt:n<vs.length:=by have:=(ci.1 hn).1;omega
   have hx:vs[n]?=some vs[n]:=cm hlt
   have:(vs.toArray++Array.replicate (fn.ntmps-vs.toArray.size) undef).getD n undef=vs[n]:=by
    rw[ct,Array.getElem?_append,if_pos (by simpa using hlt)];simp[hx]
   rw[this];simp only[Option.getD_some];exact nO (hd v (cr hn)) (fun b hb=>⟨⟨hS b hb,(fun id blk g h=>by cases h)⟩,.inl hb⟩) (hv n v _ hn hx)
 have u7:∀st a w',DU P fn.results.toList (dG Q) st→mM c st a w'→∃v,(results fn a.tmps).run P w'=.ok v w'∧∃x r,Ending.returned v=.returned x∧Q r∧r.deep∧RowKit.Below w.heap.size w w' ∧
   AIs w' (fun b=>S b∨(w.heap.size≤b∧b<w'.heap.size)) (fun _=>none) [] (fun _=>False) r x:=by
  intro st a w' hret hs;obtain⟨v,x,⟨r,hsn,hrd,hQ⟩,hrun,σ,hr,hx,_⟩:=Bj hs hret;refine⟨x,hrun,x,r,rfl,hQ,hrd,⟨hr.os,hr.tape,hr.output,hr.size,fun b hb=>hr.old b hb (fun h=>h)⟩,?_⟩;refine nP (fun b hb=>?_) (fun id blk g _ hk hg=>?_) hr hsn hx
  ·rcases hb.2 with h|h
   ·exact .inl h
   ·exact .inr ⟨h,hb.1.1⟩
  ·rcases hr.mine id blk g hk hg with h|h
   ·exact h.elim
   ·exact .inr ⟨h,ee (hr.at hk hg)⟩
 refine wp_mono (kZ (c:=c) code _ _ _ w h hsim) fun e a w'⟨st,hq,hs⟩=>?_
 cases e with
 |normal=>exact⟨hs.1,u7 st a w' hq hs⟩
 |ret=>exact⟨hs.1,u7 st a w' hq hs⟩
 |_=>exact hq.elim
end
def SqK(P:Program)(n:Nat)(y:Code)(Q:Exit→St→Prop):Exit→St→Prop:=jP (oL P n y Q) Q
def GB(P:Program)(n:Nat)(ops:Array Oper)(rest:List Oper)(K:St→Prop)(fr:Fr)(nx:Nat)(a:Option Tmp):AV→Hp→Prop:=OpK (sC P n ops rest K) fr nx a
def LpW(P:Program)(n:Nat)(x:Code)(Q:Exit→St→Prop)(st:St):Prop:=V0 (oL P n x) Q st
def uX(P:Program)(g:FuncId)(args:List AV)(hp:Hp)(N:Nat)(K:AV→Hp→Prop):Prop:=gx P g args hp N K∨MM P g args hp K
section
variable (P:Program) (n:Nat) (Q:Exit→St→Prop) (fr:Fr) (hp:Hp) (nx:Nat) (st:St) (K:AV→Hp→Prop) (KS:St→Prop)
theorem aas(x y:Code):oL P n (.seq x y) Q st=oL P n x (SqK P n y Q) st:=rfl
theorem W9:oL P n .skip Q st=Q .normal st:=rfl
theorem aat:oL P n .ret Q st=Q .ret st:=rfl
theorem Xa(i:Nat):oL P n (.exit i) Q st=Q (.exit i) st:=rfl
theorem R9(i:Nat)(x:Code):oL P n (.block i x) Q st=oL P n x (uf i Q) st:=rfl
theorem Nr(i:Nat)(ops:Array Oper):oL P n (.region i ops false) Q st=sC P n ops ops.toList (Nk Q) st:=rfl
def DrW(P:Program)(n:Nat)(ops:Array Oper)(Q:Exit→St→Prop)(st:St):Prop:=(∃zs ss m,Gw n ops zs ss m=true∧P.follows .mixedOrders=true∧zW P ops st.nx st.hp (fun fr=>F8 P ops st.nx st.hp (fun fr hp=>Q .normal ⟨fr,hp,st.nx+32*ops.size⟩) ss m fr st.hp) zs st.fr) ∨
 ∃zs is za t st',xh n ops zs is za t=true∧P.follows .mixedOrders=true∧zW P ops st.nx st.hp (fun fr=>zg P ops st.nx st.hp (fun fr hp=>Wk ⟨fr,hp,st.nx+32*ops.size⟩ st') t fr st.hp) zs st.fr∧Q .normal st'
theorem Xb(i:Nat)(ops:Array Oper):oL P n (.region i ops true) Q st=DrW P n ops Q st:=rfl
theorem Xc(x:Code):oL P n (.loop x) Q st=LpW P n x Q st:=rfl
def ae3(v:AV)(A B:Prop):Prop :=
 match v with
 | .d (.bool b)=>(b=true→A)∧(b=false→B)
 |_=>False
def Bm(P:Program)(n:Nat)(v:AV)(x y:Code)(Q:Exit→St→Prop)(st:St):Prop :=
 match v with
 | .d (.bool b)=>(b=true→oL P n x Q st)∧(b=false→oL P n y Q st)
 |_=>False
theorem Xd(c:Operand)(x y:Code):oL P n (.cond c x y) Q st=Bm P n (ev st.fr c) x y Q st:=rfl
theorem Si(x y:Code):Bm P n (.d (.bool true)) x y Q st=oL P n x Q st:=by simp[Bm]
theorem Sj(x y:Code):Bm P n (.d (.bool false)) x y Q st=oL P n y Q st:=by simp[Bm]
theorem Sl(p:Prop)[Decidable p](x y:Code):Bm P n (.d (.bool (decide p))) x y Q st=((p→oL P n x Q st)∧(¬p→oL P n y Q st)):=by simp[Bm]
theorem Sr(p:Prop)[Decidable p](x y:Code):Bm P n (.d (.bool (!decide p))) x y Q st=((¬p→oL P n x Q st)∧(p→oL P n y Q st)):=by simp[Bm]
theorem Xe(y:Code):SqK P n y Q .normal st=oL P n y Q st:=rfl
theorem Xf(y:Code):SqK P n y Q .ret st=Q .ret st:=rfl
theorem Xg(y:Code)(i:Nat):SqK P n y Q (.exit i) st=Q (.exit i) st:=rfl
theorem Xh(i:Nat):uf i Q .normal st=Q .normal st:=rfl
theorem Xi(i:Nat):uf i Q .ret st=Q .ret st:=rfl
theorem Xj(i j:Nat):uf i Q (.exit j) st=if j=i then Q .normal st else Q (.exit j) st:=rfl
theorem Xk:Nk Q st=Q .normal st:=rfl
theorem Xl(I:Nat→St→Prop)(m:Nat):DO I m Q .ret st=Q .ret st:=rfl
theorem Xm(I:Nat→St→Prop)(m i:Nat):DO I m Q (.exit i) st=Q (.exit i) st:=rfl
theorem aav(ops:Array Oper):sC P n ops [] KS st=KS st:=rfl
theorem Xn(ops:Array Oper)(a:Option Tmp)(d:Op)(ty:TypeId)(b:String)(e:Array Edge)(rest:List Oper) :
  sC P n ops (⟨a,d,ty,b,e,none⟩::rest) KS ⟨fr,hp,nx⟩=(ii n a∧bZ P fr hp nx d (GB P n ops rest KS fr nx a)):=rfl
def rf(P:Program)(n:Nat)(ops:Array Oper)(v:AV)(e:Bool)(a:Option Tmp)(f:Op)(rest:List Oper)(KS:St→Prop)(fr:Fr)(hp:Hp)(nx:Nat):Prop :=
 match v with
 | .d (.bool b)=>ii n a∧(b=e→bZ P fr hp nx f (GB P n ops rest KS fr nx a))∧(b=!e→GB P n ops rest KS fr nx a (.tup []) hp)
 | .tup []=>ii n a∧GB P n ops rest KS fr nx a (.tup []) hp
 |_=>False
theorem Ss(ops:Array Oper)(b:Option Tmp)(f:Op)(ty:TypeId)(e:String)(g:Array Edge)(j:Nat)(a:Bool)(rest:List Oper) :
  sC P n ops (⟨b,f,ty,e,g,some (j,a)⟩::rest) KS ⟨fr,hp,nx⟩ =
   (match(ops[j]?).bind (·.dst)with
   |some d=>rf P n ops (fv d fr) a b f rest KS fr hp nx
   |none=>False):=by
 simp only[sC];cases(ops[j]?).bind (·.dst)with
 |none=>rfl
 |some d =>
  simp only[rf];generalize fv d fr=v;cases v with
  |d dv=>cases dv<;>rfl
  |tup l=>cases l<;>rfl
  |_=>rfl
theorem aaw(ops:Array Oper)(b:Bool)(a:Option Tmp)(d:Op)(rest:List Oper):rf P n ops (.tup []) b a d rest KS fr hp nx=(ii n a∧GB P n ops rest KS fr nx a (.tup []) hp):=rfl
theorem aax(ops:Array Oper)(a:Option Tmp)(b:Op)(rest:List Oper):rf P n ops (.d (.bool true)) true a b rest KS fr hp nx=(ii n a∧bZ P fr hp nx b (GB P n ops rest KS fr nx a)):=by simp[rf]
theorem aay(ops:Array Oper)(a:Option Tmp)(b:Op)(rest:List Oper):rf P n ops (.d (.bool false)) false a b rest KS fr hp nx=(ii n a∧bZ P fr hp nx b (GB P n ops rest KS fr nx a)):=by simp[rf]
theorem Xo(ops:Array Oper)(a:Option Tmp)(b:Op)(rest:List Oper):rf P n ops (.d (.bool true)) false a b rest KS fr hp nx=(ii n a∧GB P n ops rest KS fr nx a (.tup []) hp):=by simp[rf]
theorem Xp(ops:Array Oper)(a:Option Tmp)(b:Op)(rest:List Oper):rf P n ops (.d (.bool false)) true a b rest KS fr hp nx=(ii n a∧GB P n ops rest KS fr nx a (.tup []) hp):=by simp[rf]
theorem Xq(p:Prop)[Decidable p](ops:Array Oper)(a:Option Tmp)(b:Op)(rest:List Oper):rf P n ops (.d (.bool (decide p))) true a b rest KS fr hp nx=(ii n a∧(p→bZ P fr hp nx b (GB P n ops rest KS fr nx a))∧(¬p→GB P n ops rest KS fr nx a (.tup []) hp)):=by simp[rf]
theorem Xr(p:Prop)[Decidable p](ops:Array Oper)(a:Option Tmp)(b:Op)(rest:List Oper):rf P n ops (.d (.bool (decide p))) false a b rest KS fr hp nx=(ii n a∧(¬p→bZ P fr hp nx b (GB P n ops rest KS fr nx a))∧(p→GB P n ops rest KS fr nx a (.tup []) hp)):=by simp[rf]
theorem adr(ops:Array Oper)(rest:List Oper)(a:Option Tmp)(v:AV)(hp':Hp):GB P n ops rest KS fr nx a v hp'=sC P n ops rest KS ⟨bz fr a v,hp',nx+32⟩:=rfl
theorem aaz(d:Nat)(v:AV):bz fr (some d) v=(d,v)::fr:=rfl
theorem Xs(v:AV):bz fr none v=fr:=rfl
theorem aaA(d:Nat):ii n (some d)=(d<n):=rfl
theorem Xt:ii n none=True:=rfl
theorem aaB(t:Nat):ev fr (.tmp t)=fv t fr:=rfl
theorem Su(v:Value):ev fr (.const v)=RE v:=rfl
theorem Xu(f:FuncId):ev fr (.func f)=.fn f []:=rfl
theorem ads(d m:Nat)(v:AV):fv m ((d,v)::fr)=if d=m then v else fv m fr:=j5 d m v fr
theorem aaC(m:Nat):fv m []=.any:=rfl
theorem adt{α:Type}(m k:Nat)(v:α)(t:List (Nat×α)):lk k ((m,v)::t)=if m=k then some v else lk k t:=rfl
theorem aaD{α:Type}(k:Nat):lk k ([]:List (Nat×α))=none:=rfl
theorem Xv(id m:Nat)(b v:Blk)(t:Hp):bV id b ((m,v)::t)=if m=id then(m,b)::t else(m,v)::bV id b t:=rfl
theorem adu(k:IntKind)(i:Int):RE (.int k i)=.d (.int k i):=rfl
theorem adv(b:Bool):RE (.bool b)=.d (.bool b):=rfl
theorem adw:RE (.slice none 0 0)=.nil:=rfl
theorem Xw(s:ByteArray):RE (.string s)=.d (.str (s.data.toList.map fun c=>(c.toNat:Int))):=rfl
theorem adx:RE (.pointer none)=.d .nilp:=rfl
theorem Xx(x:Operand):bZ P fr hp nx (.move x) K=K (ev fr x) hp:=rfl
theorem Ns(x:Operand):bZ P fr hp nx (.assign x) K=K (ev fr x) hp:=rfl
def sD(c a b:AV)(K:AV→Hp→Prop)(hp:Hp):Prop :=
 match c with
 | .d (.bool t) =>
  (match a,b with
  | .d (.bool x),.d (.bool y)=>K (.d (.bool (if t then x else y))) hp
  |va,vb=>(t=true→K va hp)∧(t=false→K vb hp))
 |_=>False
theorem Xy(c a b:Operand):bZ P fr hp nx (.pick c a b) K=sD (ev fr c) (ev fr a) (ev fr b) K hp:=by
 simp only[bZ,sD];rfl
theorem Nu(a b:AV):sD (.d (.bool true)) a b K hp=K a hp:=by
 unfold sD;dsimp only;split<;>simp
theorem Nv(a b:AV):sD (.d (.bool false)) a b K hp=K b hp:=by
 unfold sD;dsimp only;split<;>simp
theorem KJ(t x y:Bool):sD (.d (.bool t)) (.d (.bool x)) (.d (.bool y)) K hp=K (.d (.bool (if t then x else y))) hp:=rfl
theorem Nw(t:Bool)(x:Bool):sD (.d (.bool t)) (.d (.bool x)) .any K hp=((t=true→K (.d (.bool x)) hp)∧(t=false→K .any hp)):=rfl
theorem Nx(t:Bool)(x:Bool):sD (.d (.bool t)) (.d (.bool x)) (.tup []) K hp=((t=true→K (.d (.bool x)) hp)∧(t=false→K (.tup []) hp)):=rfl
theorem aaE(a:BinOp)(t b:TypeId)(x y:Operand):bZ P fr hp nx (.binOp a t x y b) K=dr P a t (ev fr x) (ev fr y) K hp:=rfl
theorem Sv(t:TypeId)(k:IntKind)(x y:Int):dr P .add t (.d (.int k x)) (.d (.int k y)) K hp=K (.d (.int k (k.wrap (x+y)))) hp:=by simp[dr,dO,lw]
theorem Sz(t:TypeId)(k:IntKind)(x y:Int):dr P .sub t (.d (.int k x)) (.d (.int k y)) K hp=K (.d (.int k (k.wrap (x-y)))) hp:=by simp[dr,dO,lw]
theorem SA(t:TypeId)(k:IntKind)(x y:Int):dr P .mul t (.d (.int k x)) (.d (.int k y)) K hp=K (.d (.int k (k.wrap (x*y)))) hp:=by simp[dr,dO,lw]
theorem SB(t:TypeId)(k:IntKind)(x y:Int):dr P .quo t (.d (.int k x)) (.d (.int k y)) K hp=(y≠0∧K (.d (.int k (k.wrap (x.tdiv y)))) hp):=by simp[dr,dO,lw]
theorem SC(t:TypeId)(k:IntKind)(x y:Int):dr P .rem t (.d (.int k x)) (.d (.int k y)) K hp=(y≠0∧K (.d (.int k (x.tmod y))) hp):=by simp[dr,dO,lw]
theorem SD(t:TypeId)(k:IntKind)(x y:Int):dr P .and t (.d (.int k x)) (.d (.int k y)) K hp=K (.d (.int k (bits .and k x y))) hp:=by simp[dr,dO,lw]
theorem Xz(t:TypeId)(k:IntKind)(x y:Int):dr P .or t (.d (.int k x)) (.d (.int k y)) K hp=K (.d (.int k (bits .or k x y))) hp:=by simp[dr,dO,lw]
theorem SE(t:TypeId)(k:IntKind)(x y:Int):dr P .xor t (.d (.int k x)) (.d (.int k y)) K hp=K (.d (.int k (bits .xor k x y))) hp:=by simp[dr,dO,lw]
theorem GF(t:TypeId)(k:IntKind)(x y:Int):dr P .andNot t (.d (.int k x)) (.d (.int k y)) K hp=K (.d (.int k (bits .andNot k x y))) hp:=by simp[dr,dO,lw]
theorem SG(t:TypeId)(k a:IntKind)(x y:Int):dr P .shl t (.d (.int k x)) (.d (.int a y)) K hp=(0≤y∧K (.d (.int k (k.wrap (x*2 ^ (min y.toNat k.bits))))) hp):=by simp[dr,dO,lw,rX]
theorem SH(t:TypeId)(k a:IntKind)(x y:Int):dr P .shr t (.d (.int k x)) (.d (.int a y)) K hp=(0≤y∧K (.d (.int k (x.fdiv (2 ^ (min y.toNat k.bits))))) hp):=by simp[dr,dO,lw,rX]
theorem SI(t:TypeId)(k:IntKind)(x y:Int):dr P .eql t (.d (.int k x)) (.d (.int k y)) K hp=K (.d (.bool (decide (x=y)))) hp:=by simp[dr,dO,lw]
theorem SJ(t:TypeId)(k:IntKind)(x y:Int):dr P .neq t (.d (.int k x)) (.d (.int k y)) K hp=K (.d (.bool (!decide (x=y)))) hp:=by simp[dr,dO,lw]
theorem SK(t:TypeId)(k:IntKind)(x y:Int):dr P .lss t (.d (.int k x)) (.d (.int k y)) K hp=K (.d (.bool (decide (x<y)))) hp:=by simp[dr,dO,lw]
theorem SL(t:TypeId)(k:IntKind)(x y:Int):dr P .leq t (.d (.int k x)) (.d (.int k y)) K hp=K (.d (.bool (decide (x≤y)))) hp:=by simp[dr,dO,lw]
theorem SN(t:TypeId)(k:IntKind)(x y:Int):dr P .gtr t (.d (.int k x)) (.d (.int k y)) K hp=K (.d (.bool (decide (y<x)))) hp:=by simp[dr,dO,lw]
theorem SQ(t:TypeId)(k:IntKind)(x y:Int):dr P .geq t (.d (.int k x)) (.d (.int k y)) K hp=K (.d (.bool (decide (y≤x)))) hp:=by simp[dr,dO,lw]
theorem SR(e:BinOp)(t:TypeId)(a b c d:Nat):dr P e t (.ptr a b c d) (.d .nilp) K hp=Ry P e t false K hp:=rfl
theorem SS(a:BinOp)(t:TypeId)(cs:List DV):dr P a t (.rop cs) (.d .nilp) K hp=Ry P a t false K hp:=rfl
theorem SU(a:BinOp)(t:TypeId):dr P a t (.d .nilp) (.d .nilp) K hp=Ry P a t true K hp:=rfl
def agK(P:Program)(d:BinOp)(t:TypeId)(k:TK)(a b:List AV)(K:AV→Hp→Prop)(hp:Hp):Prop :=
 match k with
 | .arr n el=>VS P d t n el (ko P el) a b K hp
 | .struct _=>VT P d t a b K hp
 |_=>False
theorem XA(d:BinOp)(t:TypeId)(a b:List AV):dr P d t (.agg a) (.agg b) K hp=agK P d t (cp P t) a b K hp:=by
 simp only[dr,agK];cases cp P t<;>rfl
def agO(P:Program)(b:BinOp)(t:TypeId)(n:Nat)(el:TypeId)(a vs:Option (List Int))(K:AV→Hp→Prop)(hp:Hp):Prop :=
 match a,vs with
 | some a,some vs=>a.length=n∧vs.length=n∧P.cellsOf el=1∧P.eqGuardType P.depth t=false∧(match b with
   | .eql=>K (.d (.bool (decide (a=vs)))) hp
   | .neq=>K (.d (.bool (!decide (a=vs)))) hp
   |_=>False)
 |_,_=>False
theorem adA(d:BinOp)(t:TypeId)(n:Nat)(el:TypeId)(k:IntKind)(a b:List AV):VS P d t n el (some k) a b K hp=agO P d t n el (cF k a) (cF k b) K hp:=by
 simp only[VS,agO];cases cF k a<;>cases cF k b<;>rfl
def sgR(P:Program)(e:BinOp)(t:TypeId)(b:Option (List (Option IntKind)))(a vs:Option (List L1))(K:AV→Hp→Prop)(hp:Hp):Prop :=
 match a,vs with
 | some a,some vs=>P.eqGuardType P.depth t=false∧b=some (a.map L1.k)∧b=some (vs.map L1.k)∧(match e with
   | .eql=>K (.d (.bool (decide (a=vs)))) hp
   | .neq=>K (.d (.bool (!decide (a=vs)))) hp
   |_=>False)
 |_,_=>False
theorem adC(d:BinOp)(t:TypeId)(a b:List AV):VT P d t a b K hp=sgR P d t (ff P 8 t) (fE a) (fE b) K hp:=by
 simp only[VT,sgR];cases fE a<;>cases fE b<;>rfl
theorem DW(k:IntKind)(a:List Int):cF k (a.map fun m=>AV.d (.int k m))=some a:=by
 induction a with
 |nil=>rfl
 |cons u r ih=>simp[cF,ih]
def idO(o:Option AV)(K:AV→Hp→Prop)(hp:Hp):Prop :=
 match o with
 |some v=>K v hp
 |none=>False
def idS(o:Option Int)(K:AV→Hp→Prop)(hp:Hp):Prop :=
 match o with
 |some b=>K (.d (.int .u8 b)) hp
 |none=>False
def idX(P:Program)(k:TK)(el:TypeId)(cs:List AV)(m:Int)(K:AV→Hp→Prop)(hp:Hp):Prop :=
 match k with
 | .scal=>P.cellsOf el=1∧idO cs[m.toNat]? K hp
 | .slice _=>P.cellsOf el=1∧idO cs[m.toNat]? K hp
 | .arr _ _=>P.cellsOf el≠0∧idO (Gh P el (cs.drop (m.toNat*P.cellsOf el))) K hp
 |_=>False
def idW(P:Program)(k:TK)(x i:AV)(K:AV→Hp→Prop)(hp:Hp):Prop :=
 match k,x,i with
 | .arr n el,.agg cs,.d (.int _ m)=>0≤m∧m<n∧idX P (cp P el) el cs m K hp
 | .str,.d (.str bs),.d (.int _ m)=>0≤m∧idS bs[m.toNat]? K hp
 |_,_,_=>False
theorem SV(t:TypeId)(x i:Operand):bZ P fr hp nx (.index t x i) K=idW P (cp P t) (ev fr x) (ev fr i) K hp:=rfl
def unW(a:UnOp)(v:AV)(K:AV→Hp→Prop)(hp:Hp):Prop :=
 match a,v with
 | .not,.d (.bool b)=>K (.d (.bool (!b))) hp
 | .neg,.d (.int k n)=>K (.d (.int k (k.wrap (0-n)))) hp
 | .xor,.d (.int k n)=>K (.d (.int k (bits .xor k (if k.signed then -1 else k.max) n))) hp
 |_,_=>False
theorem adE(a:UnOp)(t:TypeId)(x:Operand):bZ P fr hp nx (.unOp a t x) K=unW a (ev fr x) K hp:=by
 cases a<;>simp only[bZ,unW]<;>split<;>simp_all
def aaF(v:AV)(K:AV→Hp→Prop)(hp:Hp):Prop :=
 match v with
 | .ptr id i off tot=>K (.ptr id i off tot) hp
 | .rop cs=>K (.rop cs) hp
 | .fn f cs=>K (.fn f cs) hp
 | .mth f cs=>K (.mth f cs) hp
 |_=>False
theorem XB(x:Operand):bZ P fr hp nx (.nilCheck x) K=aaF (ev fr x) K hp:=rfl
def exW(v:AV)(i:Nat)(K:AV→Hp→Prop)(hp:Hp):Prop :=
 match v with
 | .tup vs=>(match vs[i]? with
  |some v=>K v hp
  |none=>False)
 |_=>False
theorem adG(x:Operand)(i:Nat):bZ P fr hp nx (.extract x i) K=exW (ev fr x) i K hp:=rfl
def cvS(P:Program)(s t:TypeId)(es:List (List DV))(K:AV→Hp→Prop)(hp:Hp):Prop :=
 ∃ a:List Int,es=a.map (fun b=>[.int .u8 b])∧(∀ b,b ∈ a→0≤b∧b<256)∧(match cp P s,cp P t with
   | .slice el,.str=>P.underlying el=some (.int .u8)∧K (.d (.str a)) hp
   |_,_=>False)
def cvB(P:Program)(e:List Int)(a b:TK)(K:AV→Hp→Prop)(hp:Hp):Prop :=
 match a,b with
 | .str,.slice el=>P.underlying el=some (.int .u8)∧K (.d (.ro 1 (e.map fun b=>[.int .u8 b]))) hp
 |_,_=>False
def cvO(P:Program)(s t:TypeId)(xs:Option (List (List AV)))(K:AV→Hp→Prop)(hp:Hp):Prop :=
 ∃ a:List Int,xs=some (a.map fun b=>[.d (.int .u8 b)])∧(∀ b,b ∈ a→0≤b∧b<256)∧(match cp P s,cp P t with
   | .slice el,.str=>P.underlying el=some (.int .u8)∧K (.d (.str a)) hp
   |_,_=>False)
def cvW(P:Program)(s t:TypeId)(v:AV)(K:AV→Hp→Prop)(hp:Hp):Prop :=
 match v with
 | .d (.int _ n)=>(match(P.underlying s).isSome,ko P t with
  |true,some k=>K (.d (.int k (k.wrap n))) hp
  |_,_=>False)
 | .d (.ro 1 es)=>cvS P s t es K hp
 | .d (.str bs)=>cvB P bs (cp P s) (cp P t) K hp
 |v=>cvO P s t (dA hp 1 v) K hp
theorem adJ(s t:TypeId)(x:Operand):bZ P fr hp nx (.convert s t x) K=cvW P s t (ev fr x) K hp:=by
 simp only[bZ,cvW,ko];generalize ev fr x=v;cases v with
 | d dv =>
  cases dv with
  |int k n =>
   cases P.underlying s<;>cases a:P.underlying t with
   |none=>simp
   |some d=>cases d<;>simp
  |ro e es =>
   match e with
   |0=>rfl
   |1=>rfl
   |_+2=>rfl
  |str bs=>cases cp P s<;>cases cp P t<;>rfl
  |_=>rfl
 |_=>rfl
def ldO(o:Option AV)(K:AV→Hp→Prop)(hp:Hp):Prop :=
 match o with
 |some v=>K v hp
 |none=>False
def ldR(P:Program)(t:TypeId)(a:Option (List AV))(b d off:Nat)(K:AV→Hp→Prop)(hp:Hp):Prop :=
 match a with
 |some a=>b=d∧ldO (Gh P t (a.drop off)) K hp
 |none=>False
def ldB(P:Program)(t:TypeId)(b:Option Blk)(i off a:Nat)(K:AV→Hp→Prop)(hp:Hp):Prop :=
 match b with
 |some b=>ldR P t b.es[i]? b.es.length a off K hp
 |none=>False
def ldW(P:Program)(t:TypeId)(v:AV)(K:AV→Hp→Prop)(hp:Hp):Prop :=
 match v with
 | .ptr id i off tot=>ldB P t (lk id hp) i off tot K hp
 | .rop cs=>ldO (Gh P t (cs.map .d)) K hp
 |_=>False
theorem adK(t:TypeId)(x:Operand):bZ P fr hp nx (.load t x) K=ldW P t (ev fr x) K hp:=rfl
def XC(P:Program)(t:TypeId)(k:TK)(a:List AV):Option AV :=
 match k with
 | .none=>Option.none
 | .arr _ _=>if P.cellsOf t≤a.length then some (.agg (a.take (P.cellsOf t)))else Option.none
 | .struct _=>if P.cellsOf t≤a.length then some (.agg (a.take (P.cellsOf t)))else Option.none
 | .scal=>a.head?
 | .str=>a.head?
 | .slice _=>a.head?
theorem aaG(t:TypeId)(a:List AV):Gh P t a=XC P t (cp P t) a:=by
 unfold Gh XC;cases cp P t<;>rfl
def faO(P:Program)(v:AV)(o:Option (Nat×TypeId))(K:AV→Hp→Prop)(hp:Hp):Prop :=
 match v,o with
 | .ptr id j off tot,some (o,ft)=>P.cellsOf ft≠0∧K (.ptr id j (off+o) tot) hp
 | .rop cs,some (o,ft)=>P.cellsOf ft≠0∧K (.rop (cs.drop o)) hp
 |_,_=>False
def Ny(k:TK)(i:Nat):Option (Nat×TypeId) :=
 match k with
 | .struct fs=>fs[i]?
 |_=>none
theorem adM(t:TypeId)(x:Operand)(i:Nat):bZ P fr hp nx (.fieldAddr t x i) K=faO P (ev fr x) (Ny (cp P t) i) K hp:=by
 simp only[bZ,lA,Ny,faO];generalize ev fr x=v;cases v<;>cases cp P t<;>rfl
def fdO(P:Program)(v:AV)(o:Option (Nat×TypeId))(K:AV→Hp→Prop)(hp:Hp):Prop :=
 match v,o with
 | .agg cs,some (o,ft)=>ldO (Gh P ft (cs.drop o)) K hp
 |_,_=>False
theorem adO(t:TypeId)(x:Operand)(i:Nat):bZ P fr hp nx (.field t x i) K=fdO P (ev fr x) (Ny (cp P t) i) K hp:=by
 simp only[bZ,lA,Ny,fdO];generalize ev fr x=v;cases v<;>cases cp P t<;>rfl
def ixO(cs:Option (List DV))(K:AV→Hp→Prop)(hp:Hp):Prop :=
 match cs with
 |some cs=>K (.rop cs) hp
 |none=>False
def ixB(b:Option Blk)(id i off e el a:Nat)(d:Bool)(K:AV→Hp→Prop)(hp:Hp):Prop :=
 match b,d with
 |some b,true=>b.es.length=a∧b.e=el∧el≠0∧K (.ptr id i 0 a) hp
 |some b,false=>b.es.length=a∧e=el∧el≠0∧K (.ptr id i off a) hp
 |none,_=>False
def ixW(P:Program)(a v:AV)(k:TK)(K:AV→Hp→Prop)(hp:Hp):Prop :=
 match a,v,k with
 | .d (.int _ n),.d (.ro e es),.slice el=>0≤n∧e=P.cellsOf el∧P.cellsOf el≠0∧ixO es[n.toNat]? K hp
 | .d (.int _ n),.own id i0 len tot,.slice el=>0≤n∧n<len∧ixB (lk id hp) id (i0+n.toNat) 0 0 (P.cellsOf el) tot true K hp
 | .d (.int _ n),.sub id i off e len _ tot,.slice el=>0≤n∧n<len∧ixB (lk id hp) id i (off+n.toNat*e) e (P.cellsOf el) tot false K hp
 | .d (.int _ n),.ptr id i off tot,.arr len el=>0≤n∧n<len∧P.cellsOf el≠0∧K (.ptr id i (off+n.toNat*P.cellsOf el) tot) hp
 | .d (.int _ n),.rop cs,.arr len el=>0≤n∧n<len∧P.cellsOf el≠0∧K (.rop (cs.drop (n.toNat*P.cellsOf el))) hp
 |_,_,_=>False
theorem adR(t:TypeId)(x a:Operand):bZ P fr hp nx (.indexAddr t x a) K=ixW P (ev fr a) (ev fr x) (cp P t) K hp:=by
 simp only[bZ,ixW];generalize ev fr a=u;generalize ev fr x=v;cases u with
 | d dv =>
  cases dv with
  |int k n =>
   cases v with
   |d dv=>cases dv<;>cases cp P t<;>rfl
   |own id i0 len tot=>cases cp P t<;>first|rfl|(simp only;cases lk id hp<;>rfl)
   |sub id i off e len cap tot=>cases cp P t<;>first|rfl|(simp only;cases lk id hp<;>rfl)
   |_=>cases cp P t<;>rfl
  |_=>rfl
 |_=>rfl
def alW(t:TypeId)(z:Option (List AV))(nx:Nat)(K:AV→Hp→Prop)(hp:Hp):Prop :=
 match z with
 |some cs=>K (.ptr nx 0 0 1) ((nx,⟨t,cs.length,[cs]⟩)::hp)
 |none=>False
theorem adS(t:TypeId):bZ P fr hp nx (.alloc t) K=alW t (gi P t) nx K hp:=rfl
def bdO(P:Program)(k:TK)(z:Option (List AV))(ps:List (Nat×AV))(K:AV→Hp→Prop)(hp:Hp):Prop :=
 match z with
 |some z=>tZ P k z ps K hp
 |none=>False
theorem adT(t:TypeId)(a:Array (Nat×Operand)):bZ P fr hp nx (.build t a) K=bdO P (cp P t) (gi P t) (a.toList.map fun p=>(p.1,ev fr p.2)) K hp:=rfl
def Nz(o:Option (List AV))(K:AV→Hp→Prop)(hp:Hp):Prop :=
 match o with
 |some cs=>K (.agg cs) hp
 |none=>False
theorem XD(a:List (Nat×TypeId))(z:List AV)(ps:List (Nat×AV)):tZ P (.struct a) z ps K hp=((∀f,f∈a→P.cellsOf f.2≠0)∧Nz (mX (kp P a) z ps) K hp):=rfl
theorem XE(n:Nat)(el:TypeId)(z:List AV)(ps:List (Nat×AV)):tZ P (.arr n el) z ps K hp=(P.cellsOf el≠0∧Nz (mX (fun i=>some (i*P.cellsOf el,P.cellsOf el)) z ps) K hp):=rfl
def bsR(el:TypeId)(e len nx:Nat)(o:Option (List (List AV)))(K:AV→Hp→Prop)(hp:Hp):Prop :=
 match o with
 |some rows=>K (.own nx 0 len len) ((nx,⟨el,e,rows⟩)::hp)
 |none=>False
def bsO(P:Program)(el:TypeId)(len:Nat)(z:Option (List AV))(ps:List (Nat×AV))(nx:Nat)(K:AV→Hp→Prop)(hp:Hp):Prop :=
 match z with
 |some z=>len*P.cellsOf el≤16777216∧bsR el (P.cellsOf el) len nx (wW (P.cellsOf el) (List.replicate len z) ps) K hp
 |none=>False
def bsW(P:Program)(k:TK)(len:Nat)(ps:List (Nat×AV))(nx:Nat)(K:AV→Hp→Prop)(hp:Hp):Prop :=
 match k with
 | .slice el=>bsO P el len (gi P el) ps nx K hp
 |_=>False
theorem adV(t:TypeId)(len:Nat)(a:Array (Nat×Operand)):bZ P fr hp nx (.buildSlice t len a) K=bsW P (cp P t) len (a.toList.map fun p=>(p.1,ev fr p.2)) nx K hp:=by
 simp only[bZ,oR,bsW];cases cp P t<;>rfl
theorem adW(t:TypeId)(x:Operand)(a hi:Option Operand):bZ P fr hp nx (.slice t x a hi none) K=iU P (cp P t) (ev fr x) (A8 fr 0 a) (A8 fr ((ev fr x).topLen (cp P t)) hi) K hp:=rfl
theorem aaH(t:TypeId)(x m:Operand)(a hi:Option Operand):bZ P fr hp nx (.slice t x a hi (some m)) K=nL P (cp P t) (ev fr x) (A8 fr 0 a) (Gi fr hi) (ev fr m).num K hp:=rfl
theorem XF(x:Operand):Gi fr (some x)=(ev fr x).num:=rfl
theorem NA(el:TypeId)(l h m:Int)(e:Nat)(es:List (List DV)):nL P (.slice el) (.d (.ro e es)) (some l) (some h) (some m) K hp=(P.cellsOf el≠0∧e=P.cellsOf el∧0≤l∧l≤h∧h=m∧h≤es.length∧K (.d (.rof e ((es.take h.toNat).drop l.toNat))) hp):=rfl
theorem KL(el:TypeId)(l h m:Int):nL P (.slice el) .nil (some l) (some h) (some m) K hp=(P.cellsOf el≠0∧l=0∧h=0∧m=0∧K (.d (.rof (P.cellsOf el) [])) hp):=rfl
theorem KN(el:TypeId)(id i0 len a:Nat)(l h m:Int):nL P (.slice el) (.own id i0 len a) (some l) (some h) (some m) K hp=(P.cellsOf el≠0∧l=0∧h=0∧m=0∧K (.d (.rof (P.cellsOf el) [])) hp):=rfl
def mkO(P:Program)(el:TypeId)(z:Option (List AV))(n c:Int)(nx:Nat)(K:AV→Hp→Prop)(hp:Hp):Prop :=
 match z with
 |some z=>0≤n∧n≤c∧c*P.cellsOf el≤16777216∧P.bytesOf el*c≤281474976710656∧c≤9223372036854775807∧K (.own nx 0 n.toNat n.toNat) ((nx,⟨el,P.cellsOf el,List.replicate n.toNat z⟩)::hp)
 |none=>False
theorem adX(t:TypeId)(l m:Operand):bZ P fr hp nx (.makeSlice t l m) K=Io P (cp P t) (ev fr l) (ev fr m) nx K hp:=rfl
theorem aaI(el:TypeId)(a k2:IntKind)(n c:Int):Io P (.slice el) (.d (.int a n)) (.d (.int k2 c)) nx K hp=mkO P el (gi P el) n c nx K hp:=rfl
theorem aaJ(t:TypeId)(x:Operand):bZ P fr hp nx (.sliceToArrayPointer t x) K=Kx (cp P t) (ev fr x) K hp:=rfl
theorem XG(n:Nat)(el:TypeId)(id i off e len cap a:Nat):Kx (.arr n el) (.sub id i off e len cap a) K hp=(match lk id hp with
  |some b=>b.es.length=a∧0<n∧n≤len∧K (.ptr id i off a) hp
  |none=>False):=rfl
theorem XH(n:Nat)(el:TypeId)(es:List (List DV)):Kx (.arr n el) (.d (.ro 1 es)) K hp=(0<n∧n≤es.length∧K (.rop es.flatten) hp):=rfl
theorem adY(s x:Operand)(t u:TypeId):bZ P fr hp nx (.call ⟨.builtin .copy,#[s,x],#[t,u]⟩) K=y5 P fr hp nx .copy [s,x] [t,u] K:=rfl
def cpB(P:Program)(el:TypeId)(b:Option Blk)(id i0 len a:Nat)(xs:List (List AV))(K:AV→Hp→Prop)(hp:Hp):Prop :=
 match b with
 |some b=>b.es.length=a∧b.e=1∧P.cellsOf el=1∧K (.d (.int .i64 (min len xs.length:Nat))) (bV id ⟨b.ty,b.e,b.es.take i0++(xs.take len++b.es.drop (i0+min len xs.length))⟩ hp)
 |none=>False
theorem aaK(el:TypeId)(id i0 len a:Nat)(xs:List (List AV)):Iq P el (.own id i0 len a) (some xs) K hp=cpB P el (lk id hp) id i0 len a xs K hp:=by
 simp only[Iq,cpB];cases lk id hp<;>rfl
theorem KO:∀{a b:List (List DV)},a.map (fun r=>r.map AV.d)=b.map (fun r=>r.map AV.d)→a=b:=by
 have one:∀{x y:List DV},x.map AV.d=y.map AV.d→x=y:=by
  intro x
  induction x with
  |nil=>intro y h;cases y with
   |nil=>rfl
   |cons _ _=>simp at h
  |cons u x ih=>intro y h;cases y with
   |nil=>simp at h
   |cons v y=>simp at h;rw[h.1,ih (by simpa using h.2)]
 intro a
 induction a with
 |nil=>intro b h;cases b with
  |nil=>rfl
  |cons _ _=>simp at h
 | cons u a ih=>intro b h;cases b with
  |nil=>simp at h
  |cons v b =>
   rw[List.map_cons,List.map_cons]at h;injection h with f e;rw[one f,ih e]
def apS(P:Program)(el:TypeId)(o:Option (List (List AV)))(len cap:Nat)(xs:List (List AV))(nx:Nat)(K:AV→Hp→Prop)(hp:Hp):Prop :=
 cap<len+xs.length∧(gi P el).isSome=true∧P.bytesOf el≠0∧(len+xs.length)*P.bytesOf el≤140737488355328 ∧
   (match o with
   |some rs=>K (.own nx 0 (len+xs.length) (len+xs.length)) ((nx,⟨el,P.cellsOf el,rs++xs⟩)::hp)
   |none=>False)
theorem NB(el:TypeId)(xs:List (List AV))(id i off e len cap a:Nat):gr P el (.sub id i off e len cap a) (some xs) nx K hp=apS P el (dA hp (P.cellsOf el) (.sub id i off e len cap a)) len cap xs nx K hp:=by
 simp only[gr,apS];generalize dA hp (P.cellsOf el) (.sub id i off e len cap a)=o;cases o<;>rfl
def Bn(A B:Prop):Prop:=A∨B
theorem DX(el:TypeId)(e:Nat)(es a:List (List DV)):gr P el (.d (.rof e es)) (some (a.map fun r=>r.map AV.d)) nx K hp=(e=P.cellsOf el∧(gi P el).isSome=true∧P.bytesOf el≠0∧(es.length+a.length)*P.bytesOf el≤140737488355328 ∧
  Bn (K (.d (.ro e (es++a))) hp) (a≠[]∧K (.own nx 0 (es.length+a.length) (es.length+a.length)) ((nx,⟨el,P.cellsOf el,es.map (fun r=>r.map AV.d)++a.map fun r=>r.map AV.d⟩)::hp))):=by
 simp only[gr,List.length_map,eq_iff_iff,Bn];constructor;rintro⟨j,h,f,i,⟨l,b,g⟩|⟨b,g⟩⟩;have k:=KO b;subst k;exact⟨j,h,f,i,.inl g⟩;exact⟨j,h,f,i,.inr ⟨by simpa using b,g⟩⟩;rintro⟨j,h,f,i,b|⟨b,g⟩⟩;exact⟨j,h,f,i,.inl ⟨a,rfl,b⟩⟩;exact⟨j,h,f,i,.inr ⟨by simpa using b,g⟩⟩
theorem XI(d:Int):A8 fr d none=some d:=rfl
theorem XJ(d:Int)(x:Operand):A8 fr d (some x)=(ev fr x).num:=rfl
theorem aaL(k:IntKind)(n:Int):(AV.d (.int k n)).num=some n:=rfl
theorem NC(el:TypeId)(l h:Int):iU P (.slice el) .nil (some l) (some h) K hp=(P.cellsOf el≠0∧l=0∧h=0∧K .nil hp):=rfl
theorem SX(el:TypeId)(l h:Int)(e:Nat)(es:List (List DV)):iU P (.slice el) (.d (.ro e es)) (some l) (some h) K hp=(P.cellsOf el≠0∧e=P.cellsOf el∧0≤l∧l≤h∧h≤es.length∧K (.d (.ro e ((es.take h.toNat).drop l.toNat))) hp):=rfl
def slB(b:Option Blk)(n:Nat)(A:Prop):Prop :=
 match b with
 |some b=>b.e=n∧A
 |none=>False
theorem ND(el:TypeId)(l h:Int)(id i0 len d:Nat):iU P (.slice el) (.own id i0 len d) (some l) (some h) K hp=slB (lk id hp) (P.cellsOf el) (P.cellsOf el≠0∧0≤l∧l≤h∧h≤len∧K (.own id (i0+l.toNat) (h.toNat-l.toNat) d) hp):=by
 simp only[iU];cases lk id hp with
 |none=>rfl
 |some b=>simp only[slB,eq_iff_iff];exact⟨fun⟨a,b,c⟩=>⟨b,a,c⟩,fun⟨b,a,c⟩=>⟨a,b,c⟩⟩
theorem NE(el:TypeId)(l h:Int)(id i off e len cap a:Nat):iU P (.slice el) (.sub id i off e len cap a) (some l) (some h) K hp=(P.cellsOf el≠0∧e=P.cellsOf el∧0≤l∧l≤h∧h≤len∧K (.sub id i (off+l.toNat*e) e (h.toNat-l.toNat) (cap-l.toNat) a) hp):=rfl
def slP(b:Option Blk)(n:Nat)(A:Prop):Prop :=
 match b with
 |some b=>n≤b.e∧A
 |none=>False
theorem NF(n:Nat)(el:TypeId)(l h:Int)(id i off d:Nat):iU P (.arr n el) (.ptr id i off d) (some l) (some h) K hp=slP (lk id hp) (off+n*P.cellsOf el) (P.cellsOf el≠0∧i<d∧0≤l∧l≤h∧h≤n∧K (.sub id i (off+l.toNat*P.cellsOf el) (P.cellsOf el) (h.toNat-l.toNat) (n-l.toNat) d) hp):=by
 simp only[iU];cases lk id hp with
 |none=>rfl
 |some b=>simp only[slP,eq_iff_iff];exact⟨fun⟨a,b,c⟩=>⟨b,a,c⟩,fun⟨b,a,c⟩=>⟨a,b,c⟩⟩
theorem NG(n:Nat)(el:TypeId)(l h:Int)(cs:List DV):iU P (.arr n el) (.rop cs) (some l) (some h) K hp=(P.cellsOf el=1∧n≤cs.length∧0≤l∧l≤h∧h≤n∧K (.d (.ro 1 (((cs.take h.toNat).drop l.toNat).map fun c=>[c]))) hp):=rfl
theorem NH(a:List Int)(l h:Int):iU P .str (.d (.str a)) (some l) (some h) K hp=(0≤l∧l≤h∧h≤a.length∧K (.d (.str ((a.take h.toNat).drop l.toNat))) hp):=rfl
def IE (P:Program) (el:TypeId) (b:Option Blk) (id len a:Nat) (xs:List (List AV)) (K:AV→Hp→Prop) (hp:Hp):Prop :=
 match b with
 |some b=>b.es.length=a∧b.ty=el∧b.e=P.cellsOf el∧(gi P el).isSome=true∧P.bytesOf el≠0∧(len+xs.length)*P.bytesOf el≤140737488355328 ∧
    (len+xs.length≤a→K (.own id 0 (len+xs.length) a) (bV id ⟨b.ty,b.e,b.es.take len++(xs++b.es.drop (len+xs.length))⟩ hp)) ∧
    (a<len+xs.length→K (.own id 0 (len+xs.length) (len+xs.length)) (bV id ⟨b.ty,b.e,b.es.take len++xs⟩ hp))
 |none=>False
theorem NI(el:TypeId)(xs:List (List AV)):gr P el .nil (some xs) nx K hp=((gi P el).isSome=true∧P.bytesOf el≠0∧xs.length*P.bytesOf el≤140737488355328∧K (.own nx 0 xs.length xs.length) ((nx,⟨el,P.cellsOf el,xs⟩)::hp)):=rfl
theorem fy(el:TypeId)(xs:List (List AV))(id len a:Nat):gr P el (.own id 0 len a) (some xs) nx K hp=IE P el (lk id hp) id len a xs K hp:=rfl
def apF(P:Program)(el:TypeId)(b:Option Blk)(id len:Nat)(xs:List (List AV))(K:AV→Hp→Prop)(hp:Hp):Prop :=
 match b with
 |some b=>b.es.length=len∧b.ty=el∧b.e=P.cellsOf el∧(gi P el).isSome=true∧P.bytesOf el≠0∧(len+xs.length)*P.bytesOf el≤140737488355328∧K (.own id 0 (len+xs.length) (len+xs.length)) (bV id ⟨b.ty,b.e,b.es++xs⟩ hp)
 |none=>False
theorem zP(el:TypeId)(xs:List (List AV))(id len:Nat):gr P el (.own id 0 len len) (some xs) nx K hp=apF P el (lk id hp) id len xs K hp:=by
 rw[fy];unfold IE apF;cases o:lk id hp with
 |none=>rfl
 | some b =>
  simp only[eq_iff_iff];constructor;rintro⟨k,f,d,g,j,e,a,m⟩;refine⟨k,f,d,g,j,e,?_⟩;rcases Nat.eq_zero_or_pos xs.length with l|l;have i:xs=[]:=List.eq_nil_of_length_eq_zero l;subst i;have:=a aw;simpa using this;have:=m aq;rw[cx aq]at this;exact this;rintro⟨k,f,d,g,j,e,a⟩;refine⟨k,f,d,g,j,e,fun h=>?_,fun h=>?_⟩;have i:xs=[]:=List.eq_nil_of_length_eq_zero aq;subst i;simpa using a;rw[cx aq];exact a
theorem NJ(sz:Nat):dA hp sz .nil=some []:=rfl
theorem SY(sz e:Nat)(es:List (List DV)):dA hp sz (.d (.ro e es))=if e=sz then some (es.map fun r=>r.map .d)else none:=rfl
def roB(b:Option Blk)(sz i0 len a:Nat):Option (List (List AV)) :=
 match b with
 |some b=>if b.es.length=a∧b.e=sz then some ((b.es.drop i0).take len)else none
 |none=>none
theorem NK(sz id i0 len a:Nat):dA hp sz (.own id i0 len a)=roB (lk id hp) sz i0 len a:=rfl
def roR(a:Option (List AV))(n b e sz off len:Nat):Option (List (List AV)) :=
 match a with
 |some a=>if n=b∧e=sz then some ((List.range len).map fun k=>(a.drop (off+k*e)).take e)else none
 |none=>none
def roS(b:Option Blk)(sz i off e len a:Nat):Option (List (List AV)) :=
 match b with
 |some b=>roR b.es[i]? b.es.length a e sz off len
 |none=>none
theorem NL(sz id i off e len cap a:Nat):dA hp sz (.sub id i off e len cap a)=roS (lk id hp) sz i off e len a:=by
 simp only[dA,roS];cases lk id hp with
 |none=>rfl
 |some b =>
  simp only;cases b.es[i]?<;>rfl
theorem aaM(s x:Operand)(t u:TypeId):bZ P fr hp nx (.call ⟨.builtin .append,#[s,x],#[t,u]⟩) K=y5 P fr hp nx .append [s,x] [t,u] K:=rfl
theorem XK(v:DV):(AV.d v).cellsO=some [.d v]:=rfl
theorem XL(cs:List AV):(AV.agg cs).cellsO=some cs:=rfl
theorem NM(a b c d:Nat):(AV.own a b c d).cellsO=some [.own a b c d]:=rfl
theorem NN(a b c d e f g:Nat):(AV.sub a b c d e f g).cellsO=some [.sub a b c d e f g]:=rfl
theorem NP(a b c d:Nat):(AV.ptr a b c d).cellsO=some [.ptr a b c d]:=rfl
theorem NQ:(AV.nil).cellsO=some [.nil]:=rfl
theorem SZ(f:FuncId)(cs:List AV):(AV.fn f cs).cellsO=some [.fn f cs]:=rfl
theorem NR(cs:List DV):(AV.rop cs).cellsO=some [.rop cs]:=rfl
def XM(a:Bool)(k:TK)(v:AV)(K:AV→Hp→Prop)(hp:Hp):Prop :=
 match v,k with
 | .nil,.slice _=>K (.d (.bool a)) hp
 | .d (.ro _ es),.slice _=>∀b,(b=a→es.length=0)→K (.d (.bool b)) hp
 | .d (.rof _ es),.slice _=>∀b,(b=a→es.length=0)→K (.d (.bool b)) hp
 | .own _ _ len _,.slice _=>∀b,(b=a→len=0)→K (.d (.bool b)) hp
 | .sub _ _ _ _ len _ _,.slice _=>∀b,(b=a→len=0)→K (.d (.bool b)) hp
 |_,_=>False
theorem NS(t:TypeId)(v:AV):dr P .eql t v .nil K hp=XM true (cp P t) v K hp:=by
 unfold dr dO XM;cases v with
 |d dv=>cases dv<;>cases cp P t<;>rfl
 |_=>cases cp P t<;>rfl
theorem S3(t:TypeId)(a b:List Int):dr P .eql t (.d (.str a)) (.d (.str b)) K hp=K (.d (.bool (decide (a=b)))) hp:=rfl
theorem S4(t:TypeId)(a b:List Int):dr P .lss t (.d (.str a)) (.d (.str b)) K hp=K (.d (.bool (eK a b))) hp:=rfl
theorem S5(t:TypeId)(a b:List Int):dr P .leq t (.d (.str a)) (.d (.str b)) K hp=K (.d (.bool (eK a b||decide (a=b)))) hp:=rfl
theorem S7(t:TypeId)(a b:List Int):dr P .gtr t (.d (.str a)) (.d (.str b)) K hp=K (.d (.bool (!(eK a b||decide (a=b))))) hp:=rfl
theorem S9(t:TypeId)(a b:List Int):dr P .geq t (.d (.str a)) (.d (.str b)) K hp=K (.d (.bool (!eK a b))) hp:=rfl
theorem NT(t:TypeId)(a b:List Int):dr P .add t (.d (.str a)) (.d (.str b)) K hp=(a.length+b.length≤9223372036854775807∧K (.d (.str (a++b))) hp):=rfl
def clV(P:Program)(v:AV)(args:List AV)(hp:Hp)(N:Nat)(K:AV→Hp→Prop):Prop:=match v with
 | .fn g caps=>uX P g (args++caps) hp N K
 | .mth g caps=>uX P g (caps++args) hp N K
 |_=>False
theorem Ta(f:Tmp)(args:Array Operand)(a:Array TypeId):bZ P fr hp nx (.call ⟨.value (.tmp f),args,a⟩) K=clV P (fv f fr) (args.toList.map (ev fr)) hp nx K:=by
 simp only[bZ,clV,ev];cases fv f fr<;>rfl
theorem aaN(g:FuncId)(args a:List AV)(N:Nat):clV P (.fn g a) args hp N K=uX P g (args++a) hp N K:=rfl
theorem sE(f:FuncId)(x:Operand):bZ P fr hp nx (.makeFunc (.func f) #[x] #[]) K=K (.mth f [ev fr x]) hp:=by simp[bZ]
theorem aaO(f:FuncId)(a:Array Operand):bZ P fr hp nx (.makeFunc (.func f) #[] a) K=K (.fn f (a.toList.map (ev fr))) hp:=by simp[bZ]
def mxW(x y:AV)(K:AV→Hp→Prop)(hp:Hp):Prop :=
 match x,y with
 | .d (.int k m),.d (.int _ n)=>K (.d (.int k (if n>m then n else m))) hp
 |_,_=>False
theorem aaP(x y:Operand)(t u:TypeId):bZ P fr hp nx (.call ⟨.builtin .max,#[x,y],#[t,u]⟩) K=mxW (ev fr x) (ev fr y) K hp:=rfl
def mnW(x y:AV)(K:AV→Hp→Prop)(hp:Hp):Prop :=
 match x,y with
 | .d (.int k m),.d (.int _ n)=>K (.d (.int k (if n<m then n else m))) hp
 |_,_=>False
theorem aaQ(x y:Operand)(t u:TypeId):bZ P fr hp nx (.call ⟨.builtin .min,#[x,y],#[t,u]⟩) K=mnW (ev fr x) (ev fr y) K hp:=rfl
theorem Tc(t:TypeId)(a b:List Int):dr P .neq t (.d (.str a)) (.d (.str b)) K hp=K (.d (.bool (!decide (a=b)))) hp:=rfl
def bxW(t:TypeId)(v:AV)(nx:Nat)(K:AV→Hp→Prop)(hp:Hp):Prop :=
 match v with
 | .agg cs=>K (.ptr nx 0 0 1) ((nx,⟨t,cs.length,[cs]⟩)::hp)
 | .any=>False
 | .tup _=>False
 | .d v=>K (.ptr nx 0 0 1) ((nx,⟨t,1,[[.d v]]⟩)::hp)
 | .own a b c d=>K (.ptr nx 0 0 1) ((nx,⟨t,1,[[.own a b c d]]⟩)::hp)
 | .sub a b c d e f g=>K (.ptr nx 0 0 1) ((nx,⟨t,1,[[.sub a b c d e f g]]⟩)::hp)
 | .ptr a b c d=>K (.ptr nx 0 0 1) ((nx,⟨t,1,[[.ptr a b c d]]⟩)::hp)
 | .rop cs=>K (.ptr nx 0 0 1) ((nx,⟨t,1,[[.rop cs]]⟩)::hp)
 | .fn f cs=>K (.ptr nx 0 0 1) ((nx,⟨t,1,[[.fn f cs]]⟩)::hp)
 | .mth f cs=>K (.ptr nx 0 0 1) ((nx,⟨t,1,[[.mth f cs]]⟩)::hp)
 | .nil=>K (.ptr nx 0 0 1) ((nx,⟨t,1,[[.nil]]⟩)::hp)
 | .mp a=>K (.ptr nx 0 0 1) ((nx,⟨t,1,[[.mp a]]⟩)::hp)
theorem ad7(t:TypeId)(x:Operand):bZ P fr hp nx (.box t x) K=bxW t (ev fr x) nx K hp:=by
 simp only[bZ];cases ev fr x<;>rfl
def stR(P:Program)(t:TypeId)(id:Nat)(b:Blk)(i off:Nat)(g:List AV)(u:AV)(K:AV→Hp→Prop)(hp:Hp):Prop :=
 match u with
 | .agg cs=>cs.length=P.cellsOf t∧P.cellsOf t≠0∧off+cs.length≤g.length∧K .any (bV id ⟨b.ty,b.e,b.es.set i (g.take off++(cs++g.drop (off+cs.length)))⟩ hp)
 | .any=>False
 | .tup _=>False
 | .d v=>P.cellsOf t=1∧off<g.length∧K .any (bV id ⟨b.ty,b.e,b.es.set i (g.set off (.d v))⟩ hp)
 | .own a1 a2 a3 a4=>P.cellsOf t=1∧off<g.length∧K .any (bV id ⟨b.ty,b.e,b.es.set i (g.set off (.own a1 a2 a3 a4))⟩ hp)
 | .sub a1 a2 a3 a4 a5 a6 a7=>P.cellsOf t=1∧off<g.length∧K .any (bV id ⟨b.ty,b.e,b.es.set i (g.set off (.sub a1 a2 a3 a4 a5 a6 a7))⟩ hp)
 | .ptr a1 a2 a3 a4=>P.cellsOf t=1∧off<g.length∧K .any (bV id ⟨b.ty,b.e,b.es.set i (g.set off (.ptr a1 a2 a3 a4))⟩ hp)
 | .rop cs=>P.cellsOf t=1∧off<g.length∧K .any (bV id ⟨b.ty,b.e,b.es.set i (g.set off (.rop cs))⟩ hp)
 | .fn f cs=>P.cellsOf t=1∧off<g.length∧K .any (bV id ⟨b.ty,b.e,b.es.set i (g.set off (.fn f cs))⟩ hp)
 | .mth f cs=>P.cellsOf t=1∧off<g.length∧K .any (bV id ⟨b.ty,b.e,b.es.set i (g.set off (.mth f cs))⟩ hp)
 | .nil=>P.cellsOf t=1∧off<g.length∧K .any (bV id ⟨b.ty,b.e,b.es.set i (g.set off .nil)⟩ hp)
 | .mp a=>P.cellsOf t=1∧off<g.length∧K .any (bV id ⟨b.ty,b.e,b.es.set i (g.set off (.mp a))⟩ hp)
def stB(P:Program)(t:TypeId)(id:Nat)(b:Option Blk)(i off a:Nat)(u:AV)(K:AV→Hp→Prop)(hp:Hp):Prop :=
 match b with
 |some b=>(match b.es[i]? with
  |some row=>b.es.length=a∧stR P t id b i off row u K hp
  |none=>False)
 |none=>False
def stW(P:Program)(t:TypeId)(v u:AV)(K:AV→Hp→Prop)(hp:Hp):Prop :=
 match v with
 | .ptr id i off tot=>stB P t id (lk id hp) i off tot u K hp
 |_=>False
theorem ad9(t:TypeId)(x y:Operand):bZ P fr hp nx (.store t x y) K=stW P t (ev fr x) (ev fr y) K hp:=by
 simp only[bZ,stW];generalize ev fr x=v;generalize ev fr y=u;cases v with
 | ptr id i off tot =>
  simp only[stB];cases lk id hp with
  |none=>rfl
  |some b =>
   simp only;cases b.es[i]? with
   |none=>rfl
   |some row=>cases u<;>rfl
 |_=>rfl
theorem aea(t:TypeId):bZ P fr hp nx (.makeMap t none) K=(∀g,K (.mp nx) ((nx,⟨g,0,qJ []⟩)::hp)):=rfl
theorem aeb(t:TypeId)(m x:Operand):bZ P fr hp nx (.lookup t m x false) K=luW P t (ev fr m) (ev fr x) K hp:=rfl
theorem aec(t:TypeId)(m x v:Operand):bZ P fr hp nx (.mapUpdate t m x v) K=muW P t (ev fr m) (ev fr x) (ev fr v) K hp:=rfl
theorem aaR(x:Operand)(t:TypeId):bZ P fr hp nx (.call ⟨.builtin .len,#[x],#[t]⟩) K=y5 P fr hp nx .len [x] [t] K:=rfl
theorem XN(f:FuncId)(args:Array Operand)(a:Array TypeId):bZ P fr hp nx (.call ⟨.value (.func f),args,a⟩) K=uX P f (args.toList.map (ev fr)) hp nx K:=by
 simp[bZ,ev,uX]
end
section
variable (P:Program)
def skB(k:TK):Bool:=match k with
 | .slice _=>false
 |_=>true
theorem XO(b:BinOp)(t a:TypeId)(x y:Operand):be P (.binOp b t x y a)=skB (cp P t):=by
 simp only[be,skB];cases cp P t<;>rfl
theorem Td(x:Operand):be P (.move x)=true:=rfl
theorem KP(x:Operand):be P (.assign x)=true:=rfl
theorem Tf(x y z:Operand):be P (.pick x y z)=true:=rfl
theorem aaT(o:UnOp)(t:TypeId)(x:Operand):be P (.unOp o t x)=true:=rfl
theorem XP(x:Operand):be P (.nilCheck x)=true:=rfl
theorem aaU(x:Operand)(i:Nat):be P (.extract x i)=true:=rfl
theorem aaV(s t:TypeId)(x:Operand):be P (.convert s t x)=skB (cp P t):=by
 simp only[be,skB];cases cp P t<;>rfl
theorem XQ(t:TypeId)(x:Operand):be P (.sliceToArrayPointer t x)=true:=rfl
theorem aaW(t:TypeId)(x:Operand):be P (.load t x)=true:=rfl
theorem aaX(t:TypeId)(x:Operand)(i:Nat):be P (.fieldAddr t x i)=true:=rfl
theorem aaY(t:TypeId)(x y:Operand):be P (.indexAddr t x y)=true:=rfl
theorem aaZ(t:TypeId)(x:Operand)(i:Nat):be P (.field t x i)=true:=rfl
theorem XR(t:TypeId)(x y:Operand):be P (.index t x y)=true:=rfl
theorem aa0(t:TypeId)(x:Array (Nat×Operand)):be P (.build t x)=true:=rfl
theorem aa1(t:TypeId)(x:Operand)(a hi m:Option Operand):be P (.slice t x a hi m)=true:=rfl
theorem XS(x:Array Operand)(t:Array TypeId):be P (.call ⟨.builtin .len,x,t⟩)=true:=rfl
end
attribute [go_sem] aaQ mnW aea aeb aec S4 S5 S7 S9 NT Ta aaN aaO aaP mxW apS NB SR SS SU Ry XA agK agO adA adC sgR fE DW idO idS idX idW SV XR cvB aaH XF NA KL KN mkO adX aaI aaJ XH XG adY cpB aaK DX Xw List.getElem?_toArray Option.bind_some decide_not Bool.not_not Xb skB XO Td KP Tf aaT XP aaU aaV XQ aaW aaX aaY aa0 aa1 XS dM adT bdO XD XE Nz mX kp adV bsW bsO bsR wW adW XI XJ aaL NC SX ND slB NE slP NF NG NH AV.topLen apF NI zP NJ SY NK roB roR roS NL aaM XK XL NM NN NP NQ SZ NR XM NS S3 Tc Option.isSome_some List.length_replicate List.replicate_succ List.replicate_zero List.length_append adE unW XB aaF adG exW adJ cvW adK ldW ldB ldR ldO aaG XC adM Ny faO adO fdO aaZ adR ixW ixB ixO adS alW ad7 bxW ad9 stW stB stR Nq DU ah aas W9 aat Xa R9 Nr Xc Xd Si Sj Sl Sr Xe Xf Xg Xh Xi Xj Xk Xl Xm aav Xn Ss aaw aax aay Xo Xp Xq Xr adr aaz Xs aaA Xt aaB Su Xu ads aaC Xv adu adv adw adx Xx Ns Xy Nu Nv KJ Nw Nx aaE Sv Sz SA SB SC SD Xz SE GF SG SH SI SJ SK SL SN SQ aaR XN adt aaD ME y5 AV.slen List.length_map Int.toNat_natCast List.getElem?_map Option.map_some Int.natCast_nonneg ne_eq not_false_eq_true List.map_cons List.map_nil List.drop_zero List.drop_succ_cons List.length_cons List.length_nil List.take_succ_cons List.take_zero List.getElem?_cons_zero List.getElem?_cons_succ List.head?_cons List.set_cons_zero List.cons_append List.nil_append Nat.zero_add List.drop_nil Nat.add_zero true_and and_true
def qP{T:Type}(b:T→St)(a:T→Prop)(mu:T→Nat)(t:T)(Q:Exit→St→Prop):Exit→St→Prop
 | .normal,st=>∃t',a t'∧mu t'<mu t∧Wk st (b t')
 |e,st=>Q e st
theorem XT{T:Type}(b:T→St)(a:T→Prop)(mu:T→Nat)(t:T)(Q:Exit→St→Prop)(st:St):qP b a mu t Q .ret st=Q .ret st:=rfl
theorem XU{T:Type}(b:T→St)(a:T→Prop)(mu:T→Nat)(t:T)(Q:Exit→St→Prop)(st:St)(i:Nat):qP b a mu t Q (.exit i) st=Q (.exit i) st:=rfl
attribute [go_sem] XT XU
theorem ao{T:Type}{d:T→St}{a:T→Prop}{mu:T→Nat}{t:T}{Q:Exit→St→Prop}{st:St}(b:T)(f:a b)(g:mu b<mu t)(e:aA st (d b)):qP d a mu t Q .normal st:=⟨b,f,g,b8 e⟩
theorem NU{T:Type}{f:T→St}{b:T→Prop}{mu:T→Nat}{t:T}{Q:Exit→St→Prop}{st:St}(d:T)(h:b d)(i:mu d<mu t)(a:List Nat)(e:Fr)(hz:∀p,p∈e→Snap st.hp (fun id=>id∈a) (fv p.1 st.fr) p.2)(g:aA ⟨e++st.fr,aC a st.hp,st.nx⟩ (f d)):qP f b mu t Q .normal st:=⟨d,h,i,xk a e hz g⟩
theorem NV{T:Type}{d:T→St}{a:T→Prop}{mu:T→Nat}{t:T}{Q:Exit→St→Prop}{st:St}(b:T)(f:a b)(g:mu b<mu t)(e:Wk st (d b)):qP d a mu t Q .normal st:=⟨b,f,g,e⟩
theorem na{P:Program}{n:Nat}{x:Code}{Q:Exit→St→Prop}{st:St}{T:Type}(b:T→St)(a:T→Prop)(mu:T→Nat)(d:T)(k:a d)(p:Wk st (b d))
  (h:∀t,a t→oL P n x (qP b a mu t Q) (b t)):LpW P n x Q st:=by
 refine⟨fun m st=>∃t,mu t=m∧a t∧st=b t,⟨mu d,b d,p,d,rfl,k,rfl⟩,?_⟩;rintro m _⟨t,rfl,o,rfl⟩;have:DO (fun m st=>∃t,mu t=m∧a t∧st=b t) (mu t) Q=qP b a mu t Q:=by
  funext e st;cases e<;>try rfl
  simp only[DO,qP,eq_iff_iff];constructor;rintro⟨q,l,j,i,f,rfl,g,rfl⟩;exact⟨f,g,j,i⟩;rintro⟨f,g,j,i⟩;exact⟨mu f,b f,j,i,f,rfl,g,rfl⟩
 rw[this];exact h t o
theorem av{P:Program}{n:Nat}{x:Code}{Q:Exit→St→Prop}{st:St}{T:Type}(b:T→St)(a:T→Prop)(mu:T→Nat)(d:T)(f:a d)(e:aA st (b d))
  (h:∀t,a t→oL P n x (qP b a mu t Q) (b t)):LpW P n x Q st:=na b a mu d f (b8 e) h
theorem ug{P:Program}{g:FuncId}{args:List AV}{hp:Hp}{N:Nat}{K:AV→Hp→Prop}{r:AV}(h:rY P g args r)(a:K r hp):uX P g args hp N K:=.inr ⟨r,h,a⟩
theorem NW{P:Program}{g:FuncId}{args:List AV}{hp:Hp}{N:Nat}{K:AV→Hp→Prop}{Q:AV→Prop}(h:ar P g args Q)(b:∀v,v∈args→v.deep)(a:∀r,Q r→K r hp):uX P g args hp N K:=.inl (zO h b a)
theorem ag{P:Program}{g:FuncId}{args:List AV}{hp:Hp}{N:Nat}{K:AV→Hp→Prop}{r:AV}(h:ar P g args (fun x=>x=r))(b:∀v,v∈args→v.deep)(a:K r hp):uX P g args hp N K:=.inl (zO h b (fun _ e=>by rw[e];exact a))
theorem bJ(a:List Nat){P:Program}{g:FuncId}{args args':List AV}{hp:Hp}{N:Nat}{K:AV→Hp→Prop}{r:AV}(h:ar P g args' (fun x=>x=r))(b:args.length=args'.length)
  (f:∀(i:Nat)(v d:AV),args[i]?=some v→args'[i]?=some d→Snap hp (fun id=>id∈a) v d) (j:K r (aC a hp)):uX P g args hp N K:=.inl (DT a h b f (fun _ e=>by rw[e];exact j))
theorem ju{P:Program}{g:FuncId}{args args':List AV}{hp:Hp}{N:Nat}{K:AV→Hp→Prop}{r:AV}(h:ar P g args' (fun x=>x=r))(a:args.length=args'.length)
  (f:∀(i:Nat)(v b:AV),args[i]?=some v→args'[i]?=some b→Snap hp (fun _=>True) v b) (d:r.flat) (j:K r hp):uX P g args hp N K:=.inl (DR h a f (fun _ e=>by rw[e];exact d) (fun _ e=>by rw[e];exact j))
theorem aF{hp:Hp}{I:Nat→Prop}{args':List AV}:∀(i:Nat)(v a:AV),([]:List AV)[i]?=some v→args'[i]?=some a→Snap hp I v a:=by intro i v a h;simp at h
theorem ak{hp:Hp}{I:Nat→Prop}{a a':AV}{args args':List AV}(h:Snap hp I a a')(t:∀(i:Nat)(v b:AV),args[i]?=some v→args'[i]?=some b→Snap hp I v b):∀(i:Nat)(v b:AV),(a::args)[i]?=some v→(a'::args')[i]?=some b→Snap hp I v b:=by
 intro i v b e d;cases i with
 |zero=>simp at e d;subst e;subst d;exact h
 |succ i=>simp at e d;exact t i v b e d
theorem ca{hp:Hp}{I:Nat→Prop}{args':List AV}:∀(i:Nat)(v a:AV),([]:List AV)[i]?=some v→args'[i]?=some a→fP hp I v a:=by intro i v a h;simp at h
theorem ax{hp:Hp}{I:Nat→Prop}{a a':AV}{args args':List AV}(h:fP hp I a a')(t:∀(i:Nat)(v b:AV),args[i]?=some v→args'[i]?=some b→fP hp I v b):∀(i:Nat)(v b:AV),(a::args)[i]?=some v→(a'::args')[i]?=some b→fP hp I v b:=by
 intro i v b e d;cases i with
 |zero=>simp at e d;subst e;subst d;exact h
 |succ i=>simp at e d;exact t i v b e d
theorem aM{hp:Hp}{I:Nat→Prop}{v:AV}(h:v.deep1):fP hp I v v:=.inl ⟨rfl,h⟩
theorem am{hp:Hp}{I:Nat→Prop}{v:AV}{d:DV}(h:SnapD hp I v d):fP hp I v (.d d):=.inr ⟨d,rfl,h⟩
theorem a9{P:Prop}(h:P:=by simp[AV.deep,AV.deep1]):P:=h
def a_:List Nat → Tr
|[]=>.done
|n::r=>.step n [] false (a_ r)
abbrev bt(n:Nat)(t:Tr):=Tr.step n [] true t
abbrev bx(n:Nat)(t:Tr):=Tr.step n [] false t
end Go.Proofs.YtmfnimjnneflnaaGreat
