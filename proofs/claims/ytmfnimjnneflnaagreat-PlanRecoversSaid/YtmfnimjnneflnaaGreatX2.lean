/-
 Part 3 of what the claim rests on.
-/
import Derived.Test.YtmfnimjnneflnaaGreatX1
set_option linter.unusedVariables false
set_option linter.unusedSimpArgs false
set_option maxRecDepth 100000
set_option maxHeartbeats 16000000
namespace Go.Am
inductive Tr where
 |done
 |alt (a b:Tr)
 |step (i:Nat) (zs:List Nat) (keep:Bool) (t:Tr)
def Vv(i:Nat)(a:List Nat):List Nat:=a.filter fun j=>j != i
def AN(a b:List Nat):List Nat:=a.filter fun z=>!b.contains z
theorem sk{i k:Nat}{a:List Nat}:k∈Vv i a↔k∈a∧k≠i:=by simp[Vv]
theorem gl{a b:List Nat}{k:Nat}:k∈AN a b↔k∈a∧k ∉ b:=by simp[AN]
def oO:Tr→List Nat
 | .done=>[]
 | .alt a b=>oO a++oO b
 | .step i _ _ _=>[i]
def Wv(a:List Nat)(hs:List Nat)(t:Tr):Bool:=hs.all fun j=>(oO t).contains j||hs.any fun p=>wt a j p
def Ri(ops:Array Oper)(a:List Nat)(t:Tr):Prop:=∀j,j∈a→j∈oO t∨∃p,p∈a∧Waits ops j p
def Ww(ops:Array Oper)(z:Nat):Bool:=match ops[z]? with
 |some o=>JZ o.op
 |none=>false
def Vw(ops:Array Oper)(e za is:List Nat):List Nat→List Nat→Tr→Bool
 |zv,hs,.done=>hs.isEmpty&&za.all fun z=>zv.contains z
 |zv,hs,.alt a b=>Vw ops e za is zv hs a&&Vw ops e za is zv hs b
 | zv,hs,.step i zs keep t=>hs.contains i && (keep || za.all fun z=>Ww ops z || wt e i z || is.any fun h=>!hs.contains h && wt e h z) && (match cq ops i with
   |some d=>zv.all fun z=>!(ik ops z).contains d||wt e i z
   |none=>true)&&(zs.all fun z=>wt e z i)&&(zs.all fun z=>za.contains z)&&gW ops (zv++zs)&&eH (zv++zs)&&Wv e (Vv i hs) t&&Vw ops e za is (zv++zs) (Vv i hs) t
def MH(ops:Array Oper)(e is:List Nat):List Nat→List Nat→Tr→Prop
 |zv,hs,.done=>hs=[]∧∀z,z∈e→z∈zv
 |zv,hs,.alt a b=>MH ops e is zv hs a∧MH ops e is zv hs b
 | zv,hs,.step i zs keep t=>(i ∈ hs∧(keep=false→∀ z,z ∈ e→Ww ops z=false→Waits ops i z ∨ ∃ h,h ∈ is∧h ∉ hs∧Waits ops h z))∧(∀ d,cq ops i=some d→∀ z,z ∈ zv→d ∈ ik ops z→Waits ops i z)∧(∀ z,z ∈ zs→Waits ops z i)∧(∀ z,z ∈ zs→z ∈ e) ∧
   gW ops (zv++zs)=true∧eH (zv++zs)=true∧Ri ops (Vv i hs) t∧MH ops e is (zv++zs) (Vv i hs) t
theorem MI{ops:Array Oper}{a:List Nat}{t:Tr}(h:Wv (Wt ops) a t=true):Ri ops a t:=by
 intro j b;have:=d9.1 h j b;rw[Bool.or_eq_true]at this;rcases this with h|h;exact .inl (by simpa using h);obtain⟨p,e,d⟩:=List.any_eq_true.1 h;exact .inr ⟨p,e,lj d⟩
theorem H5{ops:Array Oper}{p is:List Nat}:∀(t:Tr){f j:List Nat},Vw ops (Wt ops) p is f j t=true→MH ops p is f j t
 | .done,f,j,h=>by
  simp only[Vw,Bool.and_eq_true,List.isEmpty_iff]at h;exact⟨h.1,fun z e=>by simpa using d9.1 h.2 z e⟩
 | .alt a b,f,j,h=>by
  simp only[Vw,Bool.and_eq_true]at h;exact⟨H5 a h.1,H5 b h.2⟩
 | .step i zs keep t,f,j,h=>by
  simp only[Vw,Bool.and_eq_true]at h;obtain⟨⟨⟨⟨⟨⟨⟨⟨r,o⟩,m⟩,B⟩,A⟩,D⟩,E⟩,u⟩,C⟩:=h;refine⟨⟨by simpa using r,fun v z e k=>?_⟩,fun d x z e s=>?_,fun z e=>lj (d9.1 B z e),fun z e=>by simpa using d9.1 A z e,D,E,MI u,H5 t C⟩
  rw[v,Bool.false_or]at o;have g:=d9.1 o z e;rw[k,Bool.false_or,Bool.or_eq_true]at g;rcases g with h|h;exact .inl (lj h);obtain⟨q,y,l⟩:=List.any_eq_true.1 h;rw[Bool.and_eq_true]at l;exact .inr ⟨q,y,by simpa using l.1,lj l.2⟩;simp only[x]at m;have:=d9.1 m z e;simp only[s,List.contains_eq_mem,decide_true,Bool.not_true,Bool.false_or]at this;exact lj this
section
variable (P:Program) (ops:Array Oper) (base:Nat) (hp0:Hp) (K:Fr→Hp→Prop)
def yK:Tr→Fr→Hp→Prop
 | .done,fr,hp=>K fr hp
 | .alt a b,fr,hp=>yK a fr hp∧yK b fr hp
 | .step i zs keep t,fr,hp=>match ops[i]? with
  | some o=>(match o.guard with
   |none=>bS P fr hp (base+32*i) o.op fun v hp'=>(keep=true→dI hp0 hp')∧zW P ops base hp0 (fun fr=>yK t fr hp') zs (bp fr o.dst v)
   | some (g,want)=>(match (ops[g]?).bind (·.dst) with
    |some d=>(match fv d fr with
     | .d (.bool b)=>(b=want→bS P fr hp (base+32*i) o.op fun v hp'=>(keep=true→dI hp0 hp')∧zW P ops base hp0 (fun fr=>yK t fr hp') zs (bp fr o.dst v)) ∧
       (b=!want→zW P ops base hp0 (fun fr=>yK t fr hp) zs (bp fr o.dst (.tup [])))
     | .tup []=>zW P ops base hp0 (fun fr=>yK t fr hp) zs (bp fr o.dst (.tup []))
     |_=>False)
    |none=>False))
  |none=>False
end
section
variable {P:Program} {c:Ctx} {ops:Array Oper} {base:Nat} {hp0:Hp} {K:Fr→Hp→Prop} {fr fr':Fr}
theorem Do{e is d:List Nat}{hp:Hp}:∀(t:Tr),MH ops e is d [] t→yK P ops base hp0 K t fr hp→K fr hp
 | .done,_,h=>h
 | .alt a b,hT,h=>Do a hT.1 h.1
 | .step i d keep t,hT,h=>by have:=hT.1.1;simp at this
theorem wP{g is:List Nat}:∀(t:Tr){d f:List Nat}{z:Nat},MH ops g is d f t→z∈g→z ∉ d→∃p,p∈f∧Waits ops z p
 | .done,d,f,z,hT,h1,h2=>absurd (hT.2 z h1) h2
 | .alt a b,d,f,z,hT,h1,h2=>wP a hT.1 h1 h2
 | .step i zj keep t,d,f,z,hT,h1,h2=>by
  obtain⟨j,q,o,v,r,s,u,k⟩:=hT;rcases Classical.em (z∈zj)with h|h;exact⟨i,j.1,o z h⟩;obtain⟨p,l,m⟩:=wP t k h1 (fun e=>(cL.1 e).elim h2 h);exact⟨p,(sk.1 l).1,m⟩
theorem tQ{e is d f:List Nat}{hp:Hp}{i:Nat}:∀(t:Tr),i∈oO t→MH ops e is d f t→yK P ops base hp0 K t fr hp→∃zj keep t',MH ops e is d f (.step i zj keep t')∧yK P ops base hp0 K (.step i zj keep t') fr hp
 | .done,h,_,_=>by simp[oO]at h
 | .alt a b,h,hT,hW=>by
  rcases cL.1 h with h|h;exact tQ a h hT.1 hW.1;exact tQ b h hT.2 hW.2
 | .step j zj keep t',h,hT,hW=>by
  simp only[oO,List.mem_singleton]at h;subst h;exact⟨zj,keep,t',hT,hW⟩
/-- Every order. -/
theorem Wx {za is:List Nat} {Q:Exit→Act→World→Prop} (hB:RegOk c.n ops za is)
  (hQ:∀fr hp a w U,K fr hp→(∀k,U k→k<base+32*ops.size)→ox c fr hp U a w→Q .normal a w) :
  ∀(fuel:Nat)(listed:Array Bool)(zs hs:List Nat)(t:Tr)(fr:Fr)(hp:Hp)(a:Act)(w:World),Rf listed≤fuel→MH ops za is zs hs t→Ri ops hs t→(∀i,i∈hs→i∈is)→(∀z,z∈zs→z∈za) →
   RInv P c ops base hp0 (za.filter fun z=>!Ww ops z) zs (hs++AN za zs) listed fr hp a w→yK P ops base hp0 K t fr hp→wpAny P .any ops Q fuel listed a w:=by
 have notboth:∀{listed:Array Bool}{i:Nat},listed.getD i true=false→listed.getD i false=true→False:=by
  intro listed i h1 h2;rw[kN h2]at h1;cases h1
 -- where nothing is left
 have uO:∀ (listed:Array Bool) (zs hs:List Nat) (t:Tr) (fr:Fr) (hp:Hp) (a:Act) (w:World),MH ops za is zs hs t→(∀ i,i ∈ hs→i ∈ is)→RInv P c ops base hp0 (za.filter fun z=>!Ww ops z) zs (hs ++ AN za zs) listed fr hp a w→yK P ops base hp0 K t fr hp→Region.ready .any ops listed=[]→Q .normal a w:=by
  intro listed zs hs t fr hp a w hT hsub hI hW hr0;have all:∀k j,j≤k→j<ops.size→listed.getD j false=true:=by
   intro k
   induction k with
   | zero =>
    intro j hj hjs;cases hl:listed.getD j false with
    |true=>rfl
    | false =>
     have hmem:j∈Region.ready .any ops listed:=mem_ready.2 ⟨jT (by rw[hI.size];exact hjs) hl,ops[j],dn hjs,fun e he hb=>by
      have:=hB.low j _ (dn hjs) e he hb
      omega⟩
     rw[hr0]at hmem;simp at hmem
   | succ k ih =>
    intro j hj hjs;cases hl:listed.getD j false with
    |true=>rfl
    | false =>
     have hmem:j∈Region.ready .any ops listed:=mem_ready.2 ⟨jT (by rw[hI.size];exact hjs) hl,ops[j],dn hjs,fun e he hb=>by
      have:=hB.low j _ (dn hjs) e he hb
      exact ih e.on aq aq⟩
     rw[hr0]at hmem;simp at hmem
  have hnil:hs=[]:=by
   cases hs with
   |nil=>rfl
   |cons j r =>
    have h1:=hI.un j (cL.2 (.inl (d7 ..)));exact(notboth h1 (all j j (cR _) (hB.inb j (hsub j (d7 ..))))).elim
  subst hnil;have hW:=Do t hT hW;obtain⟨U,σ,hr,hh,hU,hf⟩:=hI.sim;refine hQ fr hp a w U hW (fun k hk=>?_) ⟨hI.def_,hI.tmps,σ,hr,fun t=>hf t fun z hz hun=>?_,hh⟩;rcases hU k hk with h|⟨j,hj1,hj2,hj⟩;omega;have:j<listed.size:=by
   rcases Nat.lt_or_ge j listed.size with h|h;exact h;simp[Array.getElem?_eq_none h]at hj
  have:=hI.size;omega;intro he;have:z<ops.size:=by
   rcases Nat.lt_or_ge z ops.size with h|h;exact h;simp[cq,Array.getElem?_eq_none h]at he
  exact notboth hun (all z z (cR _) this)
 intro fuel
 induction fuel with
 | zero =>
  intro listed zs hs t fr hp a w hf hT hcov hsub hza hI hW;have hr0:Region.ready .any ops listed=[]:=by
   rw[List.eq_nil_iff_forall_not_mem];intro i hi;have:=vF (mem_ready.1 hi).1;omega
  exact⟨hr0,uO listed zs hs t fr hp a w hT hsub hI hW hr0⟩
 | succ fuel ih =>
  intro listed zs hs tr fr hp a w hfuel hT hcov hsub hza hI hW;refine⟨uO listed zs hs tr fr hp a w hT hsub hI hW,fun i hi=>?_⟩;obtain⟨hun,o,ho,haft⟩:=mem_ready.1 hi;have his:i<ops.size:=(Array.getElem?_eq_some_iff.1 ho).1;have hil:i<listed.size:=by rw[hI.size];exact his
  have hdi:cq ops i=o.dst:=by simp[cq,ho]
  have hli:ik ops i=o.looksAt ops:=by simp[ik,ho]
  have hwl:∀z,Waits ops i z→listed.getD z false=true:=fun z hz=>nD hI.closed hz fun o' ho'=>by
   rw[ho]at ho';injection ho' with ho';subst ho';exact haft
  have hzza:∀z,z∈zs→z∈za:=hza;have hdst:gQ c.n o.dst:=by
   unfold gQ;cases hd:o.dst with
   |none=>trivial
   |some d=>exact hB.lt i d (by rw[hdi,hd])
  have hun':∀z,(listed.setIfInBounds i true).getD z true=false→listed.getD z true=false∧z≠i:=by
   intro z hz;rw[aK true hil]at hz;split at hz;cases hz;rename_i hne;exact⟨hz,fun h=>hne h.symm⟩
  have hclosed':∀j o',ops[j]?=some o'→(listed.setIfInBounds i true).getD j false=true→∀e,e∈o'.after→Region.binds .any e=true→(listed.setIfInBounds i true).getD e.on false=true:=by
   intro j o' hj hl e he hb;rw[aK false hil]at hl⊢;split;rfl;split at hl;rename_i hij;subst hij;rw[ho]at hj;injection hj with hj;subst hj;exact haft e he hb;exact hI.closed j o' hj hl e he hb
  have hfuel':Rf (listed.setIfInBounds i true)≤fuel:=by
   have:=vF hun;omega
  obtain⟨U,σ,hr,hh,hU,hf⟩:=hI.sim;have hNU:Free U (base+32*i):=by
   intro k k1 k2 h;rcases hU _ h with h|⟨j,hj,hj2,hl⟩;omega;have:j=i:=aq;subst this;exact notboth hun hl
  have hU':∀k,eG U (base+32*i) k→k<base∨∃j,base+32*j≤k∧k<base+32*j+32∧(listed.setIfInBounds i true).getD j false=true:=by
   rintro k(h|h);rcases hU k h with h|⟨j,h1,h1',h2⟩;exact .inl h;exact .inr ⟨j,h1,h1',by rw[aK false hil];split<;>simp[h2]⟩;exact .inr ⟨i,h.1,h.2,by rw[aK false hil];simp⟩
  obtain⟨frm,hm1,hm2⟩:=F3 fr (zs.filterMap fun z=>if listed.getD z true=true then none else cq ops z);have hml:∀t,t∈(zs.filterMap fun z=>if listed.getD z true=true then none else cq ops z)↔∃z,z∈zs∧listed.getD z true=false∧cq ops z=some t:=by
   intro t;rw[List.mem_filterMap];constructor;rintro⟨z,hz,h⟩;split at h;cases h;rename_i hne;exact⟨z,hz,by simpa using hne,h⟩;rintro⟨z,hz,h1,h2⟩;exact⟨z,hz,by simp[h1,h2]⟩
  have hfm:∀t,AIs w (bQ c w σ hp) σ hp U (fv t frm) (a.tmps.getD t undef):=by
   intro t;by_cases hm:t∈(zs.filterMap fun z=>if listed.getD z true=true then none else cq ops z);rw[hm1 t hm];exact .any _;rw[hm2 t hm];exact hf t fun z hz hzu he=>hm ((hml t).2 ⟨z,hz,hzu,he⟩)
  have hlook:∀t,t∈o.looksAt ops→fv t frm=fv t fr:=by
   intro t ht';refine hm2 t fun hm=>?_;obtain⟨z,hz,hzu,he⟩:=(hml t).1 hm;exact notboth hzu (hwl z (hB.zdst z (hzza z hz) t he i (by rw[hli];exact ht')))
  have hlook':∀t,t∈o.looksAt ops→fv t fr=fv t frm:=fun t ht'=>(hlook t ht').symm;have hgu:∀{g want d},o.guard=some (g,want)→(ops[g]?).bind (·.dst)=some d→fv d fr=.tup []→¬(yielded ops a.tmps g=some want):=by
   intro g want d hg hd hb;have hx:=hfm d;rw[hlook d (kh hg hd),hb]at hx;unfold yielded;rw[hd];cases ht:a.tmps[d]? with
   |none=>simp[ht]
   |some u =>
    have e:a.tmps.getD d undef=u:=(by simp[ht]);rw[e]at hx;cases hx with
    |tup _ xs _ _=>simp[ht]
  have hgv:∀{g want d b},o.guard=some (g,want)→(ops[g]?).bind (·.dst)=some d→fv d fr=.d (.bool b)→yielded ops a.tmps g=some b:=by
   intro g want d b hg hd hb;have hx:=hfm d;rw[hlook d (kh hg hd),hb]at hx;have hv:=gG hx;unfold yielded;rw[hd];have hv':a.tmps[d]?.getD undef=.bool b:=by simpa using hv
   cases ht:a.tmps[d]? with
   |none=>rw[ht]at hv';cases hv'
   |some u=>rw[ht]at hv';simp at hv';subst hv';simp[ht]
  unfold wpOp;simp only[ho];by_cases hz:i∈zs
  ·
   have hopw:∀(K':AV→Hp→Prop)(v:AV),mQ P frm hp0 o.op v→K' v hp→bS P frm hp (base+32*i) o.op K':=by
    intro K' v hs hk;rcases hI.sa with h|h;exact hs hp _ K' h hk;have hn:JZ o.op=true:=by
     cases hn:JZ o.op with
     |true=>rfl
     |false =>
      have:=h i (List.mem_filter.2 ⟨hzza i hz,by simp[Ww,ho,hn]⟩);rw[hun]at this;cases this
    exact Rb hn hs hp _ K' hk
   have hsa':uJ hp0 hp∨∀z,z∈(za.filter fun z=>!Ww ops z)→(listed.setIfInBounds i true).getD z true=true:=hI.sa.imp id fun h z hz'=>by
    rw[aK true hil];split;rfl;exact h z hz'
   have hirest:i ∉ hs++AN za zs:=fun h=>by
    rcases cL.1 h with h|h;exact(hB.part i his).2 ⟨hzza i hz,hsub i h⟩;exact(gl.1 h).2 hz
   obtain⟨v,o',ho',hdv,hzk⟩:=hI.facts i hz hun;rw[ho]at ho';injection ho' with ho';subst ho';have next:∀a' w',ox c (bp frm o.dst v) hp (eG U (base+32*i)) a' w'→wpAny P .any ops Q fuel (listed.setIfInBounds i true) a' w':=by
    rintro a' w'⟨q1,q2,σ',q3,q4,q5⟩;refine ih _ zs hs tr fr hp a' w' hfuel' hT hcov hsub hza ⟨by simp[hI.size],hclosed',fun j hj=>?_,fun j hj hjz hjr=>?_,q1,q2,⟨_,σ',q3,q5,hU',fun t htu=>?_⟩,fun z hz' hzu=>hI.facts z hz' (hun' z hzu).1,hsa'⟩ hW;rw[aK true hil,if_neg (fun e=>hirest (by rw[e];exact hj))];exact hI.un j hj;rw[aK false hil];split;rfl;exact hI.done j hj hjz hjr;have:=q4 t;by_cases hd:o.dst=some t;rw[hd,ki]at this;rw[hdv t hd];exact this;rw[mE hd,hm2 t fun hm=>?_]at this;exact this;obtain⟨z,hz',hzu,he⟩:=(hml t).1 hm;refine htu z hz' ?_ he;rw[aK true hil,if_neg];exact hzu;intro e;subst e;exact hd (by rw[←hdi];exact he)
   have exec:mQ P fr hp0 o.op v→o.wp P a w (wpAny P .any ops Q fuel (listed.setIfInBounds i true)) Q:=by
    intro hs;have hop:=hopw (fun v' hp'=>v'=v∧hp'=hp) v (lY hlook' hs) ⟨rfl,rfl⟩;have hok:=rZ (o:=o) hr (fun x=>yW hfm x) hNU hop;refine rR hI.def_ hI.tmps hdst hfm hh hok fun v' hp' a' w' hK hS=>?_;obtain⟨rfl,rfl⟩:=hK;exact next a' w' hS
   unfold MF at hzk;split at hzk;rename_i hg;rw[if_pos (by simp[Region.wanted,hg])];exact .inl (exec hzk)
   ·rename_i g want hg;obtain⟨d,hd,⟨b,hb,h1,h2⟩|⟨hb,hv⟩⟩:=hzk
    ·have hy:=hgv hg hd hb;by_cases hbw:b=want;rw[if_pos (by simp[Region.wanted,hg,hy,hbw])];exact .inl (exec (h1 hbw))
     ·rw[if_neg (by simp[Region.wanted,hg,hy,hbw])];have hv:=h2 (by cases b<;>cases want<;>simp_all)
      subst hv;exact next _ _ (lZ hI.def_ hI.tmps hr hh hfm)
    ·have hy:=hgu hg hd hb;rw[if_neg (by simp[Region.wanted,hg,hy])];subst hv;exact next _ _ (lZ hI.def_ hI.tmps hr hh hfm)
  ·
   have hir:i∈hs++AN za zs:=by
    rcases Classical.em (i∈hs++AN za zs)with h|h;exact h;exact(notboth hun (hI.done i his hz h)).elim
   have far:∀p,p∈hs→Waits ops i p→False:=fun p hp1 hp2=>notboth (hI.un p (cL.2 (.inl hp1))) (hwl p hp2);have hih:i∈hs:=by
    rcases cL.1 hir with h|h;exact h;obtain⟨p,hp1,hp2⟩:=wP tr hT (gl.1 h).1 (gl.1 h).2;exact(far p hp1 hp2).elim
   have hfi:i∈oO tr:=by
    rcases hcov i hih with h|⟨p,hp1,hp2⟩;exact h;exact(far p hp1 hp2).elim
   obtain⟨zj,keep,t',hT',hW'⟩:=tQ tr hfi hT hW;clear hT hW hcov hfi;obtain⟨p1,p2,p3,p4,p5,p6,p7,p8⟩:=hT';have hW:=hW';clear hW'
   ·have hiza:i ∉ za:=fun h=>(hB.part i his).2 ⟨h,hsub i hih⟩;have hzj:∀z,z∈zj→z∈za:=p4;have hza':∀z,z∈zs++zj→z∈za:=fun z hz'=>(cL.1 hz').elim (hza z) (p4 z);have hordj:=ll p5;have hnzj:=jK p6;have hmr:∀{k},k∈Vv i hs++AN za (zs++zj)→k∈hs++AN za zs∧k≠i:=by
     intro k hk;rcases cL.1 hk with h|h;exact⟨cL.2 (.inl (sk.1 h).1),(sk.1 h).2⟩;have h':=gl.1 h;exact⟨cL.2 (.inr (gl.2 ⟨h'.1,fun e=>h'.2 (cL.2 (.inl e))⟩)),fun e=>hiza (by rw[←e];exact h'.1)⟩
    have hunj:∀z,z∈zj→listed.getD z true=false:=fun z hz'=>hI.un z (cL.2 (.inr (gl.2 ⟨hzj z hz',fun e=>hnzj.2.2 z e hz'⟩)));simp only[yK,ho]at hW;have next:∀v hp' a' w',(keep=true→uJ hp0 hp'∨∀z,z∈(za.filter fun z=>!Ww ops z)→listed.getD z true=true)→zW P ops base hp0 (fun fr=>yK P ops base hp0 K t' fr hp') zj (bp fr o.dst v)→ox c (bp frm o.dst v) hp' (eG U (base+32*i)) a' w'→wpAny P .any ops Q fuel (listed.setIfInBounds i true) a' w':=by
     rintro v hp' a' w' hsa hW'⟨q1,q2,σ',q3,q4,q5⟩;obtain⟨frZ,g1,g2,g3⟩:=oN hB.uniq zj _ hordj.2.1 hnzj.2.1 hW';refine ih _ (zs++zj) (Vv i hs) t' frZ hp' a' w' hfuel' p8 p7 (fun k hk=>hsub k (sk.1 hk).1) hza' ⟨by simp[hI.size],hclosed',fun k hk=>?_,fun k hk hkz hkr=>?_,q1,q2,⟨_,σ',q3,q5,hU',fun t htu=>?_⟩,fun z hz' hzu=>?_,?_⟩ g1;rw[aK true hil,if_neg (fun e=>(hmr hk).2 e.symm)];exact hI.un k (hmr hk).1;rw[aK false hil];split;rfl;rename_i hne;exact hI.done k hk (fun h=>hkz (cL.2 (.inl h))) (fun h=>by
      rcases cL.1 h with h|h;exact hkr (cL.2 (.inl (sk.2 ⟨h,fun e=>hne e.symm⟩)))
      exact hkr (cL.2 (.inr (gl.2 ⟨(gl.1 h).1,hkz⟩))))
     have hnj:∀z,z∈zj→cq ops z≠some t:=fun z hz'=>htu z (cL.2 (.inr hz')) (by
      rw[aK true hil,if_neg (fun e=>hiza (by rw[e];exact hzj z hz'))]
      exact hunj z hz')
     rw[g2 t hnj];have:=q4 t;by_cases hd:o.dst=some t;rw[hd,ki]at this⊢;exact this;rw[mE hd]at this⊢;rw[hm2 t fun hm=>?_]at this;exact this;obtain⟨z,hz',hzu,he⟩:=(hml t).1 hm;refine htu z (cL.2 (.inl hz')) ?_ he;rw[aK true hil,if_neg (fun e=>hz (by rw[e];exact hz'))];exact hzu;rcases cL.1 hz' with hz'|hz';obtain⟨hzu1,hzi⟩:=hun' z hzu;obtain⟨vz,oz,hoz,hdz,hzk⟩:=hI.facts z hz' hzu1;have hdz':cq ops z=oz.dst:=(by simp[cq,hoz]);have hlz:ik ops z=oz.looksAt ops:=(by simp[ik,hoz]);refine⟨vz,oz,hoz,fun d hd=>?_,tP (fun t ht'=>?_) hzk⟩;rw[g2 d fun y hy he=>?_,mE];exact hdz d hd;intro he;exact hzi (hB.uniq z i d (by rw[hdz'];exact hd) (by rw[hdi];exact he));have:=hB.uniq z y d (by rw[hdz'];exact hd) he;subst this;exact hnzj.2.2 z hz' hy;rw[g2 t fun y hy=>hordj.2.2 z hz' y hy t (by rw[hlz];exact ht'),mE];intro he;exact notboth hzu1 (hwl z (p2 t (by rw[hdi];exact he) z hz' (by rw[hlz];exact ht')));exact g3 z hz';cases hk:keep with
     | false =>
      right;intro z hz';have hz'':=List.mem_filter.1 hz';have:listed.getD z false=true:=by
       rcases p1.2 hk z hz''.1 (by simpa using hz''.2)with h|⟨q,h1,h2,h3⟩;exact hwl z h;have hqz:q ∉ za:=fun e=>(hB.part q (hB.inb q h1)).2 ⟨e,h1⟩;have hl:=hI.done q (hB.inb q h1) (fun e=>hqz (hza q e)) (fun e=>(cL.1 e).elim h2 fun e=>hqz (gl.1 e).1);exact nD hI.closed h3 fun o' ho'=>hI.closed q o' ho' hl
      rw[aK true hil];split;rfl;exact kN this
     | true =>
      rcases hsa hk with h|h;exact .inl h;right;intro z hz';rw[aK true hil];split;rfl;exact h z hz'
    have exec:bS P fr hp (base+32*i) o.op (fun v hp'=>(keep=true→dI hp0 hp')∧zW P ops base hp0 (fun fr=>yK P ops base hp0 K t' fr hp') zj (bp fr o.dst v))→o.wp P a w (wpAny P .any ops Q fuel (listed.setIfInBounds i true)) Q:=by
     intro hop;rw[tN (wM hlook')]at hop;have hok:=rZ (o:=o) hr (fun x=>yW hfm x) hNU hop;refine rR hI.def_ hI.tmps hdst hfm hh hok fun v' hp' a' w' hK hS=>?_;exact next v' hp' a' w' (fun h=>.inl (Dn (hK.1 h))) hK.2 hS
    split at hW;rename_i hg;rw[if_pos (by simp[Region.wanted,hg])];exact .inl (exec hW)
    ·rename_i g want hg;split at hW
     ·rename_i d hd;split at hW
      ·rename_i b hb;have hy:=hgv hg hd hb;by_cases hbw:b=want;rw[if_pos (by simp[Region.wanted,hg,hy,hbw])];exact .inl (exec (hW.1 hbw))
       ·rw[if_neg (by simp[Region.wanted,hg,hy,hbw])];have hv:=hW.2 (by cases b<;>cases want<;>simp_all)
        exact next (.tup []) hp _ _ (fun hm=>hI.sa) hv (lZ hI.def_ hI.tmps hr hh hfm)
      ·rename_i hb;have hy:=hgu hg hd hb;rw[if_neg (by simp[Region.wanted,hg,hy])];exact next (.tup []) hp _ _ (fun hm=>hI.sa) hW (lZ hI.def_ hI.tmps hr hh hfm)
      ·exact hW.elim
     ·exact hW.elim
def Vx(n:Nat)(ops:Array Oper)(f:List Nat)(b is a:List Nat)(t:Tr):Bool :=
 (List.range ops.size).all (fun j=>(a.contains j||is.contains j)&&!(a.contains j&&is.contains j)) &&
 is.all (fun j=>decide (j<ops.size))&&a.all (fun j=>decide (j<ops.size))&&eH b&&gW ops b&&(b.all fun z=>a.contains z) &&
 (List.range ops.size).all (fun i=>match cq ops i with
  |some d=>decide (d<n)&&(List.range ops.size).all fun j=>j==i||cq ops j != some d
  |none=>true) &&
 a.all (fun z=>match cq ops z with
  |some d=>(List.range ops.size).all fun j=>!(ik ops j).contains d||wt f j z
  |none=>true) &&
 Vw ops f a is b is t&&Wv f is t &&
 (List.range ops.size).all (fun j=>match ops[j]? with
  |some o=>o.after.all fun e=>!Region.binds .any e||decide (e.on<j)
  |none=>true)
def wQ(n:Nat)(ops:Array Oper)(a is b:List Nat)(t:Tr):Bool:=Vx n ops (Wt ops) a is b t
theorem MJ{n:Nat}{l is k:List Nat}{t:Tr}(h:wQ n ops l is k t=true):RegOk n ops k is∧MH ops k is l is t∧Ri ops is t∧gW ops l=true∧eH l=true∧(∀z,z∈l→z∈k)∧∀z,z∈k→z<ops.size:=by
 unfold wQ at h;simp only[Vx,Bool.and_eq_true]at h;obtain⟨⟨⟨⟨⟨⟨⟨⟨⟨⟨x,B⟩,r⟩,y⟩,p⟩,q⟩,s⟩,D⟩,F⟩,G⟩,m⟩:=h;have inr:∀{i d},cq ops i=some d→i∈List.range ops.size:=by
  intro i d f;rw[List.mem_range];rcases Nat.lt_or_ge i ops.size with h|h;exact h;simp[cq,Array.getElem?_eq_none h]at f
 refine⟨⟨fun j a=>?_,fun j a=>?_,fun i d f=>?_,fun i j d f a=>?_,fun z g d C j a=>?_,fun j o u e A v=>?_⟩,H5 t F,MI G,p,y,fun z g=>by simpa using d9.1 q z g,fun z g=>by simpa using d9.1 r z g⟩
 have:=d9.1 x j (List.mem_range.2 a);simp at this;exact⟨this.1,fun h=>by rcases this.2 with E|E<;>simp_all⟩
 simpa using d9.1 B j a;have:=d9.1 s i (inr f);simp only[f,Bool.and_eq_true,decide_eq_true_eq]at this;exact this.1;have:=d9.1 s i (inr f);simp only[f,Bool.and_eq_true]at this;have:=d9.1 this.2 j (inr a);simp only[a,bne_self_eq_false,Bool.or_false,beq_iff_eq]at this;exact this.symm;have:=d9.1 D z g;simp only[C]at this;have b:j∈List.range ops.size:=by
  rw[List.mem_range];rcases Nat.lt_or_ge j ops.size with h|h;exact h;simp[ik,Array.getElem?_eq_none h]at a
 have:=d9.1 this j b;simp only[a,List.contains_eq_mem,decide_true,Bool.not_true,Bool.false_or]at this;exact lj this;have b:j∈List.range ops.size:=by
  rw[List.mem_range];exact(Array.getElem?_eq_some_iff.1 u).1
 have:=d9.1 m j b;simp only[u]at this;have:=Array.all_eq_true_iff_forall_mem.1 this e A;simpa[v]using this
theorem Rj{p is J:List Nat}{t:Tr}{id:Nat}{U:Nat→Prop}{a:Act}{w:World}{Q:Exit→Act→World→Prop}(e:P.follows .mixedOrders=true)(B:wQ c.n ops p is J t=true)
  (A:∀fr hp a w U,K fr hp→(∀k,U k→k<base+32*ops.size)→ox c fr hp U a w→Q .normal a w)
  (R:∀k,U k→k<base) (T:ox c fr hp0 U a w) (h:zW P ops base hp0 (fun fr=>yK P ops base hp0 K t fr hp0) p fr):(Code.region id ops true).wp P Q a w:=by
 obtain⟨b,I,g,i,s,u,f⟩:=MJ B;obtain⟨q,D,H,E⟩:=oN b.uniq p fr i s h;obtain⟨L,M,σ,C,F,N⟩:=T;have r:=ke C;have JF:∀j,(Array.replicate ops.size false).getD j false=false:=by
  intro j;simp only[ct,Array.getElem?_replicate];split<;>rfl
 have d:∀j,j<ops.size→(Array.replicate ops.size false).getD j true=false:=by
  intro j m;simp[m]
 refine wp_region_any e (Wx b A ops.size _ p is t q hp0 a w.drew ?_ I g (fun _ h=>h) u ⟨aw,fun j o V x=>(by rw[JF]at x;cases x),fun j m=>?_,fun j m l y=>?_,L,M,
  ⟨U,σ,r,N.trans cM,fun k G=>.inl (R k G),fun t O=>?_⟩,fun z l _=>E z l,.inl fun _ _ h=>h⟩ D)
 unfold Rf;refine Nat.le_trans (List.length_filter_le _ _) ?_;simp;refine d j ?_;rcases cL.1 m with h|h;exact b.inb j h;exact f j (gl.1 h).1;rcases(b.part j m).1 with h|h;exact absurd (cL.2 (.inr (gl.2 ⟨h,l⟩))) y;exact absurd (cL.2 (.inl h)) y;rw[H t fun z l v=>?_];exact(F t).step cM;refine O z l (d z ?_) v;rcases Nat.lt_or_ge z ops.size with h|h;exact h;simp[cq,Array.getElem?_eq_none h]at v
end
end Go.Am
namespace Go.Am
def AV.deep1:AV→Prop
 | .any=>True
 | .d _=>True
 | .rop _=>True
 | .fn _ cs=>cs=[]
 | .mth _ cs=>cs=[]
 | .nil=>True
 |_=>False
def AV.deep:AV→Prop
 | .agg cs=>∀c,c∈cs→c.deep1
 | .tup cs=>∀c,c∈cs→(c.deep1∨∃xs,c=.agg xs∧∀x,x∈xs→x.deep1)
 | .fn _ cs=>∀c,c∈cs→c.deep1
 | .mth _ cs=>∀c,c∈cs→c.deep1
 |v=>v.deep1
def DV.flat:DV→Prop
 | .int _ _=>True
 | .bool _=>True
 | .str _=>True
 | .nilp=>True
 | .ro _ _=>False
 | .rof _ _=>False
 | .box _=>False
def AV.flat1:AV→Prop
 | .d v=>v.flat
 | .any=>True
 | .nil=>True
 |_=>False
def AV.flat:AV→Prop
 | .agg cs=>∀c,c∈cs→c.flat1
 | .tup cs=>∀c,c∈cs→(c.flat1∨∃xs,c=.agg xs∧∀x,x∈xs→x.flat1)
 |v=>v.flat1
section
variable {w:World} {S S':Nat→Prop} {σ σ':Nat→Option Nat} {hp hp':Hp} {U U':Nat→Prop}
theorem lm{v:AV}{x:Value}(a:v.deep1)(g:∀b,S b→S' b)(h:AIs w S σ hp U v x):AIs w S' σ' hp' U' v x:=by
 cases h with
 |any=>exact .any _
 |d h=>exact .d (h.mono g fun _ _=>rfl)
 |rop e ad vs h1 h2 h3=>exact .rop e ad vs (g _ h1) h2 fun j y i=>(h3 j y i).mono g fun _ _=>rfl
 |fn f e xs hl h=>obtain rfl:e=[]:=a;exact .fn f [] xs hl aw
 |mth f e xs hl h=>obtain rfl:e=[]:=a;exact .mth f [] xs hl aw
 |agg=>exact a.elim
 |tup=>exact a.elim
 |own=>exact a.elim
 |sub=>exact a.elim
 |ptr=>exact a.elim
 |nil=>exact .nil
 |mp=>exact a.elim
theorem nE{v:AV}{x:Value}(g:v.deep)(d:∀b,S b→S' b)(h:AIs w S σ hp U v x):AIs w S' σ' hp' U' v x:=by
 cases v with
 |agg cs =>
  cases h with
  |agg _ xs hl e h=>exact .agg cs xs hl e fun i c x hc a=>lm (g c (cr hc)) d (h i c x hc a)
 | tup cs =>
  cases h with
  | tup _ xs hl h =>
   refine .tup cs xs hl fun i c x hc a=>?_;have j:=h i c x hc a;rcases g c (cr hc)with e|⟨k,rfl,e⟩;exact lm e d j;cases j with
   |agg _ zs hl h2 h=>exact .agg k zs hl h2 fun i c x hc a=>lm (e c (cr hc)) d (h i c x hc a)
 |fn f cs =>
  cases h with
  |fn _ _ xs hl h=>exact .fn f cs xs hl fun i c x hc a=>lm (g c (cr hc)) d (h i c x hc a)
 |mth f cs =>
  cases h with
  |mth _ _ xs hl h=>exact .mth f cs xs hl fun i c x hc a=>lm (g c (cr hc)) d (h i c x hc a)
 |_=>exact lm g d h
theorem MK{v:DV}{x:Value}(a:v.flat)(h:DIs w S v x):DIs w S' v x:=by
 cases h with
 |int=>exact .int _ _
 |bool=>exact .bool _
 |str=>exact .str _
 |nilp=>exact .nilp
 |ro=>exact a.elim
 |rof=>exact a.elim
 |box=>exact a.elim
theorem sn{v:AV}{x:Value}(a:v.flat1)(h:AIs w S σ hp U v x):AIs w S' σ' hp' U' v x:=by
 cases h with
 |d h=>exact .d (MK a h)
 |any=>exact .any _
 |nil=>exact .nil
 |_=>exact a.elim
theorem Rk{v:AV}{x:Value}(d:v.flat)(h:AIs w S σ hp U v x):AIs w S' σ' hp' U' v x:=by
 cases v with
 |agg cs =>
  cases h with
  |agg _ xs hl b h=>exact .agg cs xs hl b fun i c x hc a=>sn (d c (cr hc)) (h i c x hc a)
 | tup cs =>
  cases h with
  | tup _ xs hl h =>
   refine .tup cs xs hl fun i c x hc a=>?_;have e:=h i c x hc a;rcases d c (cr hc)with b|⟨f,rfl,b⟩;exact sn b e;cases e with
   |agg _ zs hl h2 h=>exact .agg f zs hl h2 fun i c x hc a=>sn (b c (cr hc)) (h i c x hc a)
 |_=>exact sn d h
end
inductive SnapD(hp:Hp)(I:Nat→Prop):AV→DV→Prop
 |d (v:DV):SnapD hp I (.d v) v
 |nil (e:Nat):SnapD hp I .nil (.ro e [])
 | own {id i0 len tot:Nat} {b:Blk} {es:List (List DV)} (hI:I id) (hb:lk id hp=some b) (ht:b.es.length=tot) (hl:es.length=len) (he:∀ r,r ∈ es→r.length=b.e)
   (hes:∀(i j:Nat)(row:List AV)(c:AV)(r:List DV)(y:DV),b.es[i0+i]?=some row→row[j]?=some c→es[i]?=some r→r[j]?=some y→SnapD hp I c y):SnapD hp I (.own id i0 len tot) (.ro b.e es)
 | sub {id i off e len cap tot:Nat} {b:Blk} {row:List AV} {es:List (List DV)} (hI:I id) (hb:lk id hp=some b) (ht:b.es.length=tot) (hr:b.es[i]?=some row) (he:0<e) (hl:es.length=len) (hel:∀ r,r ∈ es→r.length=e)
   (hes:∀(k j:Nat)(c:AV)(r:List DV)(y:DV),row[off+k*e+j]?=some c→es[k]?=some r→r[j]?=some y→SnapD hp I c y):SnapD hp I (.sub id i off e len cap tot) (.ro e es)
theorem Dp{c:Ctx}{hp:Hp}{U:Nat→Prop}{σ:Nat→Option Nat}{w:World}{I S':Nat→Prop}(hS:∀b,bQ c w σ hp b→S' b)(L:∀id blk g,I id→lk id hp=some blk→σ id=some g→S' g)(hr:Rel c hp U σ w){v:AV}{d:DV}(hs:SnapD hp I v d) :
  ∀{x:Value},AIs w (bQ c w σ hp) σ hp U v x→DIs w S' d x:=by
 induction hs with
 |d v =>
  intro x h;cases h with|d h=>exact h.mono hS fun _ _=>rfl
 |nil e =>
  intro x h;cases h with|nil=>exact .ro _ [] none 0 (fun _ _=>default) aw aw aw aw aw
 | own hI hb ht hl he hes ih =>
  rename_i id s Y Z b z;intro x h;cases h with
  | own _ _ _ _ A o hN hlc hA0 h =>
   subst hl;obtain⟨h1,T⟩:=h _ hb;obtain⟨h3,aa,h4⟩:=T ht;rcases Nat.eq_zero_or_pos z.length with G|G;have:z=[]:=List.eq_nil_of_length_eq_zero G;subst this;exact .ro _ [] A o (fun _ _=>default) aw aw aw aw aw;obtain⟨g,J,N,_⟩:=h4 aq;obtain⟨a,X,k2,k3,k4,k5⟩:=hr.at hb J;have l:∀i r j y,z[i]?=some r→r[j]?=some y→∃u,a[(s+i)*b.e+j]?=some u∧DIs w S' y u:=by
    intro i r j y F q;have af:=(ci.1 F).1;have m:b.es[s+i]?=some b.es[s+i]:=cm aq;have O:=k3 _ (cr m);have ab:j<b.e:=by
     have:=(ci.1 q).1;rw[he r (cr F)]at this;exact this
    have hc:(b.es[s+i])[j]?=some (b.es[s+i])[j]:=cm aq;have t:(s+i)*b.e+j<a.size:=by
     have:(s+i+1)*b.e≤b.es.length*b.e:=d_ _ aq;rw[Nat.add_mul,Nat.one_mul]at this;omega
    exact⟨a[(s+i)*b.e+j],dn t,ih i j _ _ r y m hc F q (k5 (s+i) j _ _ _ m hc (dn t))⟩
   refine .ro b.e z A o (fun i j=>a.getD ((s+i)*b.e+j) undef) hlc he (fun r M=>⟨_,N,L id _ g hI hb J⟩) (fun ad D i j r y F q=>?_) (fun i j r y F q=>?_);rw[N]at D;injection D with D;subst D;obtain⟨u,C,_⟩:=l i r j y F q;rw[gV,cell_of_row w _ _ a _ _ X];rw[show s*b.e+(i*b.e+j)=(s+i)*b.e+j by rw[Nat.add_mul];omega,C];simp[C];obtain⟨u,C,V⟩:=l i r j y F q;simp only[ct,C,Option.getD_some];exact V
 | sub hI hb ht m hpe hl hel hes ih =>
  rename_i id i f e Y o Z b E z;intro x h;cases h with
  | sub _ _ _ _ _ _ _ A hN hlc hA0 h =>
   subst hl;obtain⟨h1,T⟩:=h _ hb;obtain⟨h3,h4,N⟩:=T ht;by_cases hz:z.length=0;obtain rfl:=List.eq_nil_of_length_eq_zero hz;exact .ro e [] A o (fun _ _=>undef) hlc aw aw aw aw;obtain⟨g,J,W⟩:=N aq;obtain⟨a,X,k2,k3,k4,k5⟩:=hr.at hb J;have H:∀hc:0<o,A=some ⟨g,i*b.e+f,none⟩:=fun hc=>W;have O:E.length=b.e:=k3 _ (cr m);have R:∀k,k<z.length→f+k*e+e≤b.e:=by
    intro k hk;have h6:(k+1)*e≤z.length*e:=d_ _ aq;have h7:z.length*e≤o*e:=d_ _ hlc;rw[Nat.add_mul,Nat.one_mul]at h6;omega
   have l:∀k r j y,z[k]?=some r→r[j]?=some y→∃u,a[i*b.e+f+(k*e+j)]?=some u∧DIs w S' y u:=by
    intro k r j y p q;have ae:=R k (ci.1 p).1;have ac:j<e:=by
     have:=(ci.1 q).1;rw[hel r (cr p)]at this;exact this
    have hc:E[f+k*e+j]?=some E[f+k*e+j]:=cm aq;have t:i*b.e+f+(k*e+j)<a.size:=by
     have:(i+1)*b.e≤b.es.length*b.e:=d_ _ aq;rw[Nat.add_mul,Nat.one_mul]at this;omega
    refine⟨a[i*b.e+f+(k*e+j)],dn t,ih k j _ r y hc p q (k5 i (f+k*e+j) _ _ _ m hc ?_)⟩;rw[show i*b.e+(f+k*e+j)=i*b.e+f+(k*e+j)by omega];exact dn t
   refine .ro e z A o (fun k j=>a.getD (i*b.e+f+(k*e+j)) undef) hlc hel (fun r M=>?_) (fun ad D k j r y p q=>?_) (fun k j r y p q=>?_);have B:0<o:=by
    have:=List.length_pos_of_mem M;omega
   exact⟨_,H B,L id _ g hI hb J⟩;have B:0<o:=by
    have:=(ci.1 p).1;omega
   rw[H B]at D;injection D with D;subst D;obtain⟨u,C,_⟩:=l k r j y p q;rw[gV,cell_of_row w _ _ a _ _ X,C];simp[C];obtain⟨u,C,V⟩:=l k r j y p q;simp only[ct,C,Option.getD_some];exact V
inductive CellsR(hp:Hp)(I:Nat→Prop):List AV→List DV→Prop
 |nil:CellsR hp I [] []
 |cons {c:AV} {y:DV} {cs:List AV} {ys:List DV} (h:SnapD hp I c y) (t:CellsR hp I cs ys):CellsR hp I (c::cs) (y::ys)
inductive RowsR(hp:Hp)(I:Nat→Prop):List (List AV)→List (List DV)→Prop
 |nil:RowsR hp I [] []
 |cons {c:List AV} {y:List DV} {cs:List (List AV)} {ys:List (List DV)} (h:CellsR hp I c y) (t:RowsR hp I cs ys):RowsR hp I (c::cs) (y::ys)
theorem CellsR.at{hp:Hp}{I:Nat→Prop}{cs:List AV}{b:List DV}(h:CellsR hp I cs b):∀(j:Nat)(c:AV)(y:DV),cs[j]?=some c→b[j]?=some y→SnapD hp I c y:=by
 induction h with
 |nil=>intro j c y h;simp at h
 |cons h t ih =>
  intro j c y hc a;cases j with
  |zero=>simp at hc a;subst hc;subst a;exact h
  |succ j=>simp at hc a;exact ih j c y hc a
theorem CellsR.len{hp:Hp}{I:Nat→Prop}{cs:List AV}{a:List DV}(h:CellsR hp I cs a):cs.length=a.length:=by
 induction h with
 |nil=>rfl
 |cons _ _ ih=>simp[ih]
theorem RowsR.at{hp:Hp}{I:Nat→Prop}{cs:List (List AV)}{b:List (List DV)}(h:RowsR hp I cs b):∀(j:Nat)(c:List AV)(y:List DV),cs[j]?=some c→b[j]?=some y→CellsR hp I c y:=by
 induction h with
 |nil=>intro j c y h;simp at h
 |cons h t ih =>
  intro j c y hc a;cases j with
  |zero=>simp at hc a;subst hc;subst a;exact h
  |succ j=>simp at hc a;exact ih j c y hc a
theorem RowsR.len{hp:Hp}{I:Nat→Prop}{cs:List (List AV)}{a:List (List DV)}(h:RowsR hp I cs a):cs.length=a.length:=by
 induction h with
 |nil=>rfl
 |cons _ _ ih=>simp[ih]
theorem kW{hp:Hp}{I:Nat→Prop}:∀a:List DV,CellsR hp I (a.map .d) a
 |[]=>.nil
 |y::r=>.cons (.d y) (kW r)
theorem lp{hp:Hp}{I:Nat→Prop}:∀a:List (List DV),RowsR hp I (a.map fun r=>r.map .d) a
 |[]=>.nil
 |y::r=>.cons (kW y) (lp r)
theorem RowsR.append{hp:Hp}{I:Nat→Prop}{a c:List (List AV)}{b d:List (List DV)}(h:RowsR hp I a b)(e:RowsR hp I c d):RowsR hp I (a++c) (b++d):=by
 induction h with
 |nil=>exact e
 |cons h t ih=>exact .cons h ih
theorem kr{hp:Hp}{I:Nat→Prop}{id i0 len a:Nat}{ty:TypeId}{e:Nat}{rows:List (List AV)}{es:List (List DV)}(g:lk id hp=some ⟨ty,e,rows⟩)(l:I id)(t:rows.length=a)(k:RowsR hp I ((rows.drop i0).take len) es)(o:es.length=len)(m:∀r,r∈es→r.length=e) :
  SnapD hp I (.own id i0 len a) (.ro e es):=by
 refine .own (b:=⟨ty,e,rows⟩) l g t o m fun i j d c r y h p f q=>?_;have s:i<len:=by
  have:=(ci.1 f).1;omega
 refine(k.at i d r ?_ f).at j c y p q;rw[List.getElem?_take,if_pos s,List.getElem?_drop];exact h
theorem ej{hp:Hp}{I:Nat→Prop}{id n:Nat}{ty:TypeId}{e:Nat}{es:List (List DV)}(f:lk id hp=some ⟨ty,e,es.map fun r=>r.map .d⟩)(b:I id)(a:es.length=n)(g:∀r,r∈es→r.length=e):SnapD hp I (.own id 0 n n) (.ro e es):=by
 refine kr f b (by simp[a]) ?_ a g;have:((es.map fun r=>r.map AV.d).drop 0).take n=es.map fun r=>r.map .d:=by
  rw[List.drop_zero,cx (by simp[a])]
 rw[this];exact lp es
def fH(hp:Hp)(I:Nat→Prop)(c a:AV):Prop:=(a=c∧c.deep1)∨∃d,a=.d d∧SnapD hp I c d
def so(hp:Hp)(I:Nat→Prop)(cs cs':List AV):Prop:=cs'.length=cs.length∧∀(i:Nat)(c a:AV),cs[i]?=some c→cs'[i]?=some a→fH hp I c a
inductive Snap(hp:Hp)(I:Nat→Prop):AV→AV→Prop
 |one {v v':AV} (h:fH hp I v v'):Snap hp I v v'
 |deep {v:AV} (h:v.deep):Snap hp I v v
 |agg {cs cs':List AV} (h:so hp I cs cs'):Snap hp I (.agg cs) (.agg cs')
 |tup {cs cs':List AV} (hl:cs'.length=cs.length) (h:∀(i:Nat)(c c':AV),cs[i]?=some c→cs'[i]?=some c'→fH hp I c c'∨∃xs xs',c=.agg xs∧c'=.agg xs'∧so hp I xs xs'):Snap hp I (.tup cs) (.tup cs')
 |ptr {id i off tot:Nat} {b:Blk} {row:List AV} {cs:List DV} (hI:I id) (hb:lk id hp=some b) (ht:b.es.length=tot) (hr:b.es[i]?=some row) (hc:CellsR hp I (row.drop off) cs):Snap hp I (.ptr id i off tot) (.rop cs)
 |fnp {f:FuncId} {id i off tot:Nat} {b:Blk} {row:List AV} {cs:List DV} (hI:I id) (hb:lk id hp=some b) (ht:b.es.length=tot) (hr:b.es[i]?=some row) (hc:CellsR hp I (row.drop off) cs):Snap hp I (.fn f [.ptr id i off tot]) (.fn f [.rop cs])
theorem nF{c:Ctx}{hp:Hp}{U U':Nat→Prop}{σ σ':Nat→Option Nat}{hp':Hp}{w:World}{I:Nat→Prop}{v M:AV}{x:Value}{S':Nat→Prop}(Y:∀b,bQ c w σ hp b→S' b)(E:∀id blk g,I id→lk id hp=some blk→σ id=some g→S' g)(Z:Rel c hp U σ w)(F:Snap hp I v M)(h:AIs w (bQ c w σ hp) σ hp U v x) :
  AIs w S' σ' hp' U' M x:=by
 have one:∀{v M:AV}{x:Value},fH hp I v M→AIs w (bQ c w σ hp) σ hp U v x→AIs w S' σ' hp' U' M x:=by
  intro v M x F h;rcases F with ⟨rfl,z⟩|⟨d,rfl,z⟩;exact lm z Y h;exact .d (Dp Y E Z z h)
 have r:∀{p m:List AV}{s:Array Value},so hp I p m→p.length=s.size→(∀(i:Nat)(x:Value),s[i]?=some x→x.oneCell'=true)→(∀(i:Nat)(c':AV)(x:Value),p[i]?=some c'→s[i]?=some x→AIs w (bQ c w σ hp) σ hp U c' x)→AIs w S' σ' hp' U' (.agg m) (.agg s):=by
  intro p m s F D t h;refine .agg m s (by rw[F.1,D]) t fun i u x k T=>?_;have W:i<p.length:=by
   have:=(ci.1 k).1;rw[F.1]at this;exact this
  exact one (F.2 i _ u (cm W) k) (h i _ x (cm W) T)
 have q:∀{id i a J:Nat}{b:Blk}{o:List AV}{p:List DV}{x:Value},I id→lk id hp=some b→b.es.length=J→b.es[i]?=some o→CellsR hp I (o.drop a) p→AIs w (bQ c w σ hp) σ hp U (.ptr id i a J) x→AIs w S' σ' hp' U' (.rop p) x:=by
  intro id i a J b o p x V L X f l h;obtain⟨g,B,hg,rfl,G,aa,ac,ab,H⟩:=px Z h L f X;have R:∀(j:Nat)(y:DV),p[j]?=some y→∃u,B[i*b.e+a+j]?=some u∧DIs w S' y u:=by
   intro j y N;have hj:j<(o.drop a).length:=by
    rw[l.len];exact(ci.1 N).1
   have O:(o.drop a)[j]?=some (o.drop a)[j]:=cm hj;have A:=O;rw[List.getElem?_drop]at A;obtain⟨u,k,z⟩:=H (a+j) _ A;exact⟨u,by rw[Nat.add_assoc];exact k,Dp Y E Z (l.at j _ y O N) z⟩
  refine .rop _ _ (fun j=>B.getD (i*b.e+a+j) undef) (E id b g V L hg) (fun j y N=>?_) (fun j y N=>?_);obtain⟨u,k,_⟩:=R j y N;rw[gV,cell_of_row w _ _ B _ _ G,k];simp[k];obtain⟨u,k,z⟩:=R j y N;simp only[ct,k,Option.getD_some];exact z
 cases F with
 |one t=>exact one t h
 |deep z=>exact nE z Y h
 |agg hc =>
  cases h with
  |agg _ s D t h=>exact r hc D t h
 | tup hl' hc =>
  rename_i p m;cases h with
  | tup _ s D h =>
   refine .tup m s (by rw[hl',D]) fun i u x k T=>?_;have W:i<p.length:=by
    have:=(ci.1 k).1;rw[hl']at this;exact this
   have C:=h i _ x (cm W) T;rcases hc i _ u (cm W) k with t|⟨ys,ad,e1,e2,t⟩;exact one t C;rw[e1]at C;subst e2;cases C with
   |agg _ xs' hl2 h2 h3=>exact r t hl2 h2 h3
 |ptr V L X f l=>exact q V L X f l h
 | fnp V L X f l =>
  cases h with
  | fn _ _ s D h =>
   refine .fn _ _ s (by simpa using D) fun i u x k T=>?_;cases i with
   |succ i=>simp at k
   |zero =>
    simp only[List.getElem?_cons_zero,Option.some.injEq]at k;subst k;exact q V L X f l (h 0 _ x rfl T)
def aE(a:List Nat):Hp→Hp
 |[]=>[]
 |(m,b)::t=>if a.contains m then aE a t else(m,b)::aE a t
theorem mR(a:List Nat)(i:Nat):∀hp:Hp,lk i (aE a hp)=if a.contains i=true then none else lk i hp
 |[]=>by simp[aE,lk]
 | (m,b) :: t=>by
  have f:=mR a i t;simp only[aE];by_cases d:a.contains m=true;rw[if_pos d,f];split;rfl;rename_i g;simp only[lk];rw[if_neg (fun e=>g (by rw[←e];exact d))];rw[if_neg d];simp only[lk,f];by_cases e:m=i;subst e;rw[if_pos rfl,if_neg d];simp;rw[if_neg e];simp[e]
theorem wR{c:Ctx}{hp:Hp}{U:Nat→Prop}{σ:Nat→Option Nat}{w:World}(d:List Nat)(e:Rel c hp U σ w) :
  Rel c (aE d hp) U σ w∧Step w (bQ c w σ hp) σ hp U w (bQ c w σ (aE d hp)) σ (aE d hp) U:=by
 have a:∀i b,lk i (aE d hp)=some b→lk i hp=some b:=by
  intro i b h;rw[mR]at h;split at h;cases h;exact h
 have f:Step w (bQ c w σ hp) σ hp U w (bQ c w σ (aE d hp)) σ (aE d hp) U :=
  ⟨fun b h=>⟨⟨h.1.1,fun id m g p l=>h.1.2 id m g (a _ _ p) l⟩,h.2⟩,fun _ _=>rfl,fun _ h=>h,fun id o _ h=>⟨o,a _ _ h,rfl,rfl,cR _,fun _ g l=>⟨l,fun _ h=>h⟩⟩⟩
 refine⟨⟨fun i j u t g q s=>e.inj i j u t g (a _ _ q) (a _ _ s),fun i b h=>e.lt i b (a _ _ h),fun i b h=>?_,fun i b g h=>e.mine i b g (a _ _ h),e.os,e.tape,e.output,e.size,e.old⟩,f⟩;rcases e.blk i b (a _ _ h)with k|⟨g,r,k2⟩;exact .inl k;exact .inr ⟨g,r,k2.step f rfl⟩
theorem Wy(a fr:Fr)(n:Nat):fv n (a++fr)=match lk n a with
  |some v=>v
  |none=>fv n fr:=by
 induction a with
 |nil=>rfl
 |cons p r ih =>
  obtain⟨m,v⟩:=p;show fv n ((m,v)::(r++fr))=_;rw[jR,ih];simp only[lk];split<;>rfl
theorem Vy{α:Type}{n:Nat}{v:α}:∀{l:List (Nat×α)},lk n l=some v→(n,v)∈l
 |[],h=>by simp[lk]at h
 |(m,u)::t,h=>by
  simp only[lk]at h;split at h;rename_i a;injection h with h;subst a;subst h;exact d7 ..;exact cU _ (Vy h)
theorem ML{c:Ctx}{fr:Fr}{hp:Hp}{U:Nat→Prop}{a:Act}{w:World}(f:List Nat)(q:Fr)(hz:∀p,p∈q→Snap hp (fun id=>id∈f) (fv p.1 fr) p.2)
  (E:ox c fr hp U a w):ox c (q++fr) (aE f hp) U a w:=by
 obtain⟨C,D,σ,i,u,x⟩:=E;obtain⟨A,o⟩:=wR f i;refine⟨C,D,σ,A,fun n=>?_,x.trans o⟩;rw[Wy];cases B:lk n q with
 |none=>exact(u n).step o
 | some v =>
  refine nF (fun b y=>o.sub b y) (fun id k g m s t=>⟨⟨eg (i.at s t),fun l j F d r e=>?_⟩,?_⟩) i (hz _ (Vy B)) (u n);subst e;rw[mR]at d;split at d;cases d;rename_i z;have:=i.inj id l k j g s d t r;subst this;exact z (by simpa using m);rcases i.mine id k g s t with h|h;exact .inl (c.hM g h);exact .inr h
end Go.Am
namespace Go.Am
structure St where
 fr:Fr
 hp:Hp
 nx:Nat
def mF(c:Ctx)(st:St)(a:Act)(w:World):Prop:=ox c st.fr st.hp (fun i=>i<st.nx) a w
def ZJ(f:St→Prop)(fr:Fr)(nx:Nat)(a:Option Tmp)(v:AV)(hp:Hp):Prop:=f ⟨bp fr a v,hp,nx+32⟩
def sr (P:Program) (n:Nat) (ops:Array Oper):List Oper→(St→Prop)→St→Prop
 |[],K,st=>K st
 | o :: rest,K,st =>
  match o.guard with
  |none=>gQ n o.dst∧bS P st.fr st.hp st.nx o.op (ZJ (sr P n ops rest K) st.fr st.nx o.dst)
  | some (j,want) =>
   match(ops[j]?).bind (·.dst)with
   |some d =>
    (match fv d st.fr with
    | .d (.bool b)=>gQ n o.dst∧(b=want→bS P st.fr st.hp st.nx o.op (ZJ (sr P n ops rest K) st.fr st.nx o.dst)) ∧
      (b=!want→ZJ (sr P n ops rest K) st.fr st.nx o.dst (.tup []) st.hp)
    | .tup []=>gQ n o.dst∧ZJ (sr P n ops rest K) st.fr st.nx o.dst (.tup []) st.hp
    |_=>False)
   |none=>False
def MM(Q:Exit→St→Prop)(st:St):Prop:=Q .normal st
def AO(f:St→Prop)(Q:Exit→St→Prop):Exit→St→Prop
 | .normal,st=>f st
 |e,st=>Q e st
def tV(id:Nat)(Q:Exit→St→Prop):Exit→St→Prop
 | .exit i,st=>if i=id then Q .normal st else Q (.exit i) st
 |e,st=>Q e st
def AV.low1(N:Nat):AV→Prop
 | .own id _ _ _=>id<N
 | .sub id _ _ _ _ _ _=>id<N
 | .ptr id _ _ _=>id<N
 | .mp id=>id<N
 | .agg _=>False
 | .tup _=>False
 | .fn _ cs=>cs=[]
 | .mth _ cs=>cs=[]
 |_=>True
def AV.low(N:Nat):AV→Prop
 | .agg cs=>∀c,c∈cs→c.low1 N
 | .fn _ cs=>∀c,c∈cs→c.low1 N
 | .mth _ cs=>∀c,c∈cs→c.low1 N
 |v=>v.low1 N
def ai(st st':St)(v u:AV):Prop :=
 u=v ∨ (v=.nil∧match u with
  | .own id 0 0 0=>(match lk id st'.hp with
   |some b=>b.es=[]
   |none=>False)
  |_=>False)
def az(st st':St):Prop :=
 (∀p,p∈st'.fr→ai st st' (fv p.1 st.fr) p.2∧p.2.low st'.nx) ∧
 (∀p,p∈st'.hp→(lk p.1 st.hp=some p.2∨(st.nx≤p.1∧p.2.es=[]))∧p.1<st'.nx∧∀r,r∈p.2.es→∀v,v∈r→v.low1 st'.nx)∧(st.nx≤st'.nx∨64≤st'.nx)
def Wk(st st':St):Prop:=∀(c:Ctx)(a:Act)(w:World),mF c st a w→mF c st' a w
theorem Wk.trans{b d e:St}(h:Wk b d)(k:Wk d e):Wk b e:=fun c a w f=>k c a w (h c a w f)
def Dq(I:Nat→St→Prop)(m:Nat)(Q:Exit→St→Prop):Exit→St→Prop
 | .normal,st=>∃m' st',m'<m∧Wk st st'∧I m' st'
 |e,st=>Q e st
def Vz(W:(Exit→St→Prop)→St→Prop)(Q:Exit→St→Prop)(st:St):Prop :=
 ∃I:Nat→St→Prop,(∃m st',Wk st st'∧I m st')∧∀m st',I m st'→W (Dq I m Q) st'
def oy(P:Program)(n:Nat):Code→(Exit→St→Prop)→St→Prop
 | .skip,Q,st=>Q .normal st
 | .region _ ops false,Q,st=>sr P n ops ops.toList (MM Q) st
 | .region _ ops true,Q,st=>(∃ zs ss m,F2 n ops zs ss m=true∧P.follows .mixedOrders=true∧zW P ops st.nx st.hp (fun fr=>FG P ops st.nx st.hp (fun fr hp=>Q .normal ⟨fr,hp,st.nx+32*ops.size⟩) ss m fr st.hp) zs st.fr) ∨
   ∃zs is za t st',wQ n ops zs is za t=true∧P.follows .mixedOrders=true∧zW P ops st.nx st.hp (fun fr=>yK P ops st.nx st.hp (fun fr hp=>Wk ⟨fr,hp,st.nx+32*ops.size⟩ st') t fr st.hp) zs st.fr∧Q .normal st'
 | .seq x y,Q,st=>oy P n x (AO (oy P n y Q) Q) st
 | .cond c x y,Q,st =>
  match ev st.fr c with
  | .d (.bool b)=>(b=true→oy P n x Q st)∧(b=false→oy P n y Q st)
  |_=>False
 | .block id x,Q,st=>oy P n x (tV id Q) st
 | .loop x,Q,st=>Vz (oy P n x) Q st
 | .exit id,Q,st=>Q (.exit id) st
 | .ret,Q,st=>Q .ret st
 |_,_,_=>False
section
variable {P:Program} {c:Ctx}
theorem MN(nx i:Nat):eG (fun i=>i<nx) nx i↔i<nx+32:=by unfold eG;omega
theorem wS(nx:Nat):eG (fun i=>i<nx) nx=fun i=>i<nx+32:=funext fun i=>propext (MN nx i)
theorem F5{st:St}{a:Act}{w:World}(h:mF c st a w):∃ σ,Rel c st.hp (fun i=>i<st.nx) σ w∧(∀n,AIs w (bQ c w σ st.hp) σ st.hp (fun i=>i<st.nx) (fv n st.fr) (a.tmps.getD n undef))∧∀x,AIs w (bQ c w σ st.hp) σ st.hp (fun i=>i<st.nx) (ev st.fr x) (a.eval x):=by
 obtain⟨_,_,σ,d,b,_⟩:=h;exact⟨σ,d,b,fun x=>yW b x⟩
theorem H6{st:St}{a:Act}{w:World}{o:Oper}{f:St→Prop}{next:Act→World→Prop}{Q:Exit→Act→World→Prop}
  (s:mF c st a w) (r:gQ c.n o.dst) (h:bS P st.fr st.hp st.nx o.op (ZJ f st.fr st.nx o.dst))
  (m:∀st' a' w',f st'→mF c st' a' w'→next a' w'):o.wp P a w next Q:=by
 obtain⟨e,q,σ,l,d,j⟩:=s;have b:=rZ (o:=o) (N:=st.nx) l (fun x=>yW d x) (fun i e _ p=>by have t:i<st.nx:=p;omega) h;refine rR e q r d j b fun v hp' a' w' k g=>m _ a' w' k ?_;rw[wS]at g;exact g
theorem H7{st:St}{a:Act}{w:World}{e:Option Tmp}(p:mF c st a w):mF c ⟨bp st.fr e (.tup []),st.hp,st.nx+32⟩ (a.put e undef) w:=by
 obtain⟨l,k,σ,m,j,g⟩:=p;have f:Rel c st.hp (fun i=>i<st.nx+32) σ w:=by rw[←wS];exact m.more
 have b:Step w (bQ c w σ st.hp) σ st.hp (fun i=>i<st.nx) w (bQ c w σ st.hp) σ st.hp (fun i=>i<st.nx+32):=by rw[←wS];exact Step.more
 cases e with
 |none=>exact⟨l,k,σ,f,fun n=>(j n).step b,g.trans b⟩
 | some d =>
  refine⟨l,by simp[Act.put,k],σ,f,fun n=>?_,g.trans b⟩;simp only[bp,Act.put,jR];by_cases h:d=n;subst h;have o:(a.tmps.setIfInBounds d undef).getD d undef=.tuple #[]:=by
   simp only[ct,Array.getElem?_setIfInBounds,if_true];split<;>rfl
  rw[o];simp only[if_true];exact .tup [] #[] rfl aw;simp only[if_neg h];have:(a.tmps.setIfInBounds d undef).getD n undef=a.tmps.getD n undef:=by
   simp only[ct,Array.getElem?_setIfInBounds,if_neg h]
  rw[this];exact(j n).step b
theorem H8{ops:Array Oper}{Q:Exit→Act→World→Prop}{K:St→Prop}(E:∀st a w,K st→mF c st a w→Q .normal a w) :
  ∀(l:List Oper)(st:St)(a:Act)(w:World),sr P c.n ops l K st→mF c st a w→wpList P ops Q l a w
 |[],st,a,w,h,hs=>E st a w h hs
 | o :: rest,st,a,w,h,hs=>by
  have r:=H8 (ops:=ops) (Q:=Q) E rest;simp only[sr]at h;unfold wpList;split at h;rename_i q;obtain⟨t,h⟩:=h;rw[if_pos (by simp[Region.wanted,q])];exact .inl (H6 hs t h fun k B D C m=>r k B D C m);rename_i j f q;split at h;rename_i d t;split at h;rename_i b y;obtain⟨i,G,A⟩:=h;obtain⟨σ,F,x,_⟩:=F5 hs;have v:=gG (y▸x d);have s:yielded ops a.tmps j=some b:=by
   unfold yielded;rw[t];have g:a.tmps[d]?.getD undef=.bool b:=by simpa using v
   cases p:a.tmps[d]? with
   |none=>rw[p]at g;cases g
   |some u=>rw[p]at g;simp at g;subst g;simp[p]
  by_cases z:b=f;rw[if_pos (by simp[Region.wanted,q,s,z])];exact .inl (H6 hs i (G z) fun k B D C m=>r k B D C m);rw[if_neg (by simp[Region.wanted,q,s,z])];exact r _ _ _ (A (by cases b<;>cases f<;>simp_all)) (H7 hs)
  rename_i y;obtain⟨i,A⟩:=h;obtain⟨σ,F,x,_⟩:=F5 hs;have v:=y▸x d;have s:¬(yielded ops a.tmps j=some f):=by
   unfold yielded;rw[t];cases p:a.tmps[d]? with
   |none=>simp[p]
   |some u =>
    have e:a.tmps.getD d undef=u:=(by simp[p]);rw[e]at v;cases v with
    |tup _ xs _ _=>simp[p]
  rw[if_neg (by simp[Region.wanted,q,s])];exact r _ _ _ A (H7 hs);exact h.elim;exact h.elim
theorem mS{w:World}{S S':Nat→Prop}{σ σ':Nat→Option Nat}{hp hp':Hp}{U:Nat→Prop}{N:Nat}(q:∀b,S b→S' b)(o:∀id b,U id→lk id hp'=some b→lk id hp=some b)(p:∀id,U id→σ' id=σ id){v:AV}{x:Value}(k:v.low1 N)(h:AIs w S σ hp U v x) :
  AIs w S' σ' hp' (fun i=>i<N) v x:=by
 cases h with
 |any=>exact .any _
 |d h=>exact .d (h.mono q fun _ _=>rfl)
 |agg=>exact k.elim
 |tup=>exact k.elim
 |own id i0 len tot A cap hN hle h0 h=>exact .own id i0 len tot A cap k hle h0 fun b l=>by rw[p id hN];exact h b (o id b hN l)
 |sub id i off e len cap tot A hN hle h0 h=>exact .sub id i off e len cap tot A k hle h0 fun b l=>by rw[p id hN];exact h b (o id b hN l)
 |ptr id i off tot a hN h=>exact .ptr id i off tot a k fun b l=>by rw[p id hN];exact h b (o id b hN l)
 |rop m ad vs h1 h2 h3=>exact .rop m ad vs (q _ h1) h2 fun j y r=>(h3 j y r).mono q fun _ _=>rfl
 |fn f m xs hle h=>obtain rfl:m=[]:=k;exact .fn f [] xs hle aw
 |mth f m xs hle h=>obtain rfl:m=[]:=k;exact .mth f [] xs hle aw
 |nil=>exact .nil
 |mp id g hN h=>exact .mp id g k fun b l=>h b (o id b hN l)
theorem MO{w:World}{S S':Nat→Prop}{σ σ':Nat→Option Nat}{hp hp':Hp}{U:Nat→Prop}{N:Nat}(j:∀b,S b→S' b)(e:∀id b,U id→lk id hp'=some b→lk id hp=some b)(d:∀id,U id→σ' id=σ id){v:AV}{x:Value}(g:v.low N)(h:AIs w S σ hp U v x) :
  AIs w S' σ' hp' (fun i=>i<N) v x:=by
 cases v with
 |agg cs =>
  cases h with
  |agg _ xs hle h1 h=>exact .agg cs xs hle h1 fun i c x hc a=>mS j e d (g c (cr hc)) (h i c x hc a)
 |fn f cs =>
  cases h with
  |fn _ _ xs hle h=>exact .fn f cs xs hle fun i c x hc a=>mS j e d (g c (cr hc)) (h i c x hc a)
 |mth f cs =>
  cases h with
  |mth _ _ xs hle h=>exact .mth f cs xs hle fun i c x hc a=>mS j e d (g c (cr hc)) (h i c x hc a)
 |_=>exact mS j e d g h
theorem bK{α:Type}{n:Nat}{v:α}:∀{l:List (Nat×α)},lk n l=some v→(n,v)∈l
 |[],h=>by cases h
 |(m,u)::t,h=>by
  simp only[lk]at h;split at h;rename_i e;injection h with h;subst e;subst h;exact d7 ..;exact cU _ (bK h)
theorem MP{st st':St}{a:Act}{w:World}(hw:az st st')(hs:mF c st a w):mF c st' a w:=by
 obtain⟨F,l,D⟩:=hw;obtain⟨h1,h2,σ,k,O,d⟩:=hs;have p:∀id b,id<st.nx→lk id st'.hp=some b→lk id st.hp=some b:=fun id b aa h=>by
  rcases(l _ (bK h)).1 with h|⟨h,_⟩;exact h;simp only at h;omega
 let σ':Nat→Option Nat:=fun id=>if st.nx≤id then none else σ id
 have q:∀id,id<st.nx→σ' id=σ id:=fun id h=>if_neg aq;have o:∀id g,σ' id=some g→id<st.nx∧σ id=some g:=by
  intro id g h;by_cases E:st.nx≤id;simp only[σ',if_pos E]at h;cases h;exact⟨aq,by rw[q id aq]at h;exact h⟩
 have H:∀b,bQ c w σ st.hp b→bQ c w σ' st'.hp b:=fun b A=>⟨⟨A.1.1,fun id z g h u=>by
  obtain⟨e,m⟩:=o id g u
  exact A.1.2 id z g (p id z e h) m⟩,A.2⟩
 refine⟨h1,h2,σ',⟨fun i j X W g B hj L J=>?_,fun i b h=>(l _ (bK h)).2.1,fun i b h=>?_,fun i b g h u=>?_,k.os,k.tape,k.output,k.size,k.old⟩,fun n=>?_,⟨fun b h=>H b (d.sub b h),d.cell,fun i h=>?_,fun id T R M=>?_⟩⟩;obtain⟨s,r⟩:=o i g L;obtain⟨I,b2⟩:=o j g J;exact k.inj i j X W g (p i X s B) (p j W I hj) r b2;rcases(l _ (bK h)).1 with f|⟨f,e⟩;simp only at f;have B:i<st.nx:=k.lt i b f;rcases k.blk i b f with ⟨N,k2⟩|⟨g,N,C,k2,k3,k4,k5,k6⟩;exact .inl ⟨(q i B).trans N,k2⟩;exact .inr ⟨g,(q i B).trans N,C,k2,k3,k4,k5,fun i' j x y v s r a3=>mS H p q ((l _ (bK h)).2.2 x (cr s) y (cr r)) (k6 i' j x y v s r a3)⟩;exact .inl ⟨if_pos f,.inl e⟩;obtain⟨s,r⟩:=o i g u;exact k.mine i b g (p i b s h) r;cases t:lk n st'.fr with
 |none=>simp only[fv,t];exact .any _
 | some v =>
  have:=F _ (bK t);simp only[fv,t,Option.getD_some];obtain⟨e,m⟩:=this;simp only at e m;rcases e with e|⟨e,V⟩;refine MO (U:=fun i=>i<st.nx) H p q m ?_;rw[e];exact O n;have G:=O n;rw[e]at G;generalize a.tmps.getD n undef=x at G;cases G with
  |nil =>
   split at V;rename_i id;exact .own id 0 0 0 none 0 m (cR _) (fun _=>rfl) fun b A=>⟨Nat.zero_le _,fun _=>⟨cR _,cR _,fun h=>aq⟩⟩;exact V.elim
 ·have f:=d.le i h;have e:=c.hk;rcases D with m|m;exact Nat.lt_of_lt_of_le f m;exact Nat.lt_of_lt_of_le (Nat.lt_of_lt_of_le h e) m
 ·have f:=d.le id R;obtain⟨I,f0,f1,f2,Y,f4⟩:=d.blk id T R (p id T f M);refine⟨I,f0,f1,f2,Y,fun t g u=>?_⟩;obtain⟨Z,p2⟩:=f4 t g u;exact⟨(q id f).trans Z,p2⟩
theorem b7{st st':St}(h:az st st'):Wk st st':=fun _ _ _ a=>MP h a
theorem H9(a:List Nat)(b:Fr){st:St}(hz:∀p,p∈b→Snap st.hp (fun id=>id∈a) (fv p.1 st.fr) p.2):Wk st ⟨b++st.fr,aE a st.hp,st.nx⟩:=fun _ _ _ d=>ML a b hz d
theorem wT{st st':St}(a:List Nat)(b:Fr)(hz:∀p,p∈b→Snap st.hp (fun id=>id∈a) (fv p.1 st.fr) p.2)(h:az ⟨b++st.fr,aE a st.hp,st.nx⟩ st'):Wk st st':=(H9 a b hz).trans (b7 h)
theorem zh{fr:Fr}{hp:Hp}{U U':Nat→Prop}{a:Act}{w:World}(h:∀k,U k→U' k)(r:ox c fr hp U a w):ox c fr hp U' a w:=by
 obtain⟨p,q,σ,d,m,l⟩:=r;have st:Step w (bQ c w σ hp) σ hp U w (bQ c w σ hp) σ hp U':=⟨fun _ h=>h,fun _ _=>rfl,h,fun id o _ h=>⟨o,h,rfl,rfl,cR _,fun _ g j=>⟨j,fun _ h=>h⟩⟩⟩;refine⟨p,q,σ,⟨d.inj,fun i b e=>h _ (d.lt i b e),fun i b e=>?_,d.mine,d.os,d.tape,d.output,d.size,d.old⟩,fun n=>(m n).step st,l.trans st⟩;rcases d.blk i b e with f|⟨g,j,f⟩;exact .inl f;exact .inr ⟨g,j,f.step st rfl⟩
theorem kO:∀ (x:Code) (Q:Exit→St→Prop) (st:St) (a:Act) (w:World),oy P c.n x Q st→mF c st a w→x.wp P (fun e a' w'=>∃ st',Q e st'∧mF c st' a' w') a w
 | .skip,Q,st,a,w,h,hs=>wp_skip ⟨st,h,hs⟩
 | .region id ops false,Q,st,a,w,h,hs=>wp_region_list (H8 (Q:=fun e a' w'=>∃st',Q e st'∧mF c st' a' w') (fun st a w hK hs=>⟨st,hK,hs⟩) ops.toList st a w h hs)
 | .region id ops true,Q,st,a,w,h,hs=>by
  rcases h with ⟨zs,ss,m,hB,hm,h⟩|⟨zs,is,za,t,st',hB,hm,h,hq⟩;exact F4 hm hB (fun fr hp a w U hK hU hS=>⟨_,hK,zh hU hS⟩) (fun k hk=>hk) hs h;exact Rj hm hB (fun fr hp a w U hK hU hS=>⟨st',hq,hK c _ _ (zh hU hS)⟩) (fun k hk=>hk) hs h
 | .seq x y,Q,st,a,w,h,hs=>by
  refine wp_seq (wp_mono (kO x _ st a w h hs) fun e a' w'⟨st',hq,hs'⟩=>?_);cases e with
  |normal=>exact kO y Q st' a' w' hq hs'
  |_=>exact⟨st',hq,hs'⟩
 | .cond cnd x y,Q,st,a,w,h,hs=>by
  simp only[oy]at h;split at h;rename_i b hb;obtain⟨σ,_,_,E⟩:=F5 hs;have hv:=gG (hb▸E cnd);refine wp_cond_split hv (fun ht=>?_) (fun hf=>?_);exact kO x Q st a w (h.1 ht) hs;exact kO y Q st a w (h.2 hf) hs;exact h.elim
 | .block id x,Q,st,a,w,h,hs=>by
  refine wp_block (wp_mono (kO x _ st a w h hs) fun e a' w'⟨st',hq,hs'⟩=>?_);cases e with
  |exit i =>
   simp only[tV]at hq;simp only[Exit.inBlock];split at hq;rename_i hi;rw[if_pos hi];exact⟨st',hq,hs'⟩;rename_i hi;rw[if_neg hi];exact⟨st',hq,hs'⟩
  |_=>exact⟨st',hq,hs'⟩
 | .loop x,Q,st,a,w,h,hs=>by
  obtain⟨I,⟨m0,st0,hw0,hI0⟩,hround⟩:=h
  have key:∀ m st a w,I m st→mF c st a w→(Code.loop x).wp P (fun e a' w'=>∃ st',Q e st'∧mF c st' a' w') a w:=by
   intro m0 st0 a0 w0 hI hsim
   -- a measure: the least m with which some state of the relation is there
   refine wp_loop (fun a w=>∃m st,I m st∧mF c st a w) (fun a w=>Classical.epsilon fun m=>(∃st,I m st∧mF c st a w)∧∀m',(∃st,I m' st∧mF c st a w)→m≤m') ⟨m0,st0,hI,hsim⟩ ?_;rintro a1 w1⟨m1,st1,h1,h2⟩;have least:∃m,(∃st,I m st∧mF c st a1 w1)∧∀m',(∃st,I m' st∧mF c st a1 w1)→m≤m':=by
    have hex:∃m,∃st,I m st∧mF c st a1 w1:=⟨m1,st1,h1,h2⟩;clear h1 h2;have:∀k,(∃m,m≤k∧∃st,I m st∧mF c st a1 w1)→∃m,(∃st,I m st∧mF c st a1 w1)∧∀m',(∃st,I m' st∧mF c st a1 w1)→m≤m':=by
     intro k
     induction k with
     |zero =>
      rintro⟨m,hm,hx⟩;exact⟨m,hx,fun m' _=>aq⟩
     | succ k ih =>
      rintro⟨m,hm,hx⟩;by_cases hk:∃m,m≤k∧∃st,I m st∧mF c st a1 w1;exact ih hk;refine⟨m,hx,fun m' hm'=>?_⟩;rcases Nat.lt_or_ge m' m with hlt|hge;exact absurd ⟨m',aq,hm'⟩ hk;exact hge
    obtain⟨m,hx⟩:=hex;exact this m ⟨m,cR _,hx⟩
   have hmu:=Classical.epsilon_spec least;generalize(Classical.epsilon fun m=>(∃st,I m st∧mF c st a1 w1)∧∀m',(∃st,I m' st∧mF c st a1 w1)→m≤m')=mu at hmu;obtain⟨⟨st2,h3,h4⟩,_⟩:=hmu;refine wp_mono (kO x _ st2 a1 w1 (hround mu st2 h3) h4) fun e a' w'⟨st',hq,hs'⟩=>?_;cases e with
   | normal =>
    obtain⟨m',st'',hlt,hweak,hI'⟩:=hq;have hs'':=hweak c _ _ hs';refine⟨⟨m',st'',hI',hs''⟩,?_⟩;have least':∃m,(∃st,I m st∧mF c st a' w')∧∀m',(∃st,I m' st∧mF c st a' w')→m≤m':=by
     have:∀k,(∃m,m≤k∧∃st,I m st∧mF c st a' w')→∃m,(∃st,I m st∧mF c st a' w')∧∀m',(∃st,I m' st∧mF c st a' w')→m≤m':=by
      intro k
      induction k with
      |zero =>
       rintro⟨m,hm,hx⟩;exact⟨m,hx,fun m' _=>aq⟩
      | succ k ih =>
       rintro⟨m,hm,hx⟩;by_cases hk:∃m,m≤k∧∃st,I m st∧mF c st a' w';exact ih hk;refine⟨m,hx,fun m' hm'=>?_⟩;rcases Nat.lt_or_ge m' m with hlt|hge;exact absurd ⟨m',aq,hm'⟩ hk;exact hge
     exact this m' ⟨m',cR _,st'',hI',hs''⟩
    have hmu':=Classical.epsilon_spec least';exact Nat.lt_of_le_of_lt (hmu'.2 m' ⟨st'',hI',hs''⟩) hlt
   |_=>exact⟨st',hq,hs'⟩
  exact key m0 st0 a w hI0 (hw0 c _ _ hs)
 | .exit id,Q,st,a,w,h,hs=>wp_exit ⟨st,h,hs⟩
 | .ret,Q,st,a,w,h,hs=>wp_ret ⟨st,h,hs⟩
 | .rangeFunc ..,Q,st,a,w,h,hs=>h.elim
 | .scope _,Q,st,a,w,h,hs=>h.elim
 | .label _,Q,st,a,w,h,hs=>h.elim
 | .goto _,Q,st,a,w,h,hs=>h.elim
 | .refuse _,Q,st,a,w,h,hs=>h.elim
end
end Go.Am
namespace Go.Am
def au(P:Program)(g:FuncId)(args:List AV)(Q:AV→Prop):Prop :=
 (∃ fn, P.funcs[g]? = some fn ∧ (fn.name == "runtime.NumGoroutine") = false ∧ fn.body.isNone = false) ∧
 ∀ (w:World) (S:Nat→Prop) (vs:List Value),(∀ b,S b→b<w.heap.size)→vs.length=args.length →
  (∀(i:Nat)(v:AV)(x:Value),args[i]?=some v→vs[i]?=some x→AIs w S (fun _=>none) [] (fun _=>False) v x) →
  Calls P g vs.toArray w fun e w'=>∃x r,e=.returned x∧Q r∧r.deep∧RowKit.Below w.heap.size w w' ∧
   AIs w' (fun b=>S b∨(w.heap.size≤b∧b<w'.heap.size)) (fun _=>none) [] (fun _=>False) r x
section
variable {P:Program}
theorem zi{g:FuncId}{args:List AV}{hp:Hp}{N:Nat}{K:AV→Hp→Prop}{Q:AV→Prop}(h:au P g args Q)(C:∀v,v∈args→v.deep)(o:∀r,Q r→K r hp):gi P g args hp N K:=by
 refine⟨h.1,fun c U σ w t d F s E=>?_⟩;refine(h.2 w (bQ c w σ hp) t (fun b a=>a.1.1) s (fun i v x l f=>nE (C v (cr l)) (fun _ h=>h) (E i v x l f))).mono fun e G q=>?_;obtain⟨x,r,rfl,m,k,a,f⟩:=q;obtain⟨D,z⟩:=pD (N:=N) d a;refine⟨x,rfl,r,hp,σ,o r m,D,z,nE k (fun b j=>?_) f⟩;rcases j with h|⟨p,y⟩;exact⟨⟨Nat.lt_of_lt_of_le h.1.1 a.size,h.1.2⟩,h.2⟩;exact⟨⟨y,fun id A g u B=>by have:=eg (d.at u B);omega⟩,.inr (Nat.le_trans d.size p)⟩
theorem Ds{g:FuncId}{args args':List AV}{hp:Hp}{N:Nat}{K:AV→Hp→Prop}{Q:AV→Prop}(h:au P g args' Q)(l:args.length=args'.length)
  (C:∀(i:Nat)(v f:AV),args[i]?=some v→args'[i]?=some f→Snap hp (fun _=>True) v f) (q:∀r,Q r→r.flat) (p:∀r,Q r→K r hp):gi P g args hp N K:=by
 refine⟨h.1,fun c U σ w u j G t F=>?_⟩;refine(h.2 w (fun b=>b<w.heap.size) u (fun b d=>d) (t.trans l) (fun i f x o k=>?_)).mono fun e H s=>?_;have a:i<args.length:=by have:=(ci.1 o).1;omega
 exact nF (fun b d=>d.1.1) (fun id A g _ y B=>eg (j.at y B)) j (C i _ f (cm a) o) (F i _ x (cm a) k);obtain⟨x,r,rfl,m,E,d,k⟩:=s;obtain⟨D,z⟩:=pD (N:=N) j d;exact⟨x,rfl,r,hp,σ,p r m,D,z,Rk (q r m) k⟩
theorem Dt(d:List Nat){g:FuncId}{args args':List AV}{hp:Hp}{N:Nat}{K:AV→Hp→Prop}{Q:AV→Prop}(h:au P g args' Q)(u:args.length=args'.length)
  (T:∀(i:Nat)(v q:AV),args[i]?=some v→args'[i]?=some q→Snap hp (fun id=>id∈d) v q) (G:∀r,Q r→K r (aE d hp)):gi P g args hp N K:=by
 refine⟨h.1,fun c U σ w M j Y L W=>?_⟩;obtain⟨C,D⟩:=wR d j;refine(h.2 w (bQ c w σ (aE d hp)) M (fun b k=>k.1.1) (L.trans u) (fun i q x E t=>?_)).mono fun e Z J=>?_;have l:i<args.length:=by have:=(ci.1 E).1;omega
 refine nF (fun b k=>D.sub b k) (fun id f g y m p=>⟨⟨eg (j.at m p),fun s o X a z e=>?_⟩,?_⟩) j (T i _ q (cm l) E) (W i _ x (cm l) t);subst e;rw[mR]at a;split at a;cases a;rename_i H;have:=j.inj id s f o g m a p z;subst this;exact H (by simpa using y);rcases j.mine id f g m p with h|h;exact .inl (c.hM g h);exact .inr h;obtain⟨x,r,rfl,F,B,k,t⟩:=J;obtain⟨V,R⟩:=pD (N:=N) C k;refine⟨x,rfl,r,_,σ,G r F,V,D.trans R,nE B (fun b A=>?_) t⟩;rcases A with h|⟨I,O⟩;exact⟨⟨Nat.lt_of_lt_of_le h.1.1 k.size,h.1.2⟩,h.2⟩;refine⟨⟨O,fun id f g m p e=>?_⟩,.inr (Nat.le_trans j.size I)⟩;have:=eg (C.at m p);omega
def AP(tmps:Array Value):ResultVar→Sem Value
 | .tmp t=>pure (tmps.getD t undef)
 | .cell a t=>do loadVar t (←asAddr (tmps.getD a undef))
theorem F6(fn:Func)(tmps:Array Value):results fn tmps=(do let vs ←fn.results.toList.toArray.mapM (AP tmps);pure (if h:vs.size=1 then vs[0]else .tuple vs)):=by
 unfold results;have:(fun x:ResultVar=>(match x with | .tmp t=>pure (tmps.getD t undef) | .cell a t=>do loadVar t (←asAddr (tmps.getD a undef)):Sem Value))=AP tmps:=by
  funext x;cases x<;>rfl
 rw[←this,Array.toArray_toList];rfl
def ah (P:Program) (st:St):ResultVar→Option AV
 | .tmp t=>some (fv t st.fr)
 | .cell t ty =>
  match fv t st.fr with
  | .ptr id i off tot =>
   (match lk id st.hp with
   |some b =>
    (match b.es[i]? with
    |some row=>if b.es.length=tot then FM P ty (row.drop off)else none
    |none=>none)
   |none=>none)
  |_=>none
def Du(P:Program)(rs:List ResultVar)(R:AV→St→Prop)(st:St):Prop :=
 match rs with
 |[]=>R (.tup []) st
 |[x]=>(match ah P st x with
  |some v=>R v st
  |none=>False)
 |[x,y]=>(match ah P st x,ah P st y with
  |some v,some u=>R (.tup [v,u]) st
  |_,_=>False)
 |[x,y,z]=>(match ah P st x,ah P st y,ah P st z with
  |some v,some u,some t=>R (.tup [v,u,t]) st
  |_,_,_=>False)
 |_=>False
def MQ(P:Program)(rs:List ResultVar)(R:AV→St→Prop):Exit→St→Prop
 | .normal,st=>Du P rs R st
 | .ret,st=>Du P rs R st
 |_,_=>False
theorem pE {c:Ctx} {st:St} {w:World} {σ:Nat→Option Nat} {tmps:Array Value} (F:Rel c st.hp (fun i=>i<st.nx) σ w)
  (E:∀n,AIs w (bQ c w σ st.hp) σ st.hp (fun i=>i<st.nx) (fv n st.fr) (tmps.getD n undef)) {D:ResultVar} {v:AV} (h:ah P st D=some v) :
  ∃x,(AP tmps D).run P w=.ok x w∧AIs w (bQ c w σ st.hp) σ st.hp (fun i=>i<st.nx) v x:=by
 cases D with
 |tmp t =>
  simp only[ah]at h;injection h with h;subst h;exact⟨_,rfl,E t⟩
 | cell t ty =>
  simp only[ah]at h;split at h;rename_i id i d M I;have p:=E t;rw[I]at p;split at h;rename_i b G;split at h;rename_i A q;split at h;rename_i L;obtain⟨g,k,N,z,m,r,J,H,o⟩:=px F p G q L;have l:∀(j:Nat)(y:AV),(A.drop d)[j]?=some y→∃u,k[i*b.e+d+j]?=some u∧AIs w (bQ c w σ st.hp) σ st.hp (fun i=>i<st.nx) y u:=by
   intro j y f;rw[List.getElem?_drop]at f;obtain⟨u,a,s⟩:=o _ y f;exact⟨u,by rw[Nat.add_assoc];exact a,s⟩
  obtain⟨u,B,C⟩:=jf (P:=P) (w:=w) (S:=bQ c w σ st.hp) (σ:=σ) (hp:=st.hp) (U:=fun i=>i<st.nx) (ad:=⟨g,i*b.e+d,none⟩) (vs:=fun j=>k.getD (i*b.e+d+j) undef) h
   (fun j y f=>by
    obtain⟨u,a,s⟩:=l j y f;rw[gV,cell_of_row w _ _ k _ _ m,a]
    simp[a])
   (fun j y f=>by
    obtain⟨u,a,s⟩:=l j y f;simp only[ct,a,Option.getD_some]
    exact r _ u a)
   (fun j y f=>by
    obtain⟨u,a,s⟩:=l j y f;simp only[ct,a,Option.getD_some]
    exact s)
  refine⟨u,?_,C⟩;simp only[AP,z,asAddr,Sem.run_bind,Sem.run_pure,Result.andThen_ok,B];cases h;cases h;cases h;cases h
theorem AQ{c:Ctx}{fn:Func}{R:AV→St→Prop}{st:St}{a:Act}{w:World}(z:mF c st a w)(h:Du P fn.results.toList R st) :
  ∃v x,R v st∧(results fn a.tmps).run P w=.ok x w∧∃ σ,Rel c st.hp (fun i=>i<st.nx) σ w∧AIs w (bQ c w σ st.hp) σ st.hp (fun i=>i<st.nx) v x∧C5 c st.hp (fun i=>i<st.nx) σ w:=by
 obtain⟨_,_,σ,d,g,l⟩:=z;rw[F6];generalize fn.results.toList=rs at h;unfold Du at h;split at h;exact⟨_,.tuple #[],h,aw,σ,d,.tup [] #[] rfl aw,l⟩;rename_i E;split at h;rename_i v B;obtain⟨x,j,k⟩:=pE d g B;exact⟨v,x,h,by simp[j],σ,d,k,l⟩;exact h.elim
 ·rename_i A y;split at h
  ·rename_i s r e f;obtain⟨o,j,q⟩:=pE d g e;obtain⟨p,k,k2⟩:=pE d g f;refine⟨_,.tuple #[o,p],h,by simp[j,k],σ,d,.tup _ _ rfl fun i c x hc b=>?_,l⟩
   match i,hc,b with
   |0,hc,b=>simp at hc b;subst hc;subst b;exact q
   |1,hc,b=>simp at hc b;subst hc;subst b;exact k2
   |n+2,hc,b=>simp at hc
  ·exact h.elim
 ·rename_i A y D;split at h
  ·rename_i s r C e f m;obtain⟨o,j,q⟩:=pE d g e;obtain⟨p,k,k2⟩:=pE d g f;obtain⟨t,u,k3⟩:=pE d g m;refine⟨_,.tuple #[o,p,t],h,by simp[j,k,u],σ,d,.tup _ _ rfl fun i c x hc b=>?_,l⟩
   match i,hc,b with
   |0,hc,b=>simp at hc b;subst hc;subst b;exact q
   |1,hc,b=>simp at hc b;subst hc;subst b;exact k2
   |2,hc,b=>simp at hc b;subst hc;subst b;exact k3
   |n+3,hc,b=>simp at hc
  ·exact h.elim
 ·exact h.elim
def LI(k:Nat):List AV→Fr
 |[]=>[]
 |v::r=>(k,v)::LI (k+1) r
theorem AS:∀(args:List AV)(k n:Nat),lk n (LI k args)=if k≤n then args[n-k]? else none
 |[],k,n=>by simp[LI,lk]
 | v :: r,k,n=>by
  simp only[LI,lk,AS r (k+1) n];by_cases h:k=n;subst h;simp;rw[if_neg h];by_cases a:k≤n;rw[if_pos aq,if_pos a,show n-k=(n-(k+1))+1 by omega,List.getElem?_cons_succ];rw[if_neg aq,if_neg a]
def dC(Q:AV→Prop)(v:AV)(st:St):Prop:=∃r,Snap st.hp (fun _=>True) v r∧r.deep∧Q r
theorem aa{Q:AV→Prop}{v:AV}{st:St}(a:v.deep)(hq:Q v):dC Q v st:=⟨v,.deep a,a,hq⟩
theorem dU{Q:AV→Prop}{v a:AV}{st:St}(h:fH st.hp (fun _=>True) v a)(b:a.deep)(hq:Q a):dC Q v st:=⟨a,.one h,b,hq⟩
theorem ek{Q:AV→Prop}{cs cs':List AV}{st:St}(h:∀(i:Nat)(c a:AV),cs[i]?=some c→cs'[i]?=some a→fH st.hp (fun _=>True) c a)(d:cs'.length=cs.length)(e:(AV.tup cs').deep)(hq:Q (.tup cs')):dC Q (.tup cs) st :=
 ⟨.tup cs',.tup d (fun i c a f b=>.inl (h i c a f b)),e,hq⟩
theorem wU{Q:AV→Prop}{cs cs':List AV}{st:St}(h:∀(i:Nat)(c a:AV),cs[i]?=some c→cs'[i]?=some a→fH st.hp (fun _=>True) c a)(b:cs'.length=cs.length)(d:(AV.agg cs').deep)(hq:Q (.agg cs')):dC Q (.agg cs) st :=
 ⟨.agg cs',.agg ⟨b,h⟩,d,hq⟩
theorem J0 {g : FuncId} {fn : Func} {code : Code} {args : List AV} {Q : AV → Prop} (hf : P.funcs[g]? = some fn) (hn : (fn.name == "runtime.NumGoroutine") = false) (hb : fn.body = some code)
  {n:Nat} {rs:List ResultVar} (hnt:fn.ntmps=n) (hrs:fn.results.toList=rs) (hle:args.length≤n) (hd:∀v,v∈args→v.deep)
  (h:oy P n code (MQ P rs (dC Q)) ⟨LI 0 args,[],0⟩):au P g args Q:=by
 subst hnt;subst hrs;refine⟨⟨fn,hf,hn,by simp[hb]⟩,fun w S vs hS hl hv=>?_⟩;have hsz:((vs.toArray++Array.replicate (fn.ntmps-vs.toArray.size) undef):Array Value).size=fn.ntmps:=by simp;omega
 refine calls_of_wp hf hb ?_
 let c:Ctx:=⟨w,fun _=>False,S,fn.ntmps,fun _ h=>h.elim,fun _=>False,fun _=>none,[],0,aq⟩
 have hsim:mF c ⟨LI 0 args,[],0⟩ { tmps:=vs.toArray++Array.replicate (fn.ntmps-vs.toArray.size) undef,defers:=[] } w:=by
  refine⟨rfl,hsz,fun _=>none,⟨(fun i j bi bj g h=>by cases h),(fun i b h=>by cases h),(fun i b h=>by cases h),(fun i b g h=>by cases h),rfl,rfl,rfl,cR _,fun _ _ _=>rfl⟩,fun n=>?_,⟨fun _ h=>h.elim,fun _ h=>h.elim,fun i h=>absurd h (Nat.not_lt_zero _),fun i b' h=>absurd h (Nat.not_lt_zero _)⟩⟩;simp only[fv,AS,Nat.zero_le,if_true,Nat.sub_zero]
  cases hn:args[n]? with
  |none=>exact .any _
  | some v =>
   have hlt:n<vs.length:=by have:=(ci.1 hn).1;omega
   have hx:vs[n]?=some vs[n]:=cm hlt
   have:(vs.toArray++Array.replicate (fn.ntmps-vs.toArray.size) undef).getD n undef=vs[n]:=by
    rw[ct,Array.getElem?_append,if_pos (by simpa using hlt)];simp[hx]
   rw[this];simp only[Option.getD_some];exact nE (hd v (cr hn)) (fun b hb=>⟨⟨hS b hb,(fun id blk g h=>by cases h)⟩,.inl hb⟩) (hv n v _ hn hx)
 have uO:∀st a w',Du P fn.results.toList (dC Q) st→mF c st a w'→∃v,(results fn a.tmps).run P w'=.ok v w'∧∃x r,Ending.returned v=.returned x∧Q r∧r.deep∧RowKit.Below w.heap.size w w' ∧
   AIs w' (fun b=>S b∨(w.heap.size≤b∧b<w'.heap.size)) (fun _=>none) [] (fun _=>False) r x:=by
  intro st a w' hret hs;obtain⟨v,x,⟨r,hsn,hrd,hQ⟩,hrun,σ,hr,hx,_⟩:=AQ hs hret;refine⟨x,hrun,x,r,rfl,hQ,hrd,⟨hr.os,hr.tape,hr.output,hr.size,fun b hb=>hr.old b hb (fun h=>h)⟩,?_⟩;refine nF (fun b hb=>?_) (fun id blk g _ hk hg=>?_) hr hsn hx
  ·rcases hb.2 with h|h
   ·exact .inl h
   ·exact .inr ⟨h,hb.1.1⟩
  ·rcases hr.mine id blk g hk hg with h|h
   ·exact h.elim
   ·exact .inr ⟨h,eg (hr.at hk hg)⟩
 refine wp_mono (kO (c:=c) code _ _ _ w h hsim) fun e a w'⟨st,hq,hs⟩=>?_
 cases e with
 |normal=>exact⟨hs.1,uO st a w' hq hs⟩
 |ret=>exact⟨hs.1,uO st a w' hq hs⟩
 |_=>exact hq.elim
end
end Go.Am
namespace Go.Am
def SqK(P:Program)(n:Nat)(y:Code)(Q:Exit→St→Prop):Exit→St→Prop:=AO (oy P n y Q) Q
def F7(P:Program)(n:Nat)(ops:Array Oper)(rest:List Oper)(K:St→Prop)(fr:Fr)(nx:Nat)(a:Option Tmp):AV→Hp→Prop:=ZJ (sr P n ops rest K) fr nx a
def LpW(P:Program)(n:Nat)(x:Code)(Q:Exit→St→Prop)(st:St):Prop:=Vz (oy P n x) Q st
def uK(P:Program)(g:FuncId)(args:List AV)(hp:Hp)(N:Nat)(K:AV→Hp→Prop):Prop:=gi P g args hp N K∨LQ P g args hp K
section
variable (P:Program) (n:Nat) (Q:Exit→St→Prop) (fr:Fr) (hp:Hp) (nx:Nat) (st:St) (K:AV→Hp→Prop) (KS:St→Prop)
theorem ZY(x y:Code):oy P n (.seq x y) Q st=oy P n x (SqK P n y Q) st:=rfl
theorem Wz:oy P n .skip Q st=Q .normal st:=rfl
theorem ZZ:oy P n .ret Q st=Q .ret st:=rfl
theorem WA(i:Nat):oy P n (.exit i) Q st=Q (.exit i) st:=rfl
theorem Rl(i:Nat)(x:Code):oy P n (.block i x) Q st=oy P n x (tV i Q) st:=rfl
theorem MR(i:Nat)(ops:Array Oper):oy P n (.region i ops false) Q st=sr P n ops ops.toList (MM Q) st:=rfl
def Z0(P:Program)(n:Nat)(ops:Array Oper)(Q:Exit→St→Prop)(st:St):Prop:=(∃zs ss m,F2 n ops zs ss m=true∧P.follows .mixedOrders=true∧zW P ops st.nx st.hp (fun fr=>FG P ops st.nx st.hp (fun fr hp=>Q .normal ⟨fr,hp,st.nx+32*ops.size⟩) ss m fr st.hp) zs st.fr) ∨
 ∃zs is za t st',wQ n ops zs is za t=true∧P.follows .mixedOrders=true∧zW P ops st.nx st.hp (fun fr=>yK P ops st.nx st.hp (fun fr hp=>Wk ⟨fr,hp,st.nx+32*ops.size⟩ st') t fr st.hp) zs st.fr∧Q .normal st'
theorem WB(i:Nat)(ops:Array Oper):oy P n (.region i ops true) Q st=Z0 P n ops Q st:=rfl
theorem WC(x:Code):oy P n (.loop x) Q st=LpW P n x Q st:=rfl
def aeD(v:AV)(A B:Prop):Prop :=
 match v with
 | .d (.bool b)=>(b=true→A)∧(b=false→B)
 |_=>False
def AU(P:Program)(n:Nat)(v:AV)(x y:Code)(Q:Exit→St→Prop)(st:St):Prop :=
 match v with
 | .d (.bool b)=>(b=true→oy P n x Q st)∧(b=false→oy P n y Q st)
 |_=>False
theorem WE(c:Operand)(x y:Code):oy P n (.cond c x y) Q st=AU P n (ev st.fr c) x y Q st:=rfl
theorem Rm(x y:Code):AU P n (.d (.bool true)) x y Q st=oy P n x Q st:=by simp[AU]
theorem Ro(x y:Code):AU P n (.d (.bool false)) x y Q st=oy P n y Q st:=by simp[AU]
theorem Rq(p:Prop)[Decidable p](x y:Code):AU P n (.d (.bool (decide p))) x y Q st=((p→oy P n x Q st)∧(¬p→oy P n y Q st)):=by simp[AU]
theorem Rr(p:Prop)[Decidable p](x y:Code):AU P n (.d (.bool (!decide p))) x y Q st=((¬p→oy P n x Q st)∧(p→oy P n y Q st)):=by simp[AU]
theorem WF(y:Code):SqK P n y Q .normal st=oy P n y Q st:=rfl
theorem WG(y:Code):SqK P n y Q .ret st=Q .ret st:=rfl
theorem WH(y:Code)(i:Nat):SqK P n y Q (.exit i) st=Q (.exit i) st:=rfl
theorem WI(i:Nat):tV i Q .normal st=Q .normal st:=rfl
theorem WJ(i:Nat):tV i Q .ret st=Q .ret st:=rfl
theorem WL(i j:Nat):tV i Q (.exit j) st=if j=i then Q .normal st else Q (.exit j) st:=rfl
theorem WM:MM Q st=Q .normal st:=rfl
theorem WN(I:Nat→St→Prop)(m:Nat):Dq I m Q .ret st=Q .ret st:=rfl
theorem WO(I:Nat→St→Prop)(m i:Nat):Dq I m Q (.exit i) st=Q (.exit i) st:=rfl
theorem Z1(ops:Array Oper):sr P n ops [] KS st=KS st:=rfl
theorem WP(ops:Array Oper)(a:Option Tmp)(d:Op)(ty:TypeId)(b:String)(e:Array Edge)(rest:List Oper) :
  sr P n ops (⟨a,d,ty,b,e,none⟩::rest) KS ⟨fr,hp,nx⟩=(gQ n a∧bS P fr hp nx d (F7 P n ops rest KS fr nx a)):=rfl
def qT(P:Program)(n:Nat)(ops:Array Oper)(v:AV)(e:Bool)(a:Option Tmp)(f:Op)(rest:List Oper)(KS:St→Prop)(fr:Fr)(hp:Hp)(nx:Nat):Prop :=
 match v with
 | .d (.bool b)=>gQ n a∧(b=e→bS P fr hp nx f (F7 P n ops rest KS fr nx a))∧(b=!e→F7 P n ops rest KS fr nx a (.tup []) hp)
 | .tup []=>gQ n a∧F7 P n ops rest KS fr nx a (.tup []) hp
 |_=>False
theorem Rt(ops:Array Oper)(b:Option Tmp)(f:Op)(ty:TypeId)(e:String)(g:Array Edge)(j:Nat)(a:Bool)(rest:List Oper) :
  sr P n ops (⟨b,f,ty,e,g,some (j,a)⟩::rest) KS ⟨fr,hp,nx⟩ =
   (match(ops[j]?).bind (·.dst)with
   |some d=>qT P n ops (fv d fr) a b f rest KS fr hp nx
   |none=>False):=by
 simp only[sr];cases(ops[j]?).bind (·.dst)with
 |none=>rfl
 |some d =>
  simp only[qT];generalize fv d fr=v;cases v with
  |d dv=>cases dv<;>rfl
  |tup l=>cases l<;>rfl
  |_=>rfl
theorem Z2(ops:Array Oper)(b:Bool)(a:Option Tmp)(d:Op)(rest:List Oper):qT P n ops (.tup []) b a d rest KS fr hp nx=(gQ n a∧F7 P n ops rest KS fr nx a (.tup []) hp):=rfl
theorem Z3(ops:Array Oper)(a:Option Tmp)(b:Op)(rest:List Oper):qT P n ops (.d (.bool true)) true a b rest KS fr hp nx=(gQ n a∧bS P fr hp nx b (F7 P n ops rest KS fr nx a)):=by simp[qT]
theorem Z4(ops:Array Oper)(a:Option Tmp)(b:Op)(rest:List Oper):qT P n ops (.d (.bool false)) false a b rest KS fr hp nx=(gQ n a∧bS P fr hp nx b (F7 P n ops rest KS fr nx a)):=by simp[qT]
theorem WQ(ops:Array Oper)(a:Option Tmp)(b:Op)(rest:List Oper):qT P n ops (.d (.bool true)) false a b rest KS fr hp nx=(gQ n a∧F7 P n ops rest KS fr nx a (.tup []) hp):=by simp[qT]
theorem WR(ops:Array Oper)(a:Option Tmp)(b:Op)(rest:List Oper):qT P n ops (.d (.bool false)) true a b rest KS fr hp nx=(gQ n a∧F7 P n ops rest KS fr nx a (.tup []) hp):=by simp[qT]
theorem WS(p:Prop)[Decidable p](ops:Array Oper)(a:Option Tmp)(b:Op)(rest:List Oper):qT P n ops (.d (.bool (decide p))) true a b rest KS fr hp nx=(gQ n a∧(p→bS P fr hp nx b (F7 P n ops rest KS fr nx a))∧(¬p→F7 P n ops rest KS fr nx a (.tup []) hp)):=by simp[qT]
theorem WT(p:Prop)[Decidable p](ops:Array Oper)(a:Option Tmp)(b:Op)(rest:List Oper):qT P n ops (.d (.bool (decide p))) false a b rest KS fr hp nx=(gQ n a∧(¬p→bS P fr hp nx b (F7 P n ops rest KS fr nx a))∧(p→F7 P n ops rest KS fr nx a (.tup []) hp)):=by simp[qT]
theorem acW(ops:Array Oper)(rest:List Oper)(a:Option Tmp)(v:AV)(hp':Hp):F7 P n ops rest KS fr nx a v hp'=sr P n ops rest KS ⟨bp fr a v,hp',nx+32⟩:=rfl
theorem Z5(d:Nat)(v:AV):bp fr (some d) v=(d,v)::fr:=rfl
theorem WU(v:AV):bp fr none v=fr:=rfl
theorem Z6(d:Nat):gQ n (some d)=(d<n):=rfl
theorem WV:gQ n none=True:=rfl
theorem Z7(t:Nat):ev fr (.tmp t)=fv t fr:=rfl
theorem Ru(v:Value):ev fr (.const v)=QZ v:=rfl
theorem WX(f:FuncId):ev fr (.func f)=.fn f []:=rfl
theorem acX(d m:Nat)(v:AV):fv m ((d,v)::fr)=if d=m then v else fv m fr:=jR d m v fr
theorem Z8(m:Nat):fv m []=.any:=rfl
theorem acY{α:Type}(m k:Nat)(v:α)(t:List (Nat×α)):lk k ((m,v)::t)=if m=k then some v else lk k t:=rfl
theorem Z9{α:Type}(k:Nat):lk k ([]:List (Nat×α))=none:=rfl
theorem WY(id m:Nat)(b v:Blk)(t:Hp):bX id b ((m,v)::t)=if m=id then(m,b)::t else(m,v)::bX id b t:=rfl
theorem acZ(k:IntKind)(i:Int):QZ (.int k i)=.d (.int k i):=rfl
theorem ac0(b:Bool):QZ (.bool b)=.d (.bool b):=rfl
theorem ac1:QZ (.slice none 0 0)=.nil:=rfl
theorem WZ(s:ByteArray):QZ (.string s)=.d (.str (s.data.toList.map fun c=>(c.toNat:Int))):=rfl
theorem ac2:QZ (.pointer none)=.d .nilp:=rfl
theorem W0(x:Operand):bS P fr hp nx (.move x) K=K (ev fr x) hp:=rfl
theorem MS(x:Operand):bS P fr hp nx (.assign x) K=K (ev fr x) hp:=rfl
def sw(c a b:AV)(K:AV→Hp→Prop)(hp:Hp):Prop :=
 match c with
 | .d (.bool t) =>
  (match a,b with
  | .d (.bool x),.d (.bool y)=>K (.d (.bool (if t then x else y))) hp
  |va,vb=>(t=true→K va hp)∧(t=false→K vb hp))
 |_=>False
theorem W4(c a b:Operand):bS P fr hp nx (.pick c a b) K=sw (ev fr c) (ev fr a) (ev fr b) K hp:=by
 simp only[bS,sw];rfl
theorem MU(a b:AV):sw (.d (.bool true)) a b K hp=K a hp:=by
 unfold sw;dsimp only;split<;>simp
theorem MV(a b:AV):sw (.d (.bool false)) a b K hp=K b hp:=by
 unfold sw;dsimp only;split<;>simp
theorem J1(t x y:Bool):sw (.d (.bool t)) (.d (.bool x)) (.d (.bool y)) K hp=K (.d (.bool (if t then x else y))) hp:=rfl
theorem MW(t:Bool)(x:Bool):sw (.d (.bool t)) (.d (.bool x)) .any K hp=((t=true→K (.d (.bool x)) hp)∧(t=false→K .any hp)):=rfl
theorem MX(t:Bool)(x:Bool):sw (.d (.bool t)) (.d (.bool x)) (.tup []) K hp=((t=true→K (.d (.bool x)) hp)∧(t=false→K (.tup []) hp)):=rfl
theorem aaa(a:BinOp)(t b:TypeId)(x y:Operand):bS P fr hp nx (.binOp a t x y b) K=dj P a t (ev fr x) (ev fr y) K hp:=rfl
theorem Rw(t:TypeId)(k:IntKind)(x y:Int):dj P .add t (.d (.int k x)) (.d (.int k y)) K hp=K (.d (.int k (k.wrap (x+y)))) hp:=by simp[dj,dK,lg]
theorem Ry(t:TypeId)(k:IntKind)(x y:Int):dj P .sub t (.d (.int k x)) (.d (.int k y)) K hp=K (.d (.int k (k.wrap (x-y)))) hp:=by simp[dj,dK,lg]
theorem Rz(t:TypeId)(k:IntKind)(x y:Int):dj P .mul t (.d (.int k x)) (.d (.int k y)) K hp=K (.d (.int k (k.wrap (x*y)))) hp:=by simp[dj,dK,lg]
theorem RA(t:TypeId)(k:IntKind)(x y:Int):dj P .quo t (.d (.int k x)) (.d (.int k y)) K hp=(y≠0∧K (.d (.int k (k.wrap (x.tdiv y)))) hp):=by simp[dj,dK,lg]
theorem RB(t:TypeId)(k:IntKind)(x y:Int):dj P .rem t (.d (.int k x)) (.d (.int k y)) K hp=(y≠0∧K (.d (.int k (x.tmod y))) hp):=by simp[dj,dK,lg]
theorem RD(t:TypeId)(k:IntKind)(x y:Int):dj P .and t (.d (.int k x)) (.d (.int k y)) K hp=K (.d (.int k (bits .and k x y))) hp:=by simp[dj,dK,lg]
theorem W5(t:TypeId)(k:IntKind)(x y:Int):dj P .or t (.d (.int k x)) (.d (.int k y)) K hp=K (.d (.int k (bits .or k x y))) hp:=by simp[dj,dK,lg]
theorem RE(t:TypeId)(k:IntKind)(x y:Int):dj P .xor t (.d (.int k x)) (.d (.int k y)) K hp=K (.d (.int k (bits .xor k x y))) hp:=by simp[dj,dK,lg]
theorem F8(t:TypeId)(k:IntKind)(x y:Int):dj P .andNot t (.d (.int k x)) (.d (.int k y)) K hp=K (.d (.int k (bits .andNot k x y))) hp:=by simp[dj,dK,lg]
theorem RG(t:TypeId)(k a:IntKind)(x y:Int):dj P .shl t (.d (.int k x)) (.d (.int a y)) K hp=(0≤y∧K (.d (.int k (k.wrap (x*2 ^ (min y.toNat k.bits))))) hp):=by simp[dj,dK,lg,rS]
theorem RH(t:TypeId)(k a:IntKind)(x y:Int):dj P .shr t (.d (.int k x)) (.d (.int a y)) K hp=(0≤y∧K (.d (.int k (x.fdiv (2 ^ (min y.toNat k.bits))))) hp):=by simp[dj,dK,lg,rS]
theorem RI(t:TypeId)(k:IntKind)(x y:Int):dj P .eql t (.d (.int k x)) (.d (.int k y)) K hp=K (.d (.bool (decide (x=y)))) hp:=by simp[dj,dK,lg]
theorem RJ(t:TypeId)(k:IntKind)(x y:Int):dj P .neq t (.d (.int k x)) (.d (.int k y)) K hp=K (.d (.bool (!decide (x=y)))) hp:=by simp[dj,dK,lg]
theorem RL(t:TypeId)(k:IntKind)(x y:Int):dj P .lss t (.d (.int k x)) (.d (.int k y)) K hp=K (.d (.bool (decide (x<y)))) hp:=by simp[dj,dK,lg]
theorem RN(t:TypeId)(k:IntKind)(x y:Int):dj P .leq t (.d (.int k x)) (.d (.int k y)) K hp=K (.d (.bool (decide (x≤y)))) hp:=by simp[dj,dK,lg]
theorem RO(t:TypeId)(k:IntKind)(x y:Int):dj P .gtr t (.d (.int k x)) (.d (.int k y)) K hp=K (.d (.bool (decide (y<x)))) hp:=by simp[dj,dK,lg]
theorem RP(t:TypeId)(k:IntKind)(x y:Int):dj P .geq t (.d (.int k x)) (.d (.int k y)) K hp=K (.d (.bool (decide (y≤x)))) hp:=by simp[dj,dK,lg]
theorem RQ(e:BinOp)(t:TypeId)(a b c d:Nat):dj P e t (.ptr a b c d) (.d .nilp) K hp=QU P e t false K hp:=rfl
theorem RR(a:BinOp)(t:TypeId)(cs:List DV):dj P a t (.rop cs) (.d .nilp) K hp=QU P a t false K hp:=rfl
theorem RS(a:BinOp)(t:TypeId):dj P a t (.d .nilp) (.d .nilp) K hp=QU P a t true K hp:=rfl
def agK(P:Program)(d:BinOp)(t:TypeId)(k:TK)(a b:List AV)(K:AV→Hp→Prop)(hp:Hp):Prop :=
 match k with
 | .arr n el=>Vr P d t n el (j8 P el) a b K hp
 | .struct _=>Vs P d t a b K hp
 |_=>False
theorem W6(d:BinOp)(t:TypeId)(a b:List AV):dj P d t (.agg a) (.agg b) K hp=agK P d t (ca P t) a b K hp:=by
 simp only[dj,agK];cases ca P t<;>rfl
def agO(P:Program)(b:BinOp)(t:TypeId)(n:Nat)(el:TypeId)(a vs:Option (List Int))(K:AV→Hp→Prop)(hp:Hp):Prop :=
 match a,vs with
 | some a,some vs=>a.length=n∧vs.length=n∧P.cellsOf el=1∧P.eqGuardType P.depth t=false∧(match b with
   | .eql=>K (.d (.bool (decide (a=vs)))) hp
   | .neq=>K (.d (.bool (!decide (a=vs)))) hp
   |_=>False)
 |_,_=>False
theorem ac5(d:BinOp)(t:TypeId)(n:Nat)(el:TypeId)(k:IntKind)(a b:List AV):Vr P d t n el (some k) a b K hp=agO P d t n el (cy k a) (cy k b) K hp:=by
 simp only[Vr,agO];cases cy k a<;>cases cy k b<;>rfl
def sgR(P:Program)(e:BinOp)(t:TypeId)(b:Option (List (Option IntKind)))(a vs:Option (List L1))(K:AV→Hp→Prop)(hp:Hp):Prop :=
 match a,vs with
 | some a,some vs=>P.eqGuardType P.depth t=false∧b=some (a.map L1.k)∧b=some (vs.map L1.k)∧(match e with
   | .eql=>K (.d (.bool (decide (a=vs)))) hp
   | .neq=>K (.d (.bool (!decide (a=vs)))) hp
   |_=>False)
 |_,_=>False
theorem ac7(d:BinOp)(t:TypeId)(a b:List AV):Vs P d t a b K hp=sgR P d t (eE P 8 t) (fu a) (fu b) K hp:=by
 simp only[Vs,sgR];cases fu a<;>cases fu b<;>rfl
theorem Dv(k:IntKind)(a:List Int):cy k (a.map fun m=>AV.d (.int k m))=some a:=by
 induction a with
 |nil=>rfl
 |cons u r ih=>simp[cy,ih]
def idO(o:Option AV)(K:AV→Hp→Prop)(hp:Hp):Prop :=
 match o with
 |some v=>K v hp
 |none=>False
def idS(o:Option Int)(K:AV→Hp→Prop)(hp:Hp):Prop :=
 match o with
 |some b=>K (.d (.int .u8 b)) hp
 |none=>False
def idX(P:Program)(k:TK)(el:TypeId)(cs:List AV)(m:Int)(K:AV→Hp→Prop)(hp:Hp):Prop :=
 match k with
 | .scal=>P.cellsOf el=1∧idO cs[m.toNat]? K hp
 | .slice _=>P.cellsOf el=1∧idO cs[m.toNat]? K hp
 | .arr _ _=>P.cellsOf el≠0∧idO (FM P el (cs.drop (m.toNat*P.cellsOf el))) K hp
 |_=>False
def idW(P:Program)(k:TK)(x i:AV)(K:AV→Hp→Prop)(hp:Hp):Prop :=
 match k,x,i with
 | .arr n el,.agg cs,.d (.int _ m)=>0≤m∧m<n∧idX P (ca P el) el cs m K hp
 | .str,.d (.str bs),.d (.int _ m)=>0≤m∧idS bs[m.toNat]? K hp
 |_,_,_=>False
theorem RU(t:TypeId)(x i:Operand):bS P fr hp nx (.index t x i) K=idW P (ca P t) (ev fr x) (ev fr i) K hp:=rfl
def unW(a:UnOp)(v:AV)(K:AV→Hp→Prop)(hp:Hp):Prop :=
 match a,v with
 | .not,.d (.bool b)=>K (.d (.bool (!b))) hp
 | .neg,.d (.int k n)=>K (.d (.int k (k.wrap (0-n)))) hp
 | .xor,.d (.int k n)=>K (.d (.int k (bits .xor k (if k.signed then -1 else k.max) n))) hp
 |_,_=>False
theorem ac9(a:UnOp)(t:TypeId)(x:Operand):bS P fr hp nx (.unOp a t x) K=unW a (ev fr x) K hp:=by
 cases a<;>simp only[bS,unW]<;>split<;>simp_all
def aab(v:AV)(K:AV→Hp→Prop)(hp:Hp):Prop :=
 match v with
 | .ptr id i off tot=>K (.ptr id i off tot) hp
 | .rop cs=>K (.rop cs) hp
 | .fn f cs=>K (.fn f cs) hp
 | .mth f cs=>K (.mth f cs) hp
 |_=>False
theorem W7(x:Operand):bS P fr hp nx (.nilCheck x) K=aab (ev fr x) K hp:=rfl
def exW(v:AV)(i:Nat)(K:AV→Hp→Prop)(hp:Hp):Prop :=
 match v with
 | .tup vs=>(match vs[i]? with
  |some v=>K v hp
  |none=>False)
 |_=>False
theorem ada(x:Operand)(i:Nat):bS P fr hp nx (.extract x i) K=exW (ev fr x) i K hp:=rfl
def cvS(P:Program)(s t:TypeId)(es:List (List DV))(K:AV→Hp→Prop)(hp:Hp):Prop :=
 ∃ a:List Int,es=a.map (fun b=>[.int .u8 b])∧(∀ b,b ∈ a→0≤b∧b<256)∧(match ca P s,ca P t with
   | .slice el,.str=>P.underlying el=some (.int .u8)∧K (.d (.str a)) hp
   |_,_=>False)
def cvB(P:Program)(e:List Int)(a b:TK)(K:AV→Hp→Prop)(hp:Hp):Prop :=
 match a,b with
 | .str,.slice el=>P.underlying el=some (.int .u8)∧K (.d (.ro 1 (e.map fun b=>[.int .u8 b]))) hp
 |_,_=>False
def cvO(P:Program)(s t:TypeId)(xs:Option (List (List AV)))(K:AV→Hp→Prop)(hp:Hp):Prop :=
 ∃ a:List Int,xs=some (a.map fun b=>[.d (.int .u8 b)])∧(∀ b,b ∈ a→0≤b∧b<256)∧(match ca P s,ca P t with
   | .slice el,.str=>P.underlying el=some (.int .u8)∧K (.d (.str a)) hp
   |_,_=>False)
def cvW(P:Program)(s t:TypeId)(v:AV)(K:AV→Hp→Prop)(hp:Hp):Prop :=
 match v with
 | .d (.int _ n)=>(match(P.underlying s).isSome,j8 P t with
  |true,some k=>K (.d (.int k (k.wrap n))) hp
  |_,_=>False)
 | .d (.ro 1 es)=>cvS P s t es K hp
 | .d (.str bs)=>cvB P bs (ca P s) (ca P t) K hp
 |v=>cvO P s t (dp hp 1 v) K hp
theorem ade(s t:TypeId)(x:Operand):bS P fr hp nx (.convert s t x) K=cvW P s t (ev fr x) K hp:=by
 simp only[bS,cvW,j8];generalize ev fr x=v;cases v with
 | d dv =>
  cases dv with
  |int k n =>
   cases P.underlying s<;>cases a:P.underlying t with
   |none=>simp
   |some d=>cases d<;>simp
  |ro e es =>
   match e with
   |0=>rfl
   |1=>rfl
   |_+2=>rfl
  |str bs=>cases ca P s<;>cases ca P t<;>rfl
  |_=>rfl
 |_=>rfl
def ldO(o:Option AV)(K:AV→Hp→Prop)(hp:Hp):Prop :=
 match o with
 |some v=>K v hp
 |none=>False
def ldR(P:Program)(t:TypeId)(a:Option (List AV))(b d off:Nat)(K:AV→Hp→Prop)(hp:Hp):Prop :=
 match a with
 |some a=>b=d∧ldO (FM P t (a.drop off)) K hp
 |none=>False
def ldB(P:Program)(t:TypeId)(b:Option Blk)(i off a:Nat)(K:AV→Hp→Prop)(hp:Hp):Prop :=
 match b with
 |some b=>ldR P t b.es[i]? b.es.length a off K hp
 |none=>False
def ldW(P:Program)(t:TypeId)(v:AV)(K:AV→Hp→Prop)(hp:Hp):Prop :=
 match v with
 | .ptr id i off tot=>ldB P t (lk id hp) i off tot K hp
 | .rop cs=>ldO (FM P t (cs.map .d)) K hp
 |_=>False
theorem adf(t:TypeId)(x:Operand):bS P fr hp nx (.load t x) K=ldW P t (ev fr x) K hp:=rfl
def W8(P:Program)(t:TypeId)(k:TK)(a:List AV):Option AV :=
 match k with
 | .none=>Option.none
 | .arr _ _=>if P.cellsOf t≤a.length then some (.agg (a.take (P.cellsOf t)))else Option.none
 | .struct _=>if P.cellsOf t≤a.length then some (.agg (a.take (P.cellsOf t)))else Option.none
 | .scal=>a.head?
 | .str=>a.head?
 | .slice _=>a.head?
theorem aac(t:TypeId)(a:List AV):FM P t a=W8 P t (ca P t) a:=by
 unfold FM W8;cases ca P t<;>rfl
def faO(P:Program)(v:AV)(o:Option (Nat×TypeId))(K:AV→Hp→Prop)(hp:Hp):Prop :=
 match v,o with
 | .ptr id j off tot,some (o,ft)=>P.cellsOf ft≠0∧K (.ptr id j (off+o) tot) hp
 | .rop cs,some (o,ft)=>P.cellsOf ft≠0∧K (.rop (cs.drop o)) hp
 |_,_=>False
def MY(k:TK)(i:Nat):Option (Nat×TypeId) :=
 match k with
 | .struct fs=>fs[i]?
 |_=>none
theorem adh(t:TypeId)(x:Operand)(i:Nat):bS P fr hp nx (.fieldAddr t x i) K=faO P (ev fr x) (MY (ca P t) i) K hp:=by
 simp only[bS,lh,MY,faO];generalize ev fr x=v;cases v<;>cases ca P t<;>rfl
def fdO(P:Program)(v:AV)(o:Option (Nat×TypeId))(K:AV→Hp→Prop)(hp:Hp):Prop :=
 match v,o with
 | .agg cs,some (o,ft)=>ldO (FM P ft (cs.drop o)) K hp
 |_,_=>False
theorem adj(t:TypeId)(x:Operand)(i:Nat):bS P fr hp nx (.field t x i) K=fdO P (ev fr x) (MY (ca P t) i) K hp:=by
 simp only[bS,lh,MY,fdO];generalize ev fr x=v;cases v<;>cases ca P t<;>rfl
def ixO(cs:Option (List DV))(K:AV→Hp→Prop)(hp:Hp):Prop :=
 match cs with
 |some cs=>K (.rop cs) hp
 |none=>False
def ixB(b:Option Blk)(id i off e el a:Nat)(d:Bool)(K:AV→Hp→Prop)(hp:Hp):Prop :=
 match b,d with
 |some b,true=>b.es.length=a∧b.e=el∧el≠0∧K (.ptr id i 0 a) hp
 |some b,false=>b.es.length=a∧e=el∧el≠0∧K (.ptr id i off a) hp
 |none,_=>False
def ixW(P:Program)(a v:AV)(k:TK)(K:AV→Hp→Prop)(hp:Hp):Prop :=
 match a,v,k with
 | .d (.int _ n),.d (.ro e es),.slice el=>0≤n∧e=P.cellsOf el∧P.cellsOf el≠0∧ixO es[n.toNat]? K hp
 | .d (.int _ n),.own id i0 len tot,.slice el=>0≤n∧n<len∧ixB (lk id hp) id (i0+n.toNat) 0 0 (P.cellsOf el) tot true K hp
 | .d (.int _ n),.sub id i off e len _ tot,.slice el=>0≤n∧n<len∧ixB (lk id hp) id i (off+n.toNat*e) e (P.cellsOf el) tot false K hp
 | .d (.int _ n),.ptr id i off tot,.arr len el=>0≤n∧n<len∧P.cellsOf el≠0∧K (.ptr id i (off+n.toNat*P.cellsOf el) tot) hp
 | .d (.int _ n),.rop cs,.arr len el=>0≤n∧n<len∧P.cellsOf el≠0∧K (.rop (cs.drop (n.toNat*P.cellsOf el))) hp
 |_,_,_=>False
theorem adn(t:TypeId)(x a:Operand):bS P fr hp nx (.indexAddr t x a) K=ixW P (ev fr a) (ev fr x) (ca P t) K hp:=by
 simp only[bS,ixW];generalize ev fr a=u;generalize ev fr x=v;cases u with
 | d dv =>
  cases dv with
  |int k n =>
   cases v with
   |d dv=>cases dv<;>cases ca P t<;>rfl
   |own id i0 len tot=>cases ca P t<;>first|rfl|(simp only;cases lk id hp<;>rfl)
   |sub id i off e len cap tot=>cases ca P t<;>first|rfl|(simp only;cases lk id hp<;>rfl)
   |_=>cases ca P t<;>rfl
  |_=>rfl
 |_=>rfl
def alW(t:TypeId)(z:Option (List AV))(nx:Nat)(K:AV→Hp→Prop)(hp:Hp):Prop :=
 match z with
 |some cs=>K (.ptr nx 0 0 1) ((nx,⟨t,cs.length,[cs]⟩)::hp)
 |none=>False
theorem ado(t:TypeId):bS P fr hp nx (.alloc t) K=alW t (fQ P t) nx K hp:=rfl
def bdO(P:Program)(k:TK)(z:Option (List AV))(a:List (Nat×AV))(K:AV→Hp→Prop)(hp:Hp):Prop :=
 match z with
 |some z=>tK P k z a K hp
 |none=>False
theorem adp(t:TypeId)(a:Array (Nat×Operand)):bS P fr hp nx (.build t a) K=bdO P (ca P t) (fQ P t) (a.toList.map fun p=>(p.1,ev fr p.2)) K hp:=rfl
def MZ(o:Option (List AV))(K:AV→Hp→Prop)(hp:Hp):Prop :=
 match o with
 |some cs=>K (.agg cs) hp
 |none=>False
theorem W9(a:List (Nat×TypeId))(z:List AV)(b:List (Nat×AV)):tK P (.struct a) z b K hp=((∀f,f∈a→P.cellsOf f.2≠0)∧MZ (mP (j9 P a) z b) K hp):=rfl
theorem Xa(n:Nat)(el:TypeId)(z:List AV)(a:List (Nat×AV)):tK P (.arr n el) z a K hp=(P.cellsOf el≠0∧MZ (mP (fun i=>some (i*P.cellsOf el,P.cellsOf el)) z a) K hp):=rfl
def bsR(el:TypeId)(e len nx:Nat)(o:Option (List (List AV)))(K:AV→Hp→Prop)(hp:Hp):Prop :=
 match o with
 |some rows=>K (.own nx 0 len len) ((nx,⟨el,e,rows⟩)::hp)
 |none=>False
def bsO(P:Program)(el:TypeId)(len:Nat)(z:Option (List AV))(a:List (Nat×AV))(nx:Nat)(K:AV→Hp→Prop)(hp:Hp):Prop :=
 match z with
 |some z=>len*P.cellsOf el≤16777216∧bsR el (P.cellsOf el) len nx (wG (P.cellsOf el) (List.replicate len z) a) K hp
 |none=>False
def bsW(P:Program)(k:TK)(len:Nat)(a:List (Nat×AV))(nx:Nat)(K:AV→Hp→Prop)(hp:Hp):Prop :=
 match k with
 | .slice el=>bsO P el len (fQ P el) a nx K hp
 |_=>False
theorem adr(t:TypeId)(len:Nat)(a:Array (Nat×Operand)):bS P fr hp nx (.buildSlice t len a) K=bsW P (ca P t) len (a.toList.map fun p=>(p.1,ev fr p.2)) nx K hp:=by
 simp only[bS,oJ,bsW];cases ca P t<;>rfl
theorem ads(t:TypeId)(x:Operand)(a hi:Option Operand):bS P fr hp nx (.slice t x a hi none) K=iI P (ca P t) (ev fr x) (AD fr 0 a) (AD fr ((ev fr x).topLen (ca P t)) hi) K hp:=rfl
theorem aad(t:TypeId)(x m:Operand)(a hi:Option Operand):bS P fr hp nx (.slice t x a hi (some m)) K=nB P (ca P t) (ev fr x) (AD fr 0 a) (FN fr hi) (ev fr m).num K hp:=rfl
theorem Xb(x:Operand):FN fr (some x)=(ev fr x).num:=rfl
theorem M1(el:TypeId)(l h m:Int)(e:Nat)(es:List (List DV)):nB P (.slice el) (.d (.ro e es)) (some l) (some h) (some m) K hp=(P.cellsOf el≠0∧e=P.cellsOf el∧0≤l∧l≤h∧h=m∧h≤es.length∧K (.d (.rof e ((es.take h.toNat).drop l.toNat))) hp):=rfl
theorem J4(el:TypeId)(l h m:Int):nB P (.slice el) .nil (some l) (some h) (some m) K hp=(P.cellsOf el≠0∧l=0∧h=0∧m=0∧K (.d (.rof (P.cellsOf el) [])) hp):=rfl
theorem J5(el:TypeId)(id i0 len a:Nat)(l h m:Int):nB P (.slice el) (.own id i0 len a) (some l) (some h) (some m) K hp=(P.cellsOf el≠0∧l=0∧h=0∧m=0∧K (.d (.rof (P.cellsOf el) [])) hp):=rfl
def mkO(P:Program)(el:TypeId)(z:Option (List AV))(n c:Int)(nx:Nat)(K:AV→Hp→Prop)(hp:Hp):Prop :=
 match z with
 |some z=>0≤n∧n≤c∧c*P.cellsOf el≤16777216∧P.bytesOf el*c≤281474976710656∧c≤9223372036854775807∧K (.own nx 0 n.toNat n.toNat) ((nx,⟨el,P.cellsOf el,List.replicate n.toNat z⟩)::hp)
 |none=>False
theorem adt(t:TypeId)(l m:Operand):bS P fr hp nx (.makeSlice t l m) K=HT P (ca P t) (ev fr l) (ev fr m) nx K hp:=rfl
theorem aae(el:TypeId)(a k2:IntKind)(n c:Int):HT P (.slice el) (.d (.int a n)) (.d (.int k2 c)) nx K hp=mkO P el (fQ P el) n c nx K hp:=rfl
theorem aaf(t:TypeId)(x:Operand):bS P fr hp nx (.sliceToArrayPointer t x) K=JM (ca P t) (ev fr x) K hp:=rfl
theorem Xc(n:Nat)(el:TypeId)(id i off e len cap a:Nat):JM (.arr n el) (.sub id i off e len cap a) K hp=(match lk id hp with
  |some b=>b.es.length=a∧0<n∧n≤len∧K (.ptr id i off a) hp
  |none=>False):=rfl
theorem Xd(n:Nat)(el:TypeId)(es:List (List DV)):JM (.arr n el) (.d (.ro 1 es)) K hp=(0<n∧n≤es.length∧K (.rop es.flatten) hp):=rfl
theorem adu(s x:Operand)(t u:TypeId):bS P fr hp nx (.call ⟨.builtin .copy,#[s,x],#[t,u]⟩) K=yG P fr hp nx .copy [s,x] [t,u] K:=rfl
def cpB(P:Program)(el:TypeId)(b:Option Blk)(id i0 len a:Nat)(xs:List (List AV))(K:AV→Hp→Prop)(hp:Hp):Prop :=
 match b with
 |some b=>b.es.length=a∧b.e=1∧P.cellsOf el=1∧K (.d (.int .i64 (min len xs.length:Nat))) (bX id ⟨b.ty,b.e,b.es.take i0++(xs.take len++b.es.drop (i0+min len xs.length))⟩ hp)
 |none=>False
theorem aag(el:TypeId)(id i0 len a:Nat)(xs:List (List AV)):HU P el (.own id i0 len a) (some xs) K hp=cpB P el (lk id hp) id i0 len a xs K hp:=by
 simp only[HU,cpB];cases lk id hp<;>rfl
theorem J6:∀{a b:List (List DV)},a.map (fun r=>r.map AV.d)=b.map (fun r=>r.map AV.d)→a=b:=by
 have one:∀{x y:List DV},x.map AV.d=y.map AV.d→x=y:=by
  intro x
  induction x with
  |nil=>intro y h;cases y with
   |nil=>rfl
   |cons _ _=>simp at h
  |cons u x ih=>intro y h;cases y with
   |nil=>simp at h
   |cons v y=>simp at h;rw[h.1,ih (by simpa using h.2)]
 intro a
 induction a with
 |nil=>intro b h;cases b with
  |nil=>rfl
  |cons _ _=>simp at h
 | cons u a ih=>intro b h;cases b with
  |nil=>simp at h
  |cons v b =>
   rw[List.map_cons,List.map_cons]at h;injection h with f e;rw[one f,ih e]
def apS(P:Program)(el:TypeId)(o:Option (List (List AV)))(len cap:Nat)(xs:List (List AV))(nx:Nat)(K:AV→Hp→Prop)(hp:Hp):Prop :=
 cap<len+xs.length∧(fQ P el).isSome=true∧P.bytesOf el≠0∧(len+xs.length)*P.bytesOf el≤140737488355328 ∧
   (match o with
   |some rs=>K (.own nx 0 (len+xs.length) (len+xs.length)) ((nx,⟨el,P.cellsOf el,rs++xs⟩)::hp)
   |none=>False)
theorem M3(el:TypeId)(xs:List (List AV))(id i off e len cap a:Nat):gf P el (.sub id i off e len cap a) (some xs) nx K hp=apS P el (dp hp (P.cellsOf el) (.sub id i off e len cap a)) len cap xs nx K hp:=by
 simp only[gf,apS];generalize dp hp (P.cellsOf el) (.sub id i off e len cap a)=o;cases o<;>rfl
def AW(A B:Prop):Prop:=A∨B
theorem Dw(el:TypeId)(e:Nat)(es a:List (List DV)):gf P el (.d (.rof e es)) (some (a.map fun r=>r.map AV.d)) nx K hp=(e=P.cellsOf el∧(fQ P el).isSome=true∧P.bytesOf el≠0∧(es.length+a.length)*P.bytesOf el≤140737488355328 ∧
  AW (K (.d (.ro e (es++a))) hp) (a≠[]∧K (.own nx 0 (es.length+a.length) (es.length+a.length)) ((nx,⟨el,P.cellsOf el,es.map (fun r=>r.map AV.d)++a.map fun r=>r.map AV.d⟩)::hp))):=by
 simp only[gf,List.length_map,eq_iff_iff,AW];constructor;rintro⟨j,g,h,f,⟨k,b,i⟩|⟨b,i⟩⟩;have l:=J6 b;subst l;exact⟨j,g,h,f,.inl i⟩;exact⟨j,g,h,f,.inr ⟨by simpa using b,i⟩⟩;rintro⟨j,g,h,f,b|⟨b,i⟩⟩;exact⟨j,g,h,f,.inl ⟨a,rfl,b⟩⟩;exact⟨j,g,h,f,.inr ⟨by simpa using b,i⟩⟩
theorem Xe(d:Int):AD fr d none=some d:=rfl
theorem Xf(d:Int)(x:Operand):AD fr d (some x)=(ev fr x).num:=rfl
theorem aah(k:IntKind)(n:Int):(AV.d (.int k n)).num=some n:=rfl
theorem M4(el:TypeId)(l h:Int):iI P (.slice el) .nil (some l) (some h) K hp=(P.cellsOf el≠0∧l=0∧h=0∧K .nil hp):=rfl
theorem RV(el:TypeId)(l h:Int)(e:Nat)(es:List (List DV)):iI P (.slice el) (.d (.ro e es)) (some l) (some h) K hp=(P.cellsOf el≠0∧e=P.cellsOf el∧0≤l∧l≤h∧h≤es.length∧K (.d (.ro e ((es.take h.toNat).drop l.toNat))) hp):=rfl
def slB(b:Option Blk)(n:Nat)(A:Prop):Prop :=
 match b with
 |some b=>b.e=n∧A
 |none=>False
theorem M5(el:TypeId)(l h:Int)(id i0 len d:Nat):iI P (.slice el) (.own id i0 len d) (some l) (some h) K hp=slB (lk id hp) (P.cellsOf el) (P.cellsOf el≠0∧0≤l∧l≤h∧h≤len∧K (.own id (i0+l.toNat) (h.toNat-l.toNat) d) hp):=by
 simp only[iI];cases lk id hp with
 |none=>rfl
 |some b=>simp only[slB,eq_iff_iff];exact⟨fun⟨a,b,c⟩=>⟨b,a,c⟩,fun⟨b,a,c⟩=>⟨a,b,c⟩⟩
theorem M6(el:TypeId)(l h:Int)(id i off e len cap a:Nat):iI P (.slice el) (.sub id i off e len cap a) (some l) (some h) K hp=(P.cellsOf el≠0∧e=P.cellsOf el∧0≤l∧l≤h∧h≤len∧K (.sub id i (off+l.toNat*e) e (h.toNat-l.toNat) (cap-l.toNat) a) hp):=rfl
def slP(b:Option Blk)(n:Nat)(A:Prop):Prop :=
 match b with
 |some b=>n≤b.e∧A
 |none=>False
theorem M7(n:Nat)(el:TypeId)(l h:Int)(id i off d:Nat):iI P (.arr n el) (.ptr id i off d) (some l) (some h) K hp=slP (lk id hp) (off+n*P.cellsOf el) (P.cellsOf el≠0∧i<d∧0≤l∧l≤h∧h≤n∧K (.sub id i (off+l.toNat*P.cellsOf el) (P.cellsOf el) (h.toNat-l.toNat) (n-l.toNat) d) hp):=by
 simp only[iI];cases lk id hp with
 |none=>rfl
 |some b=>simp only[slP,eq_iff_iff];exact⟨fun⟨a,b,c⟩=>⟨b,a,c⟩,fun⟨b,a,c⟩=>⟨a,b,c⟩⟩
theorem M8(n:Nat)(el:TypeId)(l h:Int)(cs:List DV):iI P (.arr n el) (.rop cs) (some l) (some h) K hp=(P.cellsOf el=1∧n≤cs.length∧0≤l∧l≤h∧h≤n∧K (.d (.ro 1 (((cs.take h.toNat).drop l.toNat).map fun c=>[c]))) hp):=rfl
theorem M9(a:List Int)(l h:Int):iI P .str (.d (.str a)) (some l) (some h) K hp=(0≤l∧l≤h∧h≤a.length∧K (.d (.str ((a.take h.toNat).drop l.toNat))) hp):=rfl
def Ia (P:Program) (el:TypeId) (b:Option Blk) (id len a:Nat) (xs:List (List AV)) (K:AV→Hp→Prop) (hp:Hp):Prop :=
 match b with
 |some b=>b.es.length=a∧b.ty=el∧b.e=P.cellsOf el∧(fQ P el).isSome=true∧P.bytesOf el≠0∧(len+xs.length)*P.bytesOf el≤140737488355328 ∧
    (len+xs.length≤a→K (.own id 0 (len+xs.length) a) (bX id ⟨b.ty,b.e,b.es.take len++(xs++b.es.drop (len+xs.length))⟩ hp)) ∧
    (a<len+xs.length→K (.own id 0 (len+xs.length) (len+xs.length)) (bX id ⟨b.ty,b.e,b.es.take len++xs⟩ hp))
 |none=>False
theorem Na(el:TypeId)(xs:List (List AV)):gf P el .nil (some xs) nx K hp=((fQ P el).isSome=true∧P.bytesOf el≠0∧xs.length*P.bytesOf el≤140737488355328∧K (.own nx 0 xs.length xs.length) ((nx,⟨el,P.cellsOf el,xs⟩)::hp)):=rfl
theorem fi(el:TypeId)(xs:List (List AV))(id len a:Nat):gf P el (.own id 0 len a) (some xs) nx K hp=Ia P el (lk id hp) id len a xs K hp:=rfl
def apF(P:Program)(el:TypeId)(b:Option Blk)(id len:Nat)(xs:List (List AV))(K:AV→Hp→Prop)(hp:Hp):Prop :=
 match b with
 |some b=>b.es.length=len∧b.ty=el∧b.e=P.cellsOf el∧(fQ P el).isSome=true∧P.bytesOf el≠0∧(len+xs.length)*P.bytesOf el≤140737488355328∧K (.own id 0 (len+xs.length) (len+xs.length)) (bX id ⟨b.ty,b.e,b.es++xs⟩ hp)
 |none=>False
theorem zk(el:TypeId)(xs:List (List AV))(id len:Nat):gf P el (.own id 0 len len) (some xs) nx K hp=apF P el (lk id hp) id len xs K hp:=by
 rw[fi];unfold Ia apF;cases o:lk id hp with
 |none=>rfl
 | some b =>
  simp only[eq_iff_iff];constructor;rintro⟨k,e,f,d,i,g,a,m⟩;refine⟨k,e,f,d,i,g,?_⟩;rcases Nat.eq_zero_or_pos xs.length with l|l;have j:xs=[]:=List.eq_nil_of_length_eq_zero l;subst j;have:=a aw;simpa using this;have:=m aq;rw[cx aq]at this;exact this;rintro⟨k,e,f,d,i,g,a⟩;refine⟨k,e,f,d,i,g,fun h=>?_,fun h=>?_⟩;have j:xs=[]:=List.eq_nil_of_length_eq_zero aq;subst j;simpa using a;rw[cx aq];exact a
theorem Nb(sz:Nat):dp hp sz .nil=some []:=rfl
theorem RX(sz e:Nat)(es:List (List DV)):dp hp sz (.d (.ro e es))=if e=sz then some (es.map fun r=>r.map .d)else none:=rfl
def roB(b:Option Blk)(sz i0 len a:Nat):Option (List (List AV)) :=
 match b with
 |some b=>if b.es.length=a∧b.e=sz then some ((b.es.drop i0).take len)else none
 |none=>none
theorem Nc(sz id i0 len a:Nat):dp hp sz (.own id i0 len a)=roB (lk id hp) sz i0 len a:=rfl
def roR(a:Option (List AV))(n b e sz off len:Nat):Option (List (List AV)) :=
 match a with
 |some a=>if n=b∧e=sz then some ((List.range len).map fun k=>(a.drop (off+k*e)).take e)else none
 |none=>none
def roS(b:Option Blk)(sz i off e len a:Nat):Option (List (List AV)) :=
 match b with
 |some b=>roR b.es[i]? b.es.length a e sz off len
 |none=>none
theorem Nh(sz id i off e len cap a:Nat):dp hp sz (.sub id i off e len cap a)=roS (lk id hp) sz i off e len a:=by
 simp only[dp,roS];cases lk id hp with
 |none=>rfl
 |some b =>
  simp only;cases b.es[i]?<;>rfl
theorem aai(s x:Operand)(t u:TypeId):bS P fr hp nx (.call ⟨.builtin .append,#[s,x],#[t,u]⟩) K=yG P fr hp nx .append [s,x] [t,u] K:=rfl
theorem Xg(v:DV):(AV.d v).cellsO=some [.d v]:=rfl
theorem Xh(cs:List AV):(AV.agg cs).cellsO=some cs:=rfl
theorem Ni(a b c d:Nat):(AV.own a b c d).cellsO=some [.own a b c d]:=rfl
theorem Nj(a b c d e f g:Nat):(AV.sub a b c d e f g).cellsO=some [.sub a b c d e f g]:=rfl
theorem Nk(a b c d:Nat):(AV.ptr a b c d).cellsO=some [.ptr a b c d]:=rfl
theorem Nl:(AV.nil).cellsO=some [.nil]:=rfl
theorem RY(f:FuncId)(cs:List AV):(AV.fn f cs).cellsO=some [.fn f cs]:=rfl
theorem Nn(cs:List DV):(AV.rop cs).cellsO=some [.rop cs]:=rfl
def Xi(a:Bool)(k:TK)(v:AV)(K:AV→Hp→Prop)(hp:Hp):Prop :=
 match v,k with
 | .nil,.slice _=>K (.d (.bool a)) hp
 | .d (.ro _ es),.slice _=>∀b,(b=a→es.length=0)→K (.d (.bool b)) hp
 | .d (.rof _ es),.slice _=>∀b,(b=a→es.length=0)→K (.d (.bool b)) hp
 | .own _ _ len _,.slice _=>∀b,(b=a→len=0)→K (.d (.bool b)) hp
 | .sub _ _ _ _ len _ _,.slice _=>∀b,(b=a→len=0)→K (.d (.bool b)) hp
 |_,_=>False
theorem Np(t:TypeId)(v:AV):dj P .eql t v .nil K hp=Xi true (ca P t) v K hp:=by
 unfold dj dK Xi;cases v with
 |d dv=>cases dv<;>cases ca P t<;>rfl
 |_=>cases ca P t<;>rfl
theorem RZ(t:TypeId)(a b:List Int):dj P .eql t (.d (.str a)) (.d (.str b)) K hp=K (.d (.bool (decide (a=b)))) hp:=rfl
theorem R7(t:TypeId)(a b:List Int):dj P .lss t (.d (.str a)) (.d (.str b)) K hp=K (.d (.bool (eD a b))) hp:=rfl
theorem R9(t:TypeId)(a b:List Int):dj P .leq t (.d (.str a)) (.d (.str b)) K hp=K (.d (.bool (eD a b||decide (a=b)))) hp:=rfl
theorem Si(t:TypeId)(a b:List Int):dj P .gtr t (.d (.str a)) (.d (.str b)) K hp=K (.d (.bool (!(eD a b||decide (a=b))))) hp:=rfl
theorem Sj(t:TypeId)(a b:List Int):dj P .geq t (.d (.str a)) (.d (.str b)) K hp=K (.d (.bool (!eD a b))) hp:=rfl
theorem Nq(t:TypeId)(a b:List Int):dj P .add t (.d (.str a)) (.d (.str b)) K hp=(a.length+b.length≤9223372036854775807∧K (.d (.str (a++b))) hp):=rfl
def clV(P:Program)(v:AV)(args:List AV)(hp:Hp)(N:Nat)(K:AV→Hp→Prop):Prop:=match v with
 | .fn g caps=>uK P g (args++caps) hp N K
 | .mth g caps=>uK P g (caps++args) hp N K
 |_=>False
theorem Sl(f:Tmp)(args:Array Operand)(a:Array TypeId):bS P fr hp nx (.call ⟨.value (.tmp f),args,a⟩) K=clV P (fv f fr) (args.toList.map (ev fr)) hp nx K:=by
 simp only[bS,clV,ev];cases fv f fr<;>rfl
theorem aaj(g:FuncId)(args a:List AV)(N:Nat):clV P (.fn g a) args hp N K=uK P g (args++a) hp N K:=rfl
theorem sx(f:FuncId)(x:Operand):bS P fr hp nx (.makeFunc (.func f) #[x] #[]) K=K (.mth f [ev fr x]) hp:=by simp[bS]
theorem aak(f:FuncId)(a:Array Operand):bS P fr hp nx (.makeFunc (.func f) #[] a) K=K (.fn f (a.toList.map (ev fr))) hp:=by simp[bS]
def mxW(x y:AV)(K:AV→Hp→Prop)(hp:Hp):Prop :=
 match x,y with
 | .d (.int k m),.d (.int _ n)=>K (.d (.int k (if n>m then n else m))) hp
 |_,_=>False
theorem aal(x y:Operand)(t u:TypeId):bS P fr hp nx (.call ⟨.builtin .max,#[x,y],#[t,u]⟩) K=mxW (ev fr x) (ev fr y) K hp:=rfl
def mnW(x y:AV)(K:AV→Hp→Prop)(hp:Hp):Prop :=
 match x,y with
 | .d (.int k m),.d (.int _ n)=>K (.d (.int k (if n<m then n else m))) hp
 |_,_=>False
theorem aam(x y:Operand)(t u:TypeId):bS P fr hp nx (.call ⟨.builtin .min,#[x,y],#[t,u]⟩) K=mnW (ev fr x) (ev fr y) K hp:=rfl
theorem Sr(t:TypeId)(a b:List Int):dj P .neq t (.d (.str a)) (.d (.str b)) K hp=K (.d (.bool (!decide (a=b)))) hp:=rfl
def bxW(t:TypeId)(v:AV)(nx:Nat)(K:AV→Hp→Prop)(hp:Hp):Prop :=
 match v with
 | .agg cs=>K (.ptr nx 0 0 1) ((nx,⟨t,cs.length,[cs]⟩)::hp)
 | .any=>False
 | .tup _=>False
 | .d v=>K (.ptr nx 0 0 1) ((nx,⟨t,1,[[.d v]]⟩)::hp)
 | .own a b c d=>K (.ptr nx 0 0 1) ((nx,⟨t,1,[[.own a b c d]]⟩)::hp)
 | .sub a b c d e f g=>K (.ptr nx 0 0 1) ((nx,⟨t,1,[[.sub a b c d e f g]]⟩)::hp)
 | .ptr a b c d=>K (.ptr nx 0 0 1) ((nx,⟨t,1,[[.ptr a b c d]]⟩)::hp)
 | .rop cs=>K (.ptr nx 0 0 1) ((nx,⟨t,1,[[.rop cs]]⟩)::hp)
 | .fn f cs=>K (.ptr nx 0 0 1) ((nx,⟨t,1,[[.fn f cs]]⟩)::hp)
 | .mth f cs=>K (.ptr nx 0 0 1) ((nx,⟨t,1,[[.mth f cs]]⟩)::hp)
 | .nil=>K (.ptr nx 0 0 1) ((nx,⟨t,1,[[.nil]]⟩)::hp)
 | .mp a=>K (.ptr nx 0 0 1) ((nx,⟨t,1,[[.mp a]]⟩)::hp)
theorem adC(t:TypeId)(x:Operand):bS P fr hp nx (.box t x) K=bxW t (ev fr x) nx K hp:=by
 simp only[bS];cases ev fr x<;>rfl
def stR(P:Program)(t:TypeId)(id:Nat)(b:Blk)(i off:Nat)(g:List AV)(u:AV)(K:AV→Hp→Prop)(hp:Hp):Prop :=
 match u with
 | .agg cs=>cs.length=P.cellsOf t∧P.cellsOf t≠0∧off+cs.length≤g.length∧K .any (bX id ⟨b.ty,b.e,b.es.set i (g.take off++(cs++g.drop (off+cs.length)))⟩ hp)
 | .any=>False
 | .tup _=>False
 | .d v=>P.cellsOf t=1∧off<g.length∧K .any (bX id ⟨b.ty,b.e,b.es.set i (g.set off (.d v))⟩ hp)
 | .own a1 a2 a3 a4=>P.cellsOf t=1∧off<g.length∧K .any (bX id ⟨b.ty,b.e,b.es.set i (g.set off (.own a1 a2 a3 a4))⟩ hp)
 | .sub a1 a2 a3 a4 a5 a6 a7=>P.cellsOf t=1∧off<g.length∧K .any (bX id ⟨b.ty,b.e,b.es.set i (g.set off (.sub a1 a2 a3 a4 a5 a6 a7))⟩ hp)
 | .ptr a1 a2 a3 a4=>P.cellsOf t=1∧off<g.length∧K .any (bX id ⟨b.ty,b.e,b.es.set i (g.set off (.ptr a1 a2 a3 a4))⟩ hp)
 | .rop cs=>P.cellsOf t=1∧off<g.length∧K .any (bX id ⟨b.ty,b.e,b.es.set i (g.set off (.rop cs))⟩ hp)
 | .fn f cs=>P.cellsOf t=1∧off<g.length∧K .any (bX id ⟨b.ty,b.e,b.es.set i (g.set off (.fn f cs))⟩ hp)
 | .mth f cs=>P.cellsOf t=1∧off<g.length∧K .any (bX id ⟨b.ty,b.e,b.es.set i (g.set off (.mth f cs))⟩ hp)
 | .nil=>P.cellsOf t=1∧off<g.length∧K .any (bX id ⟨b.ty,b.e,b.es.set i (g.set off .nil)⟩ hp)
 | .mp a=>P.cellsOf t=1∧off<g.length∧K .any (bX id ⟨b.ty,b.e,b.es.set i (g.set off (.mp a))⟩ hp)
def stB(P:Program)(t:TypeId)(id:Nat)(b:Option Blk)(i off a:Nat)(u:AV)(K:AV→Hp→Prop)(hp:Hp):Prop :=
 match b with
 |some b=>(match b.es[i]? with
  |some row=>b.es.length=a∧stR P t id b i off row u K hp
  |none=>False)
 |none=>False
def stW(P:Program)(t:TypeId)(v u:AV)(K:AV→Hp→Prop)(hp:Hp):Prop :=
 match v with
 | .ptr id i off tot=>stB P t id (lk id hp) i off tot u K hp
 |_=>False
theorem adE(t:TypeId)(x y:Operand):bS P fr hp nx (.store t x y) K=stW P t (ev fr x) (ev fr y) K hp:=by
 simp only[bS,stW];generalize ev fr x=v;generalize ev fr y=u;cases v with
 | ptr id i off tot =>
  simp only[stB];cases lk id hp with
  |none=>rfl
  |some b =>
   simp only;cases b.es[i]? with
   |none=>rfl
   |some row=>cases u<;>rfl
 |_=>rfl
theorem adG(t:TypeId):bS P fr hp nx (.makeMap t none) K=(∀g,K (.mp nx) ((nx,⟨g,0,qB []⟩)::hp)):=rfl
theorem adH(t:TypeId)(m x:Operand):bS P fr hp nx (.lookup t m x false) K=luW P t (ev fr m) (ev fr x) K hp:=rfl
theorem adI(t:TypeId)(m x v:Operand):bS P fr hp nx (.mapUpdate t m x v) K=muW P t (ev fr m) (ev fr x) (ev fr v) K hp:=rfl
theorem aan(x:Operand)(t:TypeId):bS P fr hp nx (.call ⟨.builtin .len,#[x],#[t]⟩) K=yG P fr hp nx .len [x] [t] K:=rfl
theorem Xj(f:FuncId)(args:Array Operand)(a:Array TypeId):bS P fr hp nx (.call ⟨.value (.func f),args,a⟩) K=uK P f (args.toList.map (ev fr)) hp nx K:=by
 simp[bS,ev,uK]
end
section
variable (P:Program)
def skB(k:TK):Bool:=match k with
 | .slice _=>false
 |_=>true
theorem Xk(a:BinOp)(t b:TypeId)(x y:Operand):aZ P (.binOp a t x y b)=skB (ca P t):=by
 simp only[aZ,skB];cases ca P t<;>rfl
theorem Ss(x:Operand):aZ P (.move x)=true:=rfl
theorem J7(x:Operand):aZ P (.assign x)=true:=rfl
theorem Su(x y z:Operand):aZ P (.pick x y z)=true:=rfl
theorem aap(o:UnOp)(t:TypeId)(x:Operand):aZ P (.unOp o t x)=true:=rfl
theorem Xl(x:Operand):aZ P (.nilCheck x)=true:=rfl
theorem aaq(x:Operand)(i:Nat):aZ P (.extract x i)=true:=rfl
theorem aar(s t:TypeId)(x:Operand):aZ P (.convert s t x)=skB (ca P t):=by
 simp only[aZ,skB];cases ca P t<;>rfl
theorem Xm(t:TypeId)(x:Operand):aZ P (.sliceToArrayPointer t x)=true:=rfl
theorem aas(t:TypeId)(x:Operand):aZ P (.load t x)=true:=rfl
theorem aat(t:TypeId)(x:Operand)(i:Nat):aZ P (.fieldAddr t x i)=true:=rfl
theorem aau(t:TypeId)(x y:Operand):aZ P (.indexAddr t x y)=true:=rfl
theorem aav(t:TypeId)(x:Operand)(i:Nat):aZ P (.field t x i)=true:=rfl
theorem Xn(t:TypeId)(x y:Operand):aZ P (.index t x y)=true:=rfl
theorem aaw(t:TypeId)(x:Array (Nat×Operand)):aZ P (.build t x)=true:=rfl
theorem aax(t:TypeId)(x:Operand)(a hi m:Option Operand):aZ P (.slice t x a hi m)=true:=rfl
theorem Xo(x:Array Operand)(t:Array TypeId):aZ P (.call ⟨.builtin .len,x,t⟩)=true:=rfl
end
attribute [go_sem] aam mnW adG adH adI R7 R9 Si Sj Nq Sl aaj aak aal mxW apS M3 RQ RR RS QU W6 agK agO ac5 ac7 sgR fu Dv idO idS idX idW RU Xn cvB aad Xb M1 J4 J5 mkO adt aae aaf Xd Xc adu cpB aag Dw WZ List.getElem?_toArray Option.bind_some decide_not Bool.not_not WB skB Xk Ss J7 Su aap Xl aaq aar Xm aas aat aau aaw aax Xo dI adp bdO W9 Xa MZ mP j9 adr bsW bsO bsR wG ads Xe Xf aah M4 RV M5 slB M6 slP M7 M8 M9 AV.topLen apF Na zk Nb RX Nc roB roR roS Nh aai Xg Xh Ni Nj Nk Nl RY Nn Xi Np RZ Sr Option.isSome_some List.length_replicate List.replicate_succ List.replicate_zero List.length_append ac9 unW W7 aab ada exW ade cvW adf ldW ldB ldR ldO aac W8 adh MY faO adj fdO aav adn ixW ixB ixO ado alW adC bxW adE stW stB stR MQ Du ah ZY Wz ZZ WA Rl MR WC WE Rm Ro Rq Rr WF WG WH WI WJ WL WM WN WO Z1 WP Rt Z2 Z3 Z4 WQ WR WS WT acW Z5 WU Z6 WV Z7 Ru WX acX Z8 WY acZ ac0 ac1 ac2 W0 MS W4 MU MV J1 MW MX aaa Rw Ry Rz RA RB RD W5 RE F8 RG RH RI RJ RL RN RO RP aan Xj acY Z9 LI yG AV.slen List.length_map Int.toNat_natCast List.getElem?_map Option.map_some Int.natCast_nonneg ne_eq not_false_eq_true List.map_cons List.map_nil List.drop_zero List.drop_succ_cons List.length_cons List.length_nil List.take_succ_cons List.take_zero List.getElem?_cons_zero List.getElem?_cons_succ List.head?_cons List.set_cons_zero List.cons_append List.nil_append Nat.zero_add List.drop_nil Nat.add_zero true_and and_true
def qH{T:Type}(d:T→St)(a:T→Prop)(b:T→Nat)(t:T)(Q:Exit→St→Prop):Exit→St→Prop
 | .normal,st=>∃t',a t'∧b t'<b t∧Wk st (d t')
 |e,st=>Q e st
theorem Xp{T:Type}(d:T→St)(a:T→Prop)(b:T→Nat)(t:T)(Q:Exit→St→Prop)(st:St):qH d a b t Q .ret st=Q .ret st:=rfl
theorem Xq{T:Type}(d:T→St)(a:T→Prop)(b:T→Nat)(t:T)(Q:Exit→St→Prop)(st:St)(i:Nat):qH d a b t Q (.exit i) st=Q (.exit i) st:=rfl
attribute [go_sem] Xp Xq
theorem am{T:Type}{e:T→St}{a:T→Prop}{d:T→Nat}{t:T}{Q:Exit→St→Prop}{st:St}(b:T)(f:a b)(g:d b<d t)(h:az st (e b)):qH e a d t Q .normal st:=⟨b,f,g,b7 h⟩
theorem Nr{T:Type}{g:T→St}{b:T→Prop}{e:T→Nat}{t:T}{Q:Exit→St→Prop}{st:St}(d:T)(h:b d)(i:e d<e t)(a:List Nat)(f:Fr)(hz:∀p,p∈f→Snap st.hp (fun id=>id∈a) (fv p.1 st.fr) p.2)(j:az ⟨f++st.fr,aE a st.hp,st.nx⟩ (g d)):qH g b e t Q .normal st:=⟨d,h,i,wT a f hz j⟩
theorem Ns{T:Type}{e:T→St}{a:T→Prop}{d:T→Nat}{t:T}{Q:Exit→St→Prop}{st:St}(b:T)(f:a b)(g:d b<d t)(h:Wk st (e b)):qH e a d t Q .normal st:=⟨b,f,g,h⟩
theorem mT{P:Program}{n:Nat}{x:Code}{Q:Exit→St→Prop}{st:St}{T:Type}(b:T→St)(a:T→Prop)(d:T→Nat)(f:T)(l:a f)(p:Wk st (b f))
  (h:∀t,a t→oy P n x (qH b a d t Q) (b t)):LpW P n x Q st:=by
 refine⟨fun m st=>∃t,d t=m∧a t∧st=b t,⟨d f,b f,p,f,rfl,l,rfl⟩,?_⟩;rintro m _⟨t,rfl,q,rfl⟩;have:Dq (fun m st=>∃t,d t=m∧a t∧st=b t) (d t) Q=qH b a d t Q:=by
  funext e st;cases e<;>try rfl
  simp only[Dq,qH,eq_iff_iff];constructor;rintro⟨r,o,i,k,g,rfl,j,rfl⟩;exact⟨g,j,i,k⟩;rintro⟨g,j,i,k⟩;exact⟨d g,b g,i,k,g,rfl,j,rfl⟩
 rw[this];exact h t q
theorem av{P:Program}{n:Nat}{x:Code}{Q:Exit→St→Prop}{st:St}{T:Type}(b:T→St)(a:T→Prop)(e:T→Nat)(d:T)(g:a d)(f:az st (b d))
  (h:∀t,a t→oy P n x (qH b a e t Q) (b t)):LpW P n x Q st:=mT b a e d g (b7 f) h
theorem tW{P:Program}{g:FuncId}{args:List AV}{hp:Hp}{N:Nat}{K:AV→Hp→Prop}{r:AV}(h:rT P g args r)(a:K r hp):uK P g args hp N K:=.inr ⟨r,h,a⟩
theorem Nu{P:Program}{g:FuncId}{args:List AV}{hp:Hp}{N:Nat}{K:AV→Hp→Prop}{Q:AV→Prop}(h:au P g args Q)(b:∀v,v∈args→v.deep)(a:∀r,Q r→K r hp):uK P g args hp N K:=.inl (zi h b a)
theorem ag{P:Program}{g:FuncId}{args:List AV}{hp:Hp}{N:Nat}{K:AV→Hp→Prop}{r:AV}(h:au P g args (fun x=>x=r))(b:∀v,v∈args→v.deep)(a:K r hp):uK P g args hp N K:=.inl (zi h b (fun _ e=>by rw[e];exact a))
theorem bA(a:List Nat){P:Program}{g:FuncId}{args args':List AV}{hp:Hp}{N:Nat}{K:AV→Hp→Prop}{r:AV}(h:au P g args' (fun x=>x=r))(b:args.length=args'.length)
  (j:∀(i:Nat)(v d:AV),args[i]?=some v→args'[i]?=some d→Snap hp (fun id=>id∈a) v d) (f:K r (aE a hp)):uK P g args hp N K:=.inl (Dt a h b j (fun _ e=>by rw[e];exact f))
theorem jh{P:Program}{g:FuncId}{args args':List AV}{hp:Hp}{N:Nat}{K:AV→Hp→Prop}{r:AV}(h:au P g args' (fun x=>x=r))(a:args.length=args'.length)
  (j:∀(i:Nat)(v b:AV),args[i]?=some v→args'[i]?=some b→Snap hp (fun _=>True) v b) (f:r.flat) (d:K r hp):uK P g args hp N K:=.inl (Ds h a j (fun _ e=>by rw[e];exact f) (fun _ e=>by rw[e];exact d))
theorem aD{hp:Hp}{I:Nat→Prop}{args':List AV}:∀(i:Nat)(v a:AV),([]:List AV)[i]?=some v→args'[i]?=some a→Snap hp I v a:=by intro i v a h;simp at h
theorem aj{hp:Hp}{I:Nat→Prop}{a a':AV}{args args':List AV}(h:Snap hp I a a')(t:∀(i:Nat)(v b:AV),args[i]?=some v→args'[i]?=some b→Snap hp I v b):∀(i:Nat)(v b:AV),(a::args)[i]?=some v→(a'::args')[i]?=some b→Snap hp I v b:=by
 intro i v b e d;cases i with
 |zero=>simp at e d;subst e;subst d;exact h
 |succ i=>simp at e d;exact t i v b e d
theorem bV{hp:Hp}{I:Nat→Prop}{args':List AV}:∀(i:Nat)(v a:AV),([]:List AV)[i]?=some v→args'[i]?=some a→fH hp I v a:=by intro i v a h;simp at h
theorem ax{hp:Hp}{I:Nat→Prop}{a a':AV}{args args':List AV}(h:fH hp I a a')(t:∀(i:Nat)(v b:AV),args[i]?=some v→args'[i]?=some b→fH hp I v b):∀(i:Nat)(v b:AV),(a::args)[i]?=some v→(a'::args')[i]?=some b→fH hp I v b:=by
 intro i v b e d;cases i with
 |zero=>simp at e d;subst e;subst d;exact h
 |succ i=>simp at e d;exact t i v b e d
theorem aL{hp:Hp}{I:Nat→Prop}{v:AV}(h:v.deep1):fH hp I v v:=.inl ⟨rfl,h⟩
theorem ao{hp:Hp}{I:Nat→Prop}{v:AV}{d:DV}(h:SnapD hp I v d):fH hp I v (.d d):=.inr ⟨d,rfl,h⟩
end Go.Am
namespace Go.Am
theorem a9{P:Prop}(h:P:=by simp[AV.deep,AV.deep1]):P:=h
end Go.Am
namespace Go.Am
def a_:List Nat → Tr
|[]=>.done
|n::r=>.step n [] false (a_ r)
abbrev bt(n:Nat)(t:Tr):=Tr.step n [] true t
abbrev bx(n:Nat)(t:Tr):=Tr.step n [] false t
end Go.Am
