/-
 Part 4 of what the claim rests on.
-/
import Derived.Test.YtmfnimjnneflnaaGreatW2
import Derived.ProofKit
set_option linter.unusedVariables false
set_option linter.unusedSimpArgs false
set_option maxRecDepth 100000
set_option maxHeartbeats 16000000
namespace Go.Am
mutual
def AV.ren(ρ:Nat→Nat):AV→AV
 | .any=>.any
 | .d v=>.d v
 | .agg cs=>.agg (AV.renL ρ cs)
 | .tup vs=>.tup (AV.renL ρ vs)
 | .own id i0 len tot=>.own (ρ id) i0 len tot
 | .sub id i off e len cap tot=>.sub (ρ id) i off e len cap tot
 | .ptr id i off tot=>.ptr (ρ id) i off tot
 | .rop cs=>.rop cs
 | .fn f cs=>.fn f (AV.renL ρ cs)
 | .mth f cs=>.mth f (AV.renL ρ cs)
 | .nil=>.nil
 | .mp id=>.mp (ρ id)
def AV.renL(ρ:Nat→Nat):List AV→List AV
 |[]=>[]
 |a::r=>a.ren ρ::AV.renL ρ r
end
theorem jW(ρ:Nat→Nat):∀l,(AV.renL ρ l).length=l.length
 |[]=>by simp[AV.renL]
 |a::r=>by simp[AV.renL,jW ρ r]
theorem jX(ρ:Nat→Nat):∀(l:List AV)(i:Nat),(AV.renL ρ l)[i]?=(l[i]?).map (AV.ren ρ)
 |[],i=>by simp[AV.renL]
 |a::r,0=>by simp[AV.renL]
 |a::r,i+1=>by simp[AV.renL,jX ρ r i]
def aV(ρ:Nat→Nat)(rows:List (List AV)):List (List AV):=rows.map (AV.renL ρ)
def Blk.ren(ρ:Nat→Nat)(b:Blk):Blk:=⟨b.ty,b.e,aV ρ b.es⟩
theorem AIs.ren{w:World}{S S':Nat→Prop}{σ σ':Nat→Option Nat}{hp hp':Hp}{U U':Nat→Prop}{ρ:Nat→Nat}(hS:∀b,S b→S' b)(h1:∀id,U id→U' (ρ id))
  (h2:∀id b',U id→lk (ρ id) hp'=some b'→∃b,lk id hp=some b∧b'.e=b.e∧b'.ty=b.ty∧b'.es.length=b.es.length∧σ' (ρ id)=σ id) {a:AV} {v:Value} (h:AIs w S σ hp U a v):AIs w S' σ' hp' U' (a.ren ρ) v:=by
 induction h with
 |any v=>exact .any v
 |d h=>exact .d (h.mono hS fun _ _=>rfl)
 |agg cs xs hl h1 _ ih =>
  refine .agg _ xs (by rw[jW];exact hl) h1 fun i c x hc hx=>?_;rw[jX]at hc
  cases hc':cs[i]? with
  |none=>rw[hc']at hc;simp at hc
  |some c'=>rw[hc']at hc;simp at hc;subst hc;exact ih i c' x hc' hx
 |tup cs xs hl _ ih =>
  refine .tup _ xs (by rw[jW];exact hl) fun i c x hc hx=>?_;rw[jX]at hc
  cases hc':cs[i]? with
  |none=>rw[hc']at hc;simp at hc
  |some c'=>rw[hc']at hc;simp at hc;subst hc;exact ih i c' x hc' hx
 |own id i0 len tot A cap hN hl h0 h =>
  refine .own _ i0 len tot A cap (h1 _ hN) hl h0 fun b' hb'=>?_;obtain⟨b,hb,he,hty,hle,hσ⟩:=h2 id b' hN hb';obtain⟨k1,k2⟩:=h b hb;rw[hσ,he,hty,hle];exact⟨k1,k2⟩
 |sub id i off e len cap tot A hN hl h0 h =>
  refine .sub _ i off e len cap tot A (h1 _ hN) hl h0 fun b' hb'=>?_;obtain⟨b,hb,he,hty,hle,hσ⟩:=h2 id b' hN hb';obtain⟨k1,k2⟩:=h b hb;rw[hσ,he,hle];exact⟨k1,k2⟩
 |ptr id i off tot a hN h =>
  refine .ptr _ i off tot a (h1 _ hN) fun b' hb'=>?_;obtain⟨b,hb,he,hty,hle,hσ⟩:=h2 id b' hN hb';obtain⟨k1,k2⟩:=h b hb;rw[hσ,he,hle];exact⟨k1,k2⟩
 |rop cs ad vs h1 h2 h3=>exact .rop cs ad vs (hS _ h1) h2 fun j y hy=>(h3 j y hy).mono hS fun _ _=>rfl
 |fn f cs xs hl _ ih =>
  refine .fn f _ xs (by rw[jW];exact hl) fun i c x hc hx=>?_;rw[jX]at hc
  cases hc':cs[i]? with
  |none=>rw[hc']at hc;simp at hc
  |some c'=>rw[hc']at hc;simp at hc;subst hc;exact ih i c' x hc' hx
 |mth f cs xs hl _ ih =>
  refine .mth f _ xs (by rw[jW];exact hl) fun i c x hc hx=>?_;rw[jX]at hc
  cases hc':cs[i]? with
  |none=>rw[hc']at hc;simp at hc
  |some c'=>rw[hc']at hc;simp at hc;subst hc;exact ih i c' x hc' hx
 |nil=>exact .nil
 |mp id g hN h =>
  refine .mp _ g (h1 _ hN) fun b' hb'=>?_;obtain⟨b,hb,_,hty,_⟩:=h2 id b' hN hb';rw[hty];exact h b hb
theorem vK(ρ:Nat→Nat):∀u,AV.renL ρ (oJ u)=oJ u
 |[]=>rfl
 |_::u=>by
  show AV.renL ρ (.d _::oJ u)=_;rw[AV.renL,vK ρ u];rfl
theorem NoB.ren{n:Nat}{w:World}{b:Blk}(ρ:Nat→Nat)(h:NoB n w b):NoB n w (b.ren ρ):=by
 rcases h with h|⟨h0,hn,ks,ms,clock,h1,h2⟩
 ·exact .inl (by simp[Blk.ren,aV,h])
 ·refine .inr ⟨h0,hn,ks,ms,clock,?_,h2⟩;simp only[Blk.ren,aV,h1,oo,List.map_cons,List.map_map,AV.renL,AV.ren];congr 1;exact List.map_congr_left fun u _=>vK ρ u
def xn(w:World)(S:Nat→Prop)(σ:Nat→Option Nat)(hp0:Hp)(k n:Nat)(hk:k≤64):Ctx where
 w0:=w
 M0:=fun b=>∃id blk,lk id hp0=some blk∧σ id=some b
 S0:=fun b=>S b∨∃id blk,lk id hp0=some blk∧σ id=some b
 n:=n
 hM:=fun b h=>.inr h
 Sx:=S
 σx:=σ
 hpx:=hp0
 kx:=k
 hk:=hk
structure Hand(w:World)(S:Nat→Prop)(σ:Nat→Option Nat)(hp0:Hp)(k:Nat):Prop where
 lo:∀b,S b→b<w.heap.size∧∀id blk g,lk id hp0=some blk→σ id=some g→b≠g
 inj:∀i j bi bj g,lk i hp0=some bi→lk j hp0=some bj→σ i=some g→σ j=some g→i=j
 lt:∀i b,lk i hp0=some b→i<k
 blk:∀i b,lk i hp0=some b→(σ i=none∧b.es=[])∨∃g,σ i=some g∧BlkOk w S σ hp0 (fun i=>i<k+1) g b
def cT(P:Program)(g:FuncId)(k:Nat)(hp0:Hp)(args:List AV)(Q:AV→Hp→Prop):Prop :=
 (∃ fn, P.funcs[g]? = some fn ∧ (fn.name == "runtime.NumGoroutine") = false ∧ fn.body.isNone = false) ∧
 ∃ hk:k≤64,∀ (w:World) (S:Nat→Prop) (σ:Nat→Option Nat) (vs:List Value),Hand w S σ hp0 k→vs.length=args.length →
  (∀(i:Nat)(v:AV)(x:Value),args[i]?=some v→vs[i]?=some x→AIs w S σ hp0 (fun i=>i<k+1) v x) →
  Calls P g vs.toArray w fun e w'=>∃x r hp' U' σ',e=.returned x∧Q r hp'∧Rel (xn w S σ hp0 k 0 hk) hp' U' σ' w'∧yV (xn w S σ hp0 k 0 hk) hp' U' σ' w' ∧
   AIs w' (bL (xn w S σ hp0 k 0 hk) w' σ' hp') σ' hp' U' r x
section
variable {P:Program}
theorem Yz{w:World}{S:Nat→Prop}{σ:Nat→Option Nat}{hp0:Hp}{k n:Nat}{hk:k≤64}(h:Hand w S σ hp0 k){b:Nat}(hb:S b):bL (xn w S σ hp0 k n hk) w σ hp0 b :=
 ⟨h.lo b hb,.inl (.inl hb)⟩
theorem BlkOk.mono{w:World}{S S':Nat→Prop}{σ:Nat→Option Nat}{hp:Hp}{U:Nat→Prop}{g:Nat}{b:Blk}(hS:∀b,S b→S' b)(h:BlkOk w S σ hp U g b):BlkOk w S' σ hp U g b:=by
 obtain⟨ccs,h1,h2,h3,h4,h5⟩:=h;exact⟨ccs,h1,h2,h3,h4,fun i j x y v a1 a2 a3=>(h5 i j x y v a1 a2 a3).step ⟨hS,fun _ _=>rfl,fun _ h=>h,fun id b' _ h=>⟨b',h,rfl,rfl,cL _,fun _ g hg=>⟨hg,fun _ h=>h⟩⟩⟩⟩
theorem ar {g : FuncId} {fn : Func} {code : Code} {k : Nat} {hp0 : Hp} {args : List AV} {Q : AV → Hp → Prop} (hf : P.funcs[g]? = some fn) (hn : (fn.name == "runtime.NumGoroutine") = false) (hb : fn.body = some code)
  {n:Nat} {rs:List ResultVar} (hnt:fn.ntmps=n) (hrs:fn.results.toList=rs) (hle:args.length≤n) (hk:k≤64)
  (h:mr P n code (H3 P rs (fun v st=>Q v st.hp)) ⟨Hl 0 args,hp0,k+1⟩):cT P g k hp0 args Q:=by
 subst hnt;subst hrs;refine⟨⟨fn,hf,hn,by simp[hb]⟩,hk,fun w S σ vs hH hl hv=>?_⟩;have hsz:((vs.toArray++Array.replicate (fn.ntmps-vs.toArray.size) undef):Array Value).size=fn.ntmps:=by simp;omega
 refine calls_of_wp hf hb ?_
 let c:Ctx:=xn w S σ hp0 k fn.ntmps hk
 have hsof:∀b,S b→bL c w σ hp0 b:=fun b hb=>Yz hH hb;have hst0:Step w S σ hp0 (fun i=>i<k+1) w (bL c w σ hp0) σ hp0 (fun i=>i<k+1):=⟨hsof,fun _ _=>rfl,fun _ h=>h,fun id b' _ h=>⟨b',h,rfl,rfl,cL _,fun _ g hg=>⟨hg,fun _ h=>h⟩⟩⟩
 have hsim:kU c ⟨Hl 0 args,hp0,k+1⟩ { tmps:=vs.toArray++Array.replicate (fn.ntmps-vs.toArray.size) undef,defers:=[] } w:=by
  refine⟨rfl,hsz,σ,⟨hH.inj,fun i b h=>Nat.lt_succ_of_lt (hH.lt i b h),fun i b h=>?_,fun i b g h hg=>.inl ⟨i,b,h,hg⟩,rfl,rfl,rfl,cL _,fun _ _ _=>rfl⟩,fun n=>?_,⟨hsof,fun _ _=>rfl,fun i h=>Nat.lt_succ_of_lt h,fun id b' _ h=>⟨b',h,rfl,rfl,cL _,fun _ g hg=>⟨hg,fun _ h=>h⟩⟩⟩⟩
  ·rcases hH.blk i b h with h0|⟨g,h1,h2⟩
   ·exact .inl ⟨h0.1,.inl h0.2⟩
   ·exact .inr ⟨g,h1,h2.mono hsof⟩
  ·simp only[fv,xj,Nat.zero_le,if_true,Nat.sub_zero]
   cases hn:args[n]? with
   |none=>exact .any _
   | some v =>
    have hlt:n<vs.length:=by have:=(ci.1 hn).1;omega
    have hx:vs[n]?=some vs[n]:=cm hlt
    have:(vs.toArray++Array.replicate (fn.ntmps-vs.toArray.size) undef).getD n undef=vs[n]:=by
     rw[ct,Array.getElem?_append,if_pos (by simpa using hlt)];simp[hx]
    rw[this];simp only[Option.getD_some];exact(hv n v _ hn hx).step hst0
 have rZ:∀st a w',zx P fn.results.toList (fun v st=>Q v st.hp) st→kU c st a w'→∃v,(results fn a.tmps).run P w'=.ok v w'∧∃x r hp' U' σ',Ending.returned v=.returned x∧Q r hp'∧Rel (xn w S σ hp0 k 0 hk) hp' U' σ' w'∧yV (xn w S σ hp0 k 0 hk) hp' U' σ' w' ∧
   AIs w' (bL (xn w S σ hp0 k 0 hk) w' σ' hp') σ' hp' U' r x:=by
  intro st a w' hret hs;obtain⟨v,x,hQ,hrun,σ',hr,hx,hh⟩:=xi hs hret;exact⟨x,hrun,x,v,st.hp,_,σ',rfl,hQ,⟨hr.inj,hr.lt,hr.blk,hr.mine,hr.os,hr.tape,hr.output,hr.size,hr.old⟩,hh,hx⟩
 refine wp_mono (jz (c:=c) code _ _ _ w h hsim) fun e a w'⟨st,hq,hs⟩=>?_
 cases e with
 |normal=>exact⟨hs.1,rZ st a w' hq hs⟩
 |ret=>exact⟨hs.1,rZ st a w' hq hs⟩
 |_=>exact hq.elim
theorem xo{α:Type}(n:Nat):∀(a b:List (Nat×α)),lk n (a++b)=match lk n a with|some v=>some v|none=>lk n b
 |[],b=>rfl
 |(m,v)::t,b=>by
  simp only[List.cons_append,lk]
  split
  ·rfl
  ·exact xo n t b
theorem qY{α:Type}(f:Nat→Bool)(n:Nat):∀(l:List (Nat×α)),lk n (l.filter fun p=>f p.1)=if f n then lk n l else none
 |[]=>by simp[lk]
 | (m,v) :: t=>by
  have ih:=qY f n t;by_cases hm:f m=true
  ·rw[List.filter_cons_of_pos (by exact hm)];simp only[lk];by_cases h:m=n
   ·subst h;simp[hm]
   ·simp only[if_neg h,ih]
  ·rw[List.filter_cons_of_neg (by exact hm),ih];simp only[lk];by_cases h:m=n
   ·subst h;simp[hm]
   ·simp only[if_neg h]
def fi(prs:List (Nat×Nat)):Bool:=prs.all fun p=>prs.all fun q=>(p.1==q.1)==(p.2==q.2)
theorem fD{prs:List (Nat×Nat)}(h:fi prs=true){i a j b:Nat}(h1:(i,a)∈prs)(h2:(j,b)∈prs):i=j↔a=b:=by
 have:=d7.1 (d7.1 h _ h1) _ h2;simp only[beq_iff_eq]at this;by_cases e:i=j
 ·subst e;by_cases e2:a=b
  ·simp[e2]
  ·simp[e2]at this
 ·by_cases e2:a=b
  ·simp[e,e2]at this
  ·simp[e,e2]
theorem lh{prs:List (Nat×Nat)}(hf:∀i a b,(i,a)∈prs→(i,b)∈prs→a=b){i a:Nat}(h:(i,a)∈prs):lk i prs=some a:=by
 cases hl:lk i prs with
 | none =>
  exfalso;revert h hl;clear hf
  induction prs with
  |nil=>intro h;cases h
  | cons p t ih =>
   obtain⟨m,v⟩:=p;intro h hl;simp only[lk]at hl;by_cases e:m=i
   ·simp[e]at hl
   ·rw[if_neg e]at hl;rcases d_.1 h with h|h
    ·cases h;exact e rfl
    ·exact ih h hl
 |some b=>rw[hf i a b h (bO hl)]
def gv(prs:List (Nat×Nat)):List (Nat×Nat):=prs.map fun p=>(p.2,p.1)
theorem nH{prs:List (Nat×Nat)}{a i:Nat}:(a,i)∈gv prs↔(i,a)∈prs:=by
 simp only[gv,List.mem_map];constructor
 ·rintro⟨⟨x,y⟩,h,e⟩;cases e;exact h
 ·intro h;exact⟨(i,a),h,rfl⟩
theorem RI{prs:List (Nat×Nat)}(h:fi prs=true){i a:Nat}:lk i prs=some a↔(i,a)∈prs :=
 ⟨bO,fun hm=>lh (fun i a b h1 h2=>(fD h h1 h2).1 rfl) hm⟩
theorem BJ{prs:List (Nat×Nat)}(h:fi prs=true){i a:Nat}:lk a (gv prs)=some i↔(i,a)∈prs :=
 ⟨fun hl=>nH.1 (bO hl),fun hm=>lh (fun i a b h1 h2=>(fD h (nH.1 h1) (nH.1 h2)).2 rfl) (nH.2 hm)⟩
def bT(prs:List (Nat×Nat))(d:Nat)(i:Nat):Nat:=(lk i prs).getD d
theorem xp{prs:List (Nat×Nat)}{d i a:Nat}(h:lk i prs=some a):bT prs d i=a:=by simp[bT,h]
theorem BK{prs:List (Nat×Nat)}{d i a:Nat}(h:bT prs d i=a)(hd:a≠d):lk i prs=some a:=by
 unfold bT at h
 cases hl:lk i prs with
 |none=>rw[hl]at h;exact absurd h.symm hd
 |some b=>rw[hl]at h;simp at h;rw[h]
def bM(prs news:List (Nat×Nat))(N:Nat):List (Nat×Nat):=prs++news.map fun p=>(p.1,N+p.2)
def bU(prs news:List (Nat×Nat))(N:Nat)(hp' hp:Hp):Hp :=
 ((bM prs news N).filterMap fun p=>(lk p.1 hp').map fun b=>(p.2,b.ren (bT (bM prs news N) (N+31))))++hp.filter fun p=>!(prs.map (·.2)).contains p.1
def cv(prs news:List (Nat×Nat)):Bool:=fi news&&news.all fun p=>decide (p.2<31)&&prs.all fun q=>q.1 != p.1
theorem RJ{prs news:List (Nat×Nat)}{N:Nat}{hp' hp:Hp}{id:Nat}{b:Blk}(h:lk id (bU prs news N hp' hp)=some b) :
  (∃i b',(i,id)∈bM prs news N∧lk i hp'=some b'∧b=b'.ren (bT (bM prs news N) (N+31)))∨((∀i,(i,id) ∉ prs)∧lk id hp=some b):=by
 unfold bU at h;rw[xo]at h
 split at h
 ·rename_i v hv;injection h with h;subst h;have:=bO hv;rw[List.mem_filterMap]at this;obtain⟨⟨i,id'⟩,h1,h2⟩:=this;simp only at h2
  cases hl:lk i hp' with
  |none=>rw[hl]at h2;simp at h2
  |some b' =>
   rw[hl]at h2;simp only[Option.map_some,Option.some.injEq,Prod.mk.injEq]at h2;obtain⟨rfl,rfl⟩:=h2;exact .inl ⟨i,b',h1,hl,rfl⟩
 ·rw[qY fun n=>!(prs.map (·.2)).contains n]at h
  split at h
  ·rename_i hc;refine .inr ⟨fun i hi=>?_,h⟩;simp only[Bool.not_eq_true',List.contains_eq_mem,decide_eq_false_iff_not,List.mem_map,not_exists,not_and]at hc;exact hc (i,id) hi rfl
  ·cases h
theorem jb(ρ:Nat→Nat)(rows:List (List AV)):(aV ρ rows).length=rows.length:=by simp[aV]
theorem BlkOk.ren{w:World}{S S':Nat→Prop}{σ σ':Nat→Option Nat}{hp hp':Hp}{U U':Nat→Prop}{ρ:Nat→Nat}(hS:∀b,S b→S' b)(h1:∀id,U id→U' (ρ id))
  (h2:∀id b',U id→lk (ρ id) hp'=some b'→∃b,lk id hp=some b∧b'.e=b.e∧b'.ty=b.ty∧b'.es.length=b.es.length∧σ' (ρ id)=σ id) {g:Nat} {b:Blk} (h:BlkOk w S σ hp U g b):BlkOk w S' σ' hp' U' g (b.ren ρ):=by
 obtain⟨ccs,k1,k2,k3,k4,k5⟩:=h;refine⟨ccs,k1,k2,fun x hx=>?_,by simp only[Blk.ren,jb];exact k4,fun i j x y v a1 a2 a3=>?_⟩
 ·simp only[Blk.ren,aV,List.mem_map]at hx;obtain⟨y,hy,rfl⟩:=hx;rw[jW];exact k3 y hy
 ·simp only[Blk.ren,aV,cU]at a1
  cases hx:b.es[i]? with
  |none=>rw[hx]at a1;simp at a1
  | some x0 =>
   rw[hx]at a1;simp only[Option.map_some,Option.some.injEq]at a1;subst a1;rw[jX]at a2
   cases hy:x0[j]? with
   |none=>rw[hy]at a2;simp at a2
   |some y0 =>
    rw[hy]at a2;simp only[Option.map_some,Option.some.injEq]at a2;subst a2;exact(k5 i j x0 y0 v hx hy a3).ren hS h1 h2
def BL(prs:List (Nat×Nat))(d:Nat)(hp:Hp):Hp:=prs.filterMap fun p=>(lk p.1 hp).map fun b=>(p.2,b.ren (bT prs d))
def F7(ρ:Nat→Nat):Fr→Fr
 |[]=>[]
 |(n,v)::r=>(n,v.ren ρ)::F7 ρ r
theorem DR(ρ:Nat→Nat)(n:Nat):∀fr:Fr,fv n (F7 ρ fr)=(fv n fr).ren ρ
 |[]=>rfl
 |(m,v)::r=>by
  simp only[F7,jw,DR ρ n r]
  split<;>rfl
theorem kF{prs:List (Nat×Nat)}{d:Nat}{hp:Hp}{j:Nat}{b:Blk}(h:lk j (BL prs d hp)=some b):∃i b0,(i,j)∈prs∧lk i hp=some b0∧b=b0.ren (bT prs d):=by
 have:=bO h;unfold BL at this;rw[List.mem_filterMap]at this;obtain⟨⟨i,j'⟩,h1,h2⟩:=this;simp only at h2
 cases hl:lk i hp with
 |none=>rw[hl]at h2;simp at h2
 |some b' =>
  rw[hl]at h2;simp only[Option.map_some,Option.some.injEq,Prod.mk.injEq]at h2;obtain⟨rfl,rfl⟩:=h2;exact⟨i,b',h1,hl,rfl⟩
theorem RL(prs:List (Nat×Nat))(N:Nat){st:St}(hprs:fi prs=true)(hlo:∀p,p∈prs→p.1=p.2∨64≤p.2)(hN:∀p,p∈prs→p.2<N)(h64:64≤N):Wk st ⟨F7 (bT prs N) st.fr,BL prs N st.hp,N+1⟩:=by
 rintro c a w⟨q1,q2,σ,hr,hf,hh⟩;have hσ:∀i j,(i,j)∈prs→(lk j (gv prs)).bind σ=σ i:=fun i j h=>by rw[(BJ hprs).2 h];rfl
 have hU:∀id,id<st.nx→bT prs N id<N+1:=fun id _=>by
  unfold bT
  cases hl:lk id prs with
  |none=>simp
  |some k=>have:=hN _ (bO hl);simp only[Option.getD_some];omega
 have h2:∀id b',id<st.nx→lk (bT prs N id) (BL prs N st.hp)=some b'→∃b,lk id st.hp=some b∧b'.e=b.e∧b'.ty=b.ty∧b'.es.length=b.es.length∧(lk (bT prs N id) (gv prs)).bind σ=σ id:=by
  intro id b' _ hb;obtain⟨i,b0,h1,h3,rfl⟩:=kF hb;have hne:bT prs N id≠N:=by have:=hN _ h1;simp only at this;omega
  have h4:=bO (BK (rfl:bT prs N id=bT prs N id) hne);have:i=id:=(fD hprs h1 h4).2 rfl;subst this;exact⟨b0,h3,rfl,rfl,by simp only[Blk.ren,jb],hσ _ _ h4⟩
 have hS:∀b,bL c w σ st.hp b→bL c w (fun j=>(lk j (gv prs)).bind σ) (BL prs N st.hp) b:=by
  rintro b⟨⟨k1,k2⟩,k3⟩;refine⟨⟨k1,fun id blk g hb hg=>?_⟩,k3⟩;obtain⟨i,b0,h1,h3,rfl⟩:=kF hb;simp only[hσ _ _ h1]at hg;exact k2 i b0 g h3 hg
 refine⟨q1,q2,fun j=>(lk j (gv prs)).bind σ,⟨fun i j bi bj g hi hj si sj=>?_,fun i b hi=>?_,fun i b hi=>?_,fun i b g hi hg=>?_,hr.os,hr.tape,hr.output,hr.size,hr.old⟩,fun n=>?_,⟨fun b hb=>hS b (hh.sub b hb),hh.cell,fun i hi=>?_,fun id b' hid hb=>?_⟩⟩
 ·obtain⟨i0,b1,h1,h3,rfl⟩:=kF hi;obtain⟨j0,b2,h4,h5,rfl⟩:=kF hj;simp only[hσ _ _ h1]at si;simp only[hσ _ _ h4]at sj;exact(fD hprs h1 h4).1 (hr.inj i0 j0 _ _ g h3 h5 si sj)
 ·obtain⟨i0,b1,h1,h3,rfl⟩:=kF hi;have h4:=hN _ h1;simp only at h4⊢;omega
 ·obtain⟨i0,b1,h1,h3,rfl⟩:=kF hi;rcases hr.blk i0 b1 h3 with ⟨k1,k2⟩|⟨g,k1,k2⟩
  ·exact .inl ⟨(hσ _ _ h1).trans k1,k2.ren _⟩
  ·exact .inr ⟨g,(hσ _ _ h1).trans k1,k2.ren hS hU h2⟩
 ·obtain⟨i0,b1,h1,h3,rfl⟩:=kF hi;simp only[hσ _ _ h1]at hg;exact hr.mine i0 b1 g h3 hg
 ·simp only[DR];exact(hf n).ren hS hU h2
 ·have:=c.hk;have h4:i<c.kx:=hi;simp only;omega
 ·obtain⟨i0,b1,h1,h3,rfl⟩:=kF hb;have hkx:=c.hk;have h4:id<c.kx:=hid
  have:i0=id:=by
   rcases hlo _ h1 with h|h
   ·exact h
   ·simp only at h;omega
  subst this;obtain⟨b,m1,m2,m3,m4,m5⟩:=hh.blk i0 b1 hid h3;refine⟨b,m1,m2,m3,by simp only[Blk.ren,jb];exact m4,fun he g hg=>?_⟩;simp only[Blk.ren,jb]at he;obtain⟨n1,n2⟩:=m5 he g hg;exact⟨(hσ _ _ h1).trans n1,n2⟩
theorem oN(prs:List (Nat×Nat)){g:FuncId}{k:Nat}{hp0:Hp}{args args0:List AV}{hp:Hp}{N:Nat}{K:AV→Hp→Prop}{Q:AV→Hp→Prop}(h:cT P g k hp0 args0 Q)
  (hprs:fi prs=true) (hlt:∀p,p∈prs→p.1<k) (hall:∀p,p∈prs→∃b,lk p.2 hp=some b∧b.e≠0)
  (hin:∀i b0,lk i hp0=some b0→∃id b,lk i prs=some id∧lk id hp=some b∧b0=b.ren (bT (gv prs) k))
  (hargs:args0=AV.renL (bT (gv prs) k) args)
  (hK:∀r hp',Q r hp'→∃news,cv prs news=true∧K (r.ren (bT (bM prs news N) (N+31))) (bU prs news N hp' hp)):fc P g args hp N K:=by
 refine⟨h.1,fun c U σ w vs hr hN hl hv=>?_⟩;obtain⟨hk,hcon⟩:=h.2
 let σ0:Nat→Option Nat:=fun i=>(lk i prs).bind σ
 let ri:=bT (gv prs) k
 have hσ0:∀{i id},(i,id)∈prs→σ0 i=σ id:=by
  intro i id hm;simp only[σ0,(RI hprs).2 hm,Option.bind_some]
 have hri:∀{id i b},ri id=i→lk i hp0=some b→(i,id)∈prs:=by
  intro id i b he hb
  have hik:i<k:=by
   obtain⟨id',b',h1,_,_⟩:=hin i b hb;exact hlt _ (bO h1)
  exact nH.1 (bO (BK he aq))
 have hU:∀id,U id→ri id<k+1:=by
  intro id _;simp only[ri,bT]
  cases hl:lk id (gv prs)with
  |none=>simp
  |some i=>have:=hlt _ (nH.1 (bO hl));simp;omega
 have h2:∀id b',U id→lk (ri id) hp0=some b'→∃b,lk id hp=some b∧b'.e=b.e∧b'.ty=b.ty∧b'.es.length=b.es.length∧σ0 (ri id)=σ id:=by
  intro id b' _ hb;have hm:=hri rfl hb;obtain⟨id',b,h3,h4,rfl⟩:=hin _ _ hb;have:=(fD hprs hm (bO h3)).1 rfl;subst this;exact⟨b,h4,rfl,rfl,jb _ _,hσ0 hm⟩
 have hhand:Hand w (bL c w σ hp) σ0 hp0 k:=by
  refine⟨fun b hb=>⟨hb.1.1,fun i blk gg hi hg=>?_⟩,fun i j bi bj gg hi hj hgi hgj=>?_,fun i b hi=>?_,fun i b hi=>?_⟩
  ·obtain⟨id,b',h3,h4,_⟩:=hin i blk hi;rw[hσ0 (bO h3)]at hg;exact hb.1.2 id b' gg h4 hg
  ·obtain⟨id,b',h3,h4,_⟩:=hin i bi hi;obtain⟨id2,b2,h5,h6,_⟩:=hin j bj hj;rw[hσ0 (bO h3)]at hgi;rw[hσ0 (bO h5)]at hgj;exact(fD hprs (bO h3) (bO h5)).2 (hr.inj id id2 b' b2 gg h4 h6 hgi hgj)
  ·obtain⟨id,b',h3,h4,_⟩:=hin i b hi;exact hlt _ (bO h3)
  ·obtain⟨id,b',h3,h4,rfl⟩:=hin i b hi;rw[hσ0 (bO h3)];rcases hr.blk id b' h4 with ⟨k1,k2⟩|⟨gg,k1,k2⟩
   ·obtain⟨b1,q1,q2⟩:=hall _ (bO h3);rw[h4]at q1;injection q1 with q1;subst q1;exact .inl ⟨k1,by simp[Blk.ren,aV,k2.none q2]⟩
   ·exact .inr ⟨gg,k1,k2.ren (fun _ h=>h) hU h2⟩
 refine(hcon w (bL c w σ hp) σ0 vs hhand (by rw[hargs,jW];exact hl) (fun i v x hi hx=>?_)).mono fun e w' he=>?_
 ·rw[hargs,jX]at hi
  cases ha:args[i]? with
  |none=>rw[ha]at hi;simp at hi
  |some a =>
   rw[ha]at hi;simp only[Option.map_some,Option.some.injEq]at hi;subst hi;exact(hv i a x ha hx).ren (fun _ h=>h) hU h2
 obtain⟨x,r,hp',U',σ',rfl,hQ,hr',hist,hx⟩:=he;obtain⟨news,hnews,hK⟩:=hK r hp' hQ;simp only[cv,Bool.and_eq_true,d7,decide_eq_true_eq,bne_iff_ne,ne_eq]at hnews;obtain⟨hnp,hnews⟩:=hnews
 let c0:=xn w (bL c w σ hp) σ0 hp0 k 0 hk
 let opr:=bM prs news N
 let ro:=bT opr (N+31)
 let hp2:=bU prs news N hp' hp
 have hUprs:∀{i id},(i,id)∈prs→U id:=by
  intro i id hm;obtain⟨b,hb,_⟩:=hall _ hm;exact hr.lt id b hb
 have hmem:∀{i id},(i,id)∈opr→(i,id)∈prs∨∃j,(i,j)∈news∧id=N+j∧j<31:=by
  intro i id hm;rcases cD.1 hm with h|h
  ·exact .inl h
  ·obtain⟨⟨a,j⟩,h1,h2⟩:=List.mem_map.1 h
   cases h2
   exact .inr ⟨j,h1,rfl,(hnews _ h1).1⟩
 have hoprB:fi opr=true:=by
  refine d7.2 fun p hp1=>d7.2 fun q hq1=>?_
  have key:p.1=q.1↔p.2=q.2:=by
   rcases hmem (i:=p.1) (id:=p.2) hp1 with h1|⟨j,h1,e1,l1⟩<;>rcases hmem (i:=q.1) (id:=q.2) hq1 with h2|⟨j2,h2,e2,l2⟩
   ·exact fD hprs h1 h2
   ·have a1:p.1≠q.1:=(hnews _ h2).2 _ h1;have a2:p.2≠q.2:=fun e=>hN (N+j2) aq aq (by rw[←e2,←e];exact hUprs h1);exact⟨fun e=>absurd e a1,fun e=>absurd e a2⟩
   ·have a1:q.1≠p.1:=(hnews _ h1).2 _ h2;have a2:p.2≠q.2:=fun e=>hN (N+j) aq aq (by rw[←e1,e];exact hUprs h2);exact⟨fun e=>absurd e.symm a1,fun e=>absurd e a2⟩
   ·rw[e1,e2];rw[fD hnp h1 h2];omega
  rw[beq_iff_eq,Bool.eq_iff_iff,beq_iff_eq,beq_iff_eq];exact key
 have hdum:∀{i},(i,N+31) ∉ opr:=by
  intro i hm;rcases hmem hm with h|⟨j,_,e,l⟩
  ·exact hN (N+31) aq aq (hUprs h)
  ·omega
 let σ2:Nat→Option Nat:=fun id=>match lk id (gv opr)with
  |some i=>σ' i
  |none=>σ id
 have hσ2:∀{i id},(i,id)∈opr→σ2 id=σ' i:=by
  intro i id hm;simp only[σ2,(BJ hoprB).2 hm]
 have hσ2':∀{id},(∀i,(i,id) ∉ opr)→σ2 id=σ id:=by
  intro id hm;simp only[σ2]
  cases hl:lk id (gv opr)with
  |none=>rfl
  |some i=>exact absurd ((BJ hoprB).1 hl) (hm i)
 -- what a block of the caller's is now
 have hlk2:∀{id b},lk id hp2=some b→(∃i b',(i,id)∈opr∧lk i hp'=some b'∧b=b'.ren ro)∨((∀i,(i,id) ∉ opr)∧lk id hp=some b):=by
  intro id b hb;rcases RJ hb with h|⟨h1,h2⟩
  ·exact .inl h
  ·refine .inr ⟨fun i hm=>?_,h2⟩;rcases hmem hm with h|⟨j,_,rfl,l⟩
   ·exact h1 i h
   ·exact hN (N+j) aq aq (hr.lt _ _ h2)
 have hUo:∀{i id},(i,id)∈opr→dM U N id:=by
  intro i id hm;rcases hmem hm with h|⟨j,_,rfl,l⟩
  ·exact .inl (hUprs h)
  ·exact .inr ⟨aq,aq⟩
 have hro:∀i,dM U N (ro i):=by
  intro i;simp only[ro,bT]
  cases hl:lk i opr with
  |none=>exact .inr ⟨Nat.le_add_right N 31,Nat.lt_succ_self (N+31)⟩
  |some id=>exact hUo (bO hl)
 -- what the callee owned at the beginning
 have hM0:∀{b},c0.M0 b→∃i id bb,(i,id)∈prs∧lk id hp=some bb∧σ id=some b:=by
  rintro b⟨i,blk,hi,hg⟩;obtain⟨id,bb,h3,h4,_⟩:=hin i blk hi;rw[hσ0 (bO h3)]at hg;exact⟨i,id,bb,bO h3,h4,hg⟩
 have hM0':∀{b},c0.M0 b→c.M0 b∨c.w0.heap.size≤b:=by
  intro b hb;obtain⟨i,id,bb,_,h4,hg⟩:=hM0 hb;exact hr.mine id bb b h4 hg
 have hother:∀{id b gg},(∀i,(i,id) ∉ prs)→lk id hp=some b→σ id=some gg→¬c0.M0 gg:=by
  intro id b gg hn hb hg hm;obtain⟨i,id2,bb,h1,h2,h3⟩:=hM0 hm;have:=hr.inj id id2 b bb gg hb h2 hg h3;subst this;exact hn i h1
 have hsz:w.heap.size≤w'.heap.size:=hr'.size;have hold:∀{b},b<w.heap.size→¬c0.M0 b→w'.heap[b]?=w.heap[b]?:=fun hb hm=>hr'.old _ hb hm
 have hnotown:∀{b},bL c w σ hp b→¬c0.M0 b:=by
  intro b hb hm;obtain⟨i,id,bb,_,h2,h3⟩:=hM0 hm;exact hb.1.2 id bb b h2 h3 rfl
 have hin_prs:∀{i id},(i,id)∈opr→i<k→(i,id)∈prs∨False∨∃j,(i,j)∈news:=by
  intro i id hm _;rcases hmem hm with h|⟨j,h,_,_⟩
  ·exact .inl h
  ·exact .inr (.inr ⟨j,h⟩)
 have hsub1:∀b,bL c w σ hp b→bL c w' σ2 hp2 b:=by
  intro b hb;refine⟨⟨Nat.lt_of_lt_of_le hb.1.1 hsz,fun id blk gg hi hg=>?_⟩,hb.2⟩;rcases hlk2 hi with ⟨i,b',hm,hb',_⟩|⟨hn,hb'⟩
  ·rw[hσ2 hm]at hg;intro e;subst e;rcases hr'.mine i b' b hb' hg with h|h
   ·exact hnotown hb h
   ·have h5:w.heap.size≤b:=h;have:=hb.1.1;omega
  ·rw[hσ2' hn]at hg;exact hb.1.2 id blk gg hb' hg
 have hsub2:∀b,bL c0 w' σ' hp' b→bL c w' σ2 hp2 b:=by
  intro b hb;refine⟨⟨hb.1.1,fun id blk gg hi hg=>?_⟩,?_⟩
  ·rcases hlk2 hi with ⟨i,b',hm,hb',_⟩|⟨hn,hb'⟩
   ·rw[hσ2 hm]at hg;exact hb.1.2 i b' gg hb' hg
   ·rw[hσ2' hn]at hg;intro e;subst e;have hlt2:b<w.heap.size:=dN (hr.at hb' hg);rcases hb.2 with (h|h)|h
    ·exact h.1.2 id blk b hb' hg rfl
    ·exact hother (fun i hi=>hn i (cD.2 (.inl hi))) hb' hg h
    ·have h5:w.heap.size≤b:=h;omega
  ·rcases hb.2 with (h|h)|h
   ·exact h.2
   ·rcases hM0' h with h|h
    ·exact .inl (c.hM _ h)
    ·exact .inr h
   ·have h5:w.heap.size≤b:=h;have:=hr.size;exact .inr aq
 -- the callee's blocks,renamed
 have h3:∀id b',U' id→lk (ro id) hp2=some b'→∃b,lk id hp'=some b∧b'.e=b.e∧b'.ty=b.ty∧b'.es.length=b.es.length∧σ2 (ro id)=σ' id:=by
  intro id b' _ hb;rcases hlk2 hb with ⟨i,b0,hm,hb0,rfl⟩|⟨hn,hb'⟩
  ·have he:lk id opr=some (ro id):=BK rfl (fun e=>by rw[e]at hm;exact hdum hm);have hii:=(fD hoprB (bO he) hm).2 rfl;subst hii;exact⟨b0,hb0,rfl,rfl,jb _ _,hσ2 hm⟩
  ·exfalso
   cases hl:lk id opr with
   |none =>
    have:ro id=N+31:=by simp[ro,bT,hl]
    rw[this]at hb';exact hN (N+31) aq aq (hr.lt _ _ hb')
   |some y =>
    have he:ro id=y:=xp hl;exact hn id (by rw[he];exact bO hl)
 have hstep:Step w (bL c w σ hp) σ hp U w' (bL c w' σ2 hp2) σ2 hp2 (dM U N):=by
  refine⟨hsub1,fun p hp1=>World.cell?_of_block (w:=w) (hold hp1.1.1 (hnotown hp1)),fun i h=>.inl h,fun id b2 hu hb=>?_⟩;rcases hlk2 hb with ⟨i,b',hm,hb',rfl⟩|⟨hn,hb'⟩
  ·rcases hmem hm with h|⟨j,_,rfl,l⟩
   ·obtain⟨b0,k0,k1,k2,k3,k4⟩:=hist.blk i b' (hlt _ h) hb';obtain⟨id2,bb,q1,q2,rfl⟩:=hin i b0 k0;have:=(fD hprs h (bO q1)).1 rfl;subst this;refine⟨bb,q2,k1,k2,by simpa[Blk.ren,jb]using k3,fun hle gg hg=>?_⟩;have hg0:σ0 i=some gg:=by rw[hσ0 h];exact hg
    obtain⟨p1,p2⟩:=k4 (by simpa[Blk.ren,jb]using hle) gg hg0;exact⟨by rw[hσ2 hm];exact p1,p2⟩
   ·exact absurd hu (hN _ aq aq)
  ·refine⟨b2,hb',rfl,rfl,cL _,fun _ gg hg=>⟨by rw[hσ2' hn];exact hg,fun n hn2=>?_⟩⟩;obtain⟨cc,h5,h6⟩:=hn2;exact⟨cc,(hold (dN (hr.at hb' hg)) (hother (fun i hi=>hn i (cD.2 (.inl hi))) hb' hg)).trans h5,h6⟩
 refine⟨x,rfl,r.ren ro,hp2,σ2,hK,⟨fun i j bi bj gg hi hj hgi hgj=>?_,fun id b hb=>?_,fun id b hb=>?_,fun id b gg hb hg=>?_,hr'.os.trans hr.os,hr'.tape.trans hr.tape,hr'.output.trans hr.output,Nat.le_trans hr.size hsz,fun b hb hm=>?_⟩,hstep,hx.ren hsub2 (fun _ _=>hro _) h3⟩
 ·rcases hlk2 hi with ⟨i1,b1,m1,l1,_⟩|⟨n1,l1⟩<;>rcases hlk2 hj with ⟨i2,b2,m2,l2,_⟩|⟨n2,l2⟩
  ·rw[hσ2 m1]at hgi;rw[hσ2 m2]at hgj;exact(fD hoprB m1 m2).1 (hr'.inj i1 i2 b1 b2 gg l1 l2 hgi hgj)
  ·exfalso;rw[hσ2 m1]at hgi;rw[hσ2' n2]at hgj;rcases hr'.mine i1 b1 gg l1 hgi with h|h
   ·exact hother (fun i hi=>n2 i (cD.2 (.inl hi))) l2 hgj h
   ·have h5:w.heap.size≤gg:=h;have:=dN (hr.at l2 hgj);omega
  ·exfalso;rw[hσ2' n1]at hgi;rw[hσ2 m2]at hgj;rcases hr'.mine i2 b2 gg l2 hgj with h|h
   ·exact hother (fun i hi=>n1 i (cD.2 (.inl hi))) l1 hgi h
   ·have h5:w.heap.size≤gg:=h;have:=dN (hr.at l1 hgi);omega
  ·rw[hσ2' n1]at hgi;rw[hσ2' n2]at hgj;exact hr.inj i j bi bj gg l1 l2 hgi hgj
 ·rcases hlk2 hb with ⟨i1,b1,m1,l1,_⟩|⟨n1,l1⟩
  ·exact hUo m1
  ·exact .inl (hr.lt id b l1)
 ·rcases hlk2 hb with ⟨i1,b1,m1,l1,rfl⟩|⟨n1,l1⟩
  ·rw[hσ2 m1];rcases hr'.blk i1 b1 l1 with ⟨k1,k2⟩|⟨gg,k1,k2⟩
   ·exact .inl ⟨k1,(k2.ren _).le hr.size⟩
   ·exact .inr ⟨gg,k1,k2.ren hsub2 (fun _ _=>hro _) h3⟩
  ·rw[hσ2' n1];rcases hr.blk id b l1 with h0|⟨gg,hg,h0⟩
   ·refine .inl ⟨h0.1,h0.2.keep fun g ms ck hm=>hold (s8 hm) fun hM=>?_⟩;obtain⟨_,id2,bb,_,q2,q3⟩:=hM0 hM;obtain⟨ccs,q4,_⟩:=hr.at q2 q3;rw[hm]at q4
    cases q4
   ·exact .inr ⟨gg,hg,h0.step hstep (hold (dN h0) (hother (fun i hi=>n1 i (cD.2 (.inl hi))) l1 hg))⟩
 ·rcases hlk2 hb with ⟨i1,b1,m1,l1,_⟩|⟨n1,l1⟩
  ·rw[hσ2 m1]at hg;rcases hr'.mine i1 b1 gg l1 hg with h|h
   ·exact hM0' h
   ·have h5:w.heap.size≤gg:=h;have:=hr.size;exact .inr aq
  ·rw[hσ2' n1]at hg;exact hr.mine id b gg l1 hg
 ·have hb2:b<w.heap.size:=Nat.lt_of_lt_of_le hb hr.size
  rw[hold hb2 (fun h=>by
   rcases hM0' h with h|h
   ·exact hm h
   ·omega)]
  exact hr.old b hb hm
end
end Go.Am
namespace Go.Am
structure ZIt where
 g:Option (Tmp×Bool)
 z:Nat
 op:Op
 dst:Option Tmp
inductive Its(ops:Array Oper):List Nat→List ZIt→Prop
 |nil:Its ops [] []
 |plain {z:Nat} {d:Option Tmp} {op:Op} {ty:TypeId} {pos:String} {af:Array Edge} {zs:List Nat} {its:List ZIt} (h:ops[z]?=some ⟨d,op,ty,pos,af,none⟩) (t:Its ops zs its):Its ops (z::zs) (⟨none,z,op,d⟩::its)
 |guard {z:Nat} {d:Option Tmp} {op:Op} {ty:TypeId} {pos:String} {af:Array Edge} {g:Nat} {want:Bool} {gd:Tmp} {zs:List Nat} {its:List ZIt} (h:ops[z]?=some ⟨d,op,ty,pos,af,some (g,want)⟩) (hg:(ops[g]?).bind (·.dst)=some gd) (t:Its ops zs its):Its ops (z::zs) (⟨some (gd,want),z,op,d⟩::its)
section
variable (P:Program) (base:Nat) (hp0:Hp)
def zI(F:Fr→Prop):List ZIt→Fr→Prop
 |[],fr=>F fr
 |⟨none,z,op,d⟩::r,fr=>PQ P hp0 fr base op fun v=>zI F r (bu fr d v)
 |⟨some (t,want),z,op,d⟩::r,fr=>match fv t fr with
  | .d (.bool b)=>(b=want→PQ P hp0 fr base op fun v=>zI F r (bu fr d v))∧(b=!want→zI F r (bu fr d (.tup [])))
  | .tup []=>zI F r (bu fr d (.tup []))
  |_=>False
def xq (F:Fr→Hp→Prop):List (ZIt × List ZIt)→Nat→Fr→Hp→Prop
 |[],_,fr,hp=>F fr hp
 |(⟨none,z,op,d⟩,zs)::r,m,fr,hp=>bN P fr hp (base+32*z) op fun v hp'=>(m≠0→db hp0 hp')∧zI P base hp0 (fun fr=>xq F r (m-1) fr hp') zs (bu fr d v)
 | (⟨some (t,want),z,op,d⟩,zs) :: r,m,fr,hp=>match fv t fr with
  | .d (.bool b)=>(b=want→bN P fr hp (base+32*z) op fun v hp'=>(m ≠ 0→db hp0 hp')∧zI P base hp0 (fun fr=>xq F r (m - 1) fr hp') zs (bu fr d v)) ∧
    (b=!want→zI P base hp0 (fun fr=>xq F r (m-1) fr hp) zs (bu fr d (.tup [])))
  | .tup []=>zI P base hp0 (fun fr=>xq F r (m-1) fr hp) zs (bu fr d (.tup []))
  |_=>False
end
inductive Jts(ops:Array Oper):jx→List (ZIt×List ZIt)→Prop
 |nil:Jts ops [] []
 |plain {z:Nat} {d:Option Tmp} {op:Op} {ty:TypeId} {pos:String} {af:Array Edge} {zs:List Nat} {its:List ZIt} {ss:jx} {jts:List (ZIt×List ZIt)} (h:ops[z]?=some ⟨d,op,ty,pos,af,none⟩) (hz:Its ops zs its) (t:Jts ops ss jts):Jts ops ((z,zs)::ss) ((⟨none,z,op,d⟩,its)::jts)
 |guard {z:Nat} {d:Option Tmp} {op:Op} {ty:TypeId} {pos:String} {af:Array Edge} {g:Nat} {want:Bool} {gd:Tmp} {zs:List Nat} {its:List ZIt} {ss:jx} {jts:List (ZIt×List ZIt)} (h:ops[z]?=some ⟨d,op,ty,pos,af,some (g,want)⟩) (hg:(ops[g]?).bind (·.dst)=some gd) (hz:Its ops zs its) (t:Jts ops ss jts):Jts ops ((z,zs)::ss) ((⟨some (gd,want),z,op,d⟩,its)::jts)
theorem vM{P:Program}{base:Nat}{hp0:Hp}{ops:Array Oper}{C:Fr→Prop}{zs:List Nat}{its:List ZIt}(h:Its ops zs its):∀(fr:Fr),zW P ops base hp0 C zs fr=zI P base hp0 C its fr:=by
 induction h with
 |nil=>intro fr;rfl
 |plain h _ ih =>
  intro fr;simp only[zW,zI,h,ih]
 | @guard z d op ty pos af g want gd zs its h hg _ ih =>
  intro fr;simp only[zW,zI,h,hg,ih]
  cases fv gd fr with
  |d v=>cases v<;>rfl
  |tup l=>cases l<;>rfl
  |_=>rfl
theorem RN{P:Program}{base:Nat}{hp0:Hp}{ops:Array Oper}{K:Fr→Hp→Prop}{ss:jx}{jts:List (ZIt×List ZIt)}(h:Jts ops ss jts):∀(m:Nat)(fr:Fr)(hp:Hp),Be P ops base hp0 K ss m fr hp=xq P base hp0 K jts m fr hp:=by
 induction h with
 |nil=>intro m fr hp;rfl
 |plain h hz _ ih =>
  intro m fr hp;simp only[Be,xq,h,ih,vM hz]
 | @guard z d op ty pos af g want gd zs its ss jts h hg hz _ ih =>
  intro m fr hp;simp only[Be,xq,h,hg,ih,vM hz]
  cases fv gd fr with
  |d v=>cases v<;>rfl
  |tup l=>cases l<;>rfl
  |_=>rfl
theorem IA{P:Program}{n:Nat}{ops:Array Oper}{Q:Exit→St→Prop}{st:St}(zs:List Nat)(ss:jx)(m:Nat){its:List ZIt}{jts:List (ZIt×List ZIt)}{k:Nat}(h1:BB n ops zs ss m=true)(h2:P.follows .mixedOrders=true)(hk:ops.size=k)(hz:Its ops zs its)(hj:Jts ops ss jts)
  (h3:∀F:Fr→Hp→Prop,(∀fr hp,Q .normal ⟨fr,hp,st.nx+32*k⟩→F fr hp)→zI P st.nx st.hp (fun fr=>xq P st.nx st.hp F jts m fr st.hp) its st.fr):U3 P n ops Q st:=by
 subst hk;refine .inl ⟨zs,ss,m,h1,h2,?_⟩;rw[vM hz];have:=h3 (fun fr hp=>Q .normal ⟨fr,hp,st.nx+32*ops.size⟩) (fun fr hp h=>h);refine cast ?_ this;congr 1;funext fr;exact(RN hj _ _ _).symm
section
variable (P:Program) (base:Nat) (hp0:Hp) (F:Fr→Prop) (G:Fr→Hp→Prop) (fr:Fr) (hp:Hp) (m:Nat) (r:List ZIt) (q:List (ZIt × List ZIt)) (zs:List ZIt)
def YA(dst:Option Tmp)(v:AV)(hp':Hp):Prop:=zI P base hp0 F r (bu fr dst v)
def IB(dst:Option Tmp)(v:AV)(hp':Hp):Prop:=(m≠0→db hp0 hp')∧zI P base hp0 (fun fr=>xq P base hp0 G q (m-1) fr hp') zs (bu fr dst v)
def RO(op:Op)(dst:Option Tmp):Bool→Prop
 |true=>bN P fr hp0 base op (YA P base hp0 F fr r dst)
 |false=>∃v,lc P fr hp0 op v∧zI P base hp0 F r (bu fr dst v)
theorem IC(op:Op)(dst:Option Tmp):(PQ P hp0 fr base op fun v=>zI P base hp0 F r (bu fr dst v))=RO P base hp0 F fr r op dst (bc P op):=by
 unfold PQ RO
 cases bc P op
 ·simp
 ·simp only[if_true];rfl
def ID(op:Op)(dst:Option Tmp)(want:Bool):AV→Prop
 | .d (.bool b)=>(b=want→RO P base hp0 F fr r op dst (bc P op))∧(b=!want→zI P base hp0 F r (bu fr dst (.tup [])))
 | .tup []=>zI P base hp0 F r (bu fr dst (.tup []))
 |_=>False
def LP(op:Op)(dst:Option Tmp)(N:Nat)(want:Bool):AV→Prop
 | .d (.bool b)=>(b=want→bN P fr hp N op (IB P base hp0 G fr m q zs dst))∧(b=!want→zI P base hp0 (fun fr=>xq P base hp0 G q (m-1) fr hp) zs (bu fr dst (.tup [])))
 | .tup []=>zI P base hp0 (fun fr=>xq P base hp0 G q (m-1) fr hp) zs (bu fr dst (.tup []))
 |_=>False
theorem VD:zI P base hp0 F [] fr=F fr:=rfl
theorem VE(z:Nat)(op:Op)(d:Option Tmp):zI P base hp0 F (⟨none,z,op,d⟩::r) fr=RO P base hp0 F fr r op d (bc P op):=by
 simp only[zI];exact IC ..
theorem VF(t:Tmp)(want:Bool)(z:Nat)(op:Op)(d:Option Tmp):zI P base hp0 F (⟨some (t,want),z,op,d⟩::r) fr=ID P base hp0 F fr r op d want (fv t fr):=by
 simp only[zI,ID,IC]
theorem RP(op:Op)(dst:Option Tmp):RO P base hp0 F fr r op dst true=bN P fr hp0 base op (YA P base hp0 F fr r dst):=rfl
theorem VG(dst:Option Tmp)(v:AV)(hp':Hp):YA P base hp0 F fr r dst v hp'=zI P base hp0 F r (bu fr dst v):=rfl
theorem Nr(op:Op)(dst:Option Tmp)(want:Bool):ID P base hp0 F fr r op dst want (.tup [])=zI P base hp0 F r (bu fr dst (.tup [])):=rfl
theorem Ns(op:Op)(dst:Option Tmp):ID P base hp0 F fr r op dst true (.d (.bool true))=RO P base hp0 F fr r op dst (bc P op):=by simp[ID]
theorem Nu(op:Op)(dst:Option Tmp):ID P base hp0 F fr r op dst false (.d (.bool false))=RO P base hp0 F fr r op dst (bc P op):=by simp[ID]
theorem IE(op:Op)(dst:Option Tmp):ID P base hp0 F fr r op dst false (.d (.bool true))=zI P base hp0 F r (bu fr dst (.tup [])):=by simp[ID]
theorem IF(op:Op)(dst:Option Tmp):ID P base hp0 F fr r op dst true (.d (.bool false))=zI P base hp0 F r (bu fr dst (.tup [])):=by simp[ID]
theorem RQ:xq P base hp0 G [] m fr hp=G fr hp:=rfl
theorem RR(z:Nat)(op:Op)(d:Option Tmp):xq P base hp0 G ((⟨none,z,op,d⟩,zs)::q) m fr hp=bN P fr hp (base+32*z) op (IB P base hp0 G fr m q zs d):=rfl
theorem RS(t:Tmp)(want:Bool)(z:Nat)(op:Op)(d:Option Tmp):xq P base hp0 G ((⟨some (t,want),z,op,d⟩,zs)::q) m fr hp=LP P base hp0 G fr hp m q zs op d (base+32*z) want (fv t fr):=rfl
theorem RU(dst:Option Tmp)(v:AV)(hp':Hp):IB P base hp0 G fr m q zs dst v hp'=((m≠0→db hp0 hp')∧zI P base hp0 (fun fr=>xq P base hp0 G q (m-1) fr hp') zs (bu fr dst v)):=rfl
theorem Nv(op:Op)(dst:Option Tmp)(N:Nat)(want:Bool):LP P base hp0 G fr hp m q zs op dst N want (.tup [])=zI P base hp0 (fun fr=>xq P base hp0 G q (m-1) fr hp) zs (bu fr dst (.tup [])):=rfl
theorem Nw(op:Op)(dst:Option Tmp)(N:Nat):LP P base hp0 G fr hp m q zs op dst N true (.d (.bool true))=bN P fr hp N op (IB P base hp0 G fr m q zs dst):=by simp[LP]
theorem Nx(op:Op)(dst:Option Tmp)(N:Nat):LP P base hp0 G fr hp m q zs op dst N false (.d (.bool false))=bN P fr hp N op (IB P base hp0 G fr m q zs dst):=by simp[LP]
theorem IG(op:Op)(dst:Option Tmp)(N:Nat):LP P base hp0 G fr hp m q zs op dst N false (.d (.bool true))=zI P base hp0 (fun fr=>xq P base hp0 G q (m-1) fr hp) zs (bu fr dst (.tup [])):=by simp[LP]
theorem IH(op:Op)(dst:Option Tmp)(N:Nat):LP P base hp0 G fr hp m q zs op dst N true (.d (.bool false))=zI P base hp0 (fun fr=>xq P base hp0 G q (m-1) fr hp) zs (bu fr dst (.tup [])):=by simp[LP]
end
inductive TI where
 |done
 |alt (a b:TI)
 |step (it:ZIt) (zs:List ZIt) (keep:Bool) (t:TI)
section
variable (P:Program) (base:Nat) (hp0:Hp) (F:Fr→Hp→Prop)
def tI:TI→Fr→Hp→Prop
 | .done,fr,hp=>F fr hp
 | .alt a b,fr,hp=>tI a fr hp∧tI b fr hp
 | .step ⟨none,z,op,d⟩ zs keep t,fr,hp=>bN P fr hp (base+32*z) op fun v hp'=>(keep=true→db hp0 hp')∧zI P base hp0 (fun fr=>tI t fr hp') zs (bu fr d v)
 | .step ⟨some (g,want),z,op,d⟩ zs keep t,fr,hp=>match fv g fr with
  | .d (.bool b)=>(b=want→bN P fr hp (base+32*z) op fun v hp'=>(keep=true→db hp0 hp')∧zI P base hp0 (fun fr=>tI t fr hp') zs (bu fr d v)) ∧
    (b=!want→zI P base hp0 (fun fr=>tI t fr hp) zs (bu fr d (.tup [])))
  | .tup []=>zI P base hp0 (fun fr=>tI t fr hp) zs (bu fr d (.tup []))
  |_=>False
end
inductive Tts(ops:Array Oper):Tr→TI→Prop
 |done:Tts ops .done .done
 |alt {a b:Tr} {x y:TI} (h:Tts ops a x) (h':Tts ops b y):Tts ops (.alt a b) (.alt x y)
 |plain {z:Nat} {d:Option Tmp} {op:Op} {ty:TypeId} {pos:String} {af:Array Edge} {zs:List Nat} {its:List ZIt} {t:Tr} {x:TI} {keep:Bool} (h:ops[z]?=some ⟨d,op,ty,pos,af,none⟩) (hz:Its ops zs its) (ht:Tts ops t x):Tts ops (.step z zs keep t) (.step ⟨none,z,op,d⟩ its keep x)
 |guard {z:Nat} {d:Option Tmp} {op:Op} {ty:TypeId} {pos:String} {af:Array Edge} {g:Nat} {want:Bool} {gd:Tmp} {zs:List Nat} {its:List ZIt} {t:Tr} {x:TI} {keep:Bool} (h:ops[z]?=some ⟨d,op,ty,pos,af,some (g,want)⟩) (hg:(ops[g]?).bind (·.dst)=some gd) (hz:Its ops zs its) (ht:Tts ops t x):Tts ops (.step z zs keep t) (.step ⟨some (gd,want),z,op,d⟩ its keep x)
theorem VH{P:Program}{base:Nat}{hp0:Hp}{ops:Array Oper}{K:Fr→Hp→Prop}{t:Tr}{x:TI}(h:Tts ops t x):∀(fr:Fr)(hp:Hp),uX P ops base hp0 K t fr hp=tI P base hp0 K x fr hp:=by
 induction h with
 |done=>intro fr hp;rfl
 |alt _ _ ih1 ih2=>intro fr hp;simp only[uX,tI,ih1,ih2]
 |plain h hz _ ih =>
  intro fr hp;simp only[uX,tI,h,ih,vM hz]
 | @guard z d op ty pos af g want gd zs its t x keep h hg hz _ ih =>
  intro fr hp;simp only[uX,tI,h,hg,ih,vM hz]
  cases fv gd fr with
  |d v=>cases v<;>rfl
  |tup l=>cases l<;>rfl
  |_=>rfl
theorem VI{P:Program}{n:Nat}{ops:Array Oper}{Q:Exit→St→Prop}{st:St}(zs is za:List Nat)(t:Tr)(st':St){its:List ZIt}{x:TI}{k:Nat}(h1:tt n ops zs is za t=true)(h2:P.follows .mixedOrders=true)(hk:ops.size=k)(hz:Its ops zs its)(hj:Tts ops t x)
  (h3:∀F:Fr→Hp→Prop,(∀fr hp,Wk ⟨fr,hp,st.nx+32*k⟩ st'→F fr hp)→zI P st.nx st.hp (fun fr=>tI P st.nx st.hp F x fr st.hp) its st.fr) (hq:Q .normal st'):U3 P n ops Q st:=by
 subst hk;refine .inr ⟨zs,is,za,t,st',h1,h2,?_,hq⟩;rw[vM hz];have:=h3 (fun fr hp=>Wk ⟨fr,hp,st.nx+32*ops.size⟩ st') (fun fr hp h=>h);refine cast ?_ this;congr 1;funext fr;exact(VH hj _ _).symm
section
variable (P:Program) (base:Nat) (hp0:Hp) (F:Fr→Hp→Prop) (fr:Fr) (hp:Hp)
def YB(zs:List ZIt)(keep:Bool)(x:TI)(dst:Option Tmp)(v:AV)(hp':Hp):Prop:=(keep=true→db hp0 hp')∧zI P base hp0 (fun fr=>tI P base hp0 F x fr hp') zs (bu fr dst v)
def ZE(zs:List ZIt)(keep:Bool)(x:TI)(op:Op)(dst:Option Tmp)(N:Nat)(want:Bool):AV→Prop
 | .d (.bool b)=>(b=want→bN P fr hp N op (YB P base hp0 F fr zs keep x dst))∧(b=!want→zI P base hp0 (fun fr=>tI P base hp0 F x fr hp) zs (bu fr dst (.tup [])))
 | .tup []=>zI P base hp0 (fun fr=>tI P base hp0 F x fr hp) zs (bu fr dst (.tup []))
 |_=>False
theorem VJ:tI P base hp0 F .done fr hp=F fr hp:=rfl
theorem VK(a b:TI):tI P base hp0 F (.alt a b) fr hp=(tI P base hp0 F a fr hp∧tI P base hp0 F b fr hp):=rfl
theorem VL(z:Nat)(op:Op)(d:Option Tmp)(zs:List ZIt)(keep:Bool)(x:TI):tI P base hp0 F (.step ⟨none,z,op,d⟩ zs keep x) fr hp=bN P fr hp (base+32*z) op (YB P base hp0 F fr zs keep x d):=rfl
theorem VM(t:Tmp)(want:Bool)(z:Nat)(op:Op)(d:Option Tmp)(zs:List ZIt)(keep:Bool)(x:TI):tI P base hp0 F (.step ⟨some (t,want),z,op,d⟩ zs keep x) fr hp=ZE P base hp0 F fr hp zs keep x op d (base+32*z) want (fv t fr):=rfl
theorem VN(zs:List ZIt)(keep:Bool)(x:TI)(dst:Option Tmp)(v:AV)(hp':Hp):YB P base hp0 F fr zs keep x dst v hp'=((keep=true→db hp0 hp')∧zI P base hp0 (fun fr=>tI P base hp0 F x fr hp') zs (bu fr dst v)):=rfl
theorem Ny(zs:List ZIt)(keep:Bool)(x:TI)(op:Op)(dst:Option Tmp)(N:Nat)(want:Bool):ZE P base hp0 F fr hp zs keep x op dst N want (.tup [])=zI P base hp0 (fun fr=>tI P base hp0 F x fr hp) zs (bu fr dst (.tup [])):=rfl
end
attribute [go_sem] VJ VK VL VM VN Ny
attribute [go_sem] VD VE VF RP VG Nr Ns Nu IE IF RQ RR RS RU Nv Nw Nx IG IH
theorem bn(prs:List (Nat×Nat)){P:Program}{g:FuncId}{k:Nat}{hp0:Hp}{args args0:List AV}{hp:Hp}{N:Nat}{K:AV→Hp→Prop}{Q:AV→Hp→Prop}(h:cT P g k hp0 args0 Q)
  (hprs:fi prs=true) (hlt:∀p,p∈prs→p.1<k) (hall:∀p,p∈prs→∃b,lk p.2 hp=some b∧b.e≠0)
  (hin:∀p,p∈hp0→∃id b,lk p.1 prs=some id∧lk id hp=some b∧p.2=b.ren (bT (gv prs) k))
  (hargs:args0=AV.renL (bT (gv prs) k) args)
  (hK:∀r hp',Q r hp'→∃news,cv prs news=true∧K (r.ren (bT (bM prs news N) (N+31))) (bU prs news N hp' hp)):sJ P g args hp N K :=
 .inl (oN prs h hprs hlt hall (fun i b0 hb=>by
  obtain⟨id,b,h1,h2,h3⟩:=hin _ (bO hb)
  exact⟨id,b,h1,h2,h3⟩) hargs hK)
theorem II{T:Type}{mk:T→St}{inv:T→Prop}{mu:T→Nat}{t:T}{Q:Exit→St→Prop}{st:St}(t':T)(hI:inv t')(hm:mu t'<mu t)(prs:List (Nat×Nat))(N:Nat)(hprs:fi prs=true)(hlo:∀p,p∈prs→p.1=p.2∨64≤p.2)(hN:∀p,p∈prs→p.2<N)(h64:64≤N)
  (hw:az ⟨F7 (bT prs N) st.fr,BL prs N st.hp,N+1⟩ (mk t')):pU mk inv mu t Q .normal st:=Iz t' hI hm ((RL prs N hprs hlo hN h64).trans (cf hw))
theorem F8{P:Program}{g:FuncId}{args:List AV}{Q:AV→Hp→Prop}{Q':AV→Prop}(h:cT P g 0 [] args Q)(hd:∀v,v∈args→v.deep)(hq:∀r hp',Q r hp'→∃r',Snap hp' (fun _=>True) r r'∧r'.deep∧Q' r'):au P g args Q':=by
 obtain⟨h1,hk,h2⟩:=h;refine⟨h1,fun w S vs hS hl hv=>?_⟩;have hH:Hand w S (fun _=>none) [] 0:=⟨fun b hb=>⟨hS b hb,fun id blk g h=>(by cases h)⟩,fun i j bi bj g h=>(by cases h),fun i b h=>(by cases h),fun i b h=>(by cases h)⟩;refine(h2 w S (fun _=>none) vs hH hl (fun i v x hi hx=>lH (hd v (cr hi)) (fun b hb=>hb) (hv i v x hi hx))).mono fun e w' he=>?_;obtain⟨x,r,hp',U',σ',rfl,hQ,hr,hh,hx⟩:=he;obtain⟨r',hs,hdr,hQ'⟩:=hq r hp' hQ;refine⟨x,r',rfl,hQ',hdr,⟨hr.os,hr.tape,hr.output,hr.size,fun b hb=>hr.old b hb (fun⟨id,blk,hc,_⟩=>by cases hc)⟩,nF (fun b hb=>?_) (fun id blk g _ hk hg=>?_) hr hs hx⟩
 ·rcases hb.2 with h|h
  ·rcases h with h|⟨id,blk,hc,_⟩
   ·exact .inl h
   ·cases hc
  ·exact .inr ⟨h,hb.1.1⟩
 ·rcases hr.mine id blk g hk hg with h|h
  ·obtain⟨id,blk,hc,_⟩:=h
   cases hc
  ·exact .inr ⟨h,dN (hr.at hk hg)⟩
theorem rV(ids:List Nat){P:Program}{g:FuncId}{args args':List AV}{hp:Hp}{N:Nat}{K:AV→Hp→Prop}(h:fc P g args' (aE ids hp) N K)(hl':args.length=args'.length)
  (hs:∀(i:Nat)(v v':AV),args[i]?=some v→args'[i]?=some v'→v'=v∨Snap hp (fun id=>id∈ids) v v'):fc P g args hp N K:=by
 refine⟨h.1,fun c U σ w vs hr hN hl hv=>?_⟩;obtain⟨d1,d2⟩:=zq ids hr;refine(h.2 c U σ w vs d1 hN (hl.trans hl') (fun i v' x hi hx=>?_)).mono fun e w' he=>?_
 ·have hlt:i<args.length:=by have:=(ci.1 hi).1;omega
  rcases hs i _ v' (cm hlt) hi with e|hsn
  ·rw[e];exact(hv i _ x (cm hlt) hx).step d2
  ·refine nF (fun b hb=>d2.sub b hb) (fun id blk g hid hk hg=>⟨⟨dN (hr.at hk hg),fun id' blk' g' hk' hg' e=>?_⟩,?_⟩) hr hsn (hv i _ x (cm hlt) hx)
   ·subst e;rw[pQ]at hk'
    split at hk'
    ·cases hk'
    ·rename_i hn;have:=hr.inj id id' blk blk' g hk hk' hg hg';subst this;exact hn (by simpa using hid)
   ·rcases hr.mine id blk g hk hg with h|h
    ·exact .inl (c.hM g h)
    ·exact .inr h
 ·obtain⟨x,rfl,v,hp',σ',k1,k2,k3,k4⟩:=he;exact⟨x,rfl,v,hp',σ',k1,k2,d2.trans k3,k4⟩
theorem gj(ids:List Nat){P:Program}{g:FuncId}{args args':List AV}{hp:Hp}{N:Nat}{K:AV→Hp→Prop}{Q:AV→Hp→Prop}(h:cT P g 0 [] args' Q)(hl':args.length=args'.length)
  (hs:∀(i:Nat)(v v':AV),args[i]?=some v→args'[i]?=some v'→Snap hp (fun id=>id∈ids) v v') (hd:∀ ρ,args'=AV.renL ρ args')
  (hK:∀r hp',Q r hp'→∃news,cv [] news=true∧K (r.ren (bT (bM [] news N) (N+31))) (bU [] news N hp' (aE ids hp))):sJ P g args hp N K :=
 .inl (rV ids (oN [] h rfl aw aw (by intro i b0 hb;cases hb) (hd _) hK) hl' fun i v v' h1 h2=>.inr (hs i v v' h1 h2))
end Go.Am
namespace Go.Am
def F9(R:TypeId→List DV→Prop)(size:TypeId→Nat):List TypeId→List DV→Prop
 |[],ds=>ds=[]
 |t::r,ds=>∃a b,ds=a++b∧a.length=size t∧R t a∧F9 R size r b
def jY(P:Program):Nat→TypeId→List DV→Prop
 |0,_,_=>False
 |n+1,t,ds =>
  match P.underlying t with
  |some .bool=>∃b,ds=[.bool b]
  |some (.int k)=>∃x,ds=[.int k x]∧k.has x
  |some .string=>∃bs:List Int,ds=[.str bs]∧bs.length≤maxLen∧∀b,b∈bs→0≤b∧b<256
  |some (.slice e)=>∃es,ds=[.ro (P.cellsOf e) es]∧es.length≤maxLen∧∀r,r∈es→jY P n e r∧r.length=P.cellsOf e
  |some (.pointer e)=>ds=[.nilp]∨∃cs,ds=[.box cs]∧jY P n e cs∧cs.length=P.cellsOf e
  |some (.struct fs)=>F9 (jY P n) P.cellsOf (fs.toList.map (·.type)) ds
  |some (.array m e)=>F9 (jY P n) P.cellsOf (List.replicate m e) ds
  |_=>False
def IJ(P:Program):Nat→List Field→Option Nat
 |off,[]=>some off
 |off,f::r=>if f.offset=off then IJ P (off+P.cellsOf f.type) r else none
def sA(P:Program):Nat→TypeId→Bool
 |0,_=>false
 |n+1,t =>
  match P.underlying t with
  |some .bool=>true
  |some (.int _)=>true
  |some .string=>true
  |some (.slice e)=>decide (0<P.cellsOf e)&&sA P n e
  |some (.pointer e)=>decide (0<P.cellsOf e)&&sA P n e
  |some (.struct fs)=>decide (IJ P 0 fs.toList=some (P.cellsOf t))&&fs.toList.all fun f=>sA P n f.type
  |some (.array m e)=>decide (m*P.cellsOf e=P.cellsOf t)&&sA P n e
  |_=>false
section
variable {H:Type} {enc:TypeId × Value→H} {P:Program} {w:World} {spare:Nat→Bool}
def xu(w:World)(ds:List DV)(cs:List Value):Prop:=ds.length=cs.length∧∀(j:Nat)(d:DV)(v:Value),ds[j]?=some d→cs[j]?=some v→DIs w (fun b=>b<w.heap.size) d v
theorem nI{α β:Type}{f:α→Option β}:∀{l:List α}{r:List β},l.mapM f=some r→∀x,x∈l→∃y,f x=some y
 |[],_,_,x,hx=>by simp at hx
 | a :: l,r,h,x,hx=>by
  rw[List.mapM_cons]at h
  cases ha:f a with
  |none=>simp[ha]at h
  | some b =>
   cases hl:l.mapM f with
   |none=>simp[ha,hl]at h
   |some bs =>
    rcases d_.1 hx with rfl|hx
    ·exact⟨b,ha⟩
    ·exact nI hl x hx
theorem IK{a b:List DV}{cs:List Value}{k:Nat}(ha:xu w a (cs.take k))(hk:k≤cs.length)(hb:xu w b (cs.drop k)):xu w (a++b) cs:=by
 have hal:a.length=k:=by rw[ha.1];simp;omega
 have hbl:=hb.1;rw[et]at hbl;refine⟨by rw[b_];omega,fun j d v hj hv=>?_⟩;rw[List.getElem?_append]at hj
 split at hj
 ·rename_i h;exact ha.2 j d v hj (by rw[List.getElem?_take,if_pos aq];exact hv)
 ·rename_i h;refine hb.2 (j-a.length) d v hj ?_;rw[List.getElem?_drop,show k+(j-a.length)=j by omega];exact hv
theorem mM{R:TypeId→List DV→Prop}{size:TypeId→Nat}:∀(ts:List TypeId)(cs:List Value),(ts.map size).sum=cs.length →
   (∀(kt:List TypeId)(t:TypeId)(post:List TypeId),ts=kt++t::post→∃ds,R t ds∧xu w ds ((cs.drop (kt.map size).sum).take (size t)))→∃ds,F9 R size ts ds∧xu w ds cs
 |[],cs,hl,_=>by
  simp at hl;have:cs=[]:=List.eq_nil_of_length_eq_zero hl.symm;subst this;exact⟨[],rfl,rfl,aw⟩
 | t :: r,cs,hl,h=>by
  simp only[List.map_cons,List.sum_cons]at hl;obtain⟨a,ha1,ha2⟩:=h [] t r rfl;simp only[List.map_nil,List.sum_nil,List.drop_zero]at ha2
  obtain⟨b,hb1,hb2⟩:=mM (R:=R) (size:=size) r (cs.drop (size t)) (by rw[et];omega) fun kt u post e=>by
   obtain⟨ds,h1,h2⟩:=h (t::kt) u post (by rw[e];rfl);refine⟨ds,h1,?_⟩;rw[List.drop_drop]
   simpa using h2
  refine⟨a++b,⟨a,b,rfl,?_,ha1,hb1⟩,IK ha2 aq hb2⟩;rw[ha2.1];simp;omega
theorem DT:∀(fs:List Field)(off tot:Nat),IJ P off fs=some tot→off+((fs.map (·.type)).map P.cellsOf).sum=tot∧∀(kt:List Field)(f:Field)(post:List Field),fs=kt++f::post→f.offset=off+((kt.map (·.type)).map P.cellsOf).sum
 |[],off,tot,h=>by
  simp only[IJ]at h;injection h with h;exact⟨by simpa using h,fun kt f post e=>by simp at e⟩
 | g :: r,off,tot,h=>by
  simp only[IJ]at h
  split at h
  ·rename_i ho;obtain⟨h1,h2⟩:=DT r _ tot h;refine⟨by simp only[List.map_cons,List.sum_cons];omega,fun kt f post e=>?_⟩
   cases kt with
   |nil=>simp at e;rw[←e.1,ho];simp
   |cons p kt =>
    simp at e;have:=h2 kt f post e.2;rw[this,←e.1];simp only[List.map_cons,List.sum_cons];omega
  ·cases h
theorem xw(f:TypeId→Nat)(e:TypeId):∀m:Nat,((List.replicate m e).map f).sum=m*f e
 |0=>by simp
 |m+1=>by simp only[List.replicate_succ,List.map_cons,List.sum_cons,xw f e m,Nat.add_mul,Nat.one_mul];omega
theorem Ge{k:IntKind}{x:Int}(h:(Lit.int k x).wf=true):k.has x:=by
 simp only[Lit.wf,Bool.and_eq_true,decide_eq_true_eq]at h;exact h
theorem vO:∀ (fuel n:Nat) (t:TypeId) (cs:List Value) (x:DataW H × List MemPlace),sA P n t=true→DataW.trod enc P w 0 spare true fuel t cs=some x→∃ ds,jY P n t ds∧xu w ds cs
 |0,_,_,_,_,_,h=>by simp[DataW.trod]at h
 |_+1,0,_,_,_,hk,_=>by simp[sA]at hk
 | fuel+1,n+1,t,cs,x,hk,h=>by
  have ih:=fun e cs x hk h=>vO fuel n e cs x hk h
  have one:∀d v,DIs w (fun b=>b<w.heap.size) d v→xu w [d] [v]:=by
   intro d v hd;refine⟨rfl,fun j d' v' h1 h2=>?_⟩
   cases j with
   |zero=>simp at h1 h2;subst h1;subst h2;exact hd
   |succ j=>simp at h1
  simp only[sA]at hk
  cases hu:P.underlying t with
  |none=>simp[hu]at hk
  | some td =>
   rw[hu]at hk
   cases td with
   | bool =>
    rcases cs with _|⟨v,_|⟨u,r⟩⟩
    ·simp[DataW.trod,hu]at h
    ·cases v<;>simp[DataW.trod,hu]at h
     exact⟨[.bool _],by simp[jY,hu],one _ _ (.bool _)⟩
    ·simp[DataW.trod,hu]at h
   | int k =>
    rcases cs with _|⟨v,_|⟨u,r⟩⟩
    ·simp[DataW.trod,hu]at h
    ·cases v<;>simp[DataW.trod,hu]at h
     rename_i k' x';obtain⟨⟨rfl,hw⟩,_⟩:=h;exact⟨[.int _ x'],by simp[jY,hu];exact Ge hw,one _ _ (.int _ _)⟩
    ·simp[DataW.trod,hu]at h
   | string =>
    rcases cs with _|⟨v,_|⟨u,r⟩⟩
    ·simp[DataW.trod,hu]at h
    ·cases v<;>simp[DataW.trod,hu]at h
     rename_i s;refine⟨[.str (s.data.toList.map fun c=>(c.toNat:Int))],?_,one _ _ (.str _)⟩;simp only[jY,hu];refine⟨_,rfl,by simpa using h.1,fun b hb=>?_⟩;rw[List.mem_map]at hb;obtain⟨c,_,rfl⟩:=hb;have:=c.toNat_lt;omega
    ·simp[DataW.trod,hu]at h
   | slice e =>
    rw[Bool.and_eq_true,decide_eq_true_eq]at hk;rcases cs with _|⟨v,_|⟨u,r⟩⟩
    ·simp[DataW.trod,hu]at h
    ·cases v with
     | slice A len cap =>
      cases A with
      | none =>
       have:len=0∧cap=0:=by
        rcases len with _|len<;>rcases cap with _|cap<;>simp[DataW.trod,hu]at h⊢
       obtain⟨rfl,rfl⟩:=this;refine⟨[.ro (P.cellsOf e) []],by simp[jY,hu],one _ _ ?_⟩;exact .ro _ [] none 0 (fun _ _=>default) aw aw aw aw aw
      | some ad =>
       simp only[DataW.trod,hu]at h
       split at h
       ·rename_i hc;obtain⟨_,hlc,hcm⟩:=hc
        cases he:(List.range len).mapM fun i=>(w.cells? 0 (ad.add (i*P.cellsOf e)) (P.cellsOf e)).bind (DataW.trod enc P w 0 spare true fuel e)with
        |none=>simp[he]at h
        | some elems =>
         have hel:∀i,i<len→∃cells ds,w.cells? 0 (ad.add (i*P.cellsOf e)) (P.cellsOf e)=some cells∧jY P n e ds∧xu w ds cells:=by
          intro i hi;obtain⟨y,hy⟩:=nI he i (by simp[hi])
          cases hcl:w.cells? 0 (ad.add (i*P.cellsOf e)) (P.cellsOf e)with
          |none=>simp[hcl]at hy
          |some cells =>
           simp only[hcl,Option.bind_some]at hy;obtain⟨ds,h1,h2⟩:=ih e cells y hk.2 hy;exact⟨cells,ds,rfl,h1,h2⟩
         let es:List (List DV):=(List.range len).map fun i=>if hi:i<len then(hel i hi).choose_spec.choose else[]
         have hes:∀i r,es[i]?=some r→∃cells,i<len∧w.cells? 0 (ad.add (i*P.cellsOf e)) (P.cellsOf e)=some cells∧jY P n e r∧xu w r cells:=by
          intro i r hr
          have hi:i<len:=by
           have:=(ci.1 hr).1
           simpa[es]using this
          simp only[es,cU,List.getElem?_range hi,Option.map_some,Option.some.injEq,dif_pos hi]at hr;subst hr;exact⟨(hel i hi).choose,hi,(hel i hi).choose_spec.choose_spec⟩
         have hlen:es.length=len:=by simp[es]
         have hrl:∀r,r∈es→jY P n e r∧r.length=P.cellsOf e:=by
          intro r hr;obtain⟨i,hi⟩:=List.getElem?_of_mem hr;obtain⟨cells,_,h1,h2,h3⟩:=hes i r hi;exact⟨h2,by rw[h3.1,(World.cells?_some h1).2.1]⟩
         refine⟨[.ro (P.cellsOf e) es],?_,one _ _ ?_⟩
         ·simp only[jY,hu];exact⟨es,rfl,aq,hrl⟩
         ·have:=DIs.ro (w:=w) (S:=fun b=>b<w.heap.size) (P.cellsOf e) es (some ad) cap (fun i j=>(w.cell? (ad.add (i*P.cellsOf e+j))).getD undef) aq (fun r hr=>(hrl r hr).2)
           (fun r hr=>⟨ad,rfl,by
            obtain⟨i,hi⟩:=List.getElem?_of_mem hr;obtain⟨cells,_,h1,_,_⟩:=hes i r hi;have:=World.cells?_block h1 hk.1
            rwa [ec]at this⟩)
           (fun a' ha i j r y hi hj=>by
            injection ha with ha;subst ha;obtain⟨cells,_,h1,_,h3⟩:=hes i r hi
            have hj':j<P.cellsOf e:=by
             have:=(ci.1 hj).1;rw[h3.1,(World.cells?_some h1).2.1]at this;exact this
            have h4:=(World.cells?_some h1).2.2 j hj';rw[kC]at h4;have:cells[j]?=some (cells[j]'(by rw[(World.cells?_some h1).2.1];exact hj')):=cm _;rw[h4,this]
            rfl)
           (fun i j r y hi hj=>by
            obtain⟨cells,_,h1,_,h3⟩:=hes i r hi
            have hj':j<P.cellsOf e:=by
             have:=(ci.1 hj).1;rw[h3.1,(World.cells?_some h1).2.1]at this;exact this
            have h4:=(World.cells?_some h1).2.2 j hj';rw[kC]at h4;have h5:cells[j]?=some (cells[j]'(by rw[(World.cells?_some h1).2.1];exact hj')):=cm _;rw[h4,h5]
            exact h3.2 j y _ hj h5)
          rw[hlen]at this;exact this
       ·cases h
     |_=>simp[DataW.trod,hu]at h
    ·simp[DataW.trod,hu]at h
   | pointer e =>
    rw[Bool.and_eq_true,decide_eq_true_eq]at hk;rcases cs with _|⟨v,_|⟨u,r⟩⟩
    ·simp[DataW.trod,hu]at h
    ·cases v with
     | pointer A =>
      cases A with
      |none=>exact⟨[.nilp],by simp[jY,hu],one _ _ .nilp⟩
      | some ad =>
       simp only[DataW.trod,hu]at h
       cases hcl:w.cells? 0 ad (P.cellsOf e)with
       |none=>simp[hcl]at h
       | some cells =>
        simp only[hcl,Option.bind_some]at h
        cases hy:DataW.trod enc P w 0 spare true fuel e cells with
        |none=>simp[hy]at h
        | some y =>
         obtain⟨ds,h1,h2⟩:=ih e cells y hk.2 hy;have hc:=World.cells?_some hcl;refine⟨[.box ds],?_,one _ _ (.box ds ad (fun j=>(w.cell? (ad.add j)).getD undef) (World.cells?_block hcl hk.1) (fun j z hz=>?_) (fun j z hz=>?_))⟩
         ·simp only[jY,hu];exact .inr ⟨ds,rfl,h1,by rw[h2.1,hc.2.1]⟩
         ·have hj:j<P.cellsOf e:=by
           have:=(ci.1 hz).1;rw[h2.1,hc.2.1]at this;exact this
          have h5:cells[j]?=some (cells[j]'(by rw[hc.2.1];exact hj)):=cm _;rw[hc.2.2 j hj,h5];rfl
         ·have hj:j<P.cellsOf e:=by
           have:=(ci.1 hz).1;rw[h2.1,hc.2.1]at this;exact this
          have h5:cells[j]?=some (cells[j]'(by rw[hc.2.1];exact hj)):=cm _;rw[hc.2.2 j hj,h5];exact h2.2 j z _ hz h5
     |_=>simp[DataW.trod,hu]at h
    ·simp[DataW.trod,hu]at h
   | struct fs =>
    rw[Bool.and_eq_true,decide_eq_true_eq]at hk;obtain⟨hk1,hk2⟩:=hk;obtain⟨l1,l2⟩:=DT fs.toList 0 _ hk1
    have hh:cs.length=P.cellsOf t∧∃xs,(fs.toList.mapM fun f=>DataW.trod enc P w 0 spare true fuel f.type ((cs.drop f.offset).take (P.cellsOf f.type)))=some xs:=by
     simp only[DataW.trod,hu]at h
     split at h
     ·rename_i hc
      cases hm:(fs.toList.mapM fun f=>DataW.trod enc P w 0 spare true fuel f.type ((cs.drop f.offset).take (P.cellsOf f.type)))with
      |none=>simp[hm]at h
      |some xs=>exact⟨hc,xs,rfl⟩
     ·cases h
    obtain⟨hc,xs,hxs⟩:=hh
    obtain⟨ds,d1,d2⟩:=mM (w:=w) (R:=jY P n) (size:=P.cellsOf) (fs.toList.map (·.type)) cs aq (fun kt u post e=>by
     rw[List.map_eq_append_iff]at e;obtain⟨fp,fr,e1,e2,e3⟩:=e;rw[List.map_eq_cons_iff]at e3;obtain⟨f,fr',e4,e5,e6⟩:=e3;subst e2 e5;have hmem:f∈fs.toList:=by rw[e1,e4];simp
     obtain⟨y,hy⟩:=nI hxs f hmem;have ho:=l2 fp f fr' (by rw[e1,e4]);rw[Nat.zero_add]at ho;rw[ho]at hy
     exact ih _ _ y (d7.1 hk2 f hmem) hy)
    exact⟨ds,by simp only[jY,hu];exact d1,d2⟩
   | array m e =>
    rw[Bool.and_eq_true,decide_eq_true_eq]at hk;obtain⟨hk1,hk2⟩:=hk
    have hh:cs.length=P.cellsOf t∧∃xs,((List.range m).mapM fun i=>DataW.trod enc P w 0 spare true fuel e ((cs.drop (i*P.cellsOf e)).take (P.cellsOf e)))=some xs:=by
     simp only[DataW.trod,hu]at h
     split at h
     ·rename_i hc
      cases hm:((List.range m).mapM fun i=>DataW.trod enc P w 0 spare true fuel e ((cs.drop (i*P.cellsOf e)).take (P.cellsOf e)))with
      |none=>simp[hm]at h
      |some xs=>exact⟨hc,xs,rfl⟩
     ·cases h
    obtain⟨hc,xs,hxs⟩:=hh
    obtain⟨ds,d1,d2⟩:=mM (w:=w) (R:=jY P n) (size:=P.cellsOf) (List.replicate m e) cs (by rw[xw];omega) (fun kt u post h'=>by
     have hpl:kt.length<m:=by
      have:=congrArg List.length h';simp at this;omega
     have hpe:kt=List.replicate kt.length e:=List.eq_replicate_iff.2 ⟨rfl,fun x hx=>List.eq_of_mem_replicate (n:=m) (by rw[h'];simp[hx])⟩
     have hu':u=e:=by
      have:u∈List.replicate m e:=by rw[h'];simp
      exact List.eq_of_mem_replicate this
     subst hu';obtain⟨y,hy⟩:=nI hxs kt.length (by simp[hpl])
     have hs:(kt.map P.cellsOf).sum=kt.length*P.cellsOf u:=by
      rw[hpe,xw,List.length_replicate]
     rw[hs]
     exact ih _ _ y hk2 hy)
    exact⟨ds,by simp only[jY,hu];exact d1,d2⟩
   |_=>simp at hk
end
end Go.Am
namespace Go.Am
open Go.ChangeShapes Go.RowKit
def rW(P:Program)(n:Nat)(t:TypeId)(a:AV):Prop :=
 match P.underlying t with
 |some (.struct _)=>∃ds,a=.agg (ds.map .d)∧jY P n t ds
 |some (.array _ _)=>∃ds,a=.agg (ds.map .d)∧jY P n t ds
 |_=>∃d,a=.d d∧jY P n t [d]
def xA(P:Program)(n:Nat):List TypeId→List AV→Prop
 |[],as=>as=[]
 |t::ts,as=>∃a r,as=a::r∧rW P n t a∧xA P n ts r
section
variable {H:Type} {enc:TypeId × Value→H} {P:Program} {W:World}
theorem RV{n:Nat}{t:TypeId}{v:Value}{d:DataW H}{ps:List MemPlace}{base:Nat}(hk:sA P n t=true)(hv:Value.okWide P W .any base t v)(h:DataW.Trod enc P W 0 (fun _=>true) true t v d ps) :
  ∃a,rW P n t a∧AIs W (fun b=>b<W.heap.size) (fun _=>none) [] (fun _=>False) a v:=by
 obtain⟨fuel,h⟩:=h;obtain⟨ds,h1,h2⟩:=vO fuel n t _ _ hk h
 have agg:(∃cs,v=.agg cs∧cs.size=P.cellsOf t∧Row.okWide P W .any base t cs)→∃a,(∃ds,a=.agg (ds.map .d)∧jY P n t ds)∧AIs W (fun b=>b<W.heap.size) (fun _=>none) [] (fun _=>False) a v:=by
  rintro⟨cs,rfl,_,_⟩;simp only[Value.cells]at h2;have hl:ds.length=cs.size:=by simpa using h2.1
  refine⟨_,⟨ds,rfl,h1⟩,.agg _ cs (by simp[hl]) (fun i x hx=>?_) (fun i c x hc hx=>?_)⟩
  ·have hi:i<ds.length:=by
    have:=(Array.getElem?_eq_some_iff.1 hx).1;omega
   exact wU (h2.2 i ds[i] x (cm hi) (by simpa using hx))
  ·simp only[cU,Option.map_eq_some_iff]at hc;obtain⟨d,hd,rfl⟩:=hc;exact .d (h2.2 i d x hd (by simpa using hx))
 have one:v.cells=#[v]→∃a,(∃d,a=.d d∧jY P n t [d])∧AIs W (fun b=>b<W.heap.size) (fun _=>none) [] (fun _=>False) a v:=by
  intro hc;rw[hc]at h2;simp only at h2;have hl:=h2.1
  match ds,hl,h1,h2 with
  |[d],_,h1,h2=>exact⟨_,⟨d,rfl,h1⟩,.d (h2.2 0 d v rfl rfl)⟩
 unfold rW;unfold Value.okWide at hv
 cases n with
 |zero=>simp[sA]at hk
 | succ n =>
  simp only[sA]at hk
  cases hu:P.underlying t with
  |none=>simp[hu]at hk
  | some td =>
   rw[hu]at hk hv
   cases td with
   |struct fs=>exact agg hv
   |array m e=>exact agg hv
   |bool =>
    simp only[Cell.okWide,Cell.ok,hu]at hv;refine one ?_
    cases v<;>simp at hv<;>rfl
   |int k =>
    simp only[Cell.okWide,Cell.ok,hu]at hv;refine one ?_
    cases v<;>simp at hv<;>rfl
   |string =>
    simp only[Cell.okWide,Cell.ok,hu]at hv;refine one ?_
    cases v<;>simp at hv<;>rfl
   |slice e =>
    simp only[Cell.okWide,Cell.ok,hu]at hv;refine one ?_
    cases v<;>simp at hv<;>rfl
   |pointer e =>
    simp only[Cell.okWide,Cell.ok,hu]at hv;refine one ?_
    cases v<;>simp at hv<;>rfl
   |_=>simp at hk
theorem DU{n:Nat}{base:Nat}:∀(ts:List TypeId)(vs:List Value)(ds:List (DataW H))(ps:List MemPlace),ts.all (sA P n)=true→(∀(j:Nat)(t:TypeId)(v:Value),ts[j]?=some t→vs[j]?=some v→Value.okWide P W .any base t v) →
  DataW.TrodAll enc P W 0 (fun _=>true) true ts vs ds ps→vs.length=ts.length∧ds.length=ts.length∧∃as,xA P n ts as∧as.length=ts.length∧∀(i:Nat)(a:AV)(x:Value),as[i]?=some a→vs[i]?=some x→AIs W (fun b=>b<W.heap.size) (fun _=>none) [] (fun _=>False) a x
 |[],vs,ds,ps,_,_,h=>by
  cases vs<;>cases ds<;>simp[DataW.TrodAll]at h
  exact⟨rfl,rfl,[],rfl,rfl,aw⟩
 |t::ts,vs,ds,ps,hk,hv,h=>by
  obtain⟨v,vs',d,ds',p,q,rfl,rfl,rfl,h1,h2⟩:=trodAll_cons h;simp only[List.all_cons,Bool.and_eq_true]at hk;obtain⟨a,ha1,ha2⟩:=RV hk.1 (hv 0 t v rfl rfl) h1;obtain⟨l1,l2,as,k1,k2,k3⟩:=DU ts vs' ds' q hk.2 (fun j t v ht hv'=>hv (j+1) t v (by simpa using ht) (by simpa using hv')) h2;refine⟨by simp[l1],by simp[l2],a::as,⟨a,as,rfl,ha1,k1⟩,by simp[k2],fun i b x hb hx=>?_⟩
  cases i with
  |zero=>simp at hb hx;subst hb;subst hx;exact ha2
  |succ i=>simp at hb hx;exact k3 i b x hb hx
theorem oy(hl:laidOutB P=true){W':World}(hb:Below W.heap.size W W'):∀(ts:List TypeId)(vs:List Value)(ds:List (DataW H))(ps:List MemPlace),(ts.all fun t=>P.readableRec t&&decide (t<P.types.size))=true→(∀x,x∈ps→x.block<W.heap.size) →
  DataW.TrodAll enc P W 0 (fun _=>true) true ts vs ds ps→DataW.TrodAll enc P W' 0 (fun b=>decide (b<W.heap.size)) true ts vs ds ps
 |[],vs,ds,ps,_,_,h=>by
  cases vs<;>cases ds<;>simp[DataW.TrodAll]at h⊢
  exact h
 |t::ts,vs,ds,ps,hk,hlt,h=>by
  obtain⟨v,vs',d,ds',p,q,rfl,rfl,rfl,h1,h2⟩:=trodAll_cons h;simp only[List.all_cons,Bool.and_eq_true,decide_eq_true_eq]at hk;exact⟨p,q,Below.trod hl hk.1.1 hk.1.2 h1 hb (fun x hx=>hlt x (by simp[hx])),oy hl hb ts vs' ds' q hk.2 (fun x hx=>hlt x (by simp[hx])) h2,rfl⟩
theorem Nz{f:Func}{s:ChangeSpec}{g:FuncId}{n base:Nat}{args:Array Value}{ds gs:List (DataW H)}{before:List MemPlace}{tb:TypeId}(hl:laidOutB P=true)(hr:f.resultTypes=#[tb])(htb:P.underlying tb=some .bool)(hvars:s.vars=[])
  (hrd:(f.params.toList.all fun t=>P.readableRec t&&decide (t<P.types.size))=true) (hok:f.params.toList.all (sA P n)=true)
  (hval:∀(j:Nat)(t:TypeId)(v:Value),f.params[j]?=some t→args[j]?=some v→Value.okWide P W .any base t v) (hW:DataW.Whole enc P f.params.toList s.vars false W args.toList ds gs before)
  (hs:∀ds:List (DataW H),ds.length=f.params.size→s.fn H ds={ results:=[.lit (.bool true)],args:=ds })
  (hlaw:∀as,xA P n f.params.toList as→au P g as (fun r=>r=.d (.bool true))) :
  Calls P g args W fun e W'=>∃v,e=.returned v∧s.post enc P f false true false false W args v W':=by
 have hW':=hW;obtain⟨p,q,hA,hV,rfl,hfz,hnd⟩:=hW;rw[hvars]at hV;obtain⟨rfl,rfl⟩:=trodVars_none hV;obtain⟨l1,l2,as,k1,k2,k3⟩:=DU f.params.toList args.toList ds p hok (fun j t v ht hv=>hval j t v (by simpa using ht) (by simpa using hv)) hA;have hc:=(hlaw as k1).2 W (fun b=>b<W.heap.size) args.toList (fun b hb=>hb) aq k3;have e:args.toList.toArray=args:=Array.toArray_toList;rw[e]at hc;refine hc.mono fun e W' he=>?_;obtain⟨x,r,rfl,rfl,hd,hb,hx⟩:=he;have hx':=fC hx;subst hx';have hfn:=hs ds (by simpa using l2);refine⟨_,rfl,ds,[],p++[],[],p,[],hW',?_,?_,?_,hb.frame _,fun h=>by cases h⟩
 ·rw[List.append_nil,hfn,hr];exact trodAll_mk1 (shut_bool htb true)
 ·rw[List.append_nil,hfn];exact oy hl hb _ _ _ _ hrd (fun x hx=>by simpa using hW'.lt x (by simp[hx])) hA
 ·rw[hvars,List.append_nil,hfn];rfl
end
theorem tw{α β:Type}{enc:α→β}{R:α→Prop}:∀{es:List β},(∀r,r∈es→∃o,r=enc o∧R o)→∃os:List α,es=os.map enc∧∀o,o∈os→R o
 |[],_=>⟨[],rfl,aw⟩
 |e::es,h=>by
  obtain⟨o,rfl,ho⟩:=h e (dz ..);obtain⟨os,rfl,hos⟩:=tw fun r hr=>h r (cS _ hr);exact⟨o::os,rfl,fun x hx=>by rcases d_.1 hx with rfl|h;exact ho;exact hos x h⟩
end Go.Am
namespace Go.Am
theorem ca{P:Program}{n:Nat}{ops:Array Oper}{Q:Exit→St→Prop}{st:St}(zs:List Nat)(ss:jx)(m:Nat){its:List ZIt}{jts:List (ZIt×List ZIt)}{k:Nat}
  (h3:∀F:Fr→Hp→Prop,(∀fr hp,Q .normal ⟨fr,hp,st.nx+32*k⟩→F fr hp)→zI P st.nx st.hp (fun fr=>xq P st.nx st.hp F jts m fr st.hp) its st.fr)
  (h1:BB n ops zs ss m=true:=by kernel_rfl) (h2:P.follows .mixedOrders=true:=by kernel_rfl) (hk:ops.size=k:=by rfl) (hz:Its ops zs its:=by repeat (first|exact Its.nil|apply Its.plain rfl|apply Its.guard rfl rfl))
  (hj:Jts ops ss jts:=by repeat (first|exact Jts.nil|exact Its.nil|apply Its.plain rfl|apply Its.guard rfl rfl|apply Jts.plain rfl|apply Jts.guard rfl rfl)):U3 P n ops Q st:=IA zs ss m h1 h2 hk hz hj h3
theorem dh{P:Program}{n:Nat}{ops:Array Oper}{Q:Exit→St→Prop}{st:St}(zs is za:List Nat)(t:Tr)(st':St){its:List ZIt}{x:TI}{k:Nat}
  (h3:∀F:Fr→Hp→Prop,(∀fr hp,Wk ⟨fr,hp,st.nx+32*k⟩ st'→F fr hp)→zI P st.nx st.hp (fun fr=>tI P st.nx st.hp F x fr st.hp) its st.fr) (hq:Q .normal st')
  (h1:tt n ops zs is za t=true:=by kernel_rfl) (h2:P.follows .mixedOrders=true:=by kernel_rfl) (hk:ops.size=k:=by rfl) (hz:Its ops zs its:=by repeat (first|exact Its.nil|apply Its.plain rfl|apply Its.guard rfl rfl))
  (hj:Tts ops t x:=by repeat (first|exact Tts.done|exact Its.nil|apply Tts.alt|apply Its.plain rfl|apply Its.guard rfl rfl|apply Tts.plain rfl|apply Tts.guard rfl rfl)):U3 P n ops Q st:=VI zs is za t st' h1 h2 hk hz hj h3 hq
theorem d5{a b:Nat}(h:Nat.ble a b=true):a≤b:=Nat.le_of_ble_eq_true h
theorem bC{P:Program}{g:FuncId}{fn:Func}{code:Code}{args:List AV}{Q:AV→Prop}{n:Nat}{rs:List ResultVar}(hf:P.funcs[g]?=some fn)(hnt:fn.ntmps=n)(hd:∀v,v∈args→v.deep)(h:mr P n code (H3 P rs (dc Q)) ⟨Hl 0 args,[],0⟩)
  (hn : (fn.name == "runtime.NumGoroutine") = false := by kernel_rfl) (hb : fn.body = some code := by exact rfl) (hrs : fn.results.toList = rs := by exact rfl) (hle : args.length ≤ n := by exact (d5 rfl)) : au P g args Q := FZ hf hn hb hnt hrs hle hd h
theorem ou{st st':St} (h:az st st':=by
   simp only[az,ai];refine⟨?_,?_,aw⟩
   ·repeat (refine List.forall_mem_cons.2 ⟨⟨.inl (Eq.symm (by assumption)),by simp[AV.low,AV.low1]⟩,?_⟩)
    exact List.forall_mem_nil _
   ·repeat (refine List.forall_mem_cons.2 ⟨⟨.inl (by first|rfl|assumption),aw,by first|exact List.forall_mem_cons.2 ⟨by first|exact bZ _ _|exact rM _ _ _ _|exact lW _ _ _ _|exact aI _ _|exact cY _ _ _ _ (by simp[AV.low1]) (by simp[AV.low1]),List.forall_mem_nil _⟩|exact bq _ _|exact qH _ _|exact He _ _ _ _⟩,?_⟩)
    exact List.forall_mem_nil _):Wk st st':=cf h
end Go.Am
