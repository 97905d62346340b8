/-
 Part 4 of what the claim rests on.
-/
import Derived.Test.YtmfnimjnneflnaaGreatD2
import Derived.ProofKit
set_option linter.unusedVariables false
set_option linter.unusedSimpArgs false
set_option maxRecDepth 100000
set_option maxHeartbeats 16000000
namespace Go.Am
mutual
def AV.ren(ρ:Nat→Nat):AV→AV
 | .any=>.any
 | .d v=>.d v
 | .agg cs=>.agg (AV.renL ρ cs)
 | .tup vs=>.tup (AV.renL ρ vs)
 | .own id i0 len tot=>.own (ρ id) i0 len tot
 | .sub id i off e len cap tot=>.sub (ρ id) i off e len cap tot
 | .ptr id i off tot=>.ptr (ρ id) i off tot
 | .rop cs=>.rop cs
 | .fn f cs=>.fn f (AV.renL ρ cs)
 | .mth f cs=>.mth f (AV.renL ρ cs)
 | .nil=>.nil
 | .mp id=>.mp (ρ id)
def AV.renL(ρ:Nat→Nat):List AV→List AV
 |[]=>[]
 |a::r=>a.ren ρ::AV.renL ρ r
end
theorem kJ(ρ:Nat→Nat):∀l,(AV.renL ρ l).length=l.length
 |[]=>by simp[AV.renL]
 |a::r=>by simp[AV.renL,kJ ρ r]
theorem kK(ρ:Nat→Nat):∀(l:List AV)(i:Nat),(AV.renL ρ l)[i]?=(l[i]?).map (AV.ren ρ)
 |[],i=>by simp[AV.renL]
 |a::r,0=>by simp[AV.renL]
 |a::r,i+1=>by simp[AV.renL,kK ρ r i]
def aS(ρ:Nat→Nat)(rows:List (List AV)):List (List AV):=rows.map (AV.renL ρ)
def Blk.ren(ρ:Nat→Nat)(b:Blk):Blk:=⟨b.ty,b.e,aS ρ b.es⟩
theorem AIs.ren{w:World}{S S':Nat→Prop}{σ J:Nat→Option Nat}{hp C:Hp}{U I:Nat→Prop}{ρ:Nat→Nat}(E:∀b,S b→S' b)(p:∀id,U id→I (ρ id))
  (u:∀id b',U id→lk (ρ id) C=some b'→∃b,lk id hp=some b∧b'.e=b.e∧b'.ty=b.ty∧b'.es.length=b.es.length∧J (ρ id)=σ id) {a:AV} {v:Value} (h:AIs w S σ hp U a v):AIs w S' J C I (a.ren ρ) v:=by
 induction h with
 |any v=>exact .any v
 |d h=>exact .d (h.mono E fun _ _=>rfl)
 |agg cs xs hl p _ ih =>
  refine .agg _ xs (by rw[kJ];exact hl) p fun i c x hc s=>?_;rw[kK]at hc;cases k:cs[i]? with
  |none=>rw[k]at hc;simp at hc
  |some c'=>rw[k]at hc;simp at hc;subst hc;exact ih i c' x k s
 |tup cs xs hl _ ih =>
  refine .tup _ xs (by rw[kJ];exact hl) fun i c x hc s=>?_;rw[kK]at hc;cases k:cs[i]? with
  |none=>rw[k]at hc;simp at hc
  |some c'=>rw[k]at hc;simp at hc;subst hc;exact ih i c' x k s
 |own id i0 len tot A cap hN hl h0 h =>
  refine .own _ i0 len tot A cap (p _ hN) hl h0 fun b' l=>?_;obtain⟨b,t,D,o,n,B⟩:=u id b' hN l;obtain⟨z,k2⟩:=h b t;rw[B,D,o,n];exact⟨z,k2⟩
 |sub id i off e len cap tot A hN hl h0 h =>
  refine .sub _ i off e len cap tot A (p _ hN) hl h0 fun b' l=>?_;obtain⟨b,t,D,o,n,B⟩:=u id b' hN l;obtain⟨z,k2⟩:=h b t;rw[B,D,n];exact⟨z,k2⟩
 |ptr id i off tot a hN h =>
  refine .ptr _ i off tot a (p _ hN) fun b' l=>?_;obtain⟨b,t,D,o,n,B⟩:=u id b' hN l;obtain⟨z,k2⟩:=h b t;rw[B,D,n];exact⟨z,k2⟩
 |rop cs ad vs p u h3=>exact .rop cs ad vs (E _ p) u fun j y K=>(h3 j y K).mono E fun _ _=>rfl
 |fn f cs xs hl _ ih =>
  refine .fn f _ xs (by rw[kJ];exact hl) fun i c x hc s=>?_;rw[kK]at hc;cases k:cs[i]? with
  |none=>rw[k]at hc;simp at hc
  |some c'=>rw[k]at hc;simp at hc;subst hc;exact ih i c' x k s
 |mth f cs xs hl _ ih =>
  refine .mth f _ xs (by rw[kJ];exact hl) fun i c x hc s=>?_;rw[kK]at hc;cases k:cs[i]? with
  |none=>rw[k]at hc;simp at hc
  |some c'=>rw[k]at hc;simp at hc;subst hc;exact ih i c' x k s
 |nil=>exact .nil
 |mp id g hN h =>
  refine .mp _ g (p _ hN) fun b' l=>?_;obtain⟨b,t,_,o,_⟩:=u id b' hN l;rw[o];exact h b t
theorem yk(ρ:Nat→Nat):∀u,AV.renL ρ (pT u)=pT u
 |[]=>rfl
 |_::u=>by
  show AV.renL ρ (.d _::pT u)=_;rw[AV.renL,yk ρ u];rfl
theorem NoB.ren{n:Nat}{w:World}{b:Blk}(ρ:Nat→Nat)(h:NoB n w b):NoB n w (b.ren ρ):=by
 rcases h with h|⟨i,e,d,f,a,c,g⟩;exact .inl (by simp[Blk.ren,aS,h]);refine .inr ⟨i,e,d,f,a,?_,g⟩;simp only[Blk.ren,aS,c,pC,List.map_cons,List.map_map,AV.renL,AV.ren];congr 1;exact List.map_congr_left fun u _=>yk ρ u
def zU(w:World)(S:Nat→Prop)(σ:Nat→Option Nat)(hp0:Hp)(k n:Nat)(hk:k≤64):Ctx where
 w0:=w
 M0:=fun b=>∃id blk,lk id hp0=some blk∧σ id=some b
 S0:=fun b=>S b∨∃id blk,lk id hp0=some blk∧σ id=some b
 n:=n
 hM:=fun b h=>.inr h
 Sx:=S
 σx:=σ
 hpx:=hp0
 kx:=k
 hk:=hk
structure Hand(w:World)(S:Nat→Prop)(σ:Nat→Option Nat)(hp0:Hp)(k:Nat):Prop where
 lo:∀b,S b→b<w.heap.size∧∀id blk g,lk id hp0=some blk→σ id=some g→b≠g
 inj:∀i j bi bj g,lk i hp0=some bi→lk j hp0=some bj→σ i=some g→σ j=some g→i=j
 lt:∀i b,lk i hp0=some b→i<k
 blk:∀i b,lk i hp0=some b→(σ i=none∧b.es=[])∨∃g,σ i=some g∧BlkOk w S σ hp0 (fun i=>i<k+1) g b
def c7(P:Program)(g:FuncId)(k:Nat)(hp0:Hp)(args:List AV)(Q:AV→Hp→Prop):Prop :=
 (∃ fn, P.funcs[g]? = some fn ∧ (fn.name == "runtime.NumGoroutine") = false ∧ fn.body.isNone = false) ∧
 ∃ hk:k≤64,∀ (w:World) (S:Nat→Prop) (σ:Nat→Option Nat) (vs:List Value),Hand w S σ hp0 k→vs.length=args.length →
  (∀(i:Nat)(v:AV)(x:Value),args[i]?=some v→vs[i]?=some x→AIs w S σ hp0 (fun i=>i<k+1) v x) →
  Calls P g vs.toArray w fun e w'=>∃x r hp' U' σ',e=.returned x∧Q r hp'∧Rel (zU w S σ hp0 k 0 hk) hp' U' σ' w'∧BB (zU w S σ hp0 k 0 hk) hp' U' σ' w' ∧
   AIs w' (bD (zU w S σ hp0 k 0 hk) w' σ' hp') σ' hp' U' r x
section
variable {P:Program}
theorem aco{w:World}{S:Nat→Prop}{σ:Nat→Option Nat}{hp0:Hp}{k n:Nat}{c:k≤64}(h:Hand w S σ hp0 k){b:Nat}(a:S b):bD (zU w S σ hp0 k n c) w σ hp0 b :=
 ⟨h.lo b a,.inl (.inl a)⟩
theorem BlkOk.mono{w:World}{S S':Nat→Prop}{σ:Nat→Option Nat}{hp:Hp}{U:Nat→Prop}{g:Nat}{b:Blk}(d:∀b,S b→S' b)(h:BlkOk w S σ hp U g b):BlkOk w S' σ hp U g b:=by
 obtain⟨a,n,p,f,o,l⟩:=h;exact⟨a,n,p,f,o,fun i j x y v c s e=>(l i j x y v c s e).step ⟨d,fun _ _=>rfl,fun _ h=>h,fun id k _ h=>⟨k,h,rfl,rfl,cL _,fun _ g t=>⟨t,fun _ h=>h⟩⟩⟩⟩
theorem aB {g : FuncId} {fn : Func} {code : Code} {k : Nat} {hp0 : Hp} {args : List AV} {Q : AV → Hp → Prop} (hf : P.funcs[g]? = some fn) (hn : (fn.name == "runtime.NumGoroutine") = false) (hb : fn.body = some code)
  {n:Nat} {rs:List ResultVar} (hnt:fn.ntmps=n) (hrs:fn.results.toList=rs) (hle:args.length≤n) (hk:k≤64)
  (h:nC P n code (KJ P rs (fun v st=>Q v st.hp)) ⟨JQ 0 args,hp0,k+1⟩):c7 P g k hp0 args Q:=by
 subst hnt;subst hrs;refine⟨⟨fn,hf,hn,by simp[hb]⟩,hk,fun w S σ vs hH hl hv=>?_⟩;have hsz:((vs.toArray++Array.replicate (fn.ntmps-vs.toArray.size) undef):Array Value).size=fn.ntmps:=by simp;omega
 refine calls_of_wp hf hb ?_
 let c:Ctx:=zU w S σ hp0 k fn.ntmps hk
 have hsof:∀b,S b→bD c w σ hp0 b:=fun b hb=>aco hH hb;have hst0:Step w S σ hp0 (fun i=>i<k+1) w (bD c w σ hp0) σ hp0 (fun i=>i<k+1):=⟨hsof,fun _ _=>rfl,fun _ h=>h,fun id b' _ h=>⟨b',h,rfl,rfl,cL _,fun _ g hg=>⟨hg,fun _ h=>h⟩⟩⟩
 have hsim:lG c ⟨JQ 0 args,hp0,k+1⟩ { tmps:=vs.toArray++Array.replicate (fn.ntmps-vs.toArray.size) undef,defers:=[] } w:=by
  refine⟨rfl,hsz,σ,⟨hH.inj,fun i b h=>Nat.lt_succ_of_lt (hH.lt i b h),fun i b h=>?_,fun i b g h hg=>.inl ⟨i,b,h,hg⟩,rfl,rfl,rfl,cL _,fun _ _ _=>rfl⟩,fun n=>?_,⟨hsof,fun _ _=>rfl,fun i h=>Nat.lt_succ_of_lt h,fun id b' _ h=>⟨b',h,rfl,rfl,cL _,fun _ g hg=>⟨hg,fun _ h=>h⟩⟩⟩⟩
  ·rcases hH.blk i b h with h0|⟨g,h1,h2⟩
   ·exact .inl ⟨h0.1,.inl h0.2⟩
   ·exact .inr ⟨g,h1,h2.mono hsof⟩
  ·simp only[fv,zR,Nat.zero_le,if_true,Nat.sub_zero]
   cases hn:args[n]? with
   |none=>exact .any _
   | some v =>
    have hlt:n<vs.length:=by have:=(ci.1 hn).1;omega
    have hx:vs[n]?=some vs[n]:=cm hlt
    have:(vs.toArray++Array.replicate (fn.ntmps-vs.toArray.size) undef).getD n undef=vs[n]:=by
     rw[ct,Array.getElem?_append,if_pos (by simpa using hlt)];simp[hx]
    rw[this];simp only[Option.getD_some];exact(hv n v _ hn hx).step hst0
 have tQ:∀st a w',BV P fn.results.toList (fun v st=>Q v st.hp) st→lG c st a w'→∃v,(results fn a.tmps).run P w'=.ok v w'∧∃x r hp' U' σ',Ending.returned v=.returned x∧Q r hp'∧Rel (zU w S σ hp0 k 0 hk) hp' U' σ' w'∧BB (zU w S σ hp0 k 0 hk) hp' U' σ' w' ∧
   AIs w' (bD (zU w S σ hp0 k 0 hk) w' σ' hp') σ' hp' U' r x:=by
  intro st a w' hret hs;obtain⟨v,x,hQ,hrun,σ',hr,hx,hh⟩:=zQ hs hret;exact⟨x,hrun,x,v,st.hp,_,σ',rfl,hQ,⟨hr.inj,hr.lt,hr.blk,hr.mine,hr.os,hr.tape,hr.output,hr.size,hr.old⟩,hh,hx⟩
 refine wp_mono (kp (c:=c) code _ _ _ w h hsim) fun e a w'⟨st,hq,hs⟩=>?_
 cases e with
 |normal=>exact⟨hs.1,tQ st a w' hq hs⟩
 |ret=>exact⟨hs.1,tQ st a w' hq hs⟩
 |_=>exact hq.elim
theorem nL{α:Type}(n:Nat):∀(a b:List (Nat×α)),lk n (a++b)=match lk n a with|some v=>some v|none=>lk n b
 |[],b=>rfl
 |(m,v)::t,b=>by
  simp only[List.cons_append,lk];split;rfl;exact nL n t b
theorem sR{α:Type}(f:Nat→Bool)(n:Nat):∀(l:List (Nat×α)),lk n (l.filter fun p=>f p.1)=if f n then lk n l else none
 |[]=>by simp[lk]
 | (m,v) :: t=>by
  have b:=sR f n t;by_cases a:f m=true;rw[List.filter_cons_of_pos (by exact a)];simp only[lk];by_cases h:m=n;subst h;simp[a];simp only[if_neg h,b];rw[List.filter_cons_of_neg (by exact a),b];simp only[lk];by_cases h:m=n;subst h;simp[a];simp only[if_neg h]
def ii(a:List (Nat×Nat)):Bool:=a.all fun p=>a.all fun q=>(p.1==q.1)==(p.2==q.2)
theorem gj{c:List (Nat×Nat)}(h:ii c=true){i a j b:Nat}(f:(i,a)∈c)(g:(j,b)∈c):i=j↔a=b:=by
 have:=d7.1 (d7.1 h _ f) _ g;simp only[beq_iff_eq]at this;by_cases e:i=j;subst e;by_cases d:a=b;simp[d];simp[d]at this;by_cases d:a=b;simp[e,d]at this;simp[e,d]
theorem lY{c:List (Nat×Nat)}(f:∀i a b,(i,a)∈c→(i,b)∈c→a=b){i a:Nat}(h:(i,a)∈c):lk i c=some a:=by
 cases d:lk i c with
 | none =>
  exfalso;revert h d;clear f
  induction c with
  |nil=>intro h;cases h
  | cons p t ih =>
   obtain⟨m,v⟩:=p;intro h d;simp only[lk]at d;by_cases e:m=i;simp[e]at d;rw[if_neg e]at d;rcases d_.1 h with h|h;cases h;exact e rfl;exact ih h d
 |some b=>rw[f i a b h (bN d)]
def iy(a:List (Nat×Nat)):List (Nat×Nat):=a.map fun p=>(p.2,p.1)
theorem oL{b:List (Nat×Nat)}{a i:Nat}:(a,i)∈iy b↔(i,a)∈b:=by
 simp only[iy,List.mem_map];constructor;rintro⟨⟨x,y⟩,h,e⟩;cases e;exact h;intro h;exact⟨(i,a),h,rfl⟩
theorem Vw{c:List (Nat×Nat)}(h:ii c=true){i a:Nat}:lk i c=some a↔(i,a)∈c :=
 ⟨bN,fun e=>lY (fun i a b d f=>(gj h d f).1 rfl) e⟩
theorem EU{c:List (Nat×Nat)}(h:ii c=true){i a:Nat}:lk a (iy c)=some i↔(i,a)∈c :=
 ⟨fun g=>oL.1 (bN g),fun e=>lY (fun i a b d f=>(gj h (oL.1 d) (oL.1 f)).2 rfl) (oL.2 e)⟩
def bX(a:List (Nat×Nat))(d:Nat)(i:Nat):Nat:=(lk i a).getD d
theorem zV{b:List (Nat×Nat)}{d i a:Nat}(h:lk i b=some a):bX b d i=a:=by simp[bX,h]
theorem EV{c:List (Nat×Nat)}{d i a:Nat}(h:bX c d i=a)(f:a≠d):lk i c=some a:=by
 unfold bX at h;cases e:lk i c with
 |none=>rw[e]at h;exact absurd h.symm f
 |some b=>rw[e]at h;simp at h;rw[h]
def bF(b a:List (Nat×Nat))(N:Nat):List (Nat×Nat):=b++a.map fun p=>(p.1,N+p.2)
def bZ(c a:List (Nat×Nat))(N:Nat)(d hp:Hp):Hp :=
 ((bF c a N).filterMap fun p=>(lk p.1 d).map fun b=>(p.2,b.ren (bX (bF c a N) (N+31))))++hp.filter fun p=>!(c.map (·.2)).contains p.1
def dp(b a:List (Nat×Nat)):Bool:=ii a&&a.all fun p=>decide (p.2<31)&&b.all fun q=>q.1 != p.1
theorem Vx{a c:List (Nat×Nat)}{N:Nat}{d hp:Hp}{id:Nat}{b:Blk}(h:lk id (bZ a c N d hp)=some b) :
  (∃i b',(i,id)∈bF a c N∧lk i d=some b'∧b=b'.ren (bX (bF a c N) (N+31)))∨((∀i,(i,id) ∉ a)∧lk id hp=some b):=by
 unfold bZ at h;rw[nL]at h;split at h;rename_i v k;injection h with h;subst h;have:=bN k;rw[List.mem_filterMap]at this;obtain⟨⟨i,l⟩,j,e⟩:=this;simp only at e;cases f:lk i d with
 |none=>rw[f]at e;simp at e
 |some b' =>
  rw[f]at e;simp only[Option.map_some,Option.some.injEq,Prod.mk.injEq]at e;obtain⟨rfl,rfl⟩:=e;exact .inl ⟨i,b',j,f,rfl⟩
 ·rw[sR fun n=>!(a.map (·.2)).contains n]at h;split at h;rename_i hc;refine .inr ⟨fun i g=>?_,h⟩;simp only[Bool.not_eq_true',List.contains_eq_mem,decide_eq_false_iff_not,List.mem_map,not_exists,not_and]at hc;exact hc (i,id) g rfl;cases h
theorem jQ(ρ:Nat→Nat)(rows:List (List AV)):(aS ρ rows).length=rows.length:=by simp[aS]
theorem BlkOk.ren{w:World}{S S':Nat→Prop}{σ o:Nat→Option Nat}{hp f:Hp}{U n:Nat→Prop}{ρ:Nat→Nat}(s:∀b,S b→S' b)(u:∀id,U id→n (ρ id))
  (z:∀id b',U id→lk (ρ id) f=some b'→∃b,lk id hp=some b∧b'.e=b.e∧b'.ty=b.ty∧b'.es.length=b.es.length∧o (ρ id)=σ id) {g:Nat} {b:Blk} (h:BlkOk w S σ hp U g b):BlkOk w S' o f n g (b.ren ρ):=by
 obtain⟨l,p,k2,k3,k4,k5⟩:=h;refine⟨l,p,k2,fun x a=>?_,by simp only[Blk.ren,jQ];exact k4,fun i j x y v c d t=>?_⟩;simp only[Blk.ren,aS,List.mem_map]at a;obtain⟨y,k,rfl⟩:=a;rw[kJ];exact k3 y k;simp only[Blk.ren,aS,cU]at c;cases a:b.es[i]? with
 |none=>rw[a]at c;simp at c
 | some x0 =>
  rw[a]at c;simp only[Option.map_some,Option.some.injEq]at c;subst c;rw[kK]at d;cases k:x0[j]? with
  |none=>rw[k]at d;simp at d
  |some y0 =>
   rw[k]at d;simp only[Option.map_some,Option.some.injEq]at d;subst d;exact(k5 i j x0 y0 v a k t).ren s u z
def BZ(a:List (Nat×Nat))(d:Nat)(hp:Hp):Hp:=a.filterMap fun p=>(lk p.1 hp).map fun b=>(p.2,b.ren (bX a d))
def EW(ρ:Nat→Nat):Fr→Fr
 |[]=>[]
 |(n,v)::r=>(n,v.ren ρ)::EW ρ r
theorem GZ(ρ:Nat→Nat)(n:Nat):∀fr:Fr,fv n (EW ρ fr)=(fv n fr).ren ρ
 |[]=>rfl
 |(m,v)::r=>by
  simp only[EW,ju,GZ ρ n r];split<;>rfl
theorem lp{a:List (Nat×Nat)}{d:Nat}{hp:Hp}{j:Nat}{b:Blk}(h:lk j (BZ a d hp)=some b):∃i b0,(i,j)∈a∧lk i hp=some b0∧b=b0.ren (bX a d):=by
 have:=bN h;unfold BZ at this;rw[List.mem_filterMap]at this;obtain⟨⟨i,g⟩,f,c⟩:=this;simp only at c;cases e:lk i hp with
 |none=>rw[e]at c;simp at c
 |some b' =>
  rw[e]at c;simp only[Option.map_some,Option.some.injEq,Prod.mk.injEq]at c;obtain⟨rfl,rfl⟩:=c;exact⟨i,b',f,e,rfl⟩
theorem Vy(d:List (Nat×Nat))(N:Nat){st:St}(o:ii d=true)(J:∀p,p∈d→p.1=p.2∨64≤p.2)(L:∀p,p∈d→p.2<N)(ab:64≤N):Wk st ⟨EW (bX d N) st.fr,BZ d N st.hp,N+1⟩:=by
 rintro c a w⟨q1,q2,σ,x,hf,K⟩;have v:∀i j,(i,j)∈d→(lk j (iy d)).bind σ=σ i:=fun i j h=>by rw[(EU o).2 h];rfl
 have T:∀id,id<st.nx→bX d N id<N+1:=fun id _=>by
  unfold bX;cases hl:lk id d with
  |none=>simp
  |some k=>have:=L _ (bN hl);simp only[Option.getD_some];omega
 have S:∀id B,id<st.nx→lk (bX d N id) (BZ d N st.hp)=some B→∃b,lk id st.hp=some b∧B.e=b.e∧B.ty=b.ty∧B.es.length=b.es.length∧(lk (bX d N id) (iy d)).bind σ=σ id:=by
  intro id B _ z;obtain⟨i,I,f,l,rfl⟩:=lp z;have M:bX d N id≠N:=by have:=L _ f;simp only at this;omega
  have t:=bN (EV (rfl:bX d N id=bX d N id) M);have:i=id:=(gj o f t).2 rfl;subst this;exact⟨I,l,rfl,rfl,by simp only[Blk.ren,jQ],v _ _ t⟩
 have E:∀b,bD c w σ st.hp b→bD c w (fun j=>(lk j (iy d)).bind σ) (BZ d N st.hp) b:=by
  rintro b⟨⟨C,k2⟩,k3⟩;refine⟨⟨C,fun id Z g z A=>?_⟩,k3⟩;obtain⟨i,I,f,l,rfl⟩:=lp z;simp only[v _ _ f]at A;exact k2 i I g l A
 refine⟨q1,q2,fun j=>(lk j (iy d)).bind σ,⟨fun i j bi bj g s hj R O=>?_,fun i b s=>?_,fun i b s=>?_,fun i b g s A=>?_,x.os,x.tape,x.output,x.size,x.old⟩,fun n=>?_,⟨fun b z=>E b (K.sub b z),K.cell,fun i s=>?_,fun id B D z=>?_⟩⟩;obtain⟨u,y,f,l,rfl⟩:=lp s;obtain⟨V,b2,t,h5,rfl⟩:=lp hj;simp only[v _ _ f]at R;simp only[v _ _ t]at O;exact(gj o f t).1 (x.inj u V _ _ g l h5 R O);obtain⟨u,y,f,l,rfl⟩:=lp s;have t:=L _ f;simp only at t⊢;omega;obtain⟨u,y,f,l,rfl⟩:=lp s;rcases x.blk u y l with ⟨C,k2⟩|⟨g,C,k2⟩;exact .inl ⟨(v _ _ f).trans C,k2.ren _⟩;exact .inr ⟨g,(v _ _ f).trans C,k2.ren E T S⟩;obtain⟨u,y,f,l,rfl⟩:=lp s;simp only[v _ _ f]at A;exact x.mine u y g l A;simp only[GZ];exact(hf n).ren E T S;have:=c.hk;have t:i<c.kx:=s;simp only;omega;obtain⟨u,y,f,l,rfl⟩:=lp z;have aa:=c.hk;have t:id<c.kx:=D;have:u=id:=by
  rcases J _ f with h|h;exact h;simp only at h;omega
 subst this;obtain⟨b,m1,m2,Y,U,m5⟩:=K.blk u y D l;refine⟨b,m1,m2,Y,by simp only[Blk.ren,jQ];exact U,fun Q g A=>?_⟩;simp only[Blk.ren,jQ]at Q;obtain⟨X,n2⟩:=m5 Q g A;exact⟨(v _ _ f).trans X,n2⟩
theorem pX(prs:List (Nat×Nat)){g:FuncId}{k:Nat}{hp0:Hp}{args args0:List AV}{hp:Hp}{N:Nat}{K:AV→Hp→Prop}{Q:AV→Hp→Prop}(h:c7 P g k hp0 args0 Q)
  (hprs:ii prs=true) (hlt:∀p,p∈prs→p.1<k) (hall:∀p,p∈prs→∃b,lk p.2 hp=some b∧b.e≠0)
  (hin:∀i b0,lk i hp0=some b0→∃id b,lk i prs=some id∧lk id hp=some b∧b0=b.ren (bX (iy prs) k))
  (hargs:args0=AV.renL (bX (iy prs) k) args)
  (hK:∀r hp',Q r hp'→∃news,dp prs news=true∧K (r.ren (bX (bF prs news N) (N+31))) (bZ prs news N hp' hp)):fP P g args hp N K:=by
 refine⟨h.1,fun c U σ w vs hr hN hl hv=>?_⟩;obtain⟨hk,hcon⟩:=h.2
 let σ0:Nat→Option Nat:=fun i=>(lk i prs).bind σ
 let ri:=bX (iy prs) k
 have hσ0:∀{i id},(i,id)∈prs→σ0 i=σ id:=by
  intro i id hm;simp only[σ0,(Vw hprs).2 hm,Option.bind_some]
 have hri:∀{id i b},ri id=i→lk i hp0=some b→(i,id)∈prs:=by
  intro id i b he hb;have hik:i<k:=by
   obtain⟨id',b',h1,_,_⟩:=hin i b hb;exact hlt _ (bN h1)
  exact oL.1 (bN (EV he aq))
 have hU:∀id,U id→ri id<k+1:=by
  intro id _;simp only[ri,bX];cases hl:lk id (iy prs)with
  |none=>simp
  |some i=>have:=hlt _ (oL.1 (bN hl));simp;omega
 have h2:∀id b',U id→lk (ri id) hp0=some b'→∃b,lk id hp=some b∧b'.e=b.e∧b'.ty=b.ty∧b'.es.length=b.es.length∧σ0 (ri id)=σ id:=by
  intro id b' _ hb;have hm:=hri rfl hb;obtain⟨id',b,h3,h4,rfl⟩:=hin _ _ hb;have:=(gj hprs hm (bN h3)).1 rfl;subst this;exact⟨b,h4,rfl,rfl,jQ _ _,hσ0 hm⟩
 have hhand:Hand w (bD c w σ hp) σ0 hp0 k:=by
  refine⟨fun b hb=>⟨hb.1.1,fun i blk gg hi hg=>?_⟩,fun i j bi bj gg hi hj hgi hgj=>?_,fun i b hi=>?_,fun i b hi=>?_⟩;obtain⟨id,b',h3,h4,_⟩:=hin i blk hi;rw[hσ0 (bN h3)]at hg;exact hb.1.2 id b' gg h4 hg;obtain⟨id,b',h3,h4,_⟩:=hin i bi hi;obtain⟨id2,b2,h5,h6,_⟩:=hin j bj hj;rw[hσ0 (bN h3)]at hgi;rw[hσ0 (bN h5)]at hgj;exact(gj hprs (bN h3) (bN h5)).2 (hr.inj id id2 b' b2 gg h4 h6 hgi hgj);obtain⟨id,b',h3,h4,_⟩:=hin i b hi;exact hlt _ (bN h3);obtain⟨id,b',h3,h4,rfl⟩:=hin i b hi;rw[hσ0 (bN h3)];rcases hr.blk id b' h4 with ⟨k1,k2⟩|⟨gg,k1,k2⟩;obtain⟨b1,q1,q2⟩:=hall _ (bN h3);rw[h4]at q1;injection q1 with q1;subst q1;exact .inl ⟨k1,by simp[Blk.ren,aS,k2.none q2]⟩;exact .inr ⟨gg,k1,k2.ren (fun _ h=>h) hU h2⟩
 refine(hcon w (bD c w σ hp) σ0 vs hhand (by rw[hargs,kJ];exact hl) (fun i v x hi hx=>?_)).mono fun e w' he=>?_;rw[hargs,kK]at hi;cases ha:args[i]? with
 |none=>rw[ha]at hi;simp at hi
 |some a =>
  rw[ha]at hi;simp only[Option.map_some,Option.some.injEq]at hi;subst hi;exact(hv i a x ha hx).ren (fun _ h=>h) hU h2
 obtain⟨x,r,hp',U',σ',rfl,hQ,hr',hist,hx⟩:=he;obtain⟨news,hnews,hK⟩:=hK r hp' hQ;simp only[dp,Bool.and_eq_true,d7,decide_eq_true_eq,bne_iff_ne,ne_eq]at hnews;obtain⟨hnp,hnews⟩:=hnews
 let c0:=zU w (bD c w σ hp) σ0 hp0 k 0 hk
 let opr:=bF prs news N
 let ro:=bX opr (N+31)
 let hp2:=bZ prs news N hp' hp
 have hUprs:∀{i id},(i,id)∈prs→U id:=by
  intro i id hm;obtain⟨b,hb,_⟩:=hall _ hm;exact hr.lt id b hb
 have hmem:∀{i id},(i,id)∈opr→(i,id)∈prs∨∃j,(i,j)∈news∧id=N+j∧j<31:=by
  intro i id hm;rcases cD.1 hm with h|h;exact .inl h;obtain⟨⟨a,j⟩,h1,h2⟩:=List.mem_map.1 h;cases h2;exact .inr ⟨j,h1,rfl,(hnews _ h1).1⟩
 have hoprB:ii opr=true:=by
  refine d7.2 fun p hp1=>d7.2 fun q hq1=>?_;have key:p.1=q.1↔p.2=q.2:=by
   rcases hmem (i:=p.1) (id:=p.2) hp1 with h1|⟨j,h1,e1,l1⟩<;>rcases hmem (i:=q.1) (id:=q.2) hq1 with h2|⟨j2,h2,e2,l2⟩;exact gj hprs h1 h2;have a1:p.1≠q.1:=(hnews _ h2).2 _ h1;have a2:p.2≠q.2:=fun e=>hN (N+j2) aq aq (by rw[←e2,←e];exact hUprs h1);exact⟨fun e=>absurd e a1,fun e=>absurd e a2⟩;have a1:q.1≠p.1:=(hnews _ h1).2 _ h2;have a2:p.2≠q.2:=fun e=>hN (N+j) aq aq (by rw[←e1,e];exact hUprs h2);exact⟨fun e=>absurd e.symm a1,fun e=>absurd e a2⟩;rw[e1,e2];rw[gj hnp h1 h2];omega
  rw[beq_iff_eq,Bool.eq_iff_iff,beq_iff_eq,beq_iff_eq];exact key
 have hdum:∀{i},(i,N+31) ∉ opr:=by
  intro i hm;rcases hmem hm with h|⟨j,_,e,l⟩;exact hN (N+31) aq aq (hUprs h);omega
 let σ2:Nat→Option Nat:=fun id=>match lk id (iy opr)with
  |some i=>σ' i
  |none=>σ id
 have hσ2:∀{i id},(i,id)∈opr→σ2 id=σ' i:=by
  intro i id hm;simp only[σ2,(EU hoprB).2 hm]
 have hσ2':∀{id},(∀i,(i,id) ∉ opr)→σ2 id=σ id:=by
  intro id hm;simp only[σ2];cases hl:lk id (iy opr)with
  |none=>rfl
  |some i=>exact absurd ((EU hoprB).1 hl) (hm i)
 -- what a block of the caller's is now
 have hlk2:∀{id b},lk id hp2=some b→(∃i b',(i,id)∈opr∧lk i hp'=some b'∧b=b'.ren ro)∨((∀i,(i,id) ∉ opr)∧lk id hp=some b):=by
  intro id b hb;rcases Vx hb with h|⟨h1,h2⟩;exact .inl h;refine .inr ⟨fun i hm=>?_,h2⟩;rcases hmem hm with h|⟨j,_,rfl,l⟩;exact h1 i h;exact hN (N+j) aq aq (hr.lt _ _ h2)
 have hUo:∀{i id},(i,id)∈opr→ec U N id:=by
  intro i id hm;rcases hmem hm with h|⟨j,_,rfl,l⟩;exact .inl (hUprs h);exact .inr ⟨aq,aq⟩
 have hro:∀i,ec U N (ro i):=by
  intro i;simp only[ro,bX];cases hl:lk i opr with
  |none=>exact .inr ⟨Nat.le_add_right N 31,Nat.lt_succ_self (N+31)⟩
  |some id=>exact hUo (bN hl)
 -- what the callee owned at the beginning
 have hM0:∀{b},c0.M0 b→∃i id bb,(i,id)∈prs∧lk id hp=some bb∧σ id=some b:=by
  rintro b⟨i,blk,hi,hg⟩;obtain⟨id,bb,h3,h4,_⟩:=hin i blk hi;rw[hσ0 (bN h3)]at hg;exact⟨i,id,bb,bN h3,h4,hg⟩
 have hM0':∀{b},c0.M0 b→c.M0 b∨c.w0.heap.size≤b:=by
  intro b hb;obtain⟨i,id,bb,_,h4,hg⟩:=hM0 hb;exact hr.mine id bb b h4 hg
 have hother:∀{id b gg},(∀i,(i,id) ∉ prs)→lk id hp=some b→σ id=some gg→¬c0.M0 gg:=by
  intro id b gg hn hb hg hm;obtain⟨i,id2,bb,h1,h2,h3⟩:=hM0 hm;have:=hr.inj id id2 b bb gg hb h2 hg h3;subst this;exact hn i h1
 have hsz:w.heap.size≤w'.heap.size:=hr'.size;have hold:∀{b},b<w.heap.size→¬c0.M0 b→w'.heap[b]?=w.heap[b]?:=fun hb hm=>hr'.old _ hb hm;have hnotown:∀{b},bD c w σ hp b→¬c0.M0 b:=by
  intro b hb hm;obtain⟨i,id,bb,_,h2,h3⟩:=hM0 hm;exact hb.1.2 id bb b h2 h3 rfl
 have hin_prs:∀{i id},(i,id)∈opr→i<k→(i,id)∈prs∨False∨∃j,(i,j)∈news:=by
  intro i id hm _;rcases hmem hm with h|⟨j,h,_,_⟩;exact .inl h;exact .inr (.inr ⟨j,h⟩)
 have hsub1:∀b,bD c w σ hp b→bD c w' σ2 hp2 b:=by
  intro b hb;refine⟨⟨Nat.lt_of_lt_of_le hb.1.1 hsz,fun id blk gg hi hg=>?_⟩,hb.2⟩;rcases hlk2 hi with ⟨i,b',hm,hb',_⟩|⟨hn,hb'⟩;rw[hσ2 hm]at hg;intro e;subst e;rcases hr'.mine i b' b hb' hg with h|h;exact hnotown hb h;have h5:w.heap.size≤b:=h;have:=hb.1.1;omega;rw[hσ2' hn]at hg;exact hb.1.2 id blk gg hb' hg
 have hsub2:∀b,bD c0 w' σ' hp' b→bD c w' σ2 hp2 b:=by
  intro b hb;refine⟨⟨hb.1.1,fun id blk gg hi hg=>?_⟩,?_⟩;rcases hlk2 hi with ⟨i,b',hm,hb',_⟩|⟨hn,hb'⟩;rw[hσ2 hm]at hg;exact hb.1.2 i b' gg hb' hg;rw[hσ2' hn]at hg;intro e;subst e;have hlt2:b<w.heap.size:=dS (hr.at hb' hg);rcases hb.2 with (h|h)|h;exact h.1.2 id blk b hb' hg rfl;exact hother (fun i hi=>hn i (cD.2 (.inl hi))) hb' hg h;have h5:w.heap.size≤b:=h;omega;rcases hb.2 with (h|h)|h;exact h.2;rcases hM0' h with h|h;exact .inl (c.hM _ h);exact .inr h;have h5:w.heap.size≤b:=h;have:=hr.size;exact .inr aq
 -- the callee's blocks,renamed
 have h3:∀id b',U' id→lk (ro id) hp2=some b'→∃b,lk id hp'=some b∧b'.e=b.e∧b'.ty=b.ty∧b'.es.length=b.es.length∧σ2 (ro id)=σ' id:=by
  intro id b' _ hb;rcases hlk2 hb with ⟨i,b0,hm,hb0,rfl⟩|⟨hn,hb'⟩;have he:lk id opr=some (ro id):=EV rfl (fun e=>by rw[e]at hm;exact hdum hm);have hii:=(gj hoprB (bN he) hm).2 rfl;subst hii;exact⟨b0,hb0,rfl,rfl,jQ _ _,hσ2 hm⟩
  exfalso;cases hl:lk id opr with
  |none =>
   have:ro id=N+31:=(by simp[ro,bX,hl]);rw[this]at hb';exact hN (N+31) aq aq (hr.lt _ _ hb')
  |some y =>
   have he:ro id=y:=zV hl;exact hn id (by rw[he];exact bN hl)
 have hstep:Step w (bD c w σ hp) σ hp U w' (bD c w' σ2 hp2) σ2 hp2 (ec U N):=by
  refine⟨hsub1,fun p hp1=>World.cell?_of_block (w:=w) (hold hp1.1.1 (hnotown hp1)),fun i h=>.inl h,fun id b2 hu hb=>?_⟩;rcases hlk2 hb with ⟨i,b',hm,hb',rfl⟩|⟨hn,hb'⟩;rcases hmem hm with h|⟨j,_,rfl,l⟩;obtain⟨b0,k0,k1,k2,k3,k4⟩:=hist.blk i b' (hlt _ h) hb';obtain⟨id2,bb,q1,q2,rfl⟩:=hin i b0 k0;have:=(gj hprs h (bN q1)).1 rfl;subst this;refine⟨bb,q2,k1,k2,by simpa[Blk.ren,jQ]using k3,fun hle gg hg=>?_⟩;have hg0:σ0 i=some gg:=by rw[hσ0 h];exact hg
  obtain⟨p1,p2⟩:=k4 (by simpa[Blk.ren,jQ]using hle) gg hg0;exact⟨by rw[hσ2 hm];exact p1,p2⟩;exact absurd hu (hN _ aq aq);refine⟨b2,hb',rfl,rfl,cL _,fun _ gg hg=>⟨by rw[hσ2' hn];exact hg,fun n hn2=>?_⟩⟩;obtain⟨cc,h5,h6⟩:=hn2;exact⟨cc,(hold (dS (hr.at hb' hg)) (hother (fun i hi=>hn i (cD.2 (.inl hi))) hb' hg)).trans h5,h6⟩
 refine⟨x,rfl,r.ren ro,hp2,σ2,hK,⟨fun i j bi bj gg hi hj hgi hgj=>?_,fun id b hb=>?_,fun id b hb=>?_,fun id b gg hb hg=>?_,hr'.os.trans hr.os,hr'.tape.trans hr.tape,hr'.output.trans hr.output,Nat.le_trans hr.size hsz,fun b hb hm=>?_⟩,hstep,hx.ren hsub2 (fun _ _=>hro _) h3⟩;rcases hlk2 hi with ⟨i1,b1,m1,l1,_⟩|⟨n1,l1⟩<;>rcases hlk2 hj with ⟨i2,b2,m2,l2,_⟩|⟨n2,l2⟩;rw[hσ2 m1]at hgi;rw[hσ2 m2]at hgj;exact(gj hoprB m1 m2).1 (hr'.inj i1 i2 b1 b2 gg l1 l2 hgi hgj);exfalso;rw[hσ2 m1]at hgi;rw[hσ2' n2]at hgj;rcases hr'.mine i1 b1 gg l1 hgi with h|h;exact hother (fun i hi=>n2 i (cD.2 (.inl hi))) l2 hgj h;have h5:w.heap.size≤gg:=h;have:=dS (hr.at l2 hgj);omega;exfalso;rw[hσ2' n1]at hgi;rw[hσ2 m2]at hgj;rcases hr'.mine i2 b2 gg l2 hgj with h|h;exact hother (fun i hi=>n1 i (cD.2 (.inl hi))) l1 hgi h;have h5:w.heap.size≤gg:=h;have:=dS (hr.at l1 hgi);omega;rw[hσ2' n1]at hgi;rw[hσ2' n2]at hgj;exact hr.inj i j bi bj gg l1 l2 hgi hgj;rcases hlk2 hb with ⟨i1,b1,m1,l1,_⟩|⟨n1,l1⟩;exact hUo m1;exact .inl (hr.lt id b l1);rcases hlk2 hb with ⟨i1,b1,m1,l1,rfl⟩|⟨n1,l1⟩;rw[hσ2 m1];rcases hr'.blk i1 b1 l1 with ⟨k1,k2⟩|⟨gg,k1,k2⟩;exact .inl ⟨k1,(k2.ren _).le hr.size⟩;exact .inr ⟨gg,k1,k2.ren hsub2 (fun _ _=>hro _) h3⟩;rw[hσ2' n1];rcases hr.blk id b l1 with h0|⟨gg,hg,h0⟩;refine .inl ⟨h0.1,h0.2.keep fun g ms ck hm=>hold (uU hm) fun hM=>?_⟩;obtain⟨_,id2,bb,_,q2,q3⟩:=hM0 hM;obtain⟨ccs,q4,_⟩:=hr.at q2 q3;rw[hm]at q4;cases q4;exact .inr ⟨gg,hg,h0.step hstep (hold (dS h0) (hother (fun i hi=>n1 i (cD.2 (.inl hi))) l1 hg))⟩;rcases hlk2 hb with ⟨i1,b1,m1,l1,_⟩|⟨n1,l1⟩;rw[hσ2 m1]at hg;rcases hr'.mine i1 b1 gg l1 hg with h|h;exact hM0' h;have h5:w.heap.size≤gg:=h;have:=hr.size;exact .inr aq;rw[hσ2' n1]at hg;exact hr.mine id b gg l1 hg;have hb2:b<w.heap.size:=Nat.lt_of_lt_of_le hb hr.size;rw[hold hb2 (fun h=>by
  rcases hM0' h with h|h;exact hm h
  omega)]
 exact hr.old b hb hm
end
end Go.Am
namespace Go.Am
structure ZIt where
 g:Option (Tmp×Bool)
 z:Nat
 op:Op
 dst:Option Tmp
inductive Its(ops:Array Oper):List Nat→List ZIt→Prop
 |nil:Its ops [] []
 |plain {z:Nat} {d:Option Tmp} {op:Op} {ty:TypeId} {pos:String} {af:Array Edge} {zs:List Nat} {its:List ZIt} (h:ops[z]?=some ⟨d,op,ty,pos,af,none⟩) (t:Its ops zs its):Its ops (z::zs) (⟨none,z,op,d⟩::its)
 |guard {z:Nat} {d:Option Tmp} {op:Op} {ty:TypeId} {pos:String} {af:Array Edge} {g:Nat} {want:Bool} {gd:Tmp} {zs:List Nat} {its:List ZIt} (h:ops[z]?=some ⟨d,op,ty,pos,af,some (g,want)⟩) (hg:(ops[g]?).bind (·.dst)=some gd) (t:Its ops zs its):Its ops (z::zs) (⟨some (gd,want),z,op,d⟩::its)
section
variable (P:Program) (base:Nat) (hp0:Hp)
def zI(F:Fr→Prop):List ZIt→Fr→Prop
 |[],fr=>F fr
 |⟨none,z,op,d⟩::r,fr=>TA P hp0 fr base op fun v=>zI F r (bf fr d v)
 |⟨some (t,want),z,op,d⟩::r,fr=>match fv t fr with
  | .d (.bool b)=>(b=want→TA P hp0 fr base op fun v=>zI F r (bf fr d v))∧(b=!want→zI F r (bf fr d (.tup [])))
  | .tup []=>zI F r (bf fr d (.tup []))
  |_=>False
def zX (F:Fr→Hp→Prop):List (ZIt × List ZIt)→Nat→Fr→Hp→Prop
 |[],_,fr,hp=>F fr hp
 |(⟨none,z,op,d⟩,zs)::r,m,fr,hp=>bM P fr hp (base+32*z) op fun v a=>(m≠0→cZ hp0 a)∧zI P base hp0 (fun fr=>zX F r (m-1) fr a) zs (bf fr d v)
 | (⟨some (t,want),z,op,d⟩,zs) :: r,m,fr,hp=>match fv t fr with
  | .d (.bool b)=>(b=want→bM P fr hp (base+32*z) op fun v a=>(m ≠ 0→cZ hp0 a)∧zI P base hp0 (fun fr=>zX F r (m - 1) fr a) zs (bf fr d v)) ∧
    (b=!want→zI P base hp0 (fun fr=>zX F r (m-1) fr hp) zs (bf fr d (.tup [])))
  | .tup []=>zI P base hp0 (fun fr=>zX F r (m-1) fr hp) zs (bf fr d (.tup []))
  |_=>False
end
inductive Jts(ops:Array Oper):kn→List (ZIt×List ZIt)→Prop
 |nil:Jts ops [] []
 |plain {z:Nat} {d:Option Tmp} {op:Op} {ty:TypeId} {pos:String} {af:Array Edge} {zs:List Nat} {its:List ZIt} {ss:kn} {jts:List (ZIt×List ZIt)} (h:ops[z]?=some ⟨d,op,ty,pos,af,none⟩) (hz:Its ops zs its) (t:Jts ops ss jts):Jts ops ((z,zs)::ss) ((⟨none,z,op,d⟩,its)::jts)
 |guard {z:Nat} {d:Option Tmp} {op:Op} {ty:TypeId} {pos:String} {af:Array Edge} {g:Nat} {want:Bool} {gd:Tmp} {zs:List Nat} {its:List ZIt} {ss:kn} {jts:List (ZIt×List ZIt)} (h:ops[z]?=some ⟨d,op,ty,pos,af,some (g,want)⟩) (hg:(ops[g]?).bind (·.dst)=some gd) (hz:Its ops zs its) (t:Jts ops ss jts):Jts ops ((z,zs)::ss) ((⟨some (gd,want),z,op,d⟩,its)::jts)
theorem yl{P:Program}{base:Nat}{hp0:Hp}{ops:Array Oper}{C:Fr→Prop}{zs:List Nat}{a:List ZIt}(h:Its ops zs a):∀(fr:Fr),zW P ops base hp0 C zs fr=zI P base hp0 C a fr:=by
 induction h with
 |nil=>intro fr;rfl
 |plain h _ ih =>
  intro fr;simp only[zW,zI,h,ih]
 | @guard z d op ty pos af g want gd zs a h hg _ ih =>
  intro fr;simp only[zW,zI,h,hg,ih];cases fv gd fr with
  |d v=>cases v<;>rfl
  |tup l=>cases l<;>rfl
  |_=>rfl
theorem Vz{P:Program}{base:Nat}{hp0:Hp}{ops:Array Oper}{K:Fr→Hp→Prop}{b:kn}{a:List (ZIt×List ZIt)}(h:Jts ops b a):∀(m:Nat)(fr:Fr)(hp:Hp),Et P ops base hp0 K b m fr hp=zX P base hp0 K a m fr hp:=by
 induction h with
 |nil=>intro m fr hp;rfl
 |plain h hz _ ih =>
  intro m fr hp;simp only[Et,zX,h,ih,yl hz]
 | @guard z d op ty pos af g want gd zs its b a h hg hz _ ih =>
  intro m fr hp;simp only[Et,zX,h,hg,ih,yl hz];cases fv gd fr with
  |d v=>cases v<;>rfl
  |tup l=>cases l<;>rfl
  |_=>rfl
theorem Ln{P:Program}{n:Nat}{ops:Array Oper}{Q:Exit→St→Prop}{st:St}(zs:List Nat)(c:kn)(m:Nat){b:List ZIt}{a:List (ZIt×List ZIt)}{k:Nat}(e:EO n ops zs c m=true)(f:P.follows .mixedOrders=true)(d:ops.size=k)(hz:Its ops zs b)(hj:Jts ops c a)
  (h3:∀F:Fr→Hp→Prop,(∀fr hp,Q .normal ⟨fr,hp,st.nx+32*k⟩→F fr hp)→zI P st.nx st.hp (fun fr=>zX P st.nx st.hp F a m fr st.hp) b st.fr):Yv P n ops Q st:=by
 subst d;refine .inl ⟨zs,c,m,e,f,?_⟩;rw[yl hz];have:=h3 (fun fr hp=>Q .normal ⟨fr,hp,st.nx+32*ops.size⟩) (fun fr hp h=>h);refine cast ?_ this;congr 1;funext fr;exact(Vz hj _ _ _).symm
section
variable (P:Program) (base:Nat) (hp0:Hp) (F:Fr→Prop) (G:Fr→Hp→Prop) (fr:Fr) (hp:Hp) (m:Nat) (r:List ZIt) (q:List (ZIt × List ZIt)) (zs:List ZIt)
def ZiK(a:Option Tmp)(v:AV)(b:Hp):Prop:=zI P base hp0 F r (bf fr a v)
def Lo(b:Option Tmp)(v:AV)(a:Hp):Prop:=(m≠0→cZ hp0 a)∧zI P base hp0 (fun fr=>zX P base hp0 G q (m-1) fr a) zs (bf fr b v)
def VA(b:Op)(a:Option Tmp):Bool→Prop
 |true=>bM P fr hp0 base b (ZiK P base hp0 F fr r a)
 |false=>∃v,lV P fr hp0 b v∧zI P base hp0 F r (bf fr a v)
theorem Lp(b:Op)(a:Option Tmp):(TA P hp0 fr base b fun v=>zI P base hp0 F r (bf fr a v))=VA P base hp0 F fr r b a (bc P b):=by
 unfold TA VA;cases bc P b;simp;simp only[if_true];rfl
def Lq(e:Op)(c:Option Tmp)(a:Bool):AV→Prop
 | .d (.bool b)=>(b=a→VA P base hp0 F fr r e c (bc P e))∧(b=!a→zI P base hp0 F r (bf fr c (.tup [])))
 | .tup []=>zI P base hp0 F r (bf fr c (.tup []))
 |_=>False
def OU(e:Op)(c:Option Tmp)(N:Nat)(a:Bool):AV→Prop
 | .d (.bool b)=>(b=a→bM P fr hp N e (Lo P base hp0 G fr m q zs c))∧(b=!a→zI P base hp0 (fun fr=>zX P base hp0 G q (m-1) fr hp) zs (bf fr c (.tup [])))
 | .tup []=>zI P base hp0 (fun fr=>zX P base hp0 G q (m-1) fr hp) zs (bf fr c (.tup []))
 |_=>False
theorem Y6:zI P base hp0 F [] fr=F fr:=rfl
theorem Y7(z:Nat)(a:Op)(d:Option Tmp):zI P base hp0 F (⟨none,z,a,d⟩::r) fr=VA P base hp0 F fr r a d (bc P a):=by
 simp only[zI];exact Lp ..
theorem Y8(t:Tmp)(a:Bool)(z:Nat)(b:Op)(d:Option Tmp):zI P base hp0 F (⟨some (t,a),z,b,d⟩::r) fr=Lq P base hp0 F fr r b d a (fv t fr):=by
 simp only[zI,Lq,Lp]
theorem VB(b:Op)(a:Option Tmp):VA P base hp0 F fr r b a true=bM P fr hp0 base b (ZiK P base hp0 F fr r a):=rfl
theorem Y9(a:Option Tmp)(v:AV)(b:Hp):ZiK P base hp0 F fr r a v b=zI P base hp0 F r (bf fr a v):=rfl
theorem Qg(c:Op)(a:Option Tmp)(b:Bool):Lq P base hp0 F fr r c a b (.tup [])=zI P base hp0 F r (bf fr a (.tup [])):=rfl
theorem Qh(b:Op)(a:Option Tmp):Lq P base hp0 F fr r b a true (.d (.bool true))=VA P base hp0 F fr r b a (bc P b):=by simp[Lq]
theorem Qi(b:Op)(a:Option Tmp):Lq P base hp0 F fr r b a false (.d (.bool false))=VA P base hp0 F fr r b a (bc P b):=by simp[Lq]
theorem Lr(b:Op)(a:Option Tmp):Lq P base hp0 F fr r b a false (.d (.bool true))=zI P base hp0 F r (bf fr a (.tup [])):=by simp[Lq]
theorem Ls(b:Op)(a:Option Tmp):Lq P base hp0 F fr r b a true (.d (.bool false))=zI P base hp0 F r (bf fr a (.tup [])):=by simp[Lq]
theorem VC:zX P base hp0 G [] m fr hp=G fr hp:=rfl
theorem VD(z:Nat)(a:Op)(d:Option Tmp):zX P base hp0 G ((⟨none,z,a,d⟩,zs)::q) m fr hp=bM P fr hp (base+32*z) a (Lo P base hp0 G fr m q zs d):=rfl
theorem VE(t:Tmp)(a:Bool)(z:Nat)(b:Op)(d:Option Tmp):zX P base hp0 G ((⟨some (t,a),z,b,d⟩,zs)::q) m fr hp=OU P base hp0 G fr hp m q zs b d (base+32*z) a (fv t fr):=rfl
theorem VF(b:Option Tmp)(v:AV)(a:Hp):Lo P base hp0 G fr m q zs b v a=((m≠0→cZ hp0 a)∧zI P base hp0 (fun fr=>zX P base hp0 G q (m-1) fr a) zs (bf fr b v)):=rfl
theorem Qj(c:Op)(b:Option Tmp)(N:Nat)(a:Bool):OU P base hp0 G fr hp m q zs c b N a (.tup [])=zI P base hp0 (fun fr=>zX P base hp0 G q (m-1) fr hp) zs (bf fr b (.tup [])):=rfl
theorem Qk(b:Op)(a:Option Tmp)(N:Nat):OU P base hp0 G fr hp m q zs b a N true (.d (.bool true))=bM P fr hp N b (Lo P base hp0 G fr m q zs a):=by simp[OU]
theorem Ql(b:Op)(a:Option Tmp)(N:Nat):OU P base hp0 G fr hp m q zs b a N false (.d (.bool false))=bM P fr hp N b (Lo P base hp0 G fr m q zs a):=by simp[OU]
theorem Lt(b:Op)(a:Option Tmp)(N:Nat):OU P base hp0 G fr hp m q zs b a N false (.d (.bool true))=zI P base hp0 (fun fr=>zX P base hp0 G q (m-1) fr hp) zs (bf fr a (.tup [])):=by simp[OU]
theorem Lu(b:Op)(a:Option Tmp)(N:Nat):OU P base hp0 G fr hp m q zs b a N true (.d (.bool false))=zI P base hp0 (fun fr=>zX P base hp0 G q (m-1) fr hp) zs (bf fr a (.tup [])):=by simp[OU]
end
inductive TI where
 |done
 |alt (a b:TI)
 |step (it:ZIt) (zs:List ZIt) (keep:Bool) (t:TI)
section
variable (P:Program) (base:Nat) (hp0:Hp) (F:Fr→Hp→Prop)
def tI:TI→Fr→Hp→Prop
 | .done,fr,hp=>F fr hp
 | .alt a b,fr,hp=>tI a fr hp∧tI b fr hp
 | .step ⟨none,z,op,d⟩ zs keep t,fr,hp=>bM P fr hp (base+32*z) op fun v c=>(keep=true→cZ hp0 c)∧zI P base hp0 (fun fr=>tI t fr c) zs (bf fr d v)
 | .step ⟨some (g,want),z,op,d⟩ zs keep t,fr,hp=>match fv g fr with
  | .d (.bool b)=>(b=want→bM P fr hp (base+32*z) op fun v c=>(keep=true→cZ hp0 c)∧zI P base hp0 (fun fr=>tI t fr c) zs (bf fr d v)) ∧
    (b=!want→zI P base hp0 (fun fr=>tI t fr hp) zs (bf fr d (.tup [])))
  | .tup []=>zI P base hp0 (fun fr=>tI t fr hp) zs (bf fr d (.tup []))
  |_=>False
end
inductive Tts(ops:Array Oper):Tr→TI→Prop
 |done:Tts ops .done .done
 |alt {a b:Tr} {x y:TI} (h:Tts ops a x) (h':Tts ops b y):Tts ops (.alt a b) (.alt x y)
 |plain {z:Nat} {d:Option Tmp} {op:Op} {ty:TypeId} {pos:String} {af:Array Edge} {zs:List Nat} {its:List ZIt} {t:Tr} {x:TI} {keep:Bool} (h:ops[z]?=some ⟨d,op,ty,pos,af,none⟩) (hz:Its ops zs its) (ht:Tts ops t x):Tts ops (.step z zs keep t) (.step ⟨none,z,op,d⟩ its keep x)
 |guard {z:Nat} {d:Option Tmp} {op:Op} {ty:TypeId} {pos:String} {af:Array Edge} {g:Nat} {want:Bool} {gd:Tmp} {zs:List Nat} {its:List ZIt} {t:Tr} {x:TI} {keep:Bool} (h:ops[z]?=some ⟨d,op,ty,pos,af,some (g,want)⟩) (hg:(ops[g]?).bind (·.dst)=some gd) (hz:Its ops zs its) (ht:Tts ops t x):Tts ops (.step z zs keep t) (.step ⟨some (gd,want),z,op,d⟩ its keep x)
theorem Za{P:Program}{base:Nat}{hp0:Hp}{ops:Array Oper}{K:Fr→Hp→Prop}{t:Tr}{x:TI}(h:Tts ops t x):∀(fr:Fr)(hp:Hp),xO P ops base hp0 K t fr hp=tI P base hp0 K x fr hp:=by
 induction h with
 |done=>intro fr hp;rfl
 |alt _ _ ih1 ih2=>intro fr hp;simp only[xO,tI,ih1,ih2]
 |plain h hz _ ih =>
  intro fr hp;simp only[xO,tI,h,ih,yl hz]
 | @guard z d op ty pos af g want gd zs its t x keep h hg hz _ ih =>
  intro fr hp;simp only[xO,tI,h,hg,ih,yl hz];cases fv gd fr with
  |d v=>cases v<;>rfl
  |tup l=>cases l<;>rfl
  |_=>rfl
theorem Zb{P:Program}{n:Nat}{ops:Array Oper}{Q:Exit→St→Prop}{st:St}(zs is b:List Nat)(t:Tr)(st':St){a:List ZIt}{x:TI}{k:Nat}(d:vi n ops zs is b t=true)(e:P.follows .mixedOrders=true)(c:ops.size=k)(hz:Its ops zs a)(hj:Tts ops t x)
  (h3:∀F:Fr→Hp→Prop,(∀fr hp,Wk ⟨fr,hp,st.nx+32*k⟩ st'→F fr hp)→zI P st.nx st.hp (fun fr=>tI P st.nx st.hp F x fr st.hp) a st.fr) (hq:Q .normal st'):Yv P n ops Q st:=by
 subst c;refine .inr ⟨zs,is,b,t,st',d,e,?_,hq⟩;rw[yl hz];have:=h3 (fun fr hp=>Wk ⟨fr,hp,st.nx+32*ops.size⟩ st') (fun fr hp h=>h);refine cast ?_ this;congr 1;funext fr;exact(Za hj _ _).symm
section
variable (P:Program) (base:Nat) (hp0:Hp) (F:Fr→Hp→Prop) (fr:Fr) (hp:Hp)
def TiK(zs:List ZIt)(b:Bool)(x:TI)(c:Option Tmp)(v:AV)(a:Hp):Prop:=(b=true→cZ hp0 a)∧zI P base hp0 (fun fr=>tI P base hp0 F x fr a) zs (bf fr c v)
def tiG(zs:List ZIt)(e:Bool)(x:TI)(f:Op)(c:Option Tmp)(N:Nat)(a:Bool):AV→Prop
 | .d (.bool b)=>(b=a→bM P fr hp N f (TiK P base hp0 F fr zs e x c))∧(b=!a→zI P base hp0 (fun fr=>tI P base hp0 F x fr hp) zs (bf fr c (.tup [])))
 | .tup []=>zI P base hp0 (fun fr=>tI P base hp0 F x fr hp) zs (bf fr c (.tup []))
 |_=>False
theorem Zc:tI P base hp0 F .done fr hp=F fr hp:=rfl
theorem Zd(a b:TI):tI P base hp0 F (.alt a b) fr hp=(tI P base hp0 F a fr hp∧tI P base hp0 F b fr hp):=rfl
theorem Ze(z:Nat)(b:Op)(d:Option Tmp)(zs:List ZIt)(a:Bool)(x:TI):tI P base hp0 F (.step ⟨none,z,b,d⟩ zs a x) fr hp=bM P fr hp (base+32*z) b (TiK P base hp0 F fr zs a x d):=rfl
theorem Zf(t:Tmp)(a:Bool)(z:Nat)(c:Op)(d:Option Tmp)(zs:List ZIt)(b:Bool)(x:TI):tI P base hp0 F (.step ⟨some (t,a),z,c,d⟩ zs b x) fr hp=tiG P base hp0 F fr hp zs b x c d (base+32*z) a (fv t fr):=rfl
theorem Zg(zs:List ZIt)(a:Bool)(x:TI)(c:Option Tmp)(v:AV)(b:Hp):TiK P base hp0 F fr zs a x c v b=((a=true→cZ hp0 b)∧zI P base hp0 (fun fr=>tI P base hp0 F x fr b) zs (bf fr c v)):=rfl
theorem Qm(zs:List ZIt)(c:Bool)(x:TI)(d:Op)(b:Option Tmp)(N:Nat)(a:Bool):tiG P base hp0 F fr hp zs c x d b N a (.tup [])=zI P base hp0 (fun fr=>tI P base hp0 F x fr hp) zs (bf fr b (.tup [])):=rfl
end
attribute [go_sem] Zc Zd Ze Zf Zg Qm
attribute [go_sem] Y6 Y7 Y8 VB Y9 Qg Qh Qi Lr Ls VC VD VE VF Qj Qk Ql Lt Lu
theorem aZ(a:List (Nat×Nat)){P:Program}{g:FuncId}{k:Nat}{hp0:Hp}{args c:List AV}{hp:Hp}{N:Nat}{K:AV→Hp→Prop}{Q:AV→Hp→Prop}(h:c7 P g k hp0 c Q)
  (f:ii a=true) (l:∀p,p∈a→p.1<k) (j:∀p,p∈a→∃b,lk p.2 hp=some b∧b.e≠0)
  (n:∀p,p∈hp0→∃id b,lk p.1 a=some id∧lk id hp=some b∧p.2=b.ren (bX (iy a) k))
  (d:c=AV.renL (bX (iy a) k) args)
  (o:∀r hp',Q r hp'→∃news,dp a news=true∧K (r.ren (bX (bF a news N) (N+31))) (bZ a news N hp' hp)):uh P g args hp N K :=
 .inl (pX a h f l j (fun i x v=>by
  obtain⟨id,b,t,u,s⟩:=n _ (bN v)
  exact⟨id,b,t,u,s⟩) d o)
theorem B5{T:Type}{g:T→St}{b:T→Prop}{mu:T→Nat}{t:T}{Q:Exit→St→Prop}{st:St}(d:T)(k:b d)(j:mu d<mu t)(a:List (Nat×Nat))(N:Nat)(c:ii a=true)(e:∀p,p∈a→p.1=p.2∨64≤p.2)(i:∀p,p∈a→p.2<N)(f:64≤N)
  (h:av ⟨EW (bX a N) st.fr,BZ a N st.hp,N+1⟩ (g d)):pL g b mu t Q .normal st:=Ll d k j ((Vy a N c e i f).trans (aV h))
theorem IM{P:Program}{g:FuncId}{args:List AV}{Q:AV→Hp→Prop}{t:AV→Prop}(h:c7 P g 0 [] args Q)(L:∀v,v∈args→v.deep)(hq:∀r c,Q r c→∃k,Snap c (fun _=>True) r k∧k.deep∧t k):ap P g args t:=by
 obtain⟨C,n,I⟩:=h;refine⟨C,fun w S J y B K=>?_⟩;have A:Hand w S (fun _=>none) [] 0:=⟨fun b f=>⟨y b f,fun id a g h=>(by cases h)⟩,fun i j T O g h=>(by cases h),fun i b h=>(by cases h),fun i b h=>(by cases h)⟩;refine(I w S (fun _=>none) J A B (fun i v x s l=>mI (L v (cr s)) (fun b f=>f) (K i v x s l))).mono fun e M D=>?_;obtain⟨x,r,c,R,σ',rfl,z,d,N,l⟩:=D;obtain⟨k,E,o,p⟩:=hq r c z;refine⟨x,k,rfl,p,o,⟨d.os,d.tape,d.output,d.size,fun b f=>d.old b f (fun⟨id,a,hc,_⟩=>by cases hc)⟩,mJ (fun b f=>?_) (fun id a g _ n u=>?_) d E l⟩
 rcases f.2 with h|h;rcases h with h|⟨id,a,hc,_⟩;exact .inl h;cases hc;exact .inr ⟨h,f.1.1⟩;rcases d.mine id a g n u with h|h;obtain⟨id,a,hc,_⟩:=h;cases hc;exact .inr ⟨h,dS (d.at n u)⟩
theorem tN(f:List Nat){P:Program}{g:FuncId}{args args':List AV}{hp:Hp}{N:Nat}{K:AV→Hp→Prop}(h:fP P g args' (aN f hp) N K)(u:args.length=args'.length)
  (O:∀(i:Nat)(v j:AV),args[i]?=some v→args'[i]?=some j→j=v∨Snap hp (fun id=>id∈f) v j):fP P g args hp N K:=by
 refine⟨h.1,fun c U σ w R l S J E=>?_⟩;obtain⟨L,z⟩:=rf f l;refine(h.2 c U σ w R L S (J.trans u) (fun i j x D C=>?_)).mono fun e X M=>?_;have d:i<args.length:=by have:=(ci.1 D).1;omega
 rcases O i _ j (cm d) D with e|o;rw[e];exact(E i _ x (cm d) C).step z;refine mJ (fun b Q=>z.sub b Q) (fun id k g y s B=>⟨⟨dS (l.at s B),fun A n V a p e=>?_⟩,?_⟩) l o (E i _ x (cm d) C);subst e;rw[jO]at a;split at a;cases a;rename_i T;have:=l.inj id A k n g s a B p;subst this;exact T (by simpa using y);rcases l.mine id k g s B with h|h;exact .inl (c.hM g h);exact .inr h;obtain⟨x,rfl,v,t,σ',I,k2,k3,k4⟩:=M;exact⟨x,rfl,v,t,σ',I,k2,z.trans k3,k4⟩
theorem jy(a:List Nat){P:Program}{g:FuncId}{args args':List AV}{hp:Hp}{N:Nat}{K:AV→Hp→Prop}{Q:AV→Hp→Prop}(h:c7 P g 0 [] args' Q)(c:args.length=args'.length)
  (f:∀(i:Nat)(v b:AV),args[i]?=some v→args'[i]?=some b→Snap hp (fun id=>id∈a) v b) (l:∀ ρ,args'=AV.renL ρ args')
  (d:∀r hp',Q r hp'→∃news,dp [] news=true∧K (r.ren (bX (bF [] news N) (N+31))) (bZ [] news N hp' (aN a hp))):uh P g args hp N K :=
 .inl (tN a (pX [] h rfl aw aw (by intro i n k;cases k) (l _) d) c fun i v b e j=>.inr (f i v b e j))
end Go.Am
namespace Go.Am
def B6(R:TypeId→List DV→Prop)(size:TypeId→Nat):List TypeId→List DV→Prop
 |[],ds=>ds=[]
 |t::r,ds=>∃a b,ds=a++b∧a.length=size t∧R t a∧B6 R size r b
def jh(P:Program):Nat→TypeId→List DV→Prop
 |0,_,_=>False
 |n+1,t,ds =>
  match P.underlying t with
  |some .bool=>∃b,ds=[.bool b]
  |some (.int k)=>∃x,ds=[.int k x]∧k.has x
  |some .string=>∃a:List Int,ds=[.str a]∧a.length≤maxLen∧∀b,b∈a→0≤b∧b<256
  |some (.slice e)=>∃es,ds=[.ro (P.cellsOf e) es]∧es.length≤maxLen∧∀r,r∈es→jh P n e r∧r.length=P.cellsOf e
  |some (.pointer e)=>ds=[.nilp]∨∃cs,ds=[.box cs]∧jh P n e cs∧cs.length=P.cellsOf e
  |some (.struct fs)=>B6 (jh P n) P.cellsOf (fs.toList.map (·.type)) ds
  |some (.array m e)=>B6 (jh P n) P.cellsOf (List.replicate m e) ds
  |_=>False
def Lx(P:Program):Nat→List Field→Option Nat
 |off,[]=>some off
 |off,f::r=>if f.offset=off then Lx P (off+P.cellsOf f.type) r else none
def ui(P:Program):Nat→TypeId→Bool
 |0,_=>false
 |n+1,t =>
  match P.underlying t with
  |some .bool=>true
  |some (.int _)=>true
  |some .string=>true
  |some (.slice e)=>decide (0<P.cellsOf e)&&ui P n e
  |some (.pointer e)=>decide (0<P.cellsOf e)&&ui P n e
  |some (.struct fs)=>decide (Lx P 0 fs.toList=some (P.cellsOf t))&&fs.toList.all fun f=>ui P n f.type
  |some (.array m e)=>decide (m*P.cellsOf e=P.cellsOf t)&&ui P n e
  |_=>false
section
variable {H:Type} {enc:TypeId × Value→H} {P:Program} {w:World} {spare:Nat→Bool}
def zY(w:World)(a:List DV)(cs:List Value):Prop:=a.length=cs.length∧∀(j:Nat)(d:DV)(v:Value),a[j]?=some d→cs[j]?=some v→DIs w (fun b=>b<w.heap.size) d v
theorem oM{α β:Type}{f:α→Option β}:∀{l:List α}{r:List β},l.mapM f=some r→∀x,x∈l→∃y,f x=some y
 |[],_,_,x,c=>by simp at c
 | a :: l,r,h,x,c=>by
  rw[List.mapM_cons]at h;cases d:f a with
  |none=>simp[d]at h
  | some b =>
   cases e:l.mapM f with
   |none=>simp[d,e]at h
   |some bs =>
    rcases d_.1 c with rfl|c;exact⟨b,d⟩;exact oM e x c
theorem Ly{a b:List DV}{cs:List Value}{k:Nat}(i:zY w a (cs.take k))(n:k≤cs.length)(f:zY w b (cs.drop k)):zY w (a++b) cs:=by
 have l:a.length=k:=by rw[i.1];simp;omega
 have e:=f.1;rw[et]at e;refine⟨by rw[b_];omega,fun j d v c g=>?_⟩;rw[List.getElem?_append]at c;split at c;rename_i h;exact i.2 j d v c (by rw[List.getElem?_take,if_pos aq];exact g);rename_i h;refine f.2 (j-a.length) d v c ?_;rw[List.getElem?_drop,show k+(j-a.length)=j by omega];exact g
theorem nM{R:TypeId→List DV→Prop}{size:TypeId→Nat}:∀(j:List TypeId)(cs:List Value),(j.map size).sum=cs.length →
   (∀(pre:List TypeId)(t:TypeId)(c:List TypeId),j=pre++t::c→∃f,R t f∧zY w f ((cs.drop (pre.map size).sum).take (size t)))→∃f,B6 R size j f∧zY w f cs
 |[],cs,hl,_=>by
  simp at hl;have:cs=[]:=List.eq_nil_of_length_eq_zero hl.symm;subst this;exact⟨[],rfl,rfl,aw⟩
 | t :: r,cs,hl,h=>by
  simp only[List.map_cons,List.sum_cons]at hl;obtain⟨a,g,d⟩:=h [] t r rfl;simp only[List.map_nil,List.sum_nil,List.drop_zero]at d;obtain⟨b,i,k⟩:=nM (R:=R) (size:=size) r (cs.drop (size t)) (by rw[et];omega) fun pre u c e=>by
   obtain⟨f,l,n⟩:=h (t::pre) u c (by rw[e];rfl);refine⟨f,l,?_⟩;rw[List.drop_drop];simpa using n
  refine⟨a++b,⟨a,b,rfl,?_,g,i⟩,Ly d aq k⟩;rw[d.1];simp;omega
theorem G0:∀(c:List Field)(off b:Nat),Lx P off c=some b→off+((c.map (·.type)).map P.cellsOf).sum=b∧∀(pre:List Field)(f:Field)(a:List Field),c=pre++f::a→f.offset=off+((pre.map (·.type)).map P.cellsOf).sum
 |[],off,b,h=>by
  simp only[Lx]at h;injection h with h;exact⟨by simpa using h,fun pre f a e=>by simp at e⟩
 | g :: r,off,b,h=>by
  simp only[Lx]at h;split at h;rename_i d;obtain⟨j,i⟩:=G0 r _ b h;refine⟨by simp only[List.map_cons,List.sum_cons];omega,fun pre f a e=>?_⟩;cases pre with
  |nil=>simp at e;rw[←e.1,d];simp
  |cons p pre =>
   simp at e;have:=i pre f a e.2;rw[this,←e.1];simp only[List.map_cons,List.sum_cons];omega
  ·cases h
theorem zZ(f:TypeId→Nat)(e:TypeId):∀m:Nat,((List.replicate m e).map f).sum=m*f e
 |0=>by simp
 |m+1=>by simp only[List.replicate_succ,List.map_cons,List.sum_cons,zZ f e m,Nat.add_mul,Nat.one_mul];omega
theorem IN{k:IntKind}{x:Int}(h:(Lit.int k x).wf=true):k.has x:=by
 simp only[Lit.wf,Bool.and_eq_true,decide_eq_true_eq]at h;exact h
theorem ym:∀ (fuel n:Nat) (t:TypeId) (cs:List Value) (x:DataW H × List MemPlace),ui P n t=true→DataW.trod enc P w 0 spare true fuel t cs=some x→∃ B,jh P n t B∧zY w B cs
 |0,_,_,_,_,_,h=>by simp[DataW.trod]at h
 |_+1,0,_,_,_,o,_=>by simp[ui]at o
 | fuel+1,n+1,t,cs,x,o,h=>by
  have ih:=fun e cs x o h=>ym fuel n e cs x o h;have one:∀d v,DIs w (fun b=>b<w.heap.size) d v→zY w [d] [v]:=by
   intro d v hd;refine⟨rfl,fun j d' v' l I=>?_⟩;cases j with
   |zero=>simp at l I;subst l;subst I;exact hd
   |succ j=>simp at l
  simp only[ui]at o;cases g:P.underlying t with
  |none=>simp[g]at o
  | some td =>
   rw[g]at o;cases td with
   | bool =>
    rcases cs with _|⟨v,_|⟨u,r⟩⟩;simp[DataW.trod,g]at h;cases v<;>simp[DataW.trod,g]at h;exact⟨[.bool _],by simp[jh,g],one _ _ (.bool _)⟩;simp[DataW.trod,g]at h
   | int k =>
    rcases cs with _|⟨v,_|⟨u,r⟩⟩;simp[DataW.trod,g]at h;cases v<;>simp[DataW.trod,g]at h;rename_i k' x';obtain⟨⟨rfl,hw⟩,_⟩:=h;exact⟨[.int _ x'],by simp[jh,g];exact IN hw,one _ _ (.int _ _)⟩;simp[DataW.trod,g]at h
   | string =>
    rcases cs with _|⟨v,_|⟨u,r⟩⟩;simp[DataW.trod,g]at h;cases v<;>simp[DataW.trod,g]at h;rename_i s;refine⟨[.str (s.data.toList.map fun c=>(c.toNat:Int))],?_,one _ _ (.str _)⟩;simp only[jh,g];refine⟨_,rfl,by simpa using h.1,fun b hb=>?_⟩;rw[List.mem_map]at hb;obtain⟨c,_,rfl⟩:=hb;have:=c.toNat_lt;omega;simp[DataW.trod,g]at h
   | slice e =>
    rw[Bool.and_eq_true,decide_eq_true_eq]at o;rcases cs with _|⟨v,_|⟨u,r⟩⟩;simp[DataW.trod,g]at h
    ·cases v with
     | slice A len cap =>
      cases A with
      | none =>
       have:len=0∧cap=0:=by
        rcases len with _|len<;>rcases cap with _|cap<;>simp[DataW.trod,g]at h⊢
       obtain⟨rfl,rfl⟩:=this;refine⟨[.ro (P.cellsOf e) []],by simp[jh,g],one _ _ ?_⟩;exact .ro _ [] none 0 (fun _ _=>default) aw aw aw aw aw
      | some ad =>
       simp only[DataW.trod,g]at h;split at h
       ·rename_i hc;obtain⟨_,ah,ai⟩:=hc;cases he:(List.range len).mapM fun i=>(w.cells? 0 (ad.add (i*P.cellsOf e)) (P.cellsOf e)).bind (DataW.trod enc P w 0 spare true fuel e)with
        |none=>simp[he]at h
        | some elems =>
         have O:∀i,i<len→∃a B,w.cells? 0 (ad.add (i*P.cellsOf e)) (P.cellsOf e)=some a∧jh P n e B∧zY w B a:=by
          intro i p;obtain⟨y,E⟩:=oM he i (by simp[p]);cases C:w.cells? 0 (ad.add (i*P.cellsOf e)) (P.cellsOf e)with
          |none=>simp[C]at E
          |some a =>
           simp only[C,Option.bind_some]at E;obtain⟨B,l,I⟩:=ih e a y o.2 E;exact⟨a,B,rfl,l,I⟩
         let es:List (List DV):=(List.range len).map fun i=>if p:i<len then(O i p).choose_spec.choose else[]
         have M:∀i r,es[i]?=some r→∃a,i<len∧w.cells? 0 (ad.add (i*P.cellsOf e)) (P.cellsOf e)=some a∧jh P n e r∧zY w r a:=by
          intro i r L;have p:i<len:=by
           have:=(ci.1 L).1;simpa[es]using this
          simp only[es,cU,List.getElem?_range p,Option.map_some,Option.some.injEq,dif_pos p]at L;subst L;exact⟨(O i p).choose,p,(O i p).choose_spec.choose_spec⟩
         have ab:es.length=len:=(by simp[es]);have Z:∀r,r∈es→jh P n e r∧r.length=P.cellsOf e:=by
          intro r L;obtain⟨i,p⟩:=List.getElem?_of_mem L;obtain⟨a,_,l,I,V⟩:=M i r p;exact⟨I,by rw[V.1,(World.cells?_some l).2.1]⟩
         refine⟨[.ro (P.cellsOf e) es],?_,one _ _ ?_⟩;simp only[jh,g];exact⟨es,rfl,aq,Z⟩;have:=DIs.ro (w:=w) (S:=fun b=>b<w.heap.size) (P.cellsOf e) es (some ad) cap (fun i j=>(w.cell? (ad.add (i*P.cellsOf e+j))).getD undef) aq (fun r L=>(Z r L).2)
          (fun r L=>⟨ad,rfl,by
           obtain⟨i,p⟩:=List.getElem?_of_mem L;obtain⟨a,_,l,_,_⟩:=M i r p;have:=World.cells?_block l o.1
           rwa [eK]at this⟩)
          (fun a' ha i j r y p J=>by
           injection ha with ha;subst ha;obtain⟨a,_,l,_,V⟩:=M i r p;have D:j<P.cellsOf e:=by
            have:=(ci.1 J).1;rw[V.1,(World.cells?_some l).2.1]at this;exact this
           have Y:=(World.cells?_some l).2.2 j D;rw[ll]at Y;have:a[j]?=some (a[j]'(by rw[(World.cells?_some l).2.1];exact D)):=cm _;rw[Y,this]
           rfl)
          (fun i j r y p J=>by
           obtain⟨a,_,l,_,V⟩:=M i r p;have D:j<P.cellsOf e:=by
            have:=(ci.1 J).1;rw[V.1,(World.cells?_some l).2.1]at this;exact this
           have Y:=(World.cells?_some l).2.2 j D;rw[ll]at Y;have Q:a[j]?=some (a[j]'(by rw[(World.cells?_some l).2.1];exact D)):=cm _;rw[Y,Q]
           exact V.2 j y _ J Q)
         rw[ab]at this;exact this
       ·cases h
     |_=>simp[DataW.trod,g]at h
    ·simp[DataW.trod,g]at h
   | pointer e =>
    rw[Bool.and_eq_true,decide_eq_true_eq]at o;rcases cs with _|⟨v,_|⟨u,r⟩⟩;simp[DataW.trod,g]at h;cases v with
    | pointer A =>
     cases A with
     |none=>exact⟨[.nilp],by simp[jh,g],one _ _ .nilp⟩
     | some ad =>
      simp only[DataW.trod,g]at h;cases C:w.cells? 0 ad (P.cellsOf e)with
      |none=>simp[C]at h
      | some a =>
       simp only[C,Option.bind_some]at h;cases E:DataW.trod enc P w 0 spare true fuel e a with
       |none=>simp[E]at h
       | some y =>
        obtain⟨B,l,I⟩:=ih e a y o.2 E;have hc:=World.cells?_some C;refine⟨[.box B],?_,one _ _ (.box B ad (fun j=>(w.cell? (ad.add j)).getD undef) (World.cells?_block C o.1) (fun j z hz=>?_) (fun j z hz=>?_))⟩;simp only[jh,g];exact .inr ⟨B,rfl,l,by rw[I.1,hc.2.1]⟩;have J:j<P.cellsOf e:=by
         have:=(ci.1 hz).1;rw[I.1,hc.2.1]at this;exact this
        have Q:a[j]?=some (a[j]'(by rw[hc.2.1];exact J)):=cm _;rw[hc.2.2 j J,Q];rfl;have J:j<P.cellsOf e:=by
         have:=(ci.1 hz).1;rw[I.1,hc.2.1]at this;exact this
        have Q:a[j]?=some (a[j]'(by rw[hc.2.1];exact J)):=cm _;rw[hc.2.2 j J,Q];exact I.2 j z _ hz Q
    |_=>simp[DataW.trod,g]at h
    ·simp[DataW.trod,g]at h
   | struct fs =>
    rw[Bool.and_eq_true,decide_eq_true_eq]at o;obtain⟨X,T⟩:=o;obtain⟨l1,l2⟩:=G0 fs.toList 0 _ X;have hh:cs.length=P.cellsOf t∧∃K,(fs.toList.mapM fun f=>DataW.trod enc P w 0 spare true fuel f.type ((cs.drop f.offset).take (P.cellsOf f.type)))=some K:=by
     simp only[DataW.trod,g]at h;split at h;rename_i hc;cases hm:(fs.toList.mapM fun f=>DataW.trod enc P w 0 spare true fuel f.type ((cs.drop f.offset).take (P.cellsOf f.type)))with
     |none=>simp[hm]at h
     |some K=>exact⟨hc,K,rfl⟩
     ·cases h
    obtain⟨hc,K,U⟩:=hh;obtain⟨B,d1,d2⟩:=nM (w:=w) (R:=jh P n) (size:=P.cellsOf) (fs.toList.map (·.type)) cs aq (fun pre u aa e=>by
     rw[List.map_eq_append_iff]at e;obtain⟨fp,fr,e1,e2,e3⟩:=e;rw[List.map_eq_cons_iff]at e3;obtain⟨f,af,e4,e5,e6⟩:=e3;subst e2 e5;have N:f∈fs.toList:=by rw[e1,e4];simp
     obtain⟨y,E⟩:=oM U f N;have ho:=l2 fp f af (by rw[e1,e4]);rw[Nat.zero_add]at ho;rw[ho]at E
     exact ih _ _ y (d7.1 T f N) E)
    exact⟨B,by simp only[jh,g];exact d1,d2⟩
   | array m e =>
    rw[Bool.and_eq_true,decide_eq_true_eq]at o;obtain⟨X,T⟩:=o;have hh:cs.length=P.cellsOf t∧∃K,((List.range m).mapM fun i=>DataW.trod enc P w 0 spare true fuel e ((cs.drop (i*P.cellsOf e)).take (P.cellsOf e)))=some K:=by
     simp only[DataW.trod,g]at h;split at h;rename_i hc;cases hm:((List.range m).mapM fun i=>DataW.trod enc P w 0 spare true fuel e ((cs.drop (i*P.cellsOf e)).take (P.cellsOf e)))with
     |none=>simp[hm]at h
     |some K=>exact⟨hc,K,rfl⟩
     ·cases h
    obtain⟨hc,K,U⟩:=hh;obtain⟨B,d1,d2⟩:=nM (w:=w) (R:=jh P n) (size:=P.cellsOf) (List.replicate m e) cs (by rw[zZ];omega) (fun pre u aa h'=>by
     have ac:pre.length<m:=by
      have:=congrArg List.length h';simp at this;omega
     have ae:pre=List.replicate pre.length e:=List.eq_replicate_iff.2 ⟨rfl,fun x hx=>List.eq_of_mem_replicate (n:=m) (by rw[h'];simp[hx])⟩;have ag:u=e:=by
      have:u∈List.replicate m e:=by rw[h'];simp
      exact List.eq_of_mem_replicate this
     subst ag;obtain⟨y,E⟩:=oM U pre.length (by simp[ac]);have hs:(pre.map P.cellsOf).sum=pre.length*P.cellsOf u:=by
      rw[ae,zZ,List.length_replicate]
     rw[hs]
     exact ih _ _ y T E)
    exact⟨B,by simp only[jh,g];exact d1,d2⟩
   |_=>simp at o
end
end Go.Am
namespace Go.Am
open Go.ChangeShapes Go.RowKit
def rm(P:Program)(n:Nat)(t:TypeId)(a:AV):Prop :=
 match P.underlying t with
 |some (.struct _)=>∃ds,a=.agg (ds.map .d)∧jh P n t ds
 |some (.array _ _)=>∃ds,a=.agg (ds.map .d)∧jh P n t ds
 |_=>∃d,a=.d d∧jh P n t [d]
def Aa(P:Program)(n:Nat):List TypeId→List AV→Prop
 |[],as=>as=[]
 |t::ts,as=>∃a r,as=a::r∧rm P n t a∧Aa P n ts r
section
variable {H:Type} {enc:TypeId × Value→H} {P:Program} {W:World}
theorem VG{n:Nat}{t:TypeId}{v:Value}{d:DataW H}{A:List MemPlace}{base:Nat}(o:ui P n t=true)(f:Value.okWide P W .any base t v)(h:DataW.Trod enc P W 0 (fun _=>true) true t v d A) :
  ∃a,rm P n t a∧AIs W (fun b=>b<W.heap.size) (fun _=>none) [] (fun _=>False) a v:=by
 obtain⟨s,h⟩:=h;obtain⟨j,y,g⟩:=ym s n t _ _ o h;have agg:(∃p,v=.agg p∧p.size=P.cellsOf t∧Row.okWide P W .any base t p)→∃a,(∃j,a=.agg (j.map .d)∧jh P n t j)∧AIs W (fun b=>b<W.heap.size) (fun _=>none) [] (fun _=>False) a v:=by
  rintro⟨p,rfl,_,_⟩;simp only[Value.cells]at g;have z:j.length=p.size:=by simpa using g.1
  refine⟨_,⟨j,rfl,y⟩,.agg _ p (by simp[z]) (fun i x u=>?_) (fun i c x hc u=>?_)⟩;have B:i<j.length:=by
   have:=(Array.getElem?_eq_some_iff.1 u).1;omega
  exact zD (g.2 i j[i] x (cm B) (by simpa using u));simp only[cU,Option.map_eq_some_iff]at hc;obtain⟨d,C,rfl⟩:=hc;exact .d (g.2 i d x C (by simpa using u))
 have one:v.cells=#[v]→∃a,(∃d,a=.d d∧jh P n t [d])∧AIs W (fun b=>b<W.heap.size) (fun _=>none) [] (fun _=>False) a v:=by
  intro hc;rw[hc]at g;simp only at g;have z:=g.1
  match j,z,y,g with
  |[d],_,y,g=>exact⟨_,⟨d,rfl,y⟩,.d (g.2 0 d v rfl rfl)⟩
 unfold rm;unfold Value.okWide at f;cases n with
 |zero=>simp[ui]at o
 | succ n =>
  simp only[ui]at o;cases l:P.underlying t with
  |none=>simp[l]at o
  | some td =>
   rw[l]at o f;cases td with
   |struct fs=>exact agg f
   |array m e=>exact agg f
   |bool =>
    simp only[Cell.okWide,Cell.ok,l]at f;refine one ?_;cases v<;>simp at f<;>rfl
   |int k =>
    simp only[Cell.okWide,Cell.ok,l]at f;refine one ?_;cases v<;>simp at f<;>rfl
   |string =>
    simp only[Cell.okWide,Cell.ok,l]at f;refine one ?_;cases v<;>simp at f<;>rfl
   |slice e =>
    simp only[Cell.okWide,Cell.ok,l]at f;refine one ?_;cases v<;>simp at f<;>rfl
   |pointer e =>
    simp only[Cell.okWide,Cell.ok,l]at f;refine one ?_;cases v<;>simp at f<;>rfl
   |_=>simp at o
theorem G1{n:Nat}{base:Nat}:∀(c:List TypeId)(vs:List Value)(f:List (DataW H))(o:List MemPlace),c.all (ui P n)=true→(∀(j:Nat)(t:TypeId)(v:Value),c[j]?=some t→vs[j]?=some v→Value.okWide P W .any base t v) →
  DataW.TrodAll enc P W 0 (fun _=>true) true c vs f o→vs.length=c.length∧f.length=c.length∧∃e,Aa P n c e∧e.length=c.length∧∀(i:Nat)(a:AV)(x:Value),e[i]?=some a→vs[i]?=some x→AIs W (fun b=>b<W.heap.size) (fun _=>none) [] (fun _=>False) a x
 |[],vs,f,o,_,_,h=>by
  cases vs<;>cases f<;>simp[DataW.TrodAll]at h
  exact⟨rfl,rfl,[],rfl,rfl,aw⟩
 |t::c,vs,f,o,hk,hv,h=>by
  obtain⟨v,y,d,l,p,q,rfl,rfl,rfl,C,D⟩:=trodAll_cons h;simp only[List.all_cons,Bool.and_eq_true]at hk;obtain⟨a,s,u⟩:=VG hk.1 (hv 0 t v rfl rfl) C;obtain⟨E,B,e,A,k2,k3⟩:=G1 c y l q hk.2 (fun j t v I z=>hv (j+1) t v (by simpa using I) (by simpa using z)) D;refine⟨by simp[E],by simp[B],a::e,⟨a,e,rfl,s,A⟩,by simp[k2],fun i b x k g=>?_⟩;cases i with
  |zero=>simp at k g;subst k;subst g;exact u
  |succ i=>simp at k g;exact k3 i b x k g
theorem pM(k:laidOutB P=true){j:World}(l:Below W.heap.size W j):∀(c:List TypeId)(vs:List Value)(e:List (DataW H))(a:List MemPlace),(c.all fun t=>P.readableRec t&&decide (t<P.types.size))=true→(∀x,x∈a→x.block<W.heap.size) →
  DataW.TrodAll enc P W 0 (fun _=>true) true c vs e a→DataW.TrodAll enc P j 0 (fun b=>decide (b<W.heap.size)) true c vs e a
 |[],vs,e,a,_,_,h=>by
  cases vs<;>cases e<;>simp[DataW.TrodAll]at h⊢
  exact h
 |t::c,vs,e,a,hk,hlt,h=>by
  obtain⟨v,i,d,g,p,q,rfl,rfl,rfl,n,o⟩:=trodAll_cons h;simp only[List.all_cons,Bool.and_eq_true,decide_eq_true_eq]at hk;exact⟨p,q,Below.trod k hk.1.1 hk.1.2 n l (fun x f=>hlt x (by simp[f])),pM k l c i g q hk.2 (fun x f=>hlt x (by simp[f])) o,rfl⟩
theorem Qn{f:Func}{s:ChangeSpec}{g:FuncId}{n base:Nat}{args:Array Value}{i S:List (DataW H)}{c:List MemPlace}{L:TypeId}(R:laidOutB P=true)(Q:f.resultTypes=#[L])(B:P.underlying L=some .bool)(a:s.vars=[])
  (C:(f.params.toList.all fun t=>P.readableRec t&&decide (t<P.types.size))=true) (E:f.params.toList.all (ui P n)=true)
  (o:∀(j:Nat)(t:TypeId)(v:Value),f.params[j]?=some t→args[j]?=some v→Value.okWide P W .any base t v) (J:DataW.Whole enc P f.params.toList s.vars false W args.toList i S c)
  (U:∀i:List (DataW H),i.length=f.params.size→s.fn H i={ results:=[.lit (.bool true)],args:=i })
  (u:∀y,Aa P n f.params.toList y→ap P g y (fun r=>r=.d (.bool true))) :
  Calls P g args W fun e K=>∃v,e=.returned v∧s.post enc P f false true false false W args v K:=by
 have l:=J;obtain⟨p,q,M,I,rfl,Z,V⟩:=J;rw[a]at I;obtain⟨rfl,rfl⟩:=trodVars_none I;obtain⟨l1,O,y,N,k2,k3⟩:=G1 f.params.toList args.toList i p E (fun j t v Y X=>o j t v (by simpa using Y) (by simpa using X)) M;have hc:=(u y N).2 W (fun b=>b<W.heap.size) args.toList (fun b z=>z) aq k3;have e:args.toList.toArray=args:=Array.toArray_toList;rw[e]at hc;refine hc.mono fun e K T=>?_;obtain⟨x,r,rfl,rfl,hd,z,A⟩:=T;have D:=gi A;subst D;have k:=U i (by simpa using O);refine⟨_,rfl,i,[],p++[],[],p,[],l,?_,?_,?_,z.frame _,fun h=>by cases h⟩
 rw[List.append_nil,k,Q];exact trodAll_mk1 (shut_bool B true);rw[List.append_nil,k];exact pM R z _ _ _ _ C (fun x A=>by simpa using l.lt x (by simp[A])) M
 rw[a,List.append_nil,k];rfl
end
theorem vC{α β:Type}{enc:α→β}{R:α→Prop}:∀{es:List β},(∀r,r∈es→∃o,r=enc o∧R o)→∃os:List α,es=os.map enc∧∀o,o∈os→R o
 |[],_=>⟨[],rfl,aw⟩
 |e::es,h=>by
  obtain⟨o,rfl,c⟩:=h e (dz ..);obtain⟨os,rfl,a⟩:=vC fun r d=>h r (cS _ d);exact⟨o::os,rfl,fun x b=>by rcases d_.1 b with rfl|h;exact c;exact a x h⟩
end Go.Am
namespace Go.Am
theorem cG{P:Program}{n:Nat}{ops:Array Oper}{Q:Exit→St→Prop}{st:St}(zs:List Nat)(c:kn)(m:Nat){b:List ZIt}{a:List (ZIt×List ZIt)}{k:Nat}
  (h3:∀F:Fr→Hp→Prop,(∀fr hp,Q .normal ⟨fr,hp,st.nx+32*k⟩→F fr hp)→zI P st.nx st.hp (fun fr=>zX P st.nx st.hp F a m fr st.hp) b st.fr)
  (e:EO n ops zs c m=true:=by kernel_rfl) (f:P.follows .mixedOrders=true:=by kernel_rfl) (d:ops.size=k:=by rfl) (hz:Its ops zs b:=by repeat (first|exact Its.nil|apply Its.plain rfl|apply Its.guard rfl rfl))
  (hj:Jts ops c a:=by repeat (first|exact Jts.nil|exact Its.nil|apply Its.plain rfl|apply Its.guard rfl rfl|apply Jts.plain rfl|apply Jts.guard rfl rfl)):Yv P n ops Q st:=Ln zs c m e f d hz hj h3
theorem cO{P:Program}{n:Nat}{ops:Array Oper}{Q:Exit→St→Prop}{st:St}(zs is b:List Nat)(t:Tr)(st':St){a:List ZIt}{x:TI}{k:Nat}
  (h3:∀F:Fr→Hp→Prop,(∀fr hp,Wk ⟨fr,hp,st.nx+32*k⟩ st'→F fr hp)→zI P st.nx st.hp (fun fr=>tI P st.nx st.hp F x fr st.hp) a st.fr) (hq:Q .normal st')
  (d:vi n ops zs is b t=true:=by kernel_rfl) (e:P.follows .mixedOrders=true:=by kernel_rfl) (c:ops.size=k:=by rfl) (hz:Its ops zs a:=by repeat (first|exact Its.nil|apply Its.plain rfl|apply Its.guard rfl rfl))
  (hj:Tts ops t x:=by repeat (first|exact Tts.done|exact Its.nil|apply Tts.alt|apply Its.plain rfl|apply Its.guard rfl rfl|apply Tts.plain rfl|apply Tts.guard rfl rfl)):Yv P n ops Q st:=Zb zs is b t st' d e c hz hj h3 hq
theorem fD{a b:Nat}(h:Nat.ble a b=true):a≤b:=Nat.le_of_ble_eq_true h
theorem bz{P:Program}{g:FuncId}{fn:Func}{code:Code}{args:List AV}{Q:AV→Prop}{n:Nat}{rs:List ResultVar}(hf:P.funcs[g]?=some fn)(hnt:fn.ntmps=n)(hd:∀v,v∈args→v.deep)(h:nC P n code (KJ P rs (dm Q)) ⟨JQ 0 args,[],0⟩)
  (hn : (fn.name == "runtime.NumGoroutine") = false := by kernel_rfl) (hb : fn.body = some code := by exact rfl) (hrs : fn.results.toList = rs := by exact rfl) (hle : args.length ≤ n := by exact (fD rfl)) : ap P g args Q := IF hf hn hb hnt hrs hle hd h
theorem pD{st st':St} (h:av st st':=by
   simp only[av,ah];refine⟨?_,?_,aw⟩
   ·repeat (refine List.forall_mem_cons.2 ⟨⟨.inl (Eq.symm (by assumption)),by simp[AV.low,AV.low1]⟩,?_⟩)
    exact List.forall_mem_nil _
   ·repeat (refine List.forall_mem_cons.2 ⟨⟨.inl (by first|rfl|assumption),aw,by first|exact List.forall_mem_cons.2 ⟨by first|exact aR _ _|exact tn _ _ _ _|exact eU _ _ _ _|exact aE _ _|exact dN _ _ _ _ (by simp[AV.low1]) (by simp[AV.low1]),List.forall_mem_nil _⟩|exact aT _ _|exact sw _ _|exact JA _ _ _ _⟩,?_⟩)
    exact List.forall_mem_nil _):Wk st st':=aV h
end Go.Am
