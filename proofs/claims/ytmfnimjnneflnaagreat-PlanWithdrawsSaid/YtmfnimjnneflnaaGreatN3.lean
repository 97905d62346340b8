/-
 Part 4.
-/
import Derived.Test.YtmfnimjnneflnaaGreatN2
import Derived.ProofKit
set_option linter.unusedVariables false
set_option linter.unusedSimpArgs false
set_option maxRecDepth 100000
set_option maxHeartbeats 16000000
namespace Go.Proofs.YtmfnimjnneflnaaGreat
mutual
def AV.r(ρ:Nat→Nat):AV→AV
 | .any=>.any
 | .d v=>.d v
 | .agg cs=>.agg (AV.R ρ cs)
 | .tup vs=>.tup (AV.R ρ vs)
 | .own id i0 len tot=>.own (ρ id) i0 len tot
 | .sub id i off e len cap tot=>.sub (ρ id) i off e len cap tot
 | .ptr id i off tot=>.ptr (ρ id) i off tot
 | .rop cs=>.rop cs
 | .fn f cs=>.fn f (AV.R ρ cs)
 | .mth f cs=>.mth f (AV.R ρ cs)
 | .nil=>.nil
 | .mp id=>.mp (ρ id)
def AV.R(ρ:Nat→Nat):List AV→List AV
 |[]=>[]
 |a::r=>a.r ρ::AV.R ρ r
end
theorem lH(ρ:Nat→Nat):∀l,(AV.R ρ l).length=l.length
 |[]=>by simp[AV.R]
 |a::r=>by simp[AV.R,lH ρ r]
theorem lI(ρ:Nat→Nat):∀(l:List AV)(i:Nat),(AV.R ρ l)[i]?=(l[i]?).map (AV.r ρ)
 |[],i=>by simp[AV.R]
 |a::r,0=>by simp[AV.R]
 |a::r,i+1=>by simp[AV.R,lI ρ r i]
def aQ(ρ:Nat→Nat)(rows:List (List AV)):List (List AV):=rows.map (AV.R ρ)
def Blk.r(ρ:Nat→Nat)(b:Blk):Blk:=⟨b.ty,b.e,aQ ρ b.es⟩
theorem AIs.r{w:World}{S S':Nat→Prop}{σ I:Nat→Option Nat}{hp B:Hp}{U J:Nat→Prop}{ρ:Nat→Nat}(E:∀b,S b→S' b)(p:∀id,U id→J (ρ id))
  (u:∀id b',U id→lk (ρ id) B=some b'→∃b,lk id hp=some b∧b'.e=b.e∧b'.ty=b.ty∧b'.es.length=b.es.length∧I (ρ id)=σ id) {a:AV} {v:Value} (h:AIs w S σ hp U a v):AIs w S' I B J (a.r ρ) v:=by
 induction h with
 |any v=>exact .any v
 |d h=>exact .d (h.mono E fun _ _=>rfl)
 |agg cs xs hl p _ ih =>
  refine .agg _ xs (by rw[lH];exact hl) p fun i c x hc s=>?_;rw[lI]at hc;cases k:cs[i]? with
  |none=>rw[k]at hc;simp at hc
  |some c'=>rw[k]at hc;simp at hc;subst hc;exact ih i c' x k s
 |tup cs xs hl _ ih =>
  refine .tup _ xs (by rw[lH];exact hl) fun i c x hc s=>?_;rw[lI]at hc;cases k:cs[i]? with
  |none=>rw[k]at hc;simp at hc
  |some c'=>rw[k]at hc;simp at hc;subst hc;exact ih i c' x k s
 |own id i0 len tot A cap hN hl h0 h =>
  refine .own _ i0 len tot A cap (p _ hN) hl h0 fun b' l=>?_;obtain⟨b,t,C,n,o,z⟩:=u id b' hN l;obtain⟨D,k2⟩:=h b t;rw[z,C,n,o];exact⟨D,k2⟩
 |sub id i off e len cap tot A hN hl h0 h =>
  refine .sub _ i off e len cap tot A (p _ hN) hl h0 fun b' l=>?_;obtain⟨b,t,C,n,o,z⟩:=u id b' hN l;obtain⟨D,k2⟩:=h b t;rw[z,C,o];exact⟨D,k2⟩
 |ptr id i off tot a hN h =>
  refine .ptr _ i off tot a (p _ hN) fun b' l=>?_;obtain⟨b,t,C,n,o,z⟩:=u id b' hN l;obtain⟨D,k2⟩:=h b t;rw[z,C,o];exact⟨D,k2⟩
 |rop cs ad vs p u h3=>exact .rop cs ad vs (E _ p) u fun j y K=>(h3 j y K).mono E fun _ _=>rfl
 |fn f cs xs hl _ ih =>
  refine .fn f _ xs (by rw[lH];exact hl) fun i c x hc s=>?_;rw[lI]at hc;cases k:cs[i]? with
  |none=>rw[k]at hc;simp at hc
  |some c'=>rw[k]at hc;simp at hc;subst hc;exact ih i c' x k s
 |mth f cs xs hl _ ih =>
  refine .mth f _ xs (by rw[lH];exact hl) fun i c x hc s=>?_;rw[lI]at hc;cases k:cs[i]? with
  |none=>rw[k]at hc;simp at hc
  |some c'=>rw[k]at hc;simp at hc;subst hc;exact ih i c' x k s
 |nil=>exact .nil
 |mp id g hN h =>
  refine .mp _ g (p _ hN) fun b' l=>?_;obtain⟨b,t,_,n,_⟩:=u id b' hN l;rw[n];exact h b t
theorem zQ(ρ:Nat→Nat):∀u,AV.R ρ (qX u)=qX u
 |[]=>rfl
 |_::u=>by
  show AV.R ρ (.d _::qX u)=_;rw[AV.R,zQ ρ u];rfl
theorem NoB.r{n:Nat}{w:World}{b:Blk}(ρ:Nat→Nat)(h:NoB n w b):NoB n w (b.r ρ):=by
 rcases h with h|⟨d,c,g,f,a,i,e⟩;exact .inl (by simp[Blk.r,aQ,h]);refine .inr ⟨d,c,g,f,a,?_,e⟩;simp only[Blk.r,aQ,i,qJ,List.map_cons,List.map_map,AV.R,AV.r];congr 1;exact List.map_congr_left fun u _=>zQ ρ u
def Bo(w:World)(S:Nat→Prop)(σ:Nat→Option Nat)(hp0:Hp)(k n:Nat)(hk:k≤64):Ctx where
 w0:=w
 M0:=fun b=>∃id blk,lk id hp0=some blk∧σ id=some b
 S0:=fun b=>S b∨∃id blk,lk id hp0=some blk∧σ id=some b
 n:=n
 hM:=fun b h=>.inr h
 Sx:=S
 σx:=σ
 hpx:=hp0
 kx:=k
 hk:=hk
structure Hand(w:World)(S:Nat→Prop)(σ:Nat→Option Nat)(hp0:Hp)(k:Nat):Prop where
 lo:∀b,S b→b<w.heap.size∧∀id blk g,lk id hp0=some blk→σ id=some g→b≠g
 inj:∀i j bi bj g,lk i hp0=some bi→lk j hp0=some bj→σ i=some g→σ j=some g→i=j
 lt:∀i b,lk i hp0=some b→i<k
 blk:∀i b,lk i hp0=some b→(σ i=none∧b.es=[])∨∃g,σ i=some g∧BlkOk w S σ hp0 (fun i=>i<k+1) g b
def cZ(P:Program)(g:FuncId)(k:Nat)(hp0:Hp)(args:List AV)(Q:AV→Hp→Prop):Prop :=
 (∃ fn, P.funcs[g]? = some fn ∧ (fn.name == "runtime.NumGoroutine") = false ∧ fn.body.isNone = false) ∧
 ∃ hk:k≤64,∀ (w:World) (S:Nat→Prop) (σ:Nat→Option Nat) (vs:List Value),Hand w S σ hp0 k→vs.length=args.length →
  (∀(i:Nat)(v:AV)(x:Value),args[i]?=some v→vs[i]?=some x→AIs w S σ hp0 (fun i=>i<k+1) v x) →
  Calls P g vs.toArray w fun e w'=>∃x r hp' U' σ',e=.returned x∧Q r hp'∧Rel (Bo w S σ hp0 k 0 hk) hp' U' σ' w'∧Dt (Bo w S σ hp0 k 0 hk) hp' U' σ' w' ∧
   AIs w' (bQ (Bo w S σ hp0 k 0 hk) w' σ' hp') σ' hp' U' r x
section
variable {P:Program}
theorem aed{w:World}{S:Nat→Prop}{σ:Nat→Option Nat}{hp0:Hp}{k n:Nat}{c:k≤64}(h:Hand w S σ hp0 k){b:Nat}(a:S b):bQ (Bo w S σ hp0 k n c) w σ hp0 b :=
 ⟨h.lo b a,.inl (.inl a)⟩
theorem BlkOk.mono{w:World}{S S':Nat→Prop}{σ:Nat→Option Nat}{hp:Hp}{U:Nat→Prop}{g:Nat}{b:Blk}(c:∀b,S b→S' b)(h:BlkOk w S σ hp U g b):BlkOk w S' σ hp U g b:=by
 obtain⟨a,o,l,e,n,t⟩:=h;exact⟨a,o,l,e,n,fun i j x y v s p d=>(t i j x y v s p d).step ⟨c,fun _ _=>rfl,fun _ h=>h,fun id f _ h=>⟨f,h,rfl,rfl,cL _,fun _ g k=>⟨k,fun _ h=>h⟩⟩⟩⟩
theorem ap {g : FuncId} {fn : Func} {code : Code} {k : Nat} {hp0 : Hp} {args : List AV} {Q : AV → Hp → Prop} (hf : P.funcs[g]? = some fn) (hn : (fn.name == "runtime.NumGoroutine") = false) (hb : fn.body = some code)
  {n:Nat} {rs:List ResultVar} (hnt:fn.ntmps=n) (hrs:fn.results.toList=rs) (hle:args.length≤n) (hk:k≤64)
  (h:oL P n code (Nq P rs (fun v st=>Q v st.hp)) ⟨ME 0 args,hp0,k+1⟩):cZ P g k hp0 args Q:=by
 subst hnt;subst hrs;refine⟨⟨fn,hf,hn,by simp[hb]⟩,hk,fun w S σ vs hH hl hv=>?_⟩;have hsz:((vs.toArray++Array.replicate (fn.ntmps-vs.toArray.size) undef):Array Value).size=fn.ntmps:=by simp;omega
 refine calls_of_wp hf hb ?_
 let c:Ctx:=Bo w S σ hp0 k fn.ntmps hk
 have hsof:∀b,S b→bQ c w σ hp0 b:=fun b hb=>aed hH hb;have hst0:Step w S σ hp0 (fun i=>i<k+1) w (bQ c w σ hp0) σ hp0 (fun i=>i<k+1):=⟨hsof,fun _ _=>rfl,fun _ h=>h,fun id b' _ h=>⟨b',h,rfl,rfl,cL _,fun _ g hg=>⟨hg,fun _ h=>h⟩⟩⟩
 have hsim:mM c ⟨ME 0 args,hp0,k+1⟩ { tmps:=vs.toArray++Array.replicate (fn.ntmps-vs.toArray.size) undef,defers:=[] } w:=by
  refine⟨rfl,hsz,σ,⟨hH.inj,fun i b h=>Nat.lt_succ_of_lt (hH.lt i b h),fun i b h=>?_,fun i b g h hg=>.inl ⟨i,b,h,hg⟩,rfl,rfl,rfl,cL _,fun _ _ _=>rfl⟩,fun n=>?_,⟨hsof,fun _ _=>rfl,fun i h=>Nat.lt_succ_of_lt h,fun id b' _ h=>⟨b',h,rfl,rfl,cL _,fun _ g hg=>⟨hg,fun _ h=>h⟩⟩⟩⟩
  ·rcases hH.blk i b h with h0|⟨g,h1,h2⟩
   ·exact .inl ⟨h0.1,.inl h0.2⟩
   ·exact .inr ⟨g,h1,h2.mono hsof⟩
  ·simp only[fv,Bl,Nat.zero_le,if_true,Nat.sub_zero]
   cases hn:args[n]? with
   |none=>exact .any _
   | some v =>
    have hlt:n<vs.length:=by have:=(ci.1 hn).1;omega
    have hx:vs[n]?=some vs[n]:=cm hlt
    have:(vs.toArray++Array.replicate (fn.ntmps-vs.toArray.size) undef).getD n undef=vs[n]:=by
     rw[ct,Array.getElem?_append,if_pos (by simpa using hlt)];simp[hx]
    rw[this];simp only[Option.getD_some];exact(hv n v _ hn hx).step hst0
 have u7:∀st a w',DU P fn.results.toList (fun v st=>Q v st.hp) st→mM c st a w'→∃v,(results fn a.tmps).run P w'=.ok v w'∧∃x r hp' U' σ',Ending.returned v=.returned x∧Q r hp'∧Rel (Bo w S σ hp0 k 0 hk) hp' U' σ' w'∧Dt (Bo w S σ hp0 k 0 hk) hp' U' σ' w' ∧
   AIs w' (bQ (Bo w S σ hp0 k 0 hk) w' σ' hp') σ' hp' U' r x:=by
  intro st a w' hret hs;obtain⟨v,x,hQ,hrun,σ',hr,hx,hh⟩:=Bj hs hret;exact⟨x,hrun,x,v,st.hp,_,σ',rfl,hQ,⟨hr.inj,hr.lt,hr.blk,hr.mine,hr.os,hr.tape,hr.output,hr.size,hr.old⟩,hh,hx⟩
 refine wp_mono (kZ (c:=c) code _ _ _ w h hsim) fun e a w'⟨st,hq,hs⟩=>?_
 cases e with
 |normal=>exact⟨hs.1,u7 st a w' hq hs⟩
 |ret=>exact⟨hs.1,u7 st a w' hq hs⟩
 |_=>exact hq.elim
theorem oZ{α:Type}(n:Nat):∀(a b:List (Nat×α)),lk n (a++b)=match lk n a with|some v=>some v|none=>lk n b
 |[],b=>rfl
 |(m,v)::t,b=>by
  simp only[List.cons_append,lk];split;rfl;exact oZ n t b
theorem uh{α:Type}(f:Nat→Bool)(n:Nat):∀(l:List (Nat×α)),lk n (l.filter fun p=>f p.1)=if f n then lk n l else none
 |[]=>by simp[lk]
 | (m,v) :: t=>by
  have b:=uh f n t;by_cases a:f m=true;rw[List.filter_cons_of_pos (by exact a)];simp only[lk];by_cases h:m=n;subst h;simp[a];simp only[if_neg h,b];rw[List.filter_cons_of_neg (by exact a),b];simp only[lk];by_cases h:m=n;subst h;simp[a];simp only[if_neg h]
def gB(a:List (Nat×Nat)):Bool:=a.all fun p=>a.all fun q=>(p.1==q.1)==(p.2==q.2)
theorem hJ{c:List (Nat×Nat)}(h:gB c=true){i a j b:Nat}(f:(i,a)∈c)(g:(j,b)∈c):i=j↔a=b:=by
 have:=fa.1 (fa.1 h _ f) _ g;simp only[beq_iff_eq]at this;by_cases e:i=j;subst e;by_cases d:a=b;simp[d];simp[d]at this;by_cases d:a=b;simp[e,d]at this;simp[e,d]
theorem nc{c:List (Nat×Nat)}(f:∀i a b,(i,a)∈c→(i,b)∈c→a=b){i a:Nat}(h:(i,a)∈c):lk i c=some a:=by
 cases d:lk i c with
 | none =>
  exfalso;revert h d;clear f
  induction c with
  |nil=>intro h;cases h
  | cons p t ih =>
   obtain⟨m,v⟩:=p;intro h d;simp only[lk]at d;by_cases e:m=i;simp[e]at d;rw[if_neg e]at d;rcases d_.1 h with h|h;cases h;exact e rfl;exact ih h d
 |some b=>rw[f i a b h (bR d)]
def iV(a:List (Nat×Nat)):List (Nat×Nat):=a.map fun p=>(p.2,p.1)
theorem pT{b:List (Nat×Nat)}{a i:Nat}:(a,i)∈iV b↔(i,a)∈b:=by
 simp only[iV,List.mem_map];constructor;rintro⟨⟨x,y⟩,h,e⟩;cases e;exact h;intro h;exact⟨(i,a),h,rfl⟩
theorem XV{c:List (Nat×Nat)}(h:gB c=true){i a:Nat}:lk i c=some a↔(i,a)∈c :=
 ⟨bR,fun e=>nc (fun i a b f d=>(hJ h f d).1 rfl) e⟩
theorem GG{c:List (Nat×Nat)}(h:gB c=true){i a:Nat}:lk a (iV c)=some i↔(i,a)∈c :=
 ⟨fun f=>pT.1 (bR f),fun e=>nc (fun i a b g d=>(hJ h (pT.1 g) (pT.1 d)).2 rfl) (pT.2 e)⟩
def cn(a:List (Nat×Nat))(d:Nat)(i:Nat):Nat:=(lk i a).getD d
theorem Bq{b:List (Nat×Nat)}{d i a:Nat}(h:lk i b=some a):cn b d i=a:=by simp[cn,h]
theorem GH{c:List (Nat×Nat)}{d i a:Nat}(h:cn c d i=a)(f:a≠d):lk i c=some a:=by
 unfold cn at h;cases e:lk i c with
 |none=>rw[e]at h;exact absurd h.symm f
 |some b=>rw[e]at h;simp at h;rw[h]
def bK(b a:List (Nat×Nat))(N:Nat):List (Nat×Nat):=b++a.map fun p=>(p.1,N+p.2)
def cj(c a:List (Nat×Nat))(N:Nat)(d hp:Hp):Hp :=
 ((bK c a N).filterMap fun p=>(lk p.1 d).map fun b=>(p.2,b.r (cn (bK c a N) (N+31))))++hp.filter fun p=>!(c.map (·.2)).contains p.1
def de(b a:List (Nat×Nat)):Bool:=gB a&&a.all fun p=>decide (p.2<31)&&b.all fun q=>q.1 != p.1
theorem XW{c a:List (Nat×Nat)}{N:Nat}{d hp:Hp}{id:Nat}{b:Blk}(h:lk id (cj c a N d hp)=some b) :
  (∃i b',(i,id)∈bK c a N∧lk i d=some b'∧b=b'.r (cn (bK c a N) (N+31)))∨((∀i,(i,id) ∉ c)∧lk id hp=some b):=by
 unfold cj at h;rw[oZ]at h;split at h;rename_i v j;injection h with h;subst h;have:=bR j;rw[List.mem_filterMap]at this;obtain⟨⟨i,g⟩,l,e⟩:=this;simp only at e;cases f:lk i d with
 |none=>rw[f]at e;simp at e
 |some b' =>
  rw[f]at e;simp only[Option.map_some,Option.some.injEq,Prod.mk.injEq]at e;obtain⟨rfl,rfl⟩:=e;exact .inl ⟨i,b',l,f,rfl⟩
 ·rw[uh fun n=>!(c.map (·.2)).contains n]at h;split at h;rename_i hc;refine .inr ⟨fun i k=>?_,h⟩;simp only[Bool.not_eq_true',List.contains_eq_mem,decide_eq_false_iff_not,List.mem_map,not_exists,not_and]at hc;exact hc (i,id) k rfl;cases h
theorem kA(ρ:Nat→Nat)(rows:List (List AV)):(aQ ρ rows).length=rows.length:=by simp[aQ]
theorem BlkOk.r{w:World}{S S':Nat→Prop}{σ n:Nat→Option Nat}{hp k:Hp}{U o:Nat→Prop}{ρ:Nat→Nat}(p:∀b,S b→S' b)(u:∀id,U id→o (ρ id))
  (t:∀id b',U id→lk (ρ id) k=some b'→∃b,lk id hp=some b∧b'.e=b.e∧b'.ty=b.ty∧b'.es.length=b.es.length∧n (ρ id)=σ id) {g:Nat} {b:Blk} (h:BlkOk w S σ hp U g b):BlkOk w S' n k o g (b.r ρ):=by
 obtain⟨l,z,k2,k3,k4,k5⟩:=h;refine⟨l,z,k2,fun x a=>?_,by simp only[Blk.r,kA];exact k4,fun i j x y v d c s=>?_⟩;simp only[Blk.r,aQ,List.mem_map]at a;obtain⟨y,f,rfl⟩:=a;rw[lH];exact k3 y f;simp only[Blk.r,aQ,cU]at d;cases a:b.es[i]? with
 |none=>rw[a]at d;simp at d
 | some x0 =>
  rw[a]at d;simp only[Option.map_some,Option.some.injEq]at d;subst d;rw[lI]at c;cases f:x0[j]? with
  |none=>rw[f]at c;simp at c
  |some y0 =>
   rw[f]at c;simp only[Option.map_some,Option.some.injEq]at c;subst c;exact(k5 i j x0 y0 v a f s).r p u t
def DY(a:List (Nat×Nat))(d:Nat)(hp:Hp):Hp:=a.filterMap fun p=>(lk p.1 hp).map fun b=>(p.2,b.r (cn a d))
def GI(ρ:Nat→Nat):Fr→Fr
 |[]=>[]
 |(n,v)::r=>(n,v.r ρ)::GI ρ r
theorem IF(ρ:Nat→Nat)(n:Nat):∀fr:Fr,fv n (GI ρ fr)=(fv n fr).r ρ
 |[]=>rfl
 |(m,v)::r=>by
  simp only[GI,j5,IF ρ n r];split<;>rfl
theorem mr{a:List (Nat×Nat)}{d:Nat}{hp:Hp}{j:Nat}{b:Blk}(h:lk j (DY a d hp)=some b):∃i b0,(i,j)∈a∧lk i hp=some b0∧b=b0.r (cn a d):=by
 have:=bR h;unfold DY at this;rw[List.mem_filterMap]at this;obtain⟨⟨i,g⟩,f,c⟩:=this;simp only at c;cases e:lk i hp with
 |none=>rw[e]at c;simp at c
 |some b' =>
  rw[e]at c;simp only[Option.map_some,Option.some.injEq,Prod.mk.injEq]at c;obtain⟨rfl,rfl⟩:=c;exact⟨i,b',f,e,rfl⟩
theorem XX(d:List (Nat×Nat))(N:Nat){st:St}(o:gB d=true)(K:∀p,p∈d→p.1=p.2∨64≤p.2)(I:∀p,p∈d→p.2<N)(U:64≤N):Wk st ⟨GI (cn d N) st.fr,DY d N st.hp,N+1⟩:=by
 rintro c a w⟨q1,q2,σ,x,hf,J⟩;have v:∀i j,(i,j)∈d→(lk j (iV d)).bind σ=σ i:=fun i j h=>by rw[(GG o).2 h];rfl
 have T:∀id,id<st.nx→cn d N id<N+1:=fun id _=>by
  unfold cn;cases Z:lk id d with
  |none=>simp
  |some k=>have:=I _ (bR Z);simp only[Option.getD_some];omega
 have R:∀id B,id<st.nx→lk (cn d N id) (DY d N st.hp)=some B→∃b,lk id st.hp=some b∧B.e=b.e∧B.ty=b.ty∧B.es.length=b.es.length∧(lk (cn d N id) (iV d)).bind σ=σ id:=by
  intro id B _ A;obtain⟨i,M,f,l,rfl⟩:=mr A;have L:cn d N id≠N:=by have:=I _ f;simp only at this;omega
  have u:=bR (GH (rfl:cn d N id=cn d N id) L);have:i=id:=(hJ o f u).2 rfl;subst this;exact⟨M,l,rfl,rfl,by simp only[Blk.r,kA],v _ _ u⟩
 have E:∀b,bQ c w σ st.hp b→bQ c w (fun j=>(lk j (iV d)).bind σ) (DY d N st.hp) b:=by
  rintro b⟨⟨D,k2⟩,k3⟩;refine⟨⟨D,fun id aa g A y=>?_⟩,k3⟩;obtain⟨i,M,f,l,rfl⟩:=mr A;simp only[v _ _ f]at y;exact k2 i M g l y
 refine⟨q1,q2,fun j=>(lk j (iV d)).bind σ,⟨fun i j bi bj g t V Q O=>?_,fun i b t=>?_,fun i b t=>?_,fun i b g t y=>?_,x.os,x.tape,x.output,x.size,x.old⟩,fun n=>?_,⟨fun b A=>E b (J.sub b A),J.cell,fun i t=>?_,fun id B C A=>?_⟩⟩;obtain⟨s,z,f,l,rfl⟩:=mr t;obtain⟨Y,b2,u,h5,rfl⟩:=mr V;simp only[v _ _ f]at Q;simp only[v _ _ u]at O;exact(hJ o f u).1 (x.inj s Y _ _ g l h5 Q O);obtain⟨s,z,f,l,rfl⟩:=mr t;have u:=I _ f;simp only at u⊢;omega;obtain⟨s,z,f,l,rfl⟩:=mr t;rcases x.blk s z l with ⟨D,k2⟩|⟨g,D,k2⟩;exact .inl ⟨(v _ _ f).trans D,k2.r _⟩;exact .inr ⟨g,(v _ _ f).trans D,k2.r E T R⟩;obtain⟨s,z,f,l,rfl⟩:=mr t;simp only[v _ _ f]at y;exact x.mine s z g l y;simp only[IF];exact(hf n).r E T R;have:=c.hk;have u:i<c.kx:=t;simp only;omega;obtain⟨s,z,f,l,rfl⟩:=mr A;have X:=c.hk;have u:id<c.kx:=C;have:s=id:=by
  rcases K _ f with h|h;exact h;simp only at h;omega
 subst this;obtain⟨b,m1,m2,m3,m4,m5⟩:=J.blk s z C l;refine⟨b,m1,m2,m3,by simp only[Blk.r,kA];exact m4,fun S g y=>?_⟩;simp only[Blk.r,kA]at S;obtain⟨n1,n2⟩:=m5 S g y;exact⟨(v _ _ f).trans n1,n2⟩
theorem rh(prs:List (Nat×Nat)){g:FuncId}{k:Nat}{hp0:Hp}{args args0:List AV}{hp:Hp}{N:Nat}{K:AV→Hp→Prop}{Q:AV→Hp→Prop}(h:cZ P g k hp0 args0 Q)
  (hprs:gB prs=true) (hlt:∀p,p∈prs→p.1<k) (hall:∀p,p∈prs→∃b,lk p.2 hp=some b∧b.e≠0)
  (hin:∀i b0,lk i hp0=some b0→∃id b,lk i prs=some id∧lk id hp=some b∧b0=b.r (cn (iV prs) k))
  (hargs:args0=AV.R (cn (iV prs) k) args)
  (hK:∀r hp',Q r hp'→∃news,de prs news=true∧K (r.r (cn (bK prs news N) (N+31))) (cj prs news N hp' hp)):gx P g args hp N K:=by
 refine⟨h.1,fun c U σ w vs hr hN hl hv=>?_⟩;obtain⟨hk,hcon⟩:=h.2
 let σ0:Nat→Option Nat:=fun i=>(lk i prs).bind σ
 let ri:=cn (iV prs) k
 have hσ0:∀{i id},(i,id)∈prs→σ0 i=σ id:=by
  intro i id hm;simp only[σ0,(XV hprs).2 hm,Option.bind_some]
 have hri:∀{id i b},ri id=i→lk i hp0=some b→(i,id)∈prs:=by
  intro id i b he hb;have hik:i<k:=by
   obtain⟨id',b',h1,_,_⟩:=hin i b hb;exact hlt _ (bR h1)
  exact pT.1 (bR (GH he aq))
 have hU:∀id,U id→ri id<k+1:=by
  intro id _;simp only[ri,cn];cases hl:lk id (iV prs)with
  |none=>simp
  |some i=>have:=hlt _ (pT.1 (bR hl));simp;omega
 have h2:∀id b',U id→lk (ri id) hp0=some b'→∃b,lk id hp=some b∧b'.e=b.e∧b'.ty=b.ty∧b'.es.length=b.es.length∧σ0 (ri id)=σ id:=by
  intro id b' _ hb;have hm:=hri rfl hb;obtain⟨id',b,h3,h4,rfl⟩:=hin _ _ hb;have:=(hJ hprs hm (bR h3)).1 rfl;subst this;exact⟨b,h4,rfl,rfl,kA _ _,hσ0 hm⟩
 have hhand:Hand w (bQ c w σ hp) σ0 hp0 k:=by
  refine⟨fun b hb=>⟨hb.1.1,fun i blk gg hi hg=>?_⟩,fun i j bi bj gg hi hj hgi hgj=>?_,fun i b hi=>?_,fun i b hi=>?_⟩;obtain⟨id,b',h3,h4,_⟩:=hin i blk hi;rw[hσ0 (bR h3)]at hg;exact hb.1.2 id b' gg h4 hg;obtain⟨id,b',h3,h4,_⟩:=hin i bi hi;obtain⟨id2,b2,h5,h6,_⟩:=hin j bj hj;rw[hσ0 (bR h3)]at hgi;rw[hσ0 (bR h5)]at hgj;exact(hJ hprs (bR h3) (bR h5)).2 (hr.inj id id2 b' b2 gg h4 h6 hgi hgj);obtain⟨id,b',h3,h4,_⟩:=hin i b hi;exact hlt _ (bR h3);obtain⟨id,b',h3,h4,rfl⟩:=hin i b hi;rw[hσ0 (bR h3)];rcases hr.blk id b' h4 with ⟨k1,k2⟩|⟨gg,k1,k2⟩;obtain⟨b1,q1,q2⟩:=hall _ (bR h3);rw[h4]at q1;injection q1 with q1;subst q1;exact .inl ⟨k1,by simp[Blk.r,aQ,k2.none q2]⟩;exact .inr ⟨gg,k1,k2.r (fun _ h=>h) hU h2⟩
 refine(hcon w (bQ c w σ hp) σ0 vs hhand (by rw[hargs,lH];exact hl) (fun i v x hi hx=>?_)).mono fun e w' he=>?_;rw[hargs,lI]at hi;cases ha:args[i]? with
 |none=>rw[ha]at hi;simp at hi
 |some a =>
  rw[ha]at hi;simp only[Option.map_some,Option.some.injEq]at hi;subst hi;exact(hv i a x ha hx).r (fun _ h=>h) hU h2
 obtain⟨x,r,hp',U',σ',rfl,hQ,hr',hist,hx⟩:=he;obtain⟨news,hnews,hK⟩:=hK r hp' hQ;simp only[de,Bool.and_eq_true,fa,decide_eq_true_eq,bne_iff_ne,ne_eq]at hnews;obtain⟨hnp,hnews⟩:=hnews
 let c0:=Bo w (bQ c w σ hp) σ0 hp0 k 0 hk
 let opr:=bK prs news N
 let ro:=cn opr (N+31)
 let hp2:=cj prs news N hp' hp
 have hUprs:∀{i id},(i,id)∈prs→U id:=by
  intro i id hm;obtain⟨b,hb,_⟩:=hall _ hm;exact hr.lt id b hb
 have hmem:∀{i id},(i,id)∈opr→(i,id)∈prs∨∃j,(i,j)∈news∧id=N+j∧j<31:=by
  intro i id hm;rcases cD.1 hm with h|h;exact .inl h;obtain⟨⟨a,j⟩,h1,h2⟩:=List.mem_map.1 h;cases h2;exact .inr ⟨j,h1,rfl,(hnews _ h1).1⟩
 have hoprB:gB opr=true:=by
  refine fa.2 fun p hp1=>fa.2 fun q hq1=>?_;have key:p.1=q.1↔p.2=q.2:=by
   rcases hmem (i:=p.1) (id:=p.2) hp1 with h1|⟨j,h1,e1,l1⟩<;>rcases hmem (i:=q.1) (id:=q.2) hq1 with h2|⟨j2,h2,e2,l2⟩;exact hJ hprs h1 h2;have a1:p.1≠q.1:=(hnews _ h2).2 _ h1;have a2:p.2≠q.2:=fun e=>hN (N+j2) aq aq (by rw[←e2,←e];exact hUprs h1);exact⟨fun e=>absurd e a1,fun e=>absurd e a2⟩;have a1:q.1≠p.1:=(hnews _ h1).2 _ h2;have a2:p.2≠q.2:=fun e=>hN (N+j) aq aq (by rw[←e1,e];exact hUprs h2);exact⟨fun e=>absurd e.symm a1,fun e=>absurd e a2⟩;rw[e1,e2];rw[hJ hnp h1 h2];omega
  rw[beq_iff_eq,Bool.eq_iff_iff,beq_iff_eq,beq_iff_eq];exact key
 have hdum:∀{i},(i,N+31) ∉ opr:=by
  intro i hm;rcases hmem hm with h|⟨j,_,e,l⟩;exact hN (N+31) aq aq (hUprs h);omega
 let σ2:Nat→Option Nat:=fun id=>match lk id (iV opr)with
  |some i=>σ' i
  |none=>σ id
 have hσ2:∀{i id},(i,id)∈opr→σ2 id=σ' i:=by
  intro i id hm;simp only[σ2,(GG hoprB).2 hm]
 have hσ2':∀{id},(∀i,(i,id) ∉ opr)→σ2 id=σ id:=by
  intro id hm;simp only[σ2];cases hl:lk id (iV opr)with
  |none=>rfl
  |some i=>exact absurd ((GG hoprB).1 hl) (hm i)
 -- what a block of the caller's is now
 have hlk2:∀{id b},lk id hp2=some b→(∃i b',(i,id)∈opr∧lk i hp'=some b'∧b=b'.r ro)∨((∀i,(i,id) ∉ opr)∧lk id hp=some b):=by
  intro id b hb;rcases XW hb with h|⟨h1,h2⟩;exact .inl h;refine .inr ⟨fun i hm=>?_,h2⟩;rcases hmem hm with h|⟨j,_,rfl,l⟩;exact h1 i h;exact hN (N+j) aq aq (hr.lt _ _ h2)
 have hUo:∀{i id},(i,id)∈opr→eN U N id:=by
  intro i id hm;rcases hmem hm with h|⟨j,_,rfl,l⟩;exact .inl (hUprs h);exact .inr ⟨aq,aq⟩
 have hro:∀i,eN U N (ro i):=by
  intro i;simp only[ro,cn];cases hl:lk i opr with
  |none=>exact .inr ⟨Nat.le_add_right N 31,Nat.lt_succ_self (N+31)⟩
  |some id=>exact hUo (bR hl)
 -- what the callee owned at the beginning
 have hM0:∀{b},c0.M0 b→∃i id bb,(i,id)∈prs∧lk id hp=some bb∧σ id=some b:=by
  rintro b⟨i,blk,hi,hg⟩;obtain⟨id,bb,h3,h4,_⟩:=hin i blk hi;rw[hσ0 (bR h3)]at hg;exact⟨i,id,bb,bR h3,h4,hg⟩
 have hM0':∀{b},c0.M0 b→c.M0 b∨c.w0.heap.size≤b:=by
  intro b hb;obtain⟨i,id,bb,_,h4,hg⟩:=hM0 hb;exact hr.mine id bb b h4 hg
 have hother:∀{id b gg},(∀i,(i,id) ∉ prs)→lk id hp=some b→σ id=some gg→¬c0.M0 gg:=by
  intro id b gg hn hb hg hm;obtain⟨i,id2,bb,h1,h2,h3⟩:=hM0 hm;have:=hr.inj id id2 b bb gg hb h2 hg h3;subst this;exact hn i h1
 have hsz:w.heap.size≤w'.heap.size:=hr'.size;have hold:∀{b},b<w.heap.size→¬c0.M0 b→w'.heap[b]?=w.heap[b]?:=fun hb hm=>hr'.old _ hb hm;have hnotown:∀{b},bQ c w σ hp b→¬c0.M0 b:=by
  intro b hb hm;obtain⟨i,id,bb,_,h2,h3⟩:=hM0 hm;exact hb.1.2 id bb b h2 h3 rfl
 have hin_prs:∀{i id},(i,id)∈opr→i<k→(i,id)∈prs∨False∨∃j,(i,j)∈news:=by
  intro i id hm _;rcases hmem hm with h|⟨j,h,_,_⟩;exact .inl h;exact .inr (.inr ⟨j,h⟩)
 have hsub1:∀b,bQ c w σ hp b→bQ c w' σ2 hp2 b:=by
  intro b hb;refine⟨⟨Nat.lt_of_lt_of_le hb.1.1 hsz,fun id blk gg hi hg=>?_⟩,hb.2⟩;rcases hlk2 hi with ⟨i,b',hm,hb',_⟩|⟨hn,hb'⟩;rw[hσ2 hm]at hg;intro e;subst e;rcases hr'.mine i b' b hb' hg with h|h;exact hnotown hb h;have h5:w.heap.size≤b:=h;have:=hb.1.1;omega;rw[hσ2' hn]at hg;exact hb.1.2 id blk gg hb' hg
 have hsub2:∀b,bQ c0 w' σ' hp' b→bQ c w' σ2 hp2 b:=by
  intro b hb;refine⟨⟨hb.1.1,fun id blk gg hi hg=>?_⟩,?_⟩;rcases hlk2 hi with ⟨i,b',hm,hb',_⟩|⟨hn,hb'⟩;rw[hσ2 hm]at hg;exact hb.1.2 i b' gg hb' hg;rw[hσ2' hn]at hg;intro e;subst e;have hlt2:b<w.heap.size:=ee (hr.at hb' hg);rcases hb.2 with (h|h)|h;exact h.1.2 id blk b hb' hg rfl;exact hother (fun i hi=>hn i (cD.2 (.inl hi))) hb' hg h;have h5:w.heap.size≤b:=h;omega;rcases hb.2 with (h|h)|h;exact h.2;rcases hM0' h with h|h;exact .inl (c.hM _ h);exact .inr h;have h5:w.heap.size≤b:=h;have:=hr.size;exact .inr aq
 -- the callee's blocks,renamed
 have h3:∀id b',U' id→lk (ro id) hp2=some b'→∃b,lk id hp'=some b∧b'.e=b.e∧b'.ty=b.ty∧b'.es.length=b.es.length∧σ2 (ro id)=σ' id:=by
  intro id b' _ hb;rcases hlk2 hb with ⟨i,b0,hm,hb0,rfl⟩|⟨hn,hb'⟩;have he:lk id opr=some (ro id):=GH rfl (fun e=>by rw[e]at hm;exact hdum hm);have hii:=(hJ hoprB (bR he) hm).2 rfl;subst hii;exact⟨b0,hb0,rfl,rfl,kA _ _,hσ2 hm⟩
  exfalso;cases hl:lk id opr with
  |none =>
   have:ro id=N+31:=(by simp[ro,cn,hl]);rw[this]at hb';exact hN (N+31) aq aq (hr.lt _ _ hb')
  |some y =>
   have he:ro id=y:=Bq hl;exact hn id (by rw[he];exact bR hl)
 have hstep:Step w (bQ c w σ hp) σ hp U w' (bQ c w' σ2 hp2) σ2 hp2 (eN U N):=by
  refine⟨hsub1,fun p hp1=>World.cell?_of_block (w:=w) (hold hp1.1.1 (hnotown hp1)),fun i h=>.inl h,fun id b2 hu hb=>?_⟩;rcases hlk2 hb with ⟨i,b',hm,hb',rfl⟩|⟨hn,hb'⟩;rcases hmem hm with h|⟨j,_,rfl,l⟩;obtain⟨b0,k0,k1,k2,k3,k4⟩:=hist.blk i b' (hlt _ h) hb';obtain⟨id2,bb,q1,q2,rfl⟩:=hin i b0 k0;have:=(hJ hprs h (bR q1)).1 rfl;subst this;refine⟨bb,q2,k1,k2,by simpa[Blk.r,kA]using k3,fun hle gg hg=>?_⟩;have hg0:σ0 i=some gg:=by rw[hσ0 h];exact hg
  obtain⟨p1,p2⟩:=k4 (by simpa[Blk.r,kA]using hle) gg hg0;exact⟨by rw[hσ2 hm];exact p1,p2⟩;exact absurd hu (hN _ aq aq);refine⟨b2,hb',rfl,rfl,cL _,fun _ gg hg=>⟨by rw[hσ2' hn];exact hg,fun n hn2=>?_⟩⟩;obtain⟨cc,h5,h6⟩:=hn2;exact⟨cc,(hold (ee (hr.at hb' hg)) (hother (fun i hi=>hn i (cD.2 (.inl hi))) hb' hg)).trans h5,h6⟩
 refine⟨x,rfl,r.r ro,hp2,σ2,hK,⟨fun i j bi bj gg hi hj hgi hgj=>?_,fun id b hb=>?_,fun id b hb=>?_,fun id b gg hb hg=>?_,hr'.os.trans hr.os,hr'.tape.trans hr.tape,hr'.output.trans hr.output,Nat.le_trans hr.size hsz,fun b hb hm=>?_⟩,hstep,hx.r hsub2 (fun _ _=>hro _) h3⟩;rcases hlk2 hi with ⟨i1,b1,m1,l1,_⟩|⟨n1,l1⟩<;>rcases hlk2 hj with ⟨i2,b2,m2,l2,_⟩|⟨n2,l2⟩;rw[hσ2 m1]at hgi;rw[hσ2 m2]at hgj;exact(hJ hoprB m1 m2).1 (hr'.inj i1 i2 b1 b2 gg l1 l2 hgi hgj);exfalso;rw[hσ2 m1]at hgi;rw[hσ2' n2]at hgj;rcases hr'.mine i1 b1 gg l1 hgi with h|h;exact hother (fun i hi=>n2 i (cD.2 (.inl hi))) l2 hgj h;have h5:w.heap.size≤gg:=h;have:=ee (hr.at l2 hgj);omega;exfalso;rw[hσ2' n1]at hgi;rw[hσ2 m2]at hgj;rcases hr'.mine i2 b2 gg l2 hgj with h|h;exact hother (fun i hi=>n1 i (cD.2 (.inl hi))) l1 hgi h;have h5:w.heap.size≤gg:=h;have:=ee (hr.at l1 hgi);omega;rw[hσ2' n1]at hgi;rw[hσ2' n2]at hgj;exact hr.inj i j bi bj gg l1 l2 hgi hgj;rcases hlk2 hb with ⟨i1,b1,m1,l1,_⟩|⟨n1,l1⟩;exact hUo m1;exact .inl (hr.lt id b l1);rcases hlk2 hb with ⟨i1,b1,m1,l1,rfl⟩|⟨n1,l1⟩;rw[hσ2 m1];rcases hr'.blk i1 b1 l1 with ⟨k1,k2⟩|⟨gg,k1,k2⟩;exact .inl ⟨k1,(k2.r _).le hr.size⟩;exact .inr ⟨gg,k1,k2.r hsub2 (fun _ _=>hro _) h3⟩;rw[hσ2' n1];rcases hr.blk id b l1 with h0|⟨gg,hg,h0⟩;refine .inl ⟨h0.1,h0.2.keep fun g ms ck hm=>hold (wU hm) fun hM=>?_⟩;obtain⟨_,id2,bb,_,q2,q3⟩:=hM0 hM;obtain⟨ccs,q4,_⟩:=hr.at q2 q3;rw[hm]at q4;cases q4;exact .inr ⟨gg,hg,h0.step hstep (hold (ee h0) (hother (fun i hi=>n1 i (cD.2 (.inl hi))) l1 hg))⟩;rcases hlk2 hb with ⟨i1,b1,m1,l1,_⟩|⟨n1,l1⟩;rw[hσ2 m1]at hg;rcases hr'.mine i1 b1 gg l1 hg with h|h;exact hM0' h;have h5:w.heap.size≤gg:=h;have:=hr.size;exact .inr aq;rw[hσ2' n1]at hg;exact hr.mine id b gg l1 hg;have hb2:b<w.heap.size:=Nat.lt_of_lt_of_le hb hr.size;rw[hold hb2 (fun h=>by
  rcases hM0' h with h|h;exact hm h
  omega)]
 exact hr.old b hb hm
end
structure ZIt where
 g:Option (Tmp×Bool)
 z:Nat
 op:Op
 dst:Option Tmp
inductive Its(ops:Array Oper):List Nat→List ZIt→Prop
 |nil:Its ops [] []
 |plain {z:Nat} {d:Option Tmp} {op:Op} {ty:TypeId} {pos:String} {af:Array Edge} {zs:List Nat} {its:List ZIt} (h:ops[z]?=some ⟨d,op,ty,pos,af,none⟩) (t:Its ops zs its):Its ops (z::zs) (⟨none,z,op,d⟩::its)
 |guard {z:Nat} {d:Option Tmp} {op:Op} {ty:TypeId} {pos:String} {af:Array Edge} {g:Nat} {want:Bool} {gd:Tmp} {zs:List Nat} {its:List ZIt} (h:ops[z]?=some ⟨d,op,ty,pos,af,some (g,want)⟩) (hg:(ops[g]?).bind (·.dst)=some gd) (t:Its ops zs its):Its ops (z::zs) (⟨some (gd,want),z,op,d⟩::its)
section
variable (P:Program) (base:Nat) (hp0:Hp)
def zI(F:Fr→Prop):List ZIt→Fr→Prop
 |[],fr=>F fr
 |⟨none,z,op,d⟩::r,fr=>VV P hp0 fr base op fun v=>zI F r (bz fr d v)
 |⟨some (t,want),z,op,d⟩::r,fr=>match fv t fr with
  | .d (.bool b)=>(b=want→VV P hp0 fr base op fun v=>zI F r (bz fr d v))∧(b=!want→zI F r (bz fr d (.tup [])))
  | .tup []=>zI F r (bz fr d (.tup []))
  |_=>False
def Br (F:Fr→Hp→Prop):List (ZIt × List ZIt)→Nat→Fr→Hp→Prop
 |[],_,fr,hp=>F fr hp
 |(⟨none,z,op,d⟩,zs)::r,m,fr,hp=>bZ P fr hp (base+32*z) op fun v a=>(m≠0→dM hp0 a)∧zI P base hp0 (fun fr=>Br F r (m-1) fr a) zs (bz fr d v)
 | (⟨some (t,want),z,op,d⟩,zs) :: r,m,fr,hp=>match fv t fr with
  | .d (.bool b)=>(b=want→bZ P fr hp (base+32*z) op fun v a=>(m ≠ 0→dM hp0 a)∧zI P base hp0 (fun fr=>Br F r (m - 1) fr a) zs (bz fr d v)) ∧
    (b=!want→zI P base hp0 (fun fr=>Br F r (m-1) fr hp) zs (bz fr d (.tup [])))
  | .tup []=>zI P base hp0 (fun fr=>Br F r (m-1) fr hp) zs (bz fr d (.tup []))
  |_=>False
end
inductive Jts(ops:Array Oper):kX→List (ZIt×List ZIt)→Prop
 |nil:Jts ops [] []
 |plain {z:Nat} {d:Option Tmp} {op:Op} {ty:TypeId} {pos:String} {af:Array Edge} {zs:List Nat} {its:List ZIt} {ss:kX} {jts:List (ZIt×List ZIt)} (h:ops[z]?=some ⟨d,op,ty,pos,af,none⟩) (hz:Its ops zs its) (t:Jts ops ss jts):Jts ops ((z,zs)::ss) ((⟨none,z,op,d⟩,its)::jts)
 |guard {z:Nat} {d:Option Tmp} {op:Op} {ty:TypeId} {pos:String} {af:Array Edge} {g:Nat} {want:Bool} {gd:Tmp} {zs:List Nat} {its:List ZIt} {ss:kX} {jts:List (ZIt×List ZIt)} (h:ops[z]?=some ⟨d,op,ty,pos,af,some (g,want)⟩) (hg:(ops[g]?).bind (·.dst)=some gd) (hz:Its ops zs its) (t:Jts ops ss jts):Jts ops ((z,zs)::ss) ((⟨some (gd,want),z,op,d⟩,its)::jts)
theorem zR{P:Program}{base:Nat}{hp0:Hp}{ops:Array Oper}{C:Fr→Prop}{zs:List Nat}{a:List ZIt}(h:Its ops zs a):∀(fr:Fr),zW P ops base hp0 C zs fr=zI P base hp0 C a fr:=by
 induction h with
 |nil=>intro fr;rfl
 |plain h _ ih =>
  intro fr;simp only[zW,zI,h,ih]
 | @guard z d op ty pos af g want gd zs a h hg _ ih =>
  intro fr;simp only[zW,zI,h,hg,ih];cases fv gd fr with
  |d v=>cases v<;>rfl
  |tup l=>cases l<;>rfl
  |_=>rfl
theorem XY{P:Program}{base:Nat}{hp0:Hp}{ops:Array Oper}{K:Fr→Hp→Prop}{b:kX}{a:List (ZIt×List ZIt)}(h:Jts ops b a):∀(m:Nat)(fr:Fr)(hp:Hp),F8 P ops base hp0 K b m fr hp=Br P base hp0 K a m fr hp:=by
 induction h with
 |nil=>intro m fr hp;rfl
 |plain h hz _ ih =>
  intro m fr hp;simp only[F8,Br,h,ih,zR hz]
 | @guard z d op ty pos af g want gd zs its b a h hg hz _ ih =>
  intro m fr hp;simp only[F8,Br,h,hg,ih,zR hz];cases fv gd fr with
  |d v=>cases v<;>rfl
  |tup l=>cases l<;>rfl
  |_=>rfl
theorem NX{P:Program}{n:Nat}{ops:Array Oper}{Q:Exit→St→Prop}{st:St}(zs:List Nat)(c:kX)(m:Nat){b:List ZIt}{a:List (ZIt×List ZIt)}{k:Nat}(f:Gw n ops zs c m=true)(d:P.follows .mixedOrders=true)(e:ops.size=k)(hz:Its ops zs b)(hj:Jts ops c a)
  (h3:∀F:Fr→Hp→Prop,(∀fr hp,Q .normal ⟨fr,hp,st.nx+32*k⟩→F fr hp)→zI P st.nx st.hp (fun fr=>Br P st.nx st.hp F a m fr st.hp) b st.fr):DrW P n ops Q st:=by
 subst e;refine .inl ⟨zs,c,m,f,d,?_⟩;rw[zR hz];have:=h3 (fun fr hp=>Q .normal ⟨fr,hp,st.nx+32*ops.size⟩) (fun fr hp h=>h);refine cast ?_ this;congr 1;funext fr;exact(XY hj _ _ _).symm
section
variable (P:Program) (base:Nat) (hp0:Hp) (F:Fr→Prop) (G:Fr→Hp→Prop) (fr:Fr) (hp:Hp) (m:Nat) (r:List ZIt) (q:List (ZIt × List ZIt)) (zs:List ZIt)
def ZiK(a:Option Tmp)(v:AV)(b:Hp):Prop:=zI P base hp0 F r (bz fr a v)
def NY(b:Option Tmp)(v:AV)(a:Hp):Prop:=(m≠0→dM hp0 a)∧zI P base hp0 (fun fr=>Br P base hp0 G q (m-1) fr a) zs (bz fr b v)
def XZ(b:Op)(a:Option Tmp):Bool→Prop
 |true=>bZ P fr hp0 base b (ZiK P base hp0 F fr r a)
 |false=>∃v,mY P fr hp0 b v∧zI P base hp0 F r (bz fr a v)
theorem NZ(b:Op)(a:Option Tmp):(VV P hp0 fr base b fun v=>zI P base hp0 F r (bz fr a v))=XZ P base hp0 F fr r b a (be P b):=by
 unfold VV XZ;cases be P b;simp;simp only[if_true];rfl
def N1(e:Op)(c:Option Tmp)(a:Bool):AV→Prop
 | .d (.bool b)=>(b=a→XZ P base hp0 F fr r e c (be P e))∧(b=!a→zI P base hp0 F r (bz fr c (.tup [])))
 | .tup []=>zI P base hp0 F r (bz fr c (.tup []))
 |_=>False
def Rz(e:Op)(c:Option Tmp)(N:Nat)(a:Bool):AV→Prop
 | .d (.bool b)=>(b=a→bZ P fr hp N e (NY P base hp0 G fr m q zs c))∧(b=!a→zI P base hp0 (fun fr=>Br P base hp0 G q (m-1) fr hp) zs (bz fr c (.tup [])))
 | .tup []=>zI P base hp0 (fun fr=>Br P base hp0 G q (m-1) fr hp) zs (bz fr c (.tup []))
 |_=>False
theorem aa2:zI P base hp0 F [] fr=F fr:=rfl
theorem aa3(z:Nat)(a:Op)(d:Option Tmp):zI P base hp0 F (⟨none,z,a,d⟩::r) fr=XZ P base hp0 F fr r a d (be P a):=by
 simp only[zI];exact NZ ..
theorem aa4(t:Tmp)(a:Bool)(z:Nat)(b:Op)(d:Option Tmp):zI P base hp0 F (⟨some (t,a),z,b,d⟩::r) fr=N1 P base hp0 F fr r b d a (fv t fr):=by
 simp only[zI,N1,NZ]
theorem X0(b:Op)(a:Option Tmp):XZ P base hp0 F fr r b a true=bZ P fr hp0 base b (ZiK P base hp0 F fr r a):=rfl
theorem aa5(a:Option Tmp)(v:AV)(b:Hp):ZiK P base hp0 F fr r a v b=zI P base hp0 F r (bz fr a v):=rfl
theorem Ti(c:Op)(b:Option Tmp)(a:Bool):N1 P base hp0 F fr r c b a (.tup [])=zI P base hp0 F r (bz fr b (.tup [])):=rfl
theorem Tj(b:Op)(a:Option Tmp):N1 P base hp0 F fr r b a true (.d (.bool true))=XZ P base hp0 F fr r b a (be P b):=by simp[N1]
theorem Tm(b:Op)(a:Option Tmp):N1 P base hp0 F fr r b a false (.d (.bool false))=XZ P base hp0 F fr r b a (be P b):=by simp[N1]
theorem N2(b:Op)(a:Option Tmp):N1 P base hp0 F fr r b a false (.d (.bool true))=zI P base hp0 F r (bz fr a (.tup [])):=by simp[N1]
theorem N4(b:Op)(a:Option Tmp):N1 P base hp0 F fr r b a true (.d (.bool false))=zI P base hp0 F r (bz fr a (.tup [])):=by simp[N1]
theorem X1:Br P base hp0 G [] m fr hp=G fr hp:=rfl
theorem X2(z:Nat)(a:Op)(d:Option Tmp):Br P base hp0 G ((⟨none,z,a,d⟩,zs)::q) m fr hp=bZ P fr hp (base+32*z) a (NY P base hp0 G fr m q zs d):=rfl
theorem X3(t:Tmp)(a:Bool)(z:Nat)(b:Op)(d:Option Tmp):Br P base hp0 G ((⟨some (t,a),z,b,d⟩,zs)::q) m fr hp=Rz P base hp0 G fr hp m q zs b d (base+32*z) a (fv t fr):=rfl
theorem X4(b:Option Tmp)(v:AV)(a:Hp):NY P base hp0 G fr m q zs b v a=((m≠0→dM hp0 a)∧zI P base hp0 (fun fr=>Br P base hp0 G q (m-1) fr a) zs (bz fr b v)):=rfl
theorem To(c:Op)(b:Option Tmp)(N:Nat)(a:Bool):Rz P base hp0 G fr hp m q zs c b N a (.tup [])=zI P base hp0 (fun fr=>Br P base hp0 G q (m-1) fr hp) zs (bz fr b (.tup [])):=rfl
theorem Tq(b:Op)(a:Option Tmp)(N:Nat):Rz P base hp0 G fr hp m q zs b a N true (.d (.bool true))=bZ P fr hp N b (NY P base hp0 G fr m q zs a):=by simp[Rz]
theorem Tt(b:Op)(a:Option Tmp)(N:Nat):Rz P base hp0 G fr hp m q zs b a N false (.d (.bool false))=bZ P fr hp N b (NY P base hp0 G fr m q zs a):=by simp[Rz]
theorem N5(b:Op)(a:Option Tmp)(N:Nat):Rz P base hp0 G fr hp m q zs b a N false (.d (.bool true))=zI P base hp0 (fun fr=>Br P base hp0 G q (m-1) fr hp) zs (bz fr a (.tup [])):=by simp[Rz]
theorem N6(b:Op)(a:Option Tmp)(N:Nat):Rz P base hp0 G fr hp m q zs b a N true (.d (.bool false))=zI P base hp0 (fun fr=>Br P base hp0 G q (m-1) fr hp) zs (bz fr a (.tup [])):=by simp[Rz]
end
inductive TI where
 |done
 |alt (a b:TI)
 |step (it:ZIt) (zs:List ZIt) (keep:Bool) (t:TI)
section
variable (P:Program) (base:Nat) (hp0:Hp) (F:Fr→Hp→Prop)
def tI:TI→Fr→Hp→Prop
 | .done,fr,hp=>F fr hp
 | .alt a b,fr,hp=>tI a fr hp∧tI b fr hp
 | .step ⟨none,z,op,d⟩ zs keep t,fr,hp=>bZ P fr hp (base+32*z) op fun v c=>(keep=true→dM hp0 c)∧zI P base hp0 (fun fr=>tI t fr c) zs (bz fr d v)
 | .step ⟨some (g,want),z,op,d⟩ zs keep t,fr,hp=>match fv g fr with
  | .d (.bool b)=>(b=want→bZ P fr hp (base+32*z) op fun v c=>(keep=true→dM hp0 c)∧zI P base hp0 (fun fr=>tI t fr c) zs (bz fr d v)) ∧
    (b=!want→zI P base hp0 (fun fr=>tI t fr hp) zs (bz fr d (.tup [])))
  | .tup []=>zI P base hp0 (fun fr=>tI t fr hp) zs (bz fr d (.tup []))
  |_=>False
end
inductive Tts(ops:Array Oper):Tr→TI→Prop
 |done:Tts ops .done .done
 |alt {a b:Tr} {x y:TI} (h:Tts ops a x) (h':Tts ops b y):Tts ops (.alt a b) (.alt x y)
 |plain {z:Nat} {d:Option Tmp} {op:Op} {ty:TypeId} {pos:String} {af:Array Edge} {zs:List Nat} {its:List ZIt} {t:Tr} {x:TI} {keep:Bool} (h:ops[z]?=some ⟨d,op,ty,pos,af,none⟩) (hz:Its ops zs its) (ht:Tts ops t x):Tts ops (.step z zs keep t) (.step ⟨none,z,op,d⟩ its keep x)
 |guard {z:Nat} {d:Option Tmp} {op:Op} {ty:TypeId} {pos:String} {af:Array Edge} {g:Nat} {want:Bool} {gd:Tmp} {zs:List Nat} {its:List ZIt} {t:Tr} {x:TI} {keep:Bool} (h:ops[z]?=some ⟨d,op,ty,pos,af,some (g,want)⟩) (hg:(ops[g]?).bind (·.dst)=some gd) (hz:Its ops zs its) (ht:Tts ops t x):Tts ops (.step z zs keep t) (.step ⟨some (gd,want),z,op,d⟩ its keep x)
theorem aa6{P:Program}{base:Nat}{hp0:Hp}{ops:Array Oper}{K:Fr→Hp→Prop}{t:Tr}{x:TI}(h:Tts ops t x):∀(fr:Fr)(hp:Hp),zg P ops base hp0 K t fr hp=tI P base hp0 K x fr hp:=by
 induction h with
 |done=>intro fr hp;rfl
 |alt _ _ ih1 ih2=>intro fr hp;simp only[zg,tI,ih1,ih2]
 |plain h hz _ ih =>
  intro fr hp;simp only[zg,tI,h,ih,zR hz]
 | @guard z d op ty pos af g want gd zs its t x keep h hg hz _ ih =>
  intro fr hp;simp only[zg,tI,h,hg,ih,zR hz];cases fv gd fr with
  |d v=>cases v<;>rfl
  |tup l=>cases l<;>rfl
  |_=>rfl
theorem aa7{P:Program}{n:Nat}{ops:Array Oper}{Q:Exit→St→Prop}{st:St}(zs is b:List Nat)(t:Tr)(st':St){a:List ZIt}{x:TI}{k:Nat}(e:xh n ops zs is b t=true)(c:P.follows .mixedOrders=true)(d:ops.size=k)(hz:Its ops zs a)(hj:Tts ops t x)
  (h3:∀F:Fr→Hp→Prop,(∀fr hp,Wk ⟨fr,hp,st.nx+32*k⟩ st'→F fr hp)→zI P st.nx st.hp (fun fr=>tI P st.nx st.hp F x fr st.hp) a st.fr) (hq:Q .normal st'):DrW P n ops Q st:=by
 subst d;refine .inr ⟨zs,is,b,t,st',e,c,?_,hq⟩;rw[zR hz];have:=h3 (fun fr hp=>Wk ⟨fr,hp,st.nx+32*ops.size⟩ st') (fun fr hp h=>h);refine cast ?_ this;congr 1;funext fr;exact(aa6 hj _ _).symm
section
variable (P:Program) (base:Nat) (hp0:Hp) (F:Fr→Hp→Prop) (fr:Fr) (hp:Hp)
def TiK(zs:List ZIt)(b:Bool)(x:TI)(c:Option Tmp)(v:AV)(a:Hp):Prop:=(b=true→dM hp0 a)∧zI P base hp0 (fun fr=>tI P base hp0 F x fr a) zs (bz fr c v)
def tiG(zs:List ZIt)(e:Bool)(x:TI)(f:Op)(c:Option Tmp)(N:Nat)(a:Bool):AV→Prop
 | .d (.bool b)=>(b=a→bZ P fr hp N f (TiK P base hp0 F fr zs e x c))∧(b=!a→zI P base hp0 (fun fr=>tI P base hp0 F x fr hp) zs (bz fr c (.tup [])))
 | .tup []=>zI P base hp0 (fun fr=>tI P base hp0 F x fr hp) zs (bz fr c (.tup []))
 |_=>False
theorem aa8:tI P base hp0 F .done fr hp=F fr hp:=rfl
theorem aa9(a b:TI):tI P base hp0 F (.alt a b) fr hp=(tI P base hp0 F a fr hp∧tI P base hp0 F b fr hp):=rfl
theorem aba(z:Nat)(b:Op)(d:Option Tmp)(zs:List ZIt)(a:Bool)(x:TI):tI P base hp0 F (.step ⟨none,z,b,d⟩ zs a x) fr hp=bZ P fr hp (base+32*z) b (TiK P base hp0 F fr zs a x d):=rfl
theorem abb(t:Tmp)(a:Bool)(z:Nat)(c:Op)(d:Option Tmp)(zs:List ZIt)(b:Bool)(x:TI):tI P base hp0 F (.step ⟨some (t,a),z,c,d⟩ zs b x) fr hp=tiG P base hp0 F fr hp zs b x c d (base+32*z) a (fv t fr):=rfl
theorem abd(zs:List ZIt)(a:Bool)(x:TI)(c:Option Tmp)(v:AV)(b:Hp):TiK P base hp0 F fr zs a x c v b=((a=true→dM hp0 b)∧zI P base hp0 (fun fr=>tI P base hp0 F x fr b) zs (bz fr c v)):=rfl
theorem Tu(zs:List ZIt)(c:Bool)(x:TI)(d:Op)(b:Option Tmp)(N:Nat)(a:Bool):tiG P base hp0 F fr hp zs c x d b N a (.tup [])=zI P base hp0 (fun fr=>tI P base hp0 F x fr hp) zs (bz fr b (.tup [])):=rfl
end
attribute [go_sem] aa8 aa9 aba abb abd Tu
attribute [go_sem] aa2 aa3 aa4 X0 aa5 Ti Tj Tm N2 N4 X1 X2 X3 X4 To Tq Tt N5 N6
theorem aS(a:List (Nat×Nat)){P:Program}{g:FuncId}{k:Nat}{hp0:Hp}{args c:List AV}{hp:Hp}{N:Nat}{K:AV→Hp→Prop}{Q:AV→Hp→Prop}(h:cZ P g k hp0 c Q)
  (j:gB a=true) (n:∀p,p∈a→p.1<k) (f:∀p,p∈a→∃b,lk p.2 hp=some b∧b.e≠0)
  (l:∀p,p∈hp0→∃id b,lk p.1 a=some id∧lk id hp=some b∧p.2=b.r (cn (iV a) k))
  (d:c=AV.R (cn (iV a) k) args)
  (v:∀r hp',Q r hp'→∃news,de a news=true∧K (r.r (cn (bK a news N) (N+31))) (cj a news N hp' hp)):uX P g args hp N K :=
 .inl (rh a h j n f (fun i x s=>by
  obtain⟨id,b,u,t,o⟩:=l _ (bR s)
  exact⟨id,b,u,t,o⟩) d v)
theorem DZ{T:Type}{g:T→St}{c:T→Prop}{mu:T→Nat}{t:T}{Q:Exit→St→Prop}{st:St}(d:T)(i:c d)(k:mu d<mu t)(a:List (Nat×Nat))(N:Nat)(b:gB a=true)(e:∀p,p∈a→p.1=p.2∨64≤p.2)(j:∀p,p∈a→p.2<N)(f:64≤N)
  (h:aA ⟨GI (cn a N) st.fr,DY a N st.hp,N+1⟩ (g d)):qP g c mu t Q .normal st:=NV d i k ((XX a N b e j f).trans (b8 h))
theorem KQ{P:Program}{g:FuncId}{args:List AV}{Q:AV→Hp→Prop}{u:AV→Prop}(h:cZ P g 0 [] args Q)(C:∀v,v∈args→v.deep)(hq:∀r c,Q r c→∃k,Snap c (fun _=>True) r k∧k.deep∧u k):ar P g args u:=by
 obtain⟨K,p,J⟩:=h;refine⟨K,fun w S A y B E=>?_⟩;have z:Hand w S (fun _=>none) [] 0:=⟨fun b f=>⟨y b f,fun id a g h=>(by cases h)⟩,fun i j M N g h=>(by cases h),fun i b h=>(by cases h),fun i b h=>(by cases h)⟩;refine(J w S (fun _=>none) A z B (fun i v x t n=>nO (C v (cr t)) (fun b f=>f) (E i v x t n))).mono fun e R L=>?_;obtain⟨x,r,c,T,σ',rfl,I,d,O,n⟩:=L;obtain⟨k,D,l,o⟩:=hq r c I;refine⟨x,k,rfl,o,l,⟨d.os,d.tape,d.output,d.size,fun b f=>d.old b f (fun⟨id,a,hc,_⟩=>by cases hc)⟩,nP (fun b f=>?_) (fun id a g _ p s=>?_) d D n⟩
 rcases f.2 with h|h;rcases h with h|⟨id,a,hc,_⟩;exact .inl h;cases hc;exact .inr ⟨h,f.1.1⟩;rcases d.mine id a g p s with h|h;obtain⟨id,a,hc,_⟩:=h;cases hc;exact .inr ⟨h,ee (d.at p s)⟩
theorem uY(f:List Nat){P:Program}{g:FuncId}{args args':List AV}{hp:Hp}{N:Nat}{K:AV→Hp→Prop}(h:gx P g args' (aC f hp) N K)(o:args.length=args'.length)
  (O:∀(i:Nat)(v k:AV),args[i]?=some v→args'[i]?=some k→k=v∨Snap hp (fun id=>id∈f) v k):gx P g args hp N K:=by
 refine⟨h.1,fun c U σ w L j J M D=>?_⟩;obtain⟨Q,y⟩:=sB f j;refine(h.2 c U σ w L Q J (M.trans o) (fun i k x E C=>?_)).mono fun e X S=>?_;have d:i<args.length:=by have:=(ci.1 E).1;omega
 rcases O i _ k (cm d) E with e|B;rw[e];exact(D i _ x (cm d) C).step y;refine nP (fun b R=>y.sub b R) (fun id l g u A z=>⟨⟨ee (j.at A z),fun s n V a t e=>?_⟩,?_⟩) j B (D i _ x (cm d) C);subst e;rw[kz]at a;split at a;cases a;rename_i I;have:=j.inj id s l n g A a z t;subst this;exact I (by simpa using u);rcases j.mine id l g A z with h|h;exact .inl (c.hM g h);exact .inr h;obtain⟨x,rfl,v,p,σ',T,k2,k3,k4⟩:=S;exact⟨x,rfl,v,p,σ',T,k2,y.trans k3,k4⟩
theorem j8(a:List Nat){P:Program}{g:FuncId}{args args':List AV}{hp:Hp}{N:Nat}{K:AV→Hp→Prop}{Q:AV→Hp→Prop}(h:cZ P g 0 [] args' Q)(c:args.length=args'.length)
  (e:∀(i:Nat)(v b:AV),args[i]?=some v→args'[i]?=some b→Snap hp (fun id=>id∈a) v b) (d:∀ ρ,args'=AV.R ρ args')
  (l:∀r hp',Q r hp'→∃news,de [] news=true∧K (r.r (cn (bK [] news N) (N+31))) (cj [] news N hp' (aC a hp))):uX P g args hp N K :=
 .inl (uY a (rh [] h rfl aw aw (by intro i n f;cases f) (d _) l) c fun i v b k j=>.inr (e i v b k j))
def KR(R:TypeId→List DV→Prop)(size:TypeId→Nat):List TypeId→List DV→Prop
 |[],ds=>ds=[]
 |t::r,ds=>∃a b,ds=a++b∧a.length=size t∧R t a∧KR R size r b
def kH(P:Program):Nat→TypeId→List DV→Prop
 |0,_,_=>False
 |n+1,t,ds =>
  match P.underlying t with
  |some .bool=>∃b,ds=[.bool b]
  |some (.int k)=>∃x,ds=[.int k x]∧k.has x
  |some .string=>∃a:List Int,ds=[.str a]∧a.length≤maxLen∧∀b,b∈a→0≤b∧b<256
  |some (.slice e)=>∃es,ds=[.ro (P.cellsOf e) es]∧es.length≤maxLen∧∀r,r∈es→kH P n e r∧r.length=P.cellsOf e
  |some (.pointer e)=>ds=[.nilp]∨∃cs,ds=[.box cs]∧kH P n e cs∧cs.length=P.cellsOf e
  |some (.struct fs)=>KR (kH P n) P.cellsOf (fs.toList.map (·.type)) ds
  |some (.array m e)=>KR (kH P n) P.cellsOf (List.replicate m e) ds
  |_=>False
def N7(P:Program):Nat→List Field→Option Nat
 |off,[]=>some off
 |off,f::r=>if f.offset=off then N7 P (off+P.cellsOf f.type) r else none
def vM(P:Program):Nat→TypeId→Bool
 |0,_=>false
 |n+1,t =>
  match P.underlying t with
  |some .bool=>true
  |some (.int _)=>true
  |some .string=>true
  |some (.slice e)=>decide (0<P.cellsOf e)&&vM P n e
  |some (.pointer e)=>decide (0<P.cellsOf e)&&vM P n e
  |some (.struct fs)=>decide (N7 P 0 fs.toList=some (P.cellsOf t))&&fs.toList.all fun f=>vM P n f.type
  |some (.array m e)=>decide (m*P.cellsOf e=P.cellsOf t)&&vM P n e
  |_=>false
section
variable {H:Type} {enc:TypeId × Value→H} {P:Program} {w:World} {spare:Nat→Bool}
def Bt(w:World)(a:List DV)(cs:List Value):Prop:=a.length=cs.length∧∀(j:Nat)(d:DV)(v:Value),a[j]?=some d→cs[j]?=some v→DIs w (fun b=>b<w.heap.size) d v
theorem pU{α β:Type}{f:α→Option β}:∀{l:List α}{r:List β},l.mapM f=some r→∀x,x∈l→∃y,f x=some y
 |[],_,_,x,c=>by simp at c
 | a :: l,r,h,x,c=>by
  rw[List.mapM_cons]at h;cases d:f a with
  |none=>simp[d]at h
  | some b =>
   cases e:l.mapM f with
   |none=>simp[d,e]at h
   |some bs =>
    rcases d_.1 c with rfl|c;exact⟨b,d⟩;exact pU e x c
theorem N8{a b:List DV}{cs:List Value}{k:Nat}(g:Bt w a (cs.take k))(n:k≤cs.length)(f:Bt w b (cs.drop k)):Bt w (a++b) cs:=by
 have l:a.length=k:=by rw[g.1];simp;omega
 have e:=f.1;rw[e_]at e;refine⟨by rw[b_];omega,fun j d v c i=>?_⟩;rw[List.getElem?_append]at c;split at c;rename_i h;exact g.2 j d v c (by rw[List.getElem?_take,if_pos aq];exact i);rename_i h;refine f.2 (j-a.length) d v c ?_;rw[List.getElem?_drop,show k+(j-a.length)=j by omega];exact i
theorem o4{R:TypeId→List DV→Prop}{size:TypeId→Nat}:∀(g:List TypeId)(cs:List Value),(g.map size).sum=cs.length →
   (∀(pre:List TypeId)(t:TypeId)(c:List TypeId),g=pre++t::c→∃d,R t d∧Bt w d ((cs.drop (pre.map size).sum).take (size t)))→∃d,KR R size g d∧Bt w d cs
 |[],cs,hl,_=>by
  simp at hl;have:cs=[]:=List.eq_nil_of_length_eq_zero hl.symm;subst this;exact⟨[],rfl,rfl,aw⟩
 | t :: r,cs,hl,h=>by
  simp only[List.map_cons,List.sum_cons]at hl;obtain⟨a,i,f⟩:=h [] t r rfl;simp only[List.map_nil,List.sum_nil,List.drop_zero]at f;obtain⟨b,j,k⟩:=o4 (R:=R) (size:=size) r (cs.drop (size t)) (by rw[e_];omega) fun pre u c e=>by
   obtain⟨d,l,n⟩:=h (t::pre) u c (by rw[e];rfl);refine⟨d,l,?_⟩;rw[List.drop_drop];simpa using n
  refine⟨a++b,⟨a,b,rfl,?_,i,j⟩,N8 f aq k⟩;rw[f.1];simp;omega
theorem IG:∀(c:List Field)(off b:Nat),N7 P off c=some b→off+((c.map (·.type)).map P.cellsOf).sum=b∧∀(pre:List Field)(f:Field)(a:List Field),c=pre++f::a→f.offset=off+((pre.map (·.type)).map P.cellsOf).sum
 |[],off,b,h=>by
  simp only[N7]at h;injection h with h;exact⟨by simpa using h,fun pre f a e=>by simp at e⟩
 | g :: r,off,b,h=>by
  simp only[N7]at h;split at h;rename_i d;obtain⟨j,i⟩:=IG r _ b h;refine⟨by simp only[List.map_cons,List.sum_cons];omega,fun pre f a e=>?_⟩;cases pre with
  |nil=>simp at e;rw[←e.1,d];simp
  |cons p pre =>
   simp at e;have:=i pre f a e.2;rw[this,←e.1];simp only[List.map_cons,List.sum_cons];omega
  ·cases h
theorem Bv(f:TypeId→Nat)(e:TypeId):∀m:Nat,((List.replicate m e).map f).sum=m*f e
 |0=>by simp
 |m+1=>by simp only[List.replicate_succ,List.map_cons,List.sum_cons,Bv f e m,Nat.add_mul,Nat.one_mul];omega
theorem KT{k:IntKind}{x:Int}(h:(Lit.int k x).wf=true):k.has x:=by
 simp only[Lit.wf,Bool.and_eq_true,decide_eq_true_eq]at h;exact h
theorem zS:∀ (fuel n:Nat) (t:TypeId) (cs:List Value) (x:DataW H × List MemPlace),vM P n t=true→DataW.trod enc P w 0 spare true fuel t cs=some x→∃ B,kH P n t B∧Bt w B cs
 |0,_,_,_,_,_,h=>by simp[DataW.trod]at h
 |_+1,0,_,_,_,o,_=>by simp[vM]at o
 | fuel+1,n+1,t,cs,x,o,h=>by
  have ih:=fun e cs x o h=>zS fuel n e cs x o h;have one:∀d v,DIs w (fun b=>b<w.heap.size) d v→Bt w [d] [v]:=by
   intro d v hd;refine⟨rfl,fun j d' v' l E=>?_⟩;cases j with
   |zero=>simp at l E;subst l;subst E;exact hd
   |succ j=>simp at l
  simp only[vM]at o;cases g:P.underlying t with
  |none=>simp[g]at o
  | some td =>
   rw[g]at o;cases td with
   | bool =>
    rcases cs with _|⟨v,_|⟨u,r⟩⟩;simp[DataW.trod,g]at h;cases v<;>simp[DataW.trod,g]at h;exact⟨[.bool _],by simp[kH,g],one _ _ (.bool _)⟩;simp[DataW.trod,g]at h
   | int k =>
    rcases cs with _|⟨v,_|⟨u,r⟩⟩;simp[DataW.trod,g]at h;cases v<;>simp[DataW.trod,g]at h;rename_i k' x';obtain⟨⟨rfl,hw⟩,_⟩:=h;exact⟨[.int _ x'],by simp[kH,g];exact KT hw,one _ _ (.int _ _)⟩;simp[DataW.trod,g]at h
   | string =>
    rcases cs with _|⟨v,_|⟨u,r⟩⟩;simp[DataW.trod,g]at h;cases v<;>simp[DataW.trod,g]at h;rename_i s;refine⟨[.str (s.data.toList.map fun c=>(c.toNat:Int))],?_,one _ _ (.str _)⟩;simp only[kH,g];refine⟨_,rfl,by simpa using h.1,fun b hb=>?_⟩;rw[List.mem_map]at hb;obtain⟨c,_,rfl⟩:=hb;have:=c.toNat_lt;omega;simp[DataW.trod,g]at h
   | slice e =>
    rw[Bool.and_eq_true,decide_eq_true_eq]at o;rcases cs with _|⟨v,_|⟨u,r⟩⟩;simp[DataW.trod,g]at h
    ·cases v with
     | slice A len cap =>
      cases A with
      | none =>
       have:len=0∧cap=0:=by
        rcases len with _|len<;>rcases cap with _|cap<;>simp[DataW.trod,g]at h⊢
       obtain⟨rfl,rfl⟩:=this;refine⟨[.ro (P.cellsOf e) []],by simp[kH,g],one _ _ ?_⟩;exact .ro _ [] none 0 (fun _ _=>default) aw aw aw aw aw
      | some ad =>
       simp only[DataW.trod,g]at h;split at h
       ·rename_i hc;obtain⟨_,ai,ah⟩:=hc;cases he:(List.range len).mapM fun i=>(w.cells? 0 (ad.add (i*P.cellsOf e)) (P.cellsOf e)).bind (DataW.trod enc P w 0 spare true fuel e)with
        |none=>simp[he]at h
        | some elems =>
         have T:∀i,i<len→∃a B,w.cells? 0 (ad.add (i*P.cellsOf e)) (P.cellsOf e)=some a∧kH P n e B∧Bt w B a:=by
          intro i p;obtain⟨y,D⟩:=pU he i (by simp[p]);cases C:w.cells? 0 (ad.add (i*P.cellsOf e)) (P.cellsOf e)with
          |none=>simp[C]at D
          |some a =>
           simp only[C,Option.bind_some]at D;obtain⟨B,l,E⟩:=ih e a y o.2 D;exact⟨a,B,rfl,l,E⟩
         let es:List (List DV):=(List.range len).map fun i=>if p:i<len then(T i p).choose_spec.choose else[]
         have M:∀i r,es[i]?=some r→∃a,i<len∧w.cells? 0 (ad.add (i*P.cellsOf e)) (P.cellsOf e)=some a∧kH P n e r∧Bt w r a:=by
          intro i r K;have p:i<len:=by
           have:=(ci.1 K).1;simpa[es]using this
          simp only[es,cU,List.getElem?_range p,Option.map_some,Option.some.injEq,dif_pos p]at K;subst K;exact⟨(T i p).choose,p,(T i p).choose_spec.choose_spec⟩
         have aa:es.length=len:=(by simp[es]);have X:∀r,r∈es→kH P n e r∧r.length=P.cellsOf e:=by
          intro r K;obtain⟨i,p⟩:=List.getElem?_of_mem K;obtain⟨a,_,l,E,V⟩:=M i r p;exact⟨E,by rw[V.1,(World.cells?_some l).2.1]⟩
         refine⟨[.ro (P.cellsOf e) es],?_,one _ _ ?_⟩;simp only[kH,g];exact⟨es,rfl,aq,X⟩;have:=DIs.ro (w:=w) (S:=fun b=>b<w.heap.size) (P.cellsOf e) es (some ad) cap (fun i j=>(w.cell? (ad.add (i*P.cellsOf e+j))).getD undef) aq (fun r K=>(X r K).2)
          (fun r K=>⟨ad,rfl,by
           obtain⟨i,p⟩:=List.getElem?_of_mem K;obtain⟨a,_,l,_,_⟩:=M i r p;have:=World.cells?_block l o.1
           rwa [fx]at this⟩)
          (fun a' ha i j r y p J=>by
           injection ha with ha;subst ha;obtain⟨a,_,l,_,V⟩:=M i r p;have I:j<P.cellsOf e:=by
            have:=(ci.1 J).1;rw[V.1,(World.cells?_some l).2.1]at this;exact this
           have Y:=(World.cells?_some l).2.2 j I;rw[mn]at Y;have:a[j]?=some (a[j]'(by rw[(World.cells?_some l).2.1];exact I)):=cm _;rw[Y,this]
           rfl)
          (fun i j r y p J=>by
           obtain⟨a,_,l,_,V⟩:=M i r p;have I:j<P.cellsOf e:=by
            have:=(ci.1 J).1;rw[V.1,(World.cells?_some l).2.1]at this;exact this
           have Y:=(World.cells?_some l).2.2 j I;rw[mn]at Y;have U:a[j]?=some (a[j]'(by rw[(World.cells?_some l).2.1];exact I)):=cm _;rw[Y,U]
           exact V.2 j y _ J U)
         rw[aa]at this;exact this
       ·cases h
     |_=>simp[DataW.trod,g]at h
    ·simp[DataW.trod,g]at h
   | pointer e =>
    rw[Bool.and_eq_true,decide_eq_true_eq]at o;rcases cs with _|⟨v,_|⟨u,r⟩⟩;simp[DataW.trod,g]at h;cases v with
    | pointer A =>
     cases A with
     |none=>exact⟨[.nilp],by simp[kH,g],one _ _ .nilp⟩
     | some ad =>
      simp only[DataW.trod,g]at h;cases C:w.cells? 0 ad (P.cellsOf e)with
      |none=>simp[C]at h
      | some a =>
       simp only[C,Option.bind_some]at h;cases D:DataW.trod enc P w 0 spare true fuel e a with
       |none=>simp[D]at h
       | some y =>
        obtain⟨B,l,E⟩:=ih e a y o.2 D;have hc:=World.cells?_some C;refine⟨[.box B],?_,one _ _ (.box B ad (fun j=>(w.cell? (ad.add j)).getD undef) (World.cells?_block C o.1) (fun j z hz=>?_) (fun j z hz=>?_))⟩;simp only[kH,g];exact .inr ⟨B,rfl,l,by rw[E.1,hc.2.1]⟩;have J:j<P.cellsOf e:=by
         have:=(ci.1 hz).1;rw[E.1,hc.2.1]at this;exact this
        have U:a[j]?=some (a[j]'(by rw[hc.2.1];exact J)):=cm _;rw[hc.2.2 j J,U];rfl;have J:j<P.cellsOf e:=by
         have:=(ci.1 hz).1;rw[E.1,hc.2.1]at this;exact this
        have U:a[j]?=some (a[j]'(by rw[hc.2.1];exact J)):=cm _;rw[hc.2.2 j J,U];exact E.2 j z _ hz U
    |_=>simp[DataW.trod,g]at h
    ·simp[DataW.trod,g]at h
   | struct fs =>
    rw[Bool.and_eq_true,decide_eq_true_eq]at o;obtain⟨ab,Q⟩:=o;obtain⟨l1,l2⟩:=IG fs.toList 0 _ ab;have hh:cs.length=P.cellsOf t∧∃L,(fs.toList.mapM fun f=>DataW.trod enc P w 0 spare true fuel f.type ((cs.drop f.offset).take (P.cellsOf f.type)))=some L:=by
     simp only[DataW.trod,g]at h;split at h;rename_i hc;cases hm:(fs.toList.mapM fun f=>DataW.trod enc P w 0 spare true fuel f.type ((cs.drop f.offset).take (P.cellsOf f.type)))with
     |none=>simp[hm]at h
     |some L=>exact⟨hc,L,rfl⟩
     ·cases h
    obtain⟨hc,L,O⟩:=hh;obtain⟨B,d1,d2⟩:=o4 (w:=w) (R:=kH P n) (size:=P.cellsOf) (fs.toList.map (·.type)) cs aq (fun pre u Z e=>by
     rw[List.map_eq_append_iff]at e;obtain⟨fp,fr,e1,e2,e3⟩:=e;rw[List.map_eq_cons_iff]at e3;obtain⟨f,af,e4,e5,e6⟩:=e3;subst e2 e5;have N:f∈fs.toList:=by rw[e1,e4];simp
     obtain⟨y,D⟩:=pU O f N;have ho:=l2 fp f af (by rw[e1,e4]);rw[Nat.zero_add]at ho;rw[ho]at D
     exact ih _ _ y (fa.1 Q f N) D)
    exact⟨B,by simp only[kH,g];exact d1,d2⟩
   | array m e =>
    rw[Bool.and_eq_true,decide_eq_true_eq]at o;obtain⟨ab,Q⟩:=o;have hh:cs.length=P.cellsOf t∧∃L,((List.range m).mapM fun i=>DataW.trod enc P w 0 spare true fuel e ((cs.drop (i*P.cellsOf e)).take (P.cellsOf e)))=some L:=by
     simp only[DataW.trod,g]at h;split at h;rename_i hc;cases hm:((List.range m).mapM fun i=>DataW.trod enc P w 0 spare true fuel e ((cs.drop (i*P.cellsOf e)).take (P.cellsOf e)))with
     |none=>simp[hm]at h
     |some L=>exact⟨hc,L,rfl⟩
     ·cases h
    obtain⟨hc,L,O⟩:=hh;obtain⟨B,d1,d2⟩:=o4 (w:=w) (R:=kH P n) (size:=P.cellsOf) (List.replicate m e) cs (by rw[Bv];omega) (fun pre u Z h'=>by
     have ae:pre.length<m:=by
      have:=congrArg List.length h';simp at this;omega
     have ac:pre=List.replicate pre.length e:=List.eq_replicate_iff.2 ⟨rfl,fun x hx=>List.eq_of_mem_replicate (n:=m) (by rw[h'];simp[hx])⟩;have ag:u=e:=by
      have:u∈List.replicate m e:=by rw[h'];simp
      exact List.eq_of_mem_replicate this
     subst ag;obtain⟨y,D⟩:=pU O pre.length (by simp[ae]);have hs:(pre.map P.cellsOf).sum=pre.length*P.cellsOf u:=by
      rw[ac,Bv,List.length_replicate]
     rw[hs]
     exact ih _ _ y Q D)
    exact⟨B,by simp only[kH,g];exact d1,d2⟩
   |_=>simp at o
end
section
open Go.ChangeShapes Go.RowKit
def sF(P:Program)(n:Nat)(t:TypeId)(a:AV):Prop :=
 match P.underlying t with
 |some (.struct _)=>∃ds,a=.agg (ds.map .d)∧kH P n t ds
 |some (.array _ _)=>∃ds,a=.agg (ds.map .d)∧kH P n t ds
 |_=>∃d,a=.d d∧kH P n t [d]
def Bw(P:Program)(n:Nat):List TypeId→List AV→Prop
 |[],as=>as=[]
 |t::ts,as=>∃a r,as=a::r∧sF P n t a∧Bw P n ts r
section
variable {H:Type} {enc:TypeId × Value→H} {P:Program} {W:World}
theorem X5{n:Nat}{t:TypeId}{v:Value}{d:DataW H}{ps:List MemPlace}{base:Nat}(o:vM P n t=true)(f:Value.okWide P W .any base t v)(h:DataW.Trod enc P W 0 (fun _=>true) true t v d ps) :
  ∃a,sF P n t a∧AIs W (fun b=>b<W.heap.size) (fun _=>none) [] (fun _=>False) a v:=by
 obtain⟨s,h⟩:=h;obtain⟨j,y,g⟩:=zS s n t _ _ o h;have agg:(∃p,v=.agg p∧p.size=P.cellsOf t∧Row.okWide P W .any base t p)→∃a,(∃j,a=.agg (j.map .d)∧kH P n t j)∧AIs W (fun b=>b<W.heap.size) (fun _=>none) [] (fun _=>False) a v:=by
  rintro⟨p,rfl,_,_⟩;simp only[Value.cells]at g;have z:j.length=p.size:=by simpa using g.1
  refine⟨_,⟨j,rfl,y⟩,.agg _ p (by simp[z]) (fun i x u=>?_) (fun i c x hc u=>?_)⟩;have B:i<j.length:=by
   have:=(Array.getElem?_eq_some_iff.1 u).1;omega
  exact A6 (g.2 i j[i] x (cm B) (by simpa using u));simp only[cU,Option.map_eq_some_iff]at hc;obtain⟨d,A,rfl⟩:=hc;exact .d (g.2 i d x A (by simpa using u))
 have one:v.cells=#[v]→∃a,(∃d,a=.d d∧kH P n t [d])∧AIs W (fun b=>b<W.heap.size) (fun _=>none) [] (fun _=>False) a v:=by
  intro hc;rw[hc]at g;simp only at g;have z:=g.1
  match j,z,y,g with
  |[d],_,y,g=>exact⟨_,⟨d,rfl,y⟩,.d (g.2 0 d v rfl rfl)⟩
 unfold sF;unfold Value.okWide at f;cases n with
 |zero=>simp[vM]at o
 | succ n =>
  simp only[vM]at o;cases l:P.underlying t with
  |none=>simp[l]at o
  | some td =>
   rw[l]at o f;cases td with
   |struct fs=>exact agg f
   |array m e=>exact agg f
   |bool =>
    simp only[Cell.okWide,Cell.ok,l]at f;refine one ?_;cases v<;>simp at f<;>rfl
   |int k =>
    simp only[Cell.okWide,Cell.ok,l]at f;refine one ?_;cases v<;>simp at f<;>rfl
   |string =>
    simp only[Cell.okWide,Cell.ok,l]at f;refine one ?_;cases v<;>simp at f<;>rfl
   |slice e =>
    simp only[Cell.okWide,Cell.ok,l]at f;refine one ?_;cases v<;>simp at f<;>rfl
   |pointer e =>
    simp only[Cell.okWide,Cell.ok,l]at f;refine one ?_;cases v<;>simp at f<;>rfl
   |_=>simp at o
theorem IH{n:Nat}{base:Nat}:∀(c:List TypeId)(vs:List Value)(f:List (DataW H))(ps:List MemPlace),c.all (vM P n)=true→(∀(j:Nat)(t:TypeId)(v:Value),c[j]?=some t→vs[j]?=some v→Value.okWide P W .any base t v) →
  DataW.TrodAll enc P W 0 (fun _=>true) true c vs f ps→vs.length=c.length∧f.length=c.length∧∃e,Bw P n c e∧e.length=c.length∧∀(i:Nat)(a:AV)(x:Value),e[i]?=some a→vs[i]?=some x→AIs W (fun b=>b<W.heap.size) (fun _=>none) [] (fun _=>False) a x
 |[],vs,f,ps,_,_,h=>by
  cases vs<;>cases f<;>simp[DataW.TrodAll]at h
  exact⟨rfl,rfl,[],rfl,rfl,aw⟩
 |t::c,vs,f,ps,hk,hv,h=>by
  obtain⟨v,u,d,s,p,q,rfl,rfl,rfl,B,z⟩:=trodAll_cons h;simp only[List.all_cons,Bool.and_eq_true]at hk;obtain⟨a,l,o⟩:=X5 hk.1 (hv 0 t v rfl rfl) B;obtain⟨C,D,e,E,k2,k3⟩:=IH c u s q hk.2 (fun j t v A y=>hv (j+1) t v (by simpa using A) (by simpa using y)) z;refine⟨by simp[C],by simp[D],a::e,⟨a,e,rfl,l,E⟩,by simp[k2],fun i b x k g=>?_⟩;cases i with
  |zero=>simp at k g;subst k;subst g;exact o
  |succ i=>simp at k g;exact k3 i b x k g
theorem qQ(i:laidOutB P=true){k:World}(j:Below W.heap.size W k):∀(a:List TypeId)(vs:List Value)(c:List (DataW H))(ps:List MemPlace),(a.all fun t=>P.readableRec t&&decide (t<P.types.size))=true→(∀x,x∈ps→x.block<W.heap.size) →
  DataW.TrodAll enc P W 0 (fun _=>true) true a vs c ps→DataW.TrodAll enc P k 0 (fun b=>decide (b<W.heap.size)) true a vs c ps
 |[],vs,c,ps,_,_,h=>by
  cases vs<;>cases c<;>simp[DataW.TrodAll]at h⊢
  exact h
 |t::a,vs,c,ps,hk,hlt,h=>by
  obtain⟨v,g,d,f,p,q,rfl,rfl,rfl,n,l⟩:=trodAll_cons h;simp only[List.all_cons,Bool.and_eq_true,decide_eq_true_eq]at hk;exact⟨p,q,Below.trod i hk.1.1 hk.1.2 n j (fun x e=>hlt x (by simp[e])),qQ i j a g f q hk.2 (fun x e=>hlt x (by simp[e])) l,rfl⟩
theorem Tv{f:Func}{s:ChangeSpec}{g:FuncId}{n base:Nat}{args:Array Value}{i Q:List (DataW H)}{c:List MemPlace}{M:TypeId}(O:laidOutB P=true)(N:f.resultTypes=#[M])(B:P.underlying M=some .bool)(a:s.vars=[])
  (E:(f.params.toList.all fun t=>P.readableRec t&&decide (t<P.types.size))=true) (A:f.params.toList.all (vM P n)=true)
  (u:∀(j:Nat)(t:TypeId)(v:Value),f.params[j]?=some t→args[j]?=some v→Value.okWide P W .any base t v) (J:DataW.Whole enc P f.params.toList s.vars false W args.toList i Q c)
  (R:∀i:List (DataW H),i.length=f.params.size→s.fn H i={ results:=[.lit (.bool true)],args:=i })
  (o:∀z,Bw P n f.params.toList z→ar P g z (fun r=>r=.d (.bool true))) :
  Calls P g args W fun e K=>∃v,e=.returned v∧s.post enc P f false true false false W args v K:=by
 have l:=J;obtain⟨p,q,L,I,rfl,V,U⟩:=J;rw[a]at I;obtain⟨rfl,rfl⟩:=trodVars_none I;obtain⟨l1,X,z,Z,k2,k3⟩:=IH f.params.toList args.toList i p A (fun j t v T S=>u j t v (by simpa using T) (by simpa using S)) L;have hc:=(o z Z).2 W (fun b=>b<W.heap.size) args.toList (fun b y=>y) aq k3;have e:args.toList.toArray=args:=Array.toArray_toList;rw[e]at hc;refine hc.mono fun e K Y=>?_;obtain⟨x,r,rfl,rfl,hd,y,C⟩:=Y;have D:=gZ C;subst D;have k:=R i (by simpa using X);refine⟨_,rfl,i,[],p++[],[],p,[],l,?_,?_,?_,y.frame _,fun h=>by cases h⟩
 rw[List.append_nil,k,N];exact trodAll_mk1 (shut_bool B true);rw[List.append_nil,k];exact qQ O y _ _ _ _ E (fun x C=>by simpa using l.lt x (by simp[C])) L
 rw[a,List.append_nil,k];rfl
end
theorem xn{α β:Type}{enc:α→β}{R:α→Prop}:∀{es:List β},(∀r,r∈es→∃o,r=enc o∧R o)→∃os:List α,es=os.map enc∧∀o,o∈os→R o
 |[],_=>⟨[],rfl,aw⟩
 |e::es,h=>by
  obtain⟨o,rfl,b⟩:=h e (dz ..);obtain⟨os,rfl,a⟩:=xn fun r c=>h r (cS _ c);exact⟨o::os,rfl,fun x d=>by rcases d_.1 d with rfl|h;exact b;exact a x h⟩
end
theorem cK{P:Program}{n:Nat}{ops:Array Oper}{Q:Exit→St→Prop}{st:St}(zs:List Nat)(c:kX)(m:Nat){b:List ZIt}{a:List (ZIt×List ZIt)}{k:Nat}
  (h3:∀F:Fr→Hp→Prop,(∀fr hp,Q .normal ⟨fr,hp,st.nx+32*k⟩→F fr hp)→zI P st.nx st.hp (fun fr=>Br P st.nx st.hp F a m fr st.hp) b st.fr)
  (f:Gw n ops zs c m=true:=by kernel_rfl) (d:P.follows .mixedOrders=true:=by kernel_rfl) (e:ops.size=k:=by rfl) (hz:Its ops zs b:=by repeat (first|exact Its.nil|apply Its.plain rfl|apply Its.guard rfl rfl))
  (hj:Jts ops c a:=by repeat (first|exact Jts.nil|exact Its.nil|apply Its.plain rfl|apply Its.guard rfl rfl|apply Jts.plain rfl|apply Jts.guard rfl rfl)):DrW P n ops Q st:=NX zs c m f d e hz hj h3
theorem dI{P:Program}{n:Nat}{ops:Array Oper}{Q:Exit→St→Prop}{st:St}(zs is b:List Nat)(t:Tr)(st':St){a:List ZIt}{x:TI}{k:Nat}
  (h3:∀F:Fr→Hp→Prop,(∀fr hp,Wk ⟨fr,hp,st.nx+32*k⟩ st'→F fr hp)→zI P st.nx st.hp (fun fr=>tI P st.nx st.hp F x fr st.hp) a st.fr) (hq:Q .normal st')
  (e:xh n ops zs is b t=true:=by kernel_rfl) (c:P.follows .mixedOrders=true:=by kernel_rfl) (d:ops.size=k:=by rfl) (hz:Its ops zs a:=by repeat (first|exact Its.nil|apply Its.plain rfl|apply Its.guard rfl rfl))
  (hj:Tts ops t x:=by repeat (first|exact Tts.done|exact Its.nil|apply Tts.alt|apply Its.plain rfl|apply Its.guard rfl rfl|apply Tts.plain rfl|apply Tts.guard rfl rfl)):DrW P n ops Q st:=aa7 zs is b t st' e c d hz hj h3 hq
theorem dN{a b:Nat}(h:Nat.ble a b=true):a≤b:=Nat.le_of_ble_eq_true h
theorem bL{P:Program}{g:FuncId}{fn:Func}{code:Code}{args:List AV}{Q:AV→Prop}{n:Nat}{rs:List ResultVar}(hf:P.funcs[g]?=some fn)(hnt:fn.ntmps=n)(hd:∀v,v∈args→v.deep)(h:oL P n code (Nq P rs (dG Q)) ⟨ME 0 args,[],0⟩)
  (hn : (fn.name == "runtime.NumGoroutine") = false := by kernel_rfl) (hb : fn.body = some code := by exact rfl) (hrs : fn.results.toList = rs := by exact rfl) (hle : args.length ≤ n := by exact (dN rfl)) : ar P g args Q := KI hf hn hb hnt hrs hle hd h
theorem qK{st st':St} (h:aA st st':=by
   simp only[aA,ai];refine⟨?_,?_,aw⟩
   ·repeat (refine List.forall_mem_cons.2 ⟨⟨.inl (Eq.symm (by assumption)),by simp[AV.low,AV.l]⟩,?_⟩)
    exact List.forall_mem_nil _
   ·repeat (refine List.forall_mem_cons.2 ⟨⟨.inl (by first|rfl|assumption),aw,by first|exact List.forall_mem_cons.2 ⟨by first|exact cH _ _|exact uL _ _ _ _|exact ou _ _ _ _|exact aI _ _|exact dU _ _ _ _ (by simp[AV.l]) (by simp[AV.l]),List.forall_mem_nil _⟩|exact aZ _ _|exact tL _ _|exact LQ _ _ _ _⟩,?_⟩)
    exact List.forall_mem_nil _):Wk st st':=b8 h
end Go.Proofs.YtmfnimjnneflnaaGreat
