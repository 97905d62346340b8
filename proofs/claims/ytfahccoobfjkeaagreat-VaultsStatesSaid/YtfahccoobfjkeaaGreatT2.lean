/-
  Part 3 of what the claim rests on.
-/
import Derived.Test.YtfahccoobfjkeaaGreatT1
import Derived.ProofKit
set_option linter.unusedVariables false
set_option linter.unusedSimpArgs false
set_option maxRecDepth 100000
set_option maxHeartbeats 16000000
namespace Go.Am
mutual
def AV.ren (ρ:Nat→Nat):AV→AV
  | .any=>.any
  | .d v=>.d v
  | .agg cs=>.agg (AV.renL ρ cs)
  | .tup vs=>.tup (AV.renL ρ vs)
  | .own id i0 len tot=>.own (ρ id) i0 len tot
  | .sub id i off e len cap tot=>.sub (ρ id) i off e len cap tot
  | .ptr id i off tot=>.ptr (ρ id) i off tot
  | .rop cs=>.rop cs
  | .fn f cs=>.fn f (AV.renL ρ cs)
  | .nil=>.nil
  | .mp id=>.mp (ρ id)
def AV.renL (ρ:Nat→Nat):List AV→List AV
  | []=>[]
  | a :: r=>a.ren ρ :: AV.renL ρ r
end
theorem renL_len (ρ:Nat→Nat):∀ l,(AV.renL ρ l).length=l.length
  | []=>by simp [AV.renL]
  | a :: r=>by simp [AV.renL,renL_len ρ r]
theorem renL_get (ρ:Nat→Nat):∀ (l:List AV) (i:Nat),(AV.renL ρ l)[i]?=(l[i]?).map (AV.ren ρ)
  | [],i=>by simp [AV.renL]
  | a :: r,0=>by simp [AV.renL]
  | a :: r,i+1=>by simp [AV.renL,renL_get ρ r i]
def renR (ρ:Nat→Nat) (rows:List (List AV)):List (List AV):=rows.map (AV.renL ρ)
def Blk.ren (ρ:Nat→Nat) (b:Blk):Blk:=⟨b.ty,b.e,renR ρ b.es⟩
theorem AIs.ren {w:World} {S S':Nat→Prop} {σ σ':Nat→Option Nat} {hp hp':Hp} {U U':Nat→Prop} {ρ:Nat→Nat} (hS:∀ b,S b→S' b) (h1:∀ id,U id→U' (ρ id))
    (h2:∀ id b',U id→lk (ρ id) hp'=some b'→∃ b,lk id hp=some b∧b'.e=b.e∧b'.ty=b.ty∧b'.es.length=b.es.length∧σ' (ρ id)=σ id) {a:AV} {v:Value} (h:AIs w S σ hp U a v):AIs w S' σ' hp' U' (a.ren ρ) v:=by
  induction h with
  | any v=>exact .any v
  | d h=>exact .d (h.mono hS fun _ _=>rfl)
  | agg cs xs hl h1 _ ih =>
    refine .agg _ xs (by rw [renL_len];exact hl) h1 fun i c x hc hx=>?_
    rw [renL_get] at hc
    cases hc':cs[i]? with
    | none=>rw [hc'] at hc;simp at hc
    | some c'=>rw [hc'] at hc;simp at hc;subst hc;exact ih i c' x hc' hx
  | tup cs xs hl _ ih =>
    refine .tup _ xs (by rw [renL_len];exact hl) fun i c x hc hx=>?_
    rw [renL_get] at hc
    cases hc':cs[i]? with
    | none=>rw [hc'] at hc;simp at hc
    | some c'=>rw [hc'] at hc;simp at hc;subst hc;exact ih i c' x hc' hx
  | own id i0 len tot A cap hN hl h0 h =>
    refine .own _ i0 len tot A cap (h1 _ hN) hl h0 fun b' hb'=>?_
    obtain ⟨b,hb,he,hty,hle,hσ⟩:=h2 id b' hN hb'
    obtain ⟨k1,k2⟩:=h b hb
    rw [hσ,he,hty,hle]
    exact ⟨k1,k2⟩
  | sub id i off e len cap tot A hN hl h0 h =>
    refine .sub _ i off e len cap tot A (h1 _ hN) hl h0 fun b' hb'=>?_
    obtain ⟨b,hb,he,hty,hle,hσ⟩:=h2 id b' hN hb'
    obtain ⟨k1,k2⟩:=h b hb
    rw [hσ,he,hle]
    exact ⟨k1,k2⟩
  | ptr id i off tot a hN h =>
    refine .ptr _ i off tot a (h1 _ hN) fun b' hb'=>?_
    obtain ⟨b,hb,he,hty,hle,hσ⟩:=h2 id b' hN hb'
    obtain ⟨k1,k2⟩:=h b hb
    rw [hσ,he,hle]
    exact ⟨k1,k2⟩
  | rop cs ad vs h1 h2 h3=>exact .rop cs ad vs (hS _ h1) h2 fun j y hy=>(h3 j y hy).mono hS fun _ _=>rfl
  | fn f cs xs hl _ ih =>
    refine .fn f _ xs (by rw [renL_len];exact hl) fun i c x hc hx=>?_
    rw [renL_get] at hc
    cases hc':cs[i]? with
    | none=>rw [hc'] at hc;simp at hc
    | some c'=>rw [hc'] at hc;simp at hc;subst hc;exact ih i c' x hc' hx
  | nil=>exact .nil
  | mp id g hN h =>
    refine .mp _ g (h1 _ hN) fun b' hb'=>?_
    obtain ⟨b,hb,_,hty,_⟩:=h2 id b' hN hb'
    rw [hty]
    exact h b hb
theorem renL_keyR (ρ:Nat→Nat):∀ u,AV.renL ρ (keyR u)=keyR u
  | []=>rfl
  | _ :: u=>by
    show AV.renL ρ (.d _ :: keyR u)=_
    rw [AV.renL,renL_keyR ρ u]
    rfl
theorem NoB.ren {n:Nat} {w:World} {b:Blk} (ρ:Nat→Nat) (h:NoB n w b):NoB n w (b.ren ρ):=by
  rcases h with h | ⟨h0,hn,ks,ms,clock,h1,h2⟩
  · exact .inl (by simp [Blk.ren,renR,h])
  · refine .inr ⟨h0,hn,ks,ms,clock,?_,h2⟩
    simp only [Blk.ren,renR,h1,mapR,List.map_cons,List.map_map,AV.renL,AV.ren]
    congr 1
    exact List.map_congr_left fun u _=>renL_keyR ρ u
def ctxE (w:World) (S:Nat→Prop) (σ:Nat→Option Nat) (hp0:Hp) (k n:Nat) (hk:k≤64):Ctx where
  w0:=w
  M0:=fun b=>∃ id blk,lk id hp0=some blk∧σ id=some b
  S0:=fun b=>S b ∨ ∃ id blk,lk id hp0=some blk∧σ id=some b
  n:=n
  hM:=fun b h=>.inr h
  Sx:=S
  σx:=σ
  hpx:=hp0
  kx:=k
  hk:=hk
structure Hand (w:World) (S:Nat→Prop) (σ:Nat→Option Nat) (hp0:Hp) (k:Nat):Prop where
  lo:∀ b,S b→b<w.heap.size∧∀ id blk g,lk id hp0=some blk→σ id=some g→b ≠ g
  inj:∀ i j bi bj g,lk i hp0=some bi→lk j hp0=some bj→σ i=some g→σ j=some g→i=j
  lt:∀ i b,lk i hp0=some b→i<k
  blk:∀ i b,lk i hp0=some b→(σ i=none∧b.es=[]) ∨ ∃ g,σ i=some g∧BlkOk w S σ hp0 (fun i=>i<k+1) g b
def RetsE (P:Program) (g:FuncId) (k:Nat) (hp0:Hp) (args:List AV) (Q:AV→Hp→Prop):Prop :=
  (∃ fn, P.funcs[g]? = some fn ∧ (fn.name == "runtime.NumGoroutine") = false ∧ fn.body.isNone = false) ∧
  ∃ hk:k≤64,∀ (w:World) (S:Nat→Prop) (σ:Nat→Option Nat) (vs:List Value),Hand w S σ hp0 k→vs.length=args.length →
    (∀ (i:Nat) (v:AV) (x:Value),args[i]?=some v→vs[i]?=some x→AIs w S σ hp0 (fun i=>i<k+1) v x) →
    Calls P g vs.toArray w fun e w'=>∃ x r hp' U' σ',e=.returned x∧Q r hp'∧Rel (ctxE w S σ hp0 k 0 hk) hp' U' σ' w'∧Hist (ctxE w S σ hp0 k 0 hk) hp' U' σ' w' ∧
      AIs w' (Sof (ctxE w S σ hp0 k 0 hk) w' σ' hp') σ' hp' U' r x
section
variable {P:Program}
theorem sofE {w:World} {S:Nat→Prop} {σ:Nat→Option Nat} {hp0:Hp} {k n:Nat} {hk:k≤64} (h:Hand w S σ hp0 k) {b:Nat} (hb:S b):Sof (ctxE w S σ hp0 k n hk) w σ hp0 b :=
  ⟨h.lo b hb,.inl (.inl hb)⟩
theorem BlkOk.mono {w:World} {S S':Nat→Prop} {σ:Nat→Option Nat} {hp:Hp} {U:Nat→Prop} {g:Nat} {b:Blk} (hS:∀ b,S b→S' b) (h:BlkOk w S σ hp U g b):BlkOk w S' σ hp U g b:=by
  obtain ⟨ccs,h1,h2,h3,h4,h5⟩:=h
  exact ⟨ccs,h1,h2,h3,h4,fun i j x y v a1 a2 a3=>(h5 i j x y v a1 a2 a3).step ⟨hS,fun _ _=>rfl,fun _ h=>h,fun id b' _ h=>⟨b',h,rfl,rfl,Nat.le_refl _,fun _ g hg=>⟨hg,fun _ h=>h⟩⟩⟩⟩
theorem fnE_of_awp {g : FuncId} {fn : Func} {code : Code} {k : Nat} {hp0 : Hp} {args : List AV} {Q : AV → Hp → Prop} (hf : P.funcs[g]? = some fn) (hn : (fn.name == "runtime.NumGoroutine") = false) (hb : fn.body = some code)
    {n:Nat} {rs:List ResultVar} (hnt:fn.ntmps=n) (hrs:fn.results.toList=rs) (hle:args.length≤n) (hk:k≤64)
    (h:awp P n code (EndK P rs (fun v st=>Q v st.hp)) ⟨fr0 0 args,hp0,k+1⟩):RetsE P g k hp0 args Q:=by
  subst hnt
  subst hrs
  refine ⟨⟨fn,hf,hn,by simp [hb]⟩,hk,fun w S σ vs hH hl hv=>?_⟩
  have hsz:((vs.toArray ++ Array.replicate (fn.ntmps - vs.toArray.size) undef):Array Value).size=fn.ntmps:=by simp;omega
  refine calls_of_wp hf hb ?_
  let c:Ctx:=ctxE w S σ hp0 k fn.ntmps hk
  have hsof:∀ b,S b→Sof c w σ hp0 b:=fun b hb=>sofE hH hb
  have hst0:Step w S σ hp0 (fun i=>i<k+1) w (Sof c w σ hp0) σ hp0 (fun i=>i<k+1):=⟨hsof,fun _ _=>rfl,fun _ h=>h,fun id b' _ h=>⟨b',h,rfl,rfl,Nat.le_refl _,fun _ g hg=>⟨hg,fun _ h=>h⟩⟩⟩
  have hsim:Sim c ⟨fr0 0 args,hp0,k+1⟩ { tmps:=vs.toArray ++ Array.replicate (fn.ntmps - vs.toArray.size) undef,defers:=[] } w:=by
    refine ⟨rfl,hsz,σ,⟨hH.inj,fun i b h=>Nat.lt_succ_of_lt (hH.lt i b h),fun i b h=>?_,fun i b g h hg=>.inl ⟨i,b,h,hg⟩,rfl,rfl,rfl,Nat.le_refl _,fun _ _ _=>rfl⟩,fun n=>?_,⟨hsof,fun _ _=>rfl,fun i h=>Nat.lt_succ_of_lt h,fun id b' _ h=>⟨b',h,rfl,rfl,Nat.le_refl _,fun _ g hg=>⟨hg,fun _ h=>h⟩⟩⟩⟩
    · rcases hH.blk i b h with h0 | ⟨g,h1,h2⟩
      · exact .inl ⟨h0.1,.inl h0.2⟩
      · exact .inr ⟨g,h1,h2.mono hsof⟩
    · simp only [fv,lk_fr0,Nat.zero_le,if_true,Nat.sub_zero]
      cases hn:args[n]? with
      | none=>exact .any _
      | some v =>
        have hlt:n<vs.length:=by have:=(List.getElem?_eq_some_iff.1 hn).1;omega
        have hx:vs[n]?=some vs[n]:=List.getElem?_eq_getElem hlt
        have:(vs.toArray ++ Array.replicate (fn.ntmps - vs.toArray.size) undef).getD n undef=vs[n]:=by
          rw [Array.getD_eq_getD_getElem?,Array.getElem?_append,if_pos (by simpa using hlt)]
          simp [hx]
        rw [this]
        simp only [Option.getD_some]
        exact (hv n v _ hn hx).step hst0
  have fin:∀ st a w',retW P fn.results.toList (fun v st=>Q v st.hp) st→Sim c st a w'→∃ v,(results fn a.tmps).run P w'=.ok v w'∧∃ x r hp' U' σ',Ending.returned v=.returned x∧Q r hp'∧Rel (ctxE w S σ hp0 k 0 hk) hp' U' σ' w'∧Hist (ctxE w S σ hp0 k 0 hk) hp' U' σ' w' ∧
      AIs w' (Sof (ctxE w S σ hp0 k 0 hk) w' σ' hp') σ' hp' U' r x:=by
    intro st a w' hret hs
    obtain ⟨v,x,hQ,hrun,σ',hr,hx,hh⟩:=retW_is hs hret
    exact ⟨x,hrun,x,v,st.hp,_,σ',rfl,hQ,⟨hr.inj,hr.lt,hr.blk,hr.mine,hr.os,hr.tape,hr.output,hr.size,hr.old⟩,hh,hx⟩
  refine wp_mono (awp_snd (c:=c) code _ _ _ w h hsim) fun e a w' ⟨st,hq,hs⟩=>?_
  cases e with
  | normal=>exact ⟨hs.1,fin st a w' hq hs⟩
  | ret=>exact ⟨hs.1,fin st a w' hq hs⟩
  | _=>exact hq.elim
theorem lk_app {α:Type} (n:Nat):∀ (a b:List (Nat × α)),lk n (a ++ b)=match lk n a with | some v=>some v | none=>lk n b
  | [],b=>rfl
  | (m,v) :: t,b=>by
    simp only [List.cons_append,lk]
    split
    · rfl
    · exact lk_app n t b
theorem lk_filter {α:Type} (f:Nat→Bool) (n:Nat):∀ (l:List (Nat × α)),lk n (l.filter fun p=>f p.1)=if f n then lk n l else none
  | []=>by simp [lk]
  | (m,v) :: t=>by
    have ih:=lk_filter f n t
    by_cases hm:f m=true
    · rw [List.filter_cons_of_pos (by exact hm)]
      simp only [lk]
      by_cases h:m=n
      · subst h;simp [hm]
      · simp only [if_neg h,ih]
    · rw [List.filter_cons_of_neg (by exact hm),ih]
      simp only [lk]
      by_cases h:m=n
      · subst h;simp [hm]
      · simp only [if_neg h]
def prsB (prs:List (Nat × Nat)):Bool:=prs.all fun p=>prs.all fun q=>(p.1 == q.1) == (p.2 == q.2)
theorem prs_iff {prs:List (Nat × Nat)} (h:prsB prs=true) {i a j b:Nat} (h1:(i,a) ∈ prs) (h2:(j,b) ∈ prs):i=j ↔ a=b:=by
  have:=List.all_eq_true.1 (List.all_eq_true.1 h _ h1) _ h2
  simp only [beq_iff_eq] at this
  by_cases e:i=j
  · subst e
    by_cases e2:a=b
    · simp [e2]
    · simp [e2] at this
  · by_cases e2:a=b
    · simp [e,e2] at this
    · simp [e,e2]
theorem lk_of_mem {prs:List (Nat × Nat)} (hf:∀ i a b,(i,a) ∈ prs→(i,b) ∈ prs→a=b) {i a:Nat} (h:(i,a) ∈ prs):lk i prs=some a:=by
  cases hl:lk i prs with
  | none =>
    exfalso
    revert h hl
    clear hf
    induction prs with
    | nil=>intro h;cases h
    | cons p t ih =>
      obtain ⟨m,v⟩:=p
      intro h hl
      simp only [lk] at hl
      by_cases e:m=i
      · simp [e] at hl
      · rw [if_neg e] at hl
        rcases List.mem_cons.1 h with h | h
        · cases h;exact e rfl
        · exact ih h hl
  | some b=>rw [hf i a b h (lk_mem hl)]
def swp (prs:List (Nat × Nat)):List (Nat × Nat):=prs.map fun p=>(p.2,p.1)
theorem mem_swp {prs:List (Nat × Nat)} {a i:Nat}:(a,i) ∈ swp prs ↔ (i,a) ∈ prs:=by
  simp only [swp,List.mem_map]
  constructor
  · rintro ⟨⟨x,y⟩,h,e⟩;cases e;exact h
  · intro h;exact ⟨(i,a),h,rfl⟩
theorem lk_fst {prs:List (Nat × Nat)} (h:prsB prs=true) {i a:Nat}:lk i prs=some a ↔ (i,a) ∈ prs :=
  ⟨lk_mem,fun hm=>lk_of_mem (fun i a b h1 h2=>(prs_iff h h1 h2).1 rfl) hm⟩
theorem lk_snd {prs:List (Nat × Nat)} (h:prsB prs=true) {i a:Nat}:lk a (swp prs)=some i ↔ (i,a) ∈ prs :=
  ⟨fun hl=>mem_swp.1 (lk_mem hl),fun hm=>lk_of_mem (fun i a b h1 h2=>(prs_iff h (mem_swp.1 h1) (mem_swp.1 h2)).2 rfl) (mem_swp.2 hm)⟩
def rho (prs:List (Nat × Nat)) (d:Nat) (i:Nat):Nat:=(lk i prs).getD d
theorem rho_of {prs:List (Nat × Nat)} {d i a:Nat} (h:lk i prs=some a):rho prs d i=a:=by simp [rho,h]
theorem rho_eq {prs:List (Nat × Nat)} {d i a:Nat} (h:rho prs d i=a) (hd:a ≠ d):lk i prs=some a:=by
  unfold rho at h
  cases hl:lk i prs with
  | none=>rw [hl] at h;exact absurd h.symm hd
  | some b=>rw [hl] at h;simp at h;rw [h]
def outP (prs news:List (Nat × Nat)) (N:Nat):List (Nat × Nat):=prs ++ news.map fun p=>(p.1,N+p.2)
def outH (prs news:List (Nat × Nat)) (N:Nat) (hp' hp:Hp):Hp :=
  ((outP prs news N).filterMap fun p=>(lk p.1 hp').map fun b=>(p.2,b.ren (rho (outP prs news N) (N+31)))) ++ hp.filter fun p=>!(prs.map (·.2)).contains p.1
def newsB (prs news:List (Nat × Nat)):Bool:=prsB news && news.all fun p=>decide (p.2<31) && prs.all fun q=>q.1 != p.1
theorem out_lk {prs news:List (Nat × Nat)} {N:Nat} {hp' hp:Hp} {id:Nat} {b:Blk} (h:lk id (outH prs news N hp' hp)=some b) :
    (∃ i b',(i,id) ∈ outP prs news N∧lk i hp'=some b'∧b=b'.ren (rho (outP prs news N) (N+31))) ∨ ((∀ i,(i,id) ∉ prs)∧lk id hp=some b):=by
  unfold outH at h
  rw [lk_app] at h
  split at h
  · rename_i v hv
    injection h with h
    subst h
    have:=lk_mem hv
    rw [List.mem_filterMap] at this
    obtain ⟨⟨i,id'⟩,h1,h2⟩:=this
    simp only at h2
    cases hl:lk i hp' with
    | none=>rw [hl] at h2;simp at h2
    | some b' =>
      rw [hl] at h2
      simp only [Option.map_some,Option.some.injEq,Prod.mk.injEq] at h2
      obtain ⟨rfl,rfl⟩:=h2
      exact .inl ⟨i,b',h1,hl,rfl⟩
  · rw [lk_filter fun n=>!(prs.map (·.2)).contains n] at h
    split at h
    · rename_i hc
      refine .inr ⟨fun i hi=>?_,h⟩
      simp only [Bool.not_eq_true',List.contains_eq_mem,decide_eq_false_iff_not,List.mem_map,not_exists,not_and] at hc
      exact hc (i,id) hi rfl
    · cases h
theorem renR_len (ρ:Nat→Nat) (rows:List (List AV)):(renR ρ rows).length=rows.length:=by simp [renR]
theorem BlkOk.ren {w:World} {S S':Nat→Prop} {σ σ':Nat→Option Nat} {hp hp':Hp} {U U':Nat→Prop} {ρ:Nat→Nat} (hS:∀ b,S b→S' b) (h1:∀ id,U id→U' (ρ id))
    (h2:∀ id b',U id→lk (ρ id) hp'=some b'→∃ b,lk id hp=some b∧b'.e=b.e∧b'.ty=b.ty∧b'.es.length=b.es.length∧σ' (ρ id)=σ id) {g:Nat} {b:Blk} (h:BlkOk w S σ hp U g b):BlkOk w S' σ' hp' U' g (b.ren ρ):=by
  obtain ⟨ccs,k1,k2,k3,k4,k5⟩:=h
  refine ⟨ccs,k1,k2,fun x hx=>?_,by simp only [Blk.ren,renR_len];exact k4,fun i j x y v a1 a2 a3=>?_⟩
  · simp only [Blk.ren,renR,List.mem_map] at hx
    obtain ⟨y,hy,rfl⟩:=hx
    rw [renL_len]
    exact k3 y hy
  · simp only [Blk.ren,renR,List.getElem?_map] at a1
    cases hx:b.es[i]? with
    | none=>rw [hx] at a1;simp at a1
    | some x0 =>
      rw [hx] at a1
      simp only [Option.map_some,Option.some.injEq] at a1
      subst a1
      rw [renL_get] at a2
      cases hy:x0[j]? with
      | none=>rw [hy] at a2;simp at a2
      | some y0 =>
        rw [hy] at a2
        simp only [Option.map_some,Option.some.injEq] at a2
        subst a2
        exact (k5 i j x0 y0 v hx hy a3).ren hS h1 h2
def renH (prs:List (Nat × Nat)) (d:Nat) (hp:Hp):Hp:=prs.filterMap fun p=>(lk p.1 hp).map fun b=>(p.2,b.ren (rho prs d))
def renF (ρ:Nat→Nat):Fr→Fr
  | []=>[]
  | (n,v) :: r=>(n,v.ren ρ) :: renF ρ r
theorem fv_renF (ρ:Nat→Nat) (n:Nat):∀ fr:Fr,fv n (renF ρ fr)=(fv n fr).ren ρ
  | []=>rfl
  | (m,v) :: r=>by
    simp only [renF,fv_cons,fv_renF ρ n r]
    split <;> rfl
theorem renH_lk {prs:List (Nat × Nat)} {d:Nat} {hp:Hp} {j:Nat} {b:Blk} (h:lk j (renH prs d hp)=some b):∃ i b0,(i,j) ∈ prs∧lk i hp=some b0∧b=b0.ren (rho prs d):=by
  have:=lk_mem h
  unfold renH at this
  rw [List.mem_filterMap] at this
  obtain ⟨⟨i,j'⟩,h1,h2⟩:=this
  simp only at h2
  cases hl:lk i hp with
  | none=>rw [hl] at h2;simp at h2
  | some b' =>
    rw [hl] at h2
    simp only [Option.map_some,Option.some.injEq,Prod.mk.injEq] at h2
    obtain ⟨rfl,rfl⟩:=h2
    exact ⟨i,b',h1,hl,rfl⟩
theorem ren_wk (prs:List (Nat × Nat)) (N:Nat) {st:St} (hprs:prsB prs=true) (hlo:∀ p,p ∈ prs→p.1=p.2 ∨ 64≤p.2) (hN:∀ p,p ∈ prs→p.2<N) (h64:64≤N):Wk st ⟨renF (rho prs N) st.fr,renH prs N st.hp,N+1⟩:=by
  rintro c a w ⟨q1,q2,σ,hr,hf,hh⟩
  have hσ:∀ i j,(i,j) ∈ prs→(lk j (swp prs)).bind σ=σ i:=fun i j h=>by rw [(lk_snd hprs).2 h];rfl
  have hU:∀ id,id<st.nx→rho prs N id<N+1:=fun id _=>by
    unfold rho
    cases hl:lk id prs with
    | none=>simp
    | some k=>have:=hN _ (lk_mem hl);simp only [Option.getD_some];omega
  have h2:∀ id b',id<st.nx→lk (rho prs N id) (renH prs N st.hp)=some b'→∃ b,lk id st.hp=some b∧b'.e=b.e∧b'.ty=b.ty∧b'.es.length=b.es.length∧(lk (rho prs N id) (swp prs)).bind σ=σ id:=by
    intro id b' _ hb
    obtain ⟨i,b0,h1,h3,rfl⟩:=renH_lk hb
    have hne:rho prs N id ≠ N:=by have:=hN _ h1;simp only at this;omega
    have h4:=lk_mem (rho_eq (rfl:rho prs N id=rho prs N id) hne)
    have:i=id:=(prs_iff hprs h1 h4).2 rfl
    subst this
    exact ⟨b0,h3,rfl,rfl,by simp only [Blk.ren,renR_len],hσ _ _ h4⟩
  have hS:∀ b,Sof c w σ st.hp b→Sof c w (fun j=>(lk j (swp prs)).bind σ) (renH prs N st.hp) b:=by
    rintro b ⟨⟨k1,k2⟩,k3⟩
    refine ⟨⟨k1,fun id blk g hb hg=>?_⟩,k3⟩
    obtain ⟨i,b0,h1,h3,rfl⟩:=renH_lk hb
    simp only [hσ _ _ h1] at hg
    exact k2 i b0 g h3 hg
  refine ⟨q1,q2,fun j=>(lk j (swp prs)).bind σ,⟨fun i j bi bj g hi hj si sj=>?_,fun i b hi=>?_,fun i b hi=>?_,fun i b g hi hg=>?_,hr.os,hr.tape,hr.output,hr.size,hr.old⟩,fun n=>?_,⟨fun b hb=>hS b (hh.sub b hb),hh.cell,fun i hi=>?_,fun id b' hid hb=>?_⟩⟩
  · obtain ⟨i0,b1,h1,h3,rfl⟩:=renH_lk hi
    obtain ⟨j0,b2,h4,h5,rfl⟩:=renH_lk hj
    simp only [hσ _ _ h1] at si
    simp only [hσ _ _ h4] at sj
    exact (prs_iff hprs h1 h4).1 (hr.inj i0 j0 _ _ g h3 h5 si sj)
  · obtain ⟨i0,b1,h1,h3,rfl⟩:=renH_lk hi
    have h4:=hN _ h1
    simp only at h4 ⊢
    omega
  · obtain ⟨i0,b1,h1,h3,rfl⟩:=renH_lk hi
    rcases hr.blk i0 b1 h3 with ⟨k1,k2⟩ | ⟨g,k1,k2⟩
    · exact .inl ⟨(hσ _ _ h1).trans k1,k2.ren _⟩
    · exact .inr ⟨g,(hσ _ _ h1).trans k1,k2.ren hS hU h2⟩
  · obtain ⟨i0,b1,h1,h3,rfl⟩:=renH_lk hi
    simp only [hσ _ _ h1] at hg
    exact hr.mine i0 b1 g h3 hg
  · simp only [fv_renF]
    exact (hf n).ren hS hU h2
  · have:=c.hk
    have h4:i<c.kx:=hi
    simp only
    omega
  · obtain ⟨i0,b1,h1,h3,rfl⟩:=renH_lk hb
    have hkx:=c.hk
    have h4:id<c.kx:=hid
    have:i0=id:=by
      rcases hlo _ h1 with h | h
      · exact h
      · simp only at h;omega
    subst this
    obtain ⟨b,m1,m2,m3,m4,m5⟩:=hh.blk i0 b1 hid h3
    refine ⟨b,m1,m2,m3,by simp only [Blk.ren,renR_len];exact m4,fun he g hg=>?_⟩
    simp only [Blk.ren,renR_len] at he
    obtain ⟨n1,n2⟩:=m5 he g hg
    exact ⟨(hσ _ _ h1).trans n1,n2⟩
theorem callsA_eff (prs:List (Nat × Nat)) {g:FuncId} {k:Nat} {hp0:Hp} {args args0:List AV} {hp:Hp} {N:Nat} {K:AV→Hp→Prop} {Q:AV→Hp→Prop} (h:RetsE P g k hp0 args0 Q)
    (hprs:prsB prs=true) (hlt:∀ p,p ∈ prs→p.1<k) (hall:∀ p,p ∈ prs→∃ b,lk p.2 hp=some b∧b.e ≠ 0)
    (hin:∀ i b0,lk i hp0=some b0→∃ id b,lk i prs=some id∧lk id hp=some b∧b0=b.ren (rho (swp prs) k))
    (hargs:args0=AV.renL (rho (swp prs) k) args)
    (hK:∀ r hp',Q r hp'→∃ news,newsB prs news=true∧K (r.ren (rho (outP prs news N) (N+31))) (outH prs news N hp' hp)):CallsA P g args hp N K:=by
  refine ⟨h.1,fun c U σ w vs hr hN hl hv=>?_⟩
  obtain ⟨hk,hcon⟩:=h.2
  let σ0:Nat→Option Nat:=fun i=>(lk i prs).bind σ
  let ri:=rho (swp prs) k
  have hσ0:∀ {i id},(i,id) ∈ prs→σ0 i=σ id:=by
    intro i id hm
    simp only [σ0,(lk_fst hprs).2 hm,Option.bind_some]
  have hri:∀ {id i b},ri id=i→lk i hp0=some b→(i,id) ∈ prs:=by
    intro id i b he hb
    have hik:i<k:=by
      obtain ⟨id',b',h1,_,_⟩:=hin i b hb
      exact hlt _ (lk_mem h1)
    exact mem_swp.1 (lk_mem (rho_eq he (by omega)))
  have hU:∀ id,U id→ri id<k+1:=by
    intro id _
    simp only [ri,rho]
    cases hl:lk id (swp prs) with
    | none=>simp
    | some i=>have:=hlt _ (mem_swp.1 (lk_mem hl));simp;omega
  have h2:∀ id b',U id→lk (ri id) hp0=some b'→∃ b,lk id hp=some b∧b'.e=b.e∧b'.ty=b.ty∧b'.es.length=b.es.length∧σ0 (ri id)=σ id:=by
    intro id b' _ hb
    have hm:=hri rfl hb
    obtain ⟨id',b,h3,h4,rfl⟩:=hin _ _ hb
    have:=(prs_iff hprs hm (lk_mem h3)).1 rfl
    subst this
    exact ⟨b,h4,rfl,rfl,renR_len _ _,hσ0 hm⟩
  have hhand:Hand w (Sof c w σ hp) σ0 hp0 k:=by
    refine ⟨fun b hb=>⟨hb.1.1,fun i blk gg hi hg=>?_⟩,fun i j bi bj gg hi hj hgi hgj=>?_,fun i b hi=>?_,fun i b hi=>?_⟩
    · obtain ⟨id,b',h3,h4,_⟩:=hin i blk hi
      rw [hσ0 (lk_mem h3)] at hg
      exact hb.1.2 id b' gg h4 hg
    · obtain ⟨id,b',h3,h4,_⟩:=hin i bi hi
      obtain ⟨id2,b2,h5,h6,_⟩:=hin j bj hj
      rw [hσ0 (lk_mem h3)] at hgi
      rw [hσ0 (lk_mem h5)] at hgj
      exact (prs_iff hprs (lk_mem h3) (lk_mem h5)).2 (hr.inj id id2 b' b2 gg h4 h6 hgi hgj)
    · obtain ⟨id,b',h3,h4,_⟩:=hin i b hi
      exact hlt _ (lk_mem h3)
    · obtain ⟨id,b',h3,h4,rfl⟩:=hin i b hi
      rw [hσ0 (lk_mem h3)]
      rcases hr.blk id b' h4 with ⟨k1,k2⟩ | ⟨gg,k1,k2⟩
      · obtain ⟨b1,q1,q2⟩:=hall _ (lk_mem h3)
        rw [h4] at q1
        injection q1 with q1
        subst q1
        exact .inl ⟨k1,by simp [Blk.ren,renR,k2.none q2]⟩
      · exact .inr ⟨gg,k1,k2.ren (fun _ h=>h) hU h2⟩
  refine (hcon w (Sof c w σ hp) σ0 vs hhand (by rw [hargs,renL_len];exact hl) (fun i v x hi hx=>?_)).mono fun e w' he=>?_
  · rw [hargs,renL_get] at hi
    cases ha:args[i]? with
    | none=>rw [ha] at hi;simp at hi
    | some a =>
      rw [ha] at hi
      simp only [Option.map_some,Option.some.injEq] at hi
      subst hi
      exact (hv i a x ha hx).ren (fun _ h=>h) hU h2
  obtain ⟨x,r,hp',U',σ',rfl,hQ,hr',hist,hx⟩:=he
  obtain ⟨news,hnews,hK⟩:=hK r hp' hQ
  simp only [newsB,Bool.and_eq_true,List.all_eq_true,decide_eq_true_eq,bne_iff_ne,ne_eq] at hnews
  obtain ⟨hnp,hnews⟩:=hnews
  let c0:=ctxE w (Sof c w σ hp) σ0 hp0 k 0 hk
  let opr:=outP prs news N
  let ro:=rho opr (N+31)
  let hp2:=outH prs news N hp' hp
  have hUprs:∀ {i id},(i,id) ∈ prs→U id:=by
    intro i id hm
    obtain ⟨b,hb,_⟩:=hall _ hm
    exact hr.lt id b hb
  have hmem:∀ {i id},(i,id) ∈ opr→(i,id) ∈ prs ∨ ∃ j,(i,j) ∈ news∧id=N+j∧j<31:=by
    intro i id hm
    rcases List.mem_append.1 hm with h | h
    · exact .inl h
    · obtain ⟨⟨a,j⟩,h1,h2⟩:=List.mem_map.1 h
      cases h2
      exact .inr ⟨j,h1,rfl,(hnews _ h1).1⟩
  have hoprB:prsB opr=true:=by
    refine List.all_eq_true.2 fun p hp1=>List.all_eq_true.2 fun q hq1=>?_
    have key:p.1=q.1 ↔ p.2=q.2:=by
      rcases hmem (i:=p.1) (id:=p.2) hp1 with h1 | ⟨j,h1,e1,l1⟩ <;> rcases hmem (i:=q.1) (id:=q.2) hq1 with h2 | ⟨j2,h2,e2,l2⟩
      · exact prs_iff hprs h1 h2
      · have a1:p.1 ≠ q.1:=(hnews _ h2).2 _ h1
        have a2:p.2 ≠ q.2:=fun e=>hN (N+j2) (by omega) (by omega) (by rw [← e2,← e];exact hUprs h1)
        exact ⟨fun e=>absurd e a1,fun e=>absurd e a2⟩
      · have a1:q.1 ≠ p.1:=(hnews _ h1).2 _ h2
        have a2:p.2 ≠ q.2:=fun e=>hN (N+j) (by omega) (by omega) (by rw [← e1,e];exact hUprs h2)
        exact ⟨fun e=>absurd e.symm a1,fun e=>absurd e a2⟩
      · rw [e1,e2]
        rw [prs_iff hnp h1 h2]
        omega
    rw [beq_iff_eq,Bool.eq_iff_iff,beq_iff_eq,beq_iff_eq]
    exact key
  have hdum:∀ {i},(i,N+31) ∉ opr:=by
    intro i hm
    rcases hmem hm with h | ⟨j,_,e,l⟩
    · exact hN (N+31) (by omega) (by omega) (hUprs h)
    · omega
  let σ2:Nat→Option Nat:=fun id=>match lk id (swp opr) with
    | some i=>σ' i
    | none=>σ id
  have hσ2:∀ {i id},(i,id) ∈ opr→σ2 id=σ' i:=by
    intro i id hm
    simp only [σ2,(lk_snd hoprB).2 hm]
  have hσ2':∀ {id},(∀ i,(i,id) ∉ opr)→σ2 id=σ id:=by
    intro id hm
    simp only [σ2]
    cases hl:lk id (swp opr) with
    | none=>rfl
    | some i=>exact absurd ((lk_snd hoprB).1 hl) (hm i)
  -- what a block of the caller's is now
  have hlk2:∀ {id b},lk id hp2=some b→(∃ i b',(i,id) ∈ opr∧lk i hp'=some b'∧b=b'.ren ro) ∨ ((∀ i,(i,id) ∉ opr)∧lk id hp=some b):=by
    intro id b hb
    rcases out_lk hb with h | ⟨h1,h2⟩
    · exact .inl h
    · refine .inr ⟨fun i hm=>?_,h2⟩
      rcases hmem hm with h | ⟨j,_,rfl,l⟩
      · exact h1 i h
      · exact hN (N+j) (by omega) (by omega) (hr.lt _ _ h2)
  have hUo:∀ {i id},(i,id) ∈ opr→unite U N id:=by
    intro i id hm
    rcases hmem hm with h | ⟨j,_,rfl,l⟩
    · exact .inl (hUprs h)
    · exact .inr ⟨by omega,by omega⟩
  have hro:∀ i,unite U N (ro i):=by
    intro i
    simp only [ro,rho]
    cases hl:lk i opr with
    | none=>exact .inr ⟨Nat.le_add_right N 31,Nat.lt_succ_self (N+31)⟩
    | some id=>exact hUo (lk_mem hl)
  -- what the callee owned at the beginning
  have hM0:∀ {b},c0.M0 b→∃ i id bb,(i,id) ∈ prs∧lk id hp=some bb∧σ id=some b:=by
    rintro b ⟨i,blk,hi,hg⟩
    obtain ⟨id,bb,h3,h4,_⟩:=hin i blk hi
    rw [hσ0 (lk_mem h3)] at hg
    exact ⟨i,id,bb,lk_mem h3,h4,hg⟩
  have hM0':∀ {b},c0.M0 b→c.M0 b ∨ c.w0.heap.size≤b:=by
    intro b hb
    obtain ⟨i,id,bb,_,h4,hg⟩:=hM0 hb
    exact hr.mine id bb b h4 hg
  have hother:∀ {id b gg},(∀ i,(i,id) ∉ prs)→lk id hp=some b→σ id=some gg→¬ c0.M0 gg:=by
    intro id b gg hn hb hg hm
    obtain ⟨i,id2,bb,h1,h2,h3⟩:=hM0 hm
    have:=hr.inj id id2 b bb gg hb h2 hg h3
    subst this
    exact hn i h1
  have hsz:w.heap.size≤w'.heap.size:=hr'.size
  have hold:∀ {b},b<w.heap.size→¬ c0.M0 b→w'.heap[b]?=w.heap[b]?:=fun hb hm=>hr'.old _ hb hm
  have hnotown:∀ {b},Sof c w σ hp b→¬ c0.M0 b:=by
    intro b hb hm
    obtain ⟨i,id,bb,_,h2,h3⟩:=hM0 hm
    exact hb.1.2 id bb b h2 h3 rfl
  have hin_prs:∀ {i id},(i,id) ∈ opr→i<k→(i,id) ∈ prs ∨ False ∨ ∃ j,(i,j) ∈ news:=by
    intro i id hm _
    rcases hmem hm with h | ⟨j,h,_,_⟩
    · exact .inl h
    · exact .inr (.inr ⟨j,h⟩)
  have hsub1:∀ b,Sof c w σ hp b→Sof c w' σ2 hp2 b:=by
    intro b hb
    refine ⟨⟨Nat.lt_of_lt_of_le hb.1.1 hsz,fun id blk gg hi hg=>?_⟩,hb.2⟩
    rcases hlk2 hi with ⟨i,b',hm,hb',_⟩ | ⟨hn,hb'⟩
    · rw [hσ2 hm] at hg
      intro e
      subst e
      rcases hr'.mine i b' b hb' hg with h | h
      · exact hnotown hb h
      · have h5:w.heap.size≤b:=h
        have:=hb.1.1
        omega
    · rw [hσ2' hn] at hg
      exact hb.1.2 id blk gg hb' hg
  have hsub2:∀ b,Sof c0 w' σ' hp' b→Sof c w' σ2 hp2 b:=by
    intro b hb
    refine ⟨⟨hb.1.1,fun id blk gg hi hg=>?_⟩,?_⟩
    · rcases hlk2 hi with ⟨i,b',hm,hb',_⟩ | ⟨hn,hb'⟩
      · rw [hσ2 hm] at hg
        exact hb.1.2 i b' gg hb' hg
      · rw [hσ2' hn] at hg
        intro e
        subst e
        have hlt2:b<w.heap.size:=blk_lt (hr.at hb' hg)
        rcases hb.2 with (h | h) | h
        · exact h.1.2 id blk b hb' hg rfl
        · exact hother (fun i hi=>hn i (List.mem_append.2 (.inl hi))) hb' hg h
        · have h5:w.heap.size≤b:=h
          omega
    · rcases hb.2 with (h | h) | h
      · exact h.2
      · rcases hM0' h with h | h
        · exact .inl (c.hM _ h)
        · exact .inr h
      · have h5:w.heap.size≤b:=h
        have:=hr.size
        exact .inr (by omega)
  -- the callee's blocks,renamed
  have h3:∀ id b',U' id→lk (ro id) hp2=some b'→∃ b,lk id hp'=some b∧b'.e=b.e∧b'.ty=b.ty∧b'.es.length=b.es.length∧σ2 (ro id)=σ' id:=by
    intro id b' _ hb
    rcases hlk2 hb with ⟨i,b0,hm,hb0,rfl⟩ | ⟨hn,hb'⟩
    · have he:lk id opr=some (ro id):=rho_eq rfl (fun e=>by rw [e] at hm;exact hdum hm)
      have hii:=(prs_iff hoprB (lk_mem he) hm).2 rfl
      subst hii
      exact ⟨b0,hb0,rfl,rfl,renR_len _ _,hσ2 hm⟩
    · exfalso
      cases hl:lk id opr with
      | none =>
        have:ro id=N+31:=by simp [ro,rho,hl]
        rw [this] at hb'
        exact hN (N+31) (by omega) (by omega) (hr.lt _ _ hb')
      | some y =>
        have he:ro id=y:=rho_of hl
        exact hn id (by rw [he];exact lk_mem hl)
  have hstep:Step w (Sof c w σ hp) σ hp U w' (Sof c w' σ2 hp2) σ2 hp2 (unite U N):=by
    refine ⟨hsub1,fun p hp1=>World.cell?_of_block (w:=w) (hold hp1.1.1 (hnotown hp1)),fun i h=>.inl h,fun id b2 hu hb=>?_⟩
    rcases hlk2 hb with ⟨i,b',hm,hb',rfl⟩ | ⟨hn,hb'⟩
    · rcases hmem hm with h | ⟨j,_,rfl,l⟩
      · obtain ⟨b0,k0,k1,k2,k3,k4⟩:=hist.blk i b' (hlt _ h) hb'
        obtain ⟨id2,bb,q1,q2,rfl⟩:=hin i b0 k0
        have:=(prs_iff hprs h (lk_mem q1)).1 rfl
        subst this
        refine ⟨bb,q2,k1,k2,by simpa [Blk.ren,renR_len] using k3,fun hle gg hg=>?_⟩
        have hg0:σ0 i=some gg:=by rw [hσ0 h];exact hg
        obtain ⟨p1,p2⟩:=k4 (by simpa [Blk.ren,renR_len] using hle) gg hg0
        exact ⟨by rw [hσ2 hm];exact p1,p2⟩
      · exact absurd hu (hN _ (by omega) (by omega))
    · refine ⟨b2,hb',rfl,rfl,Nat.le_refl _,fun _ gg hg=>⟨by rw [hσ2' hn];exact hg,fun n hn2=>?_⟩⟩
      obtain ⟨cc,h5,h6⟩:=hn2
      exact ⟨cc,(hold (blk_lt (hr.at hb' hg)) (hother (fun i hi=>hn i (List.mem_append.2 (.inl hi))) hb' hg)).trans h5,h6⟩
  refine ⟨x,rfl,r.ren ro,hp2,σ2,hK,⟨fun i j bi bj gg hi hj hgi hgj=>?_,fun id b hb=>?_,fun id b hb=>?_,fun id b gg hb hg=>?_,hr'.os.trans hr.os,hr'.tape.trans hr.tape,hr'.output.trans hr.output,Nat.le_trans hr.size hsz,fun b hb hm=>?_⟩,hstep,hx.ren hsub2 (fun _ _=>hro _) h3⟩
  · rcases hlk2 hi with ⟨i1,b1,m1,l1,_⟩ | ⟨n1,l1⟩ <;> rcases hlk2 hj with ⟨i2,b2,m2,l2,_⟩ | ⟨n2,l2⟩
    · rw [hσ2 m1] at hgi
      rw [hσ2 m2] at hgj
      exact (prs_iff hoprB m1 m2).1 (hr'.inj i1 i2 b1 b2 gg l1 l2 hgi hgj)
    · exfalso
      rw [hσ2 m1] at hgi
      rw [hσ2' n2] at hgj
      rcases hr'.mine i1 b1 gg l1 hgi with h | h
      · exact hother (fun i hi=>n2 i (List.mem_append.2 (.inl hi))) l2 hgj h
      · have h5:w.heap.size≤gg:=h
        have:=blk_lt (hr.at l2 hgj)
        omega
    · exfalso
      rw [hσ2' n1] at hgi
      rw [hσ2 m2] at hgj
      rcases hr'.mine i2 b2 gg l2 hgj with h | h
      · exact hother (fun i hi=>n1 i (List.mem_append.2 (.inl hi))) l1 hgi h
      · have h5:w.heap.size≤gg:=h
        have:=blk_lt (hr.at l1 hgi)
        omega
    · rw [hσ2' n1] at hgi
      rw [hσ2' n2] at hgj
      exact hr.inj i j bi bj gg l1 l2 hgi hgj
  · rcases hlk2 hb with ⟨i1,b1,m1,l1,_⟩ | ⟨n1,l1⟩
    · exact hUo m1
    · exact .inl (hr.lt id b l1)
  · rcases hlk2 hb with ⟨i1,b1,m1,l1,rfl⟩ | ⟨n1,l1⟩
    · rw [hσ2 m1]
      rcases hr'.blk i1 b1 l1 with ⟨k1,k2⟩ | ⟨gg,k1,k2⟩
      · exact .inl ⟨k1,(k2.ren _).le hr.size⟩
      · exact .inr ⟨gg,k1,k2.ren hsub2 (fun _ _=>hro _) h3⟩
    · rw [hσ2' n1]
      rcases hr.blk id b l1 with h0 | ⟨gg,hg,h0⟩
      · refine .inl ⟨h0.1,h0.2.keep fun g ms ck hm=>hold (map_lt hm) fun hM=>?_⟩
        obtain ⟨_,id2,bb,_,q2,q3⟩:=hM0 hM
        obtain ⟨ccs,q4,_⟩:=hr.at q2 q3
        rw [hm] at q4
        cases q4
      · exact .inr ⟨gg,hg,h0.step hstep (hold (blk_lt h0) (hother (fun i hi=>n1 i (List.mem_append.2 (.inl hi))) l1 hg))⟩
  · rcases hlk2 hb with ⟨i1,b1,m1,l1,_⟩ | ⟨n1,l1⟩
    · rw [hσ2 m1] at hg
      rcases hr'.mine i1 b1 gg l1 hg with h | h
      · exact hM0' h
      · have h5:w.heap.size≤gg:=h
        have:=hr.size
        exact .inr (by omega)
    · rw [hσ2' n1] at hg
      exact hr.mine id b gg l1 hg
  · have hb2:b<w.heap.size:=Nat.lt_of_lt_of_le hb hr.size
    rw [hold hb2 (fun h=>by
      rcases hM0' h with h | h
      · exact hm h
      · omega)]
    exact hr.old b hb hm
end
end Go.Am
namespace Go.Am
def SqK (P:Program) (n:Nat) (y:Code) (Q:Exit→St→Prop):Exit→St→Prop:=SeqK (awp P n y Q) Q
def RgK (P:Program) (n:Nat) (ops:Array Oper) (rest:List Oper) (K:St→Prop) (fr:Fr) (nx:Nat) (dst:Option Tmp):AV→Hp→Prop:=OpK (opsW P n ops rest K) fr nx dst
def LpW (P:Program) (n:Nat) (x:Code) (Q:Exit→St→Prop) (st:St):Prop:=loopW (awp P n x) Q st
def ClW (P:Program) (g:FuncId) (args:List AV) (hp:Hp) (N:Nat) (K:AV→Hp→Prop):Prop:=CallsA P g args hp N K ∨ ExtW P g args hp K
section
variable (P:Program) (n:Nat) (Q:Exit→St→Prop) (fr:Fr) (hp:Hp) (nx:Nat) (st:St) (K:AV→Hp→Prop) (KS:St→Prop)
theorem r_seq (x y:Code):awp P n (.seq x y) Q st=awp P n x (SqK P n y Q) st:=rfl
theorem r_skip:awp P n .skip Q st=Q .normal st:=rfl
theorem r_ret:awp P n .ret Q st=Q .ret st:=rfl
theorem r_exit (i:Nat):awp P n (.exit i) Q st=Q (.exit i) st:=rfl
theorem r_block (i:Nat) (x:Code):awp P n (.block i x) Q st=awp P n x (BlockK i Q) st:=rfl
theorem r_region (i:Nat) (ops:Array Oper):awp P n (.region i ops false) Q st=opsW P n ops ops.toList (NormK Q) st:=rfl
def DrW (P:Program) (n:Nat) (ops:Array Oper) (Q:Exit→St→Prop) (st:St):Prop:=(∃ zs ss m,regB n ops zs ss m=true∧P.follows .mixedOrders=true∧zW P ops st.nx st.hp (fun fr=>chW P ops st.nx st.hp (fun fr hp=>Q .normal ⟨fr,hp,st.nx+32*ops.size⟩) ss m fr st.hp) zs st.fr) ∨
  ∃ zs is za t st',tregB n ops zs is za t=true∧P.follows .mixedOrders=true∧zW P ops st.nx st.hp (fun fr=>trW P ops st.nx st.hp (fun fr hp=>Wk ⟨fr,hp,st.nx+32*ops.size⟩ st') t fr st.hp) zs st.fr∧Q .normal st'
theorem r_draw (i:Nat) (ops:Array Oper):awp P n (.region i ops true) Q st=DrW P n ops Q st:=rfl
theorem r_loop (x:Code):awp P n (.loop x) Q st=LpW P n x Q st:=rfl
def condW (v:AV) (A B:Prop):Prop :=
  match v with
  | .d (.bool b)=>(b=true→A)∧(b=false→B)
  | _=>False
def cndW (P:Program) (n:Nat) (v:AV) (x y:Code) (Q:Exit→St→Prop) (st:St):Prop :=
  match v with
  | .d (.bool b)=>(b=true→awp P n x Q st)∧(b=false→awp P n y Q st)
  | _=>False
theorem r_cond (c:Operand) (x y:Code):awp P n (.cond c x y) Q st=cndW P n (ev st.fr c) x y Q st:=rfl
theorem r_cnd_t (x y:Code):cndW P n (.d (.bool true)) x y Q st=awp P n x Q st:=by simp [cndW]
theorem r_cnd_f (x y:Code):cndW P n (.d (.bool false)) x y Q st=awp P n y Q st:=by simp [cndW]
theorem r_cnd_d (p:Prop) [Decidable p] (x y:Code):cndW P n (.d (.bool (decide p))) x y Q st=((p→awp P n x Q st)∧(¬ p→awp P n y Q st)):=by simp [cndW]
theorem r_cnd_n (p:Prop) [Decidable p] (x y:Code):cndW P n (.d (.bool (!decide p))) x y Q st=((¬ p→awp P n x Q st)∧(p→awp P n y Q st)):=by simp [cndW]
theorem r_sq_n (y:Code):SqK P n y Q .normal st=awp P n y Q st:=rfl
theorem r_sq_r (y:Code):SqK P n y Q .ret st=Q .ret st:=rfl
theorem r_sq_e (y:Code) (i:Nat):SqK P n y Q (.exit i) st=Q (.exit i) st:=rfl
theorem r_bl_n (i:Nat):BlockK i Q .normal st=Q .normal st:=rfl
theorem r_bl_r (i:Nat):BlockK i Q .ret st=Q .ret st:=rfl
theorem r_bl_e (i j:Nat):BlockK i Q (.exit j) st=if j=i then Q .normal st else Q (.exit j) st:=rfl
theorem r_norm:NormK Q st=Q .normal st:=rfl
theorem r_lp_r (I:Nat→St→Prop) (m:Nat):LoopK I m Q .ret st=Q .ret st:=rfl
theorem r_lp_e (I:Nat→St→Prop) (m i:Nat):LoopK I m Q (.exit i) st=Q (.exit i) st:=rfl
theorem r_nil (ops:Array Oper):opsW P n ops [] KS st=KS st:=rfl
theorem r_cons (ops:Array Oper) (dst:Option Tmp) (op:Op) (ty:TypeId) (pos:String) (af:Array Edge) (rest:List Oper) :
    opsW P n ops (⟨dst,op,ty,pos,af,none⟩ :: rest) KS ⟨fr,hp,nx⟩=(dstOk n dst∧opW P fr hp nx op (RgK P n ops rest KS fr nx dst)):=rfl
def grdW (P:Program) (n:Nat) (ops:Array Oper) (v:AV) (want:Bool) (dst:Option Tmp) (op:Op) (rest:List Oper) (KS:St→Prop) (fr:Fr) (hp:Hp) (nx:Nat):Prop :=
  match v with
  | .d (.bool b)=>dstOk n dst∧(b=want→opW P fr hp nx op (RgK P n ops rest KS fr nx dst))∧(b=!want→RgK P n ops rest KS fr nx dst (.tup []) hp)
  | .tup []=>dstOk n dst∧RgK P n ops rest KS fr nx dst (.tup []) hp
  | _=>False
theorem r_guard (ops:Array Oper) (dst:Option Tmp) (op:Op) (ty:TypeId) (pos:String) (af:Array Edge) (j:Nat) (want:Bool) (rest:List Oper) :
    opsW P n ops (⟨dst,op,ty,pos,af,some (j,want)⟩ :: rest) KS ⟨fr,hp,nx⟩ =
      (match (ops[j]?).bind (·.dst) with
      | some d=>grdW P n ops (fv d fr) want dst op rest KS fr hp nx
      | none=>False):=by
  simp only [opsW]
  cases (ops[j]?).bind (·.dst) with
  | none=>rfl
  | some d =>
    simp only [grdW]
    generalize fv d fr=v
    cases v with
    | d dv=>cases dv <;> rfl
    | tup l=>cases l <;> rfl
    | _=>rfl
theorem r_g_u (ops:Array Oper) (want:Bool) (dst:Option Tmp) (op:Op) (rest:List Oper):grdW P n ops (.tup []) want dst op rest KS fr hp nx=(dstOk n dst∧RgK P n ops rest KS fr nx dst (.tup []) hp):=rfl
theorem r_g_t (ops:Array Oper) (dst:Option Tmp) (op:Op) (rest:List Oper):grdW P n ops (.d (.bool true)) true dst op rest KS fr hp nx=(dstOk n dst∧opW P fr hp nx op (RgK P n ops rest KS fr nx dst)):=by simp [grdW]
theorem r_g_f (ops:Array Oper) (dst:Option Tmp) (op:Op) (rest:List Oper):grdW P n ops (.d (.bool false)) false dst op rest KS fr hp nx=(dstOk n dst∧opW P fr hp nx op (RgK P n ops rest KS fr nx dst)):=by simp [grdW]
theorem r_g_tf (ops:Array Oper) (dst:Option Tmp) (op:Op) (rest:List Oper):grdW P n ops (.d (.bool true)) false dst op rest KS fr hp nx=(dstOk n dst∧RgK P n ops rest KS fr nx dst (.tup []) hp):=by simp [grdW]
theorem r_g_ft (ops:Array Oper) (dst:Option Tmp) (op:Op) (rest:List Oper):grdW P n ops (.d (.bool false)) true dst op rest KS fr hp nx=(dstOk n dst∧RgK P n ops rest KS fr nx dst (.tup []) hp):=by simp [grdW]
theorem r_g_df (p:Prop) [Decidable p] (ops:Array Oper) (dst:Option Tmp) (op:Op) (rest:List Oper):grdW P n ops (.d (.bool (decide p))) false dst op rest KS fr hp nx=(dstOk n dst∧(¬ p→opW P fr hp nx op (RgK P n ops rest KS fr nx dst))∧(p→RgK P n ops rest KS fr nx dst (.tup []) hp)):=by simp [grdW]
theorem r_rg (ops:Array Oper) (rest:List Oper) (dst:Option Tmp) (v:AV) (hp':Hp):RgK P n ops rest KS fr nx dst v hp'=opsW P n ops rest KS ⟨putFr fr dst v,hp',nx+32⟩:=rfl
theorem r_put (d:Nat) (v:AV):putFr fr (some d) v=(d,v) :: fr:=rfl
theorem r_put0 (v:AV):putFr fr none v=fr:=rfl
theorem r_dst (d:Nat):dstOk n (some d)=(d<n):=rfl
theorem r_dst0:dstOk n none=True:=rfl
theorem r_tmp (t:Nat):ev fr (.tmp t)=fv t fr:=rfl
theorem r_const (v:Value):ev fr (.const v)=ofV v:=rfl
theorem r_func (f:FuncId):ev fr (.func f)=.fn f []:=rfl
theorem r_fv (d m:Nat) (v:AV):fv m ((d,v) :: fr)=if d=m then v else fv m fr:=fv_cons d m v fr
theorem r_fv0 (m:Nat):fv m []=.any:=rfl
theorem r_lk {α:Type} (m k:Nat) (v:α) (t:List (Nat × α)):lk k ((m,v) :: t)=if m=k then some v else lk k t:=rfl
theorem r_lk0 {α:Type} (k:Nat):lk k ([]:List (Nat × α))=none:=rfl
theorem r_setH (id m:Nat) (b v:Blk) (t:Hp):setH id b ((m,v) :: t)=if m=id then (m,b) :: t else (m,v) :: setH id b t:=rfl
theorem r_vi (k:IntKind) (i:Int):ofV (.int k i)=.d (.int k i):=rfl
theorem r_vb (b:Bool):ofV (.bool b)=.d (.bool b):=rfl
theorem r_vs:ofV (.slice none 0 0)=.nil:=rfl
theorem r_vstr (s:ByteArray):ofV (.string s)=.d (.str (s.data.toList.map fun c=>(c.toNat:Int))):=rfl
theorem r_vp:ofV (.pointer none)=.d .nilp:=rfl
theorem r_move (x:Operand):opW P fr hp nx (.move x) K=K (ev fr x) hp:=rfl
theorem r_assign (x:Operand):opW P fr hp nx (.assign x) K=K (ev fr x) hp:=rfl
def pickW (c a b:AV) (K:AV→Hp→Prop) (hp:Hp):Prop :=
  match c with
  | .d (.bool t) =>
    (match a,b with
    | .d (.bool x),.d (.bool y)=>K (.d (.bool (if t then x else y))) hp
    | va,vb=>(t=true→K va hp)∧(t=false→K vb hp))
  | _=>False
theorem r_pick (c a b:Operand):opW P fr hp nx (.pick c a b) K=pickW (ev fr c) (ev fr a) (ev fr b) K hp:=by
  simp only [opW,pickW]
  rfl
theorem r_pick_f (a b:AV):pickW (.d (.bool false)) a b K hp=K b hp:=by
  unfold pickW;dsimp only;split <;> simp
theorem r_pick_bb (t x y:Bool):pickW (.d (.bool t)) (.d (.bool x)) (.d (.bool y)) K hp=K (.d (.bool (if t then x else y))) hp:=rfl
theorem r_pick_a (t:Bool) (x:Bool):pickW (.d (.bool t)) (.d (.bool x)) .any K hp=((t=true→K (.d (.bool x)) hp)∧(t=false→K .any hp)):=rfl
theorem r_pick_u (t:Bool) (x:Bool):pickW (.d (.bool t)) (.d (.bool x)) (.tup []) K hp=((t=true→K (.d (.bool x)) hp)∧(t=false→K (.tup []) hp)):=rfl
theorem r_bin (op:BinOp) (t t':TypeId) (x y:Operand):opW P fr hp nx (.binOp op t x y t') K=binW P op t (ev fr x) (ev fr y) K hp:=rfl
theorem r_b_add (t:TypeId) (k:IntKind) (x y:Int):binW P .add t (.d (.int k x)) (.d (.int k y)) K hp=K (.d (.int k (k.wrap (x+y)))) hp:=by simp [binW,binW0,ibin]
theorem r_b_sub (t:TypeId) (k:IntKind) (x y:Int):binW P .sub t (.d (.int k x)) (.d (.int k y)) K hp=K (.d (.int k (k.wrap (x - y)))) hp:=by simp [binW,binW0,ibin]
theorem r_b_mul (t:TypeId) (k:IntKind) (x y:Int):binW P .mul t (.d (.int k x)) (.d (.int k y)) K hp=K (.d (.int k (k.wrap (x*y)))) hp:=by simp [binW,binW0,ibin]
theorem r_b_quo (t:TypeId) (k:IntKind) (x y:Int):binW P .quo t (.d (.int k x)) (.d (.int k y)) K hp=(y ≠ 0∧K (.d (.int k (k.wrap (x.tdiv y)))) hp):=by simp [binW,binW0,ibin]
theorem r_b_rem (t:TypeId) (k:IntKind) (x y:Int):binW P .rem t (.d (.int k x)) (.d (.int k y)) K hp=(y ≠ 0∧K (.d (.int k (x.tmod y))) hp):=by simp [binW,binW0,ibin]
theorem r_b_and (t:TypeId) (k:IntKind) (x y:Int):binW P .and t (.d (.int k x)) (.d (.int k y)) K hp=K (.d (.int k (bits .and k x y))) hp:=by simp [binW,binW0,ibin]
theorem r_b_or (t:TypeId) (k:IntKind) (x y:Int):binW P .or t (.d (.int k x)) (.d (.int k y)) K hp=K (.d (.int k (bits .or k x y))) hp:=by simp [binW,binW0,ibin]
theorem r_b_xor (t:TypeId) (k:IntKind) (x y:Int):binW P .xor t (.d (.int k x)) (.d (.int k y)) K hp=K (.d (.int k (bits .xor k x y))) hp:=by simp [binW,binW0,ibin]
theorem r_b_shl (t:TypeId) (k k':IntKind) (x y:Int):binW P .shl t (.d (.int k x)) (.d (.int k' y)) K hp=(0≤y∧K (.d (.int k (k.wrap (x*2 ^ (min y.toNat k.bits))))) hp):=by simp [binW,binW0,ibin,isShift]
theorem r_b_shr (t:TypeId) (k k':IntKind) (x y:Int):binW P .shr t (.d (.int k x)) (.d (.int k' y)) K hp=(0≤y∧K (.d (.int k (x.fdiv (2 ^ (min y.toNat k.bits))))) hp):=by simp [binW,binW0,ibin,isShift]
theorem r_b_eql (t:TypeId) (k:IntKind) (x y:Int):binW P .eql t (.d (.int k x)) (.d (.int k y)) K hp=K (.d (.bool (decide (x=y)))) hp:=by simp [binW,binW0,ibin]
theorem r_b_neq (t:TypeId) (k:IntKind) (x y:Int):binW P .neq t (.d (.int k x)) (.d (.int k y)) K hp=K (.d (.bool (!decide (x=y)))) hp:=by simp [binW,binW0,ibin]
theorem r_b_lss (t:TypeId) (k:IntKind) (x y:Int):binW P .lss t (.d (.int k x)) (.d (.int k y)) K hp=K (.d (.bool (decide (x<y)))) hp:=by simp [binW,binW0,ibin]
theorem r_b_leq (t:TypeId) (k:IntKind) (x y:Int):binW P .leq t (.d (.int k x)) (.d (.int k y)) K hp=K (.d (.bool (decide (x≤y)))) hp:=by simp [binW,binW0,ibin]
theorem r_b_gtr (t:TypeId) (k:IntKind) (x y:Int):binW P .gtr t (.d (.int k x)) (.d (.int k y)) K hp=K (.d (.bool (decide (y<x)))) hp:=by simp [binW,binW0,ibin]
theorem r_b_geq (t:TypeId) (k:IntKind) (x y:Int):binW P .geq t (.d (.int k x)) (.d (.int k y)) K hp=K (.d (.bool (decide (y≤x)))) hp:=by simp [binW,binW0,ibin]
theorem r_b_pn1 (op:BinOp) (t:TypeId) (a b c d:Nat):binW P op t (.ptr a b c d) (.d .nilp) K hp=pnW P op t false K hp:=rfl
theorem r_b_pn2 (op:BinOp) (t:TypeId) (cs:List DV):binW P op t (.rop cs) (.d .nilp) K hp=pnW P op t false K hp:=rfl
theorem r_b_pn3 (op:BinOp) (t:TypeId):binW P op t (.d .nilp) (.d .nilp) K hp=pnW P op t true K hp:=rfl
def agK (P:Program) (op:BinOp) (t:TypeId) (k:TK) (a b:List AV) (K:AV→Hp→Prop) (hp:Hp):Prop :=
  match k with
  | .arr n el=>agW P op t n el (ikind P el) a b K hp
  | .struct _=>sgW P op t a b K hp
  | _=>False
theorem r_b_ag (op:BinOp) (t:TypeId) (a b:List AV):binW P op t (.agg a) (.agg b) K hp=agK P op t (tyk P t) a b K hp:=by
  simp only [binW,agK]
  cases tyk P t <;> rfl
def agO (P:Program) (op:BinOp) (t:TypeId) (n:Nat) (el:TypeId) (us vs:Option (List Int)) (K:AV→Hp→Prop) (hp:Hp):Prop :=
  match us,vs with
  | some us,some vs=>us.length=n∧vs.length=n∧P.cellsOf el=1∧P.eqGuardType P.depth t=false∧(match op with
      | .eql=>K (.d (.bool (decide (us=vs)))) hp
      | .neq=>K (.d (.bool (!decide (us=vs)))) hp
      | _=>False)
  | _,_=>False
theorem r_ag (op:BinOp) (t:TypeId) (n:Nat) (el:TypeId) (k:IntKind) (a b:List AV):agW P op t n el (some k) a b K hp=agO P op t n el (intsOf k a) (intsOf k b) K hp:=by
  simp only [agW,agO]
  cases intsOf k a <;> cases intsOf k b <;> rfl
def sgR (P:Program) (op:BinOp) (t:TypeId) (ks:Option (List (Option IntKind))) (us vs:Option (List L1)) (K:AV→Hp→Prop) (hp:Hp):Prop :=
  match us,vs with
  | some us,some vs=>P.eqGuardType P.depth t=false∧ks=some (us.map L1.k)∧ks=some (vs.map L1.k)∧(match op with
      | .eql=>K (.d (.bool (decide (us=vs)))) hp
      | .neq=>K (.d (.bool (!decide (us=vs)))) hp
      | _=>False)
  | _,_=>False
theorem r_sg (op:BinOp) (t:TypeId) (a b:List AV):sgW P op t a b K hp=sgR P op t (kindsOf P 8 t) (litsOf a) (litsOf b) K hp:=by
  simp only [sgW,sgR]
  cases litsOf a <;> cases litsOf b <;> rfl
theorem ints_map (k:IntKind) (us:List Int):intsOf k (us.map fun m=>AV.d (.int k m))=some us:=by
  induction us with
  | nil=>rfl
  | cons u r ih=>simp [intsOf,ih]
def idO (o:Option AV) (K:AV→Hp→Prop) (hp:Hp):Prop :=
  match o with
  | some v=>K v hp
  | none=>False
def idS (o:Option Int) (K:AV→Hp→Prop) (hp:Hp):Prop :=
  match o with
  | some b=>K (.d (.int .u8 b)) hp
  | none=>False
def idX (P:Program) (k:TK) (el:TypeId) (cs:List AV) (m:Int) (K:AV→Hp→Prop) (hp:Hp):Prop :=
  match k with
  | .scal=>P.cellsOf el=1∧idO cs[m.toNat]? K hp
  | .arr _ _=>P.cellsOf el ≠ 0∧idO (ldv P el (cs.drop (m.toNat*P.cellsOf el))) K hp
  | _=>False
def idW (P:Program) (k:TK) (x i:AV) (K:AV→Hp→Prop) (hp:Hp):Prop :=
  match k,x,i with
  | .arr n el,.agg cs,.d (.int _ m)=>0≤m∧m<n∧idX P (tyk P el) el cs m K hp
  | .str,.d (.str bs),.d (.int _ m)=>0≤m∧idS bs[m.toNat]? K hp
  | _,_,_=>False
theorem r_index (t:TypeId) (x i:Operand):opW P fr hp nx (.index t x i) K=idW P (tyk P t) (ev fr x) (ev fr i) K hp:=rfl
def unW (op:UnOp) (v:AV) (K:AV→Hp→Prop) (hp:Hp):Prop :=
  match op,v with
  | .not,.d (.bool b)=>K (.d (.bool (!b))) hp
  | .neg,.d (.int k n)=>K (.d (.int k (k.wrap (0 - n)))) hp
  | .xor,.d (.int k n)=>K (.d (.int k (bits .xor k (if k.signed then -1 else k.max) n))) hp
  | _,_=>False
theorem r_un (op:UnOp) (t:TypeId) (x:Operand):opW P fr hp nx (.unOp op t x) K=unW op (ev fr x) K hp:=by
  cases op <;> simp only [opW,unW] <;> split <;> simp_all
def nilW (v:AV) (K:AV→Hp→Prop) (hp:Hp):Prop :=
  match v with
  | .ptr id i off tot=>K (.ptr id i off tot) hp
  | .rop cs=>K (.rop cs) hp
  | .fn f cs=>K (.fn f cs) hp
  | _=>False
theorem r_nilc (x:Operand):opW P fr hp nx (.nilCheck x) K=nilW (ev fr x) K hp:=rfl
def exW (v:AV) (i:Nat) (K:AV→Hp→Prop) (hp:Hp):Prop :=
  match v with
  | .tup vs=>(match vs[i]? with
    | some v=>K v hp
    | none=>False)
  | _=>False
theorem r_ex (x:Operand) (i:Nat):opW P fr hp nx (.extract x i) K=exW (ev fr x) i K hp:=rfl
def cvS (P:Program) (s t:TypeId) (es:List (List DV)) (K:AV→Hp→Prop) (hp:Hp):Prop :=
  ∃ bs:List Int,es=bs.map (fun b=>[.int .u8 b])∧(∀ b,b ∈ bs→0≤b∧b<256)∧(match tyk P s,tyk P t with
      | .slice el,.str=>P.underlying el=some (.int .u8)∧K (.d (.str bs)) hp
      | _,_=>False)
def cvB (P:Program) (bs:List Int) (a b:TK) (K:AV→Hp→Prop) (hp:Hp):Prop :=
  match a,b with
  | .str,.slice el=>P.underlying el=some (.int .u8)∧K (.d (.ro 1 (bs.map fun b=>[.int .u8 b]))) hp
  | _,_=>False
def cvO (P:Program) (s t:TypeId) (xs:Option (List (List AV))) (K:AV→Hp→Prop) (hp:Hp):Prop :=
  ∃ bs:List Int,xs=some (bs.map fun b=>[.d (.int .u8 b)])∧(∀ b,b ∈ bs→0≤b∧b<256)∧(match tyk P s,tyk P t with
      | .slice el,.str=>P.underlying el=some (.int .u8)∧K (.d (.str bs)) hp
      | _,_=>False)
def cvW (P:Program) (s t:TypeId) (v:AV) (K:AV→Hp→Prop) (hp:Hp):Prop :=
  match v with
  | .d (.int _ n)=>(match (P.underlying s).isSome,ikind P t with
    | true,some k=>K (.d (.int k (k.wrap n))) hp
    | _,_=>False)
  | .d (.ro 1 es)=>cvS P s t es K hp
  | .d (.str bs)=>cvB P bs (tyk P s) (tyk P t) K hp
  | v=>cvO P s t (rowsOf hp 1 v) K hp
theorem r_cv (s t:TypeId) (x:Operand):opW P fr hp nx (.convert s t x) K=cvW P s t (ev fr x) K hp:=by
  simp only [opW,cvW,ikind]
  generalize ev fr x=v
  cases v with
  | d dv =>
    cases dv with
    | int k n =>
      cases P.underlying s <;> cases hu:P.underlying t with
      | none=>simp
      | some d=>cases d <;> simp
    | ro e es =>
      match e with
      | 0=>rfl
      | 1=>rfl
      | _+2=>rfl
    | str bs=>cases tyk P s <;> cases tyk P t <;> rfl
    | _=>rfl
  | _=>rfl
def ldO (o:Option AV) (K:AV→Hp→Prop) (hp:Hp):Prop :=
  match o with
  | some v=>K v hp
  | none=>False
def ldR (P:Program) (t:TypeId) (row:Option (List AV)) (ntot tot off:Nat) (K:AV→Hp→Prop) (hp:Hp):Prop :=
  match row with
  | some row=>ntot=tot∧ldO (ldv P t (row.drop off)) K hp
  | none=>False
def ldB (P:Program) (t:TypeId) (b:Option Blk) (i off tot:Nat) (K:AV→Hp→Prop) (hp:Hp):Prop :=
  match b with
  | some b=>ldR P t b.es[i]? b.es.length tot off K hp
  | none=>False
def ldW (P:Program) (t:TypeId) (v:AV) (K:AV→Hp→Prop) (hp:Hp):Prop :=
  match v with
  | .ptr id i off tot=>ldB P t (lk id hp) i off tot K hp
  | .rop cs=>ldO (ldv P t (cs.map .d)) K hp
  | _=>False
theorem r_ld (t:TypeId) (x:Operand):opW P fr hp nx (.load t x) K=ldW P t (ev fr x) K hp:=rfl
def ldvK (P:Program) (t:TypeId) (k:TK) (cells:List AV):Option AV :=
  match k with
  | .none=>Option.none
  | .arr _ _=>if P.cellsOf t≤cells.length then some (.agg (cells.take (P.cellsOf t))) else Option.none
  | .struct _=>if P.cellsOf t≤cells.length then some (.agg (cells.take (P.cellsOf t))) else Option.none
  | .scal=>cells.head?
  | .str=>cells.head?
  | .slice _=>cells.head?
theorem r_ldv (t:TypeId) (cells:List AV):ldv P t cells=ldvK P t (tyk P t) cells:=by
  unfold ldv ldvK
  cases tyk P t <;> rfl
def faO (P:Program) (v:AV) (o:Option (Nat × TypeId)) (K:AV→Hp→Prop) (hp:Hp):Prop :=
  match v,o with
  | .ptr id j off tot,some (o,ft)=>P.cellsOf ft ≠ 0∧K (.ptr id j (off+o) tot) hp
  | .rop cs,some (o,ft)=>P.cellsOf ft ≠ 0∧K (.rop (cs.drop o)) hp
  | _,_=>False
def fldK (k:TK) (i:Nat):Option (Nat × TypeId) :=
  match k with
  | .struct fs=>fs[i]?
  | _=>none
theorem r_fa (t:TypeId) (x:Operand) (i:Nat):opW P fr hp nx (.fieldAddr t x i) K=faO P (ev fr x) (fldK (tyk P t) i) K hp:=by
  simp only [opW,fieldOff,fldK,faO]
  generalize ev fr x=v
  cases v <;> cases tyk P t <;> rfl
def fdO (P:Program) (v:AV) (o:Option (Nat × TypeId)) (K:AV→Hp→Prop) (hp:Hp):Prop :=
  match v,o with
  | .agg cs,some (o,ft)=>ldO (ldv P ft (cs.drop o)) K hp
  | _,_=>False
theorem r_fd (t:TypeId) (x:Operand) (i:Nat):opW P fr hp nx (.field t x i) K=fdO P (ev fr x) (fldK (tyk P t) i) K hp:=by
  simp only [opW,fieldOff,fldK,fdO]
  generalize ev fr x=v
  cases v <;> cases tyk P t <;> rfl
def ixO (cs:Option (List DV)) (K:AV→Hp→Prop) (hp:Hp):Prop :=
  match cs with
  | some cs=>K (.rop cs) hp
  | none=>False
def ixB (b:Option Blk) (id i off e el tot:Nat) (row:Bool) (K:AV→Hp→Prop) (hp:Hp):Prop :=
  match b,row with
  | some b,true=>b.es.length=tot∧b.e=el∧el ≠ 0∧K (.ptr id i 0 tot) hp
  | some b,false=>b.es.length=tot∧e=el∧el ≠ 0∧K (.ptr id i off tot) hp
  | none,_=>False
def ixW (P:Program) (ix v:AV) (k:TK) (K:AV→Hp→Prop) (hp:Hp):Prop :=
  match ix,v,k with
  | .d (.int _ n),.d (.ro e es),.slice el=>0≤n∧e=P.cellsOf el∧P.cellsOf el ≠ 0∧ixO es[n.toNat]? K hp
  | .d (.int _ n),.own id i0 len tot,.slice el=>0≤n∧n<len∧ixB (lk id hp) id (i0+n.toNat) 0 0 (P.cellsOf el) tot true K hp
  | .d (.int _ n),.sub id i off e len _ tot,.slice el=>0≤n∧n<len∧ixB (lk id hp) id i (off+n.toNat*e) e (P.cellsOf el) tot false K hp
  | .d (.int _ n),.ptr id i off tot,.arr len el=>0≤n∧n<len∧P.cellsOf el ≠ 0∧K (.ptr id i (off+n.toNat*P.cellsOf el) tot) hp
  | .d (.int _ n),.rop cs,.arr len el=>0≤n∧n<len∧P.cellsOf el ≠ 0∧K (.rop (cs.drop (n.toNat*P.cellsOf el))) hp
  | _,_,_=>False
theorem r_ix (t:TypeId) (x ix:Operand):opW P fr hp nx (.indexAddr t x ix) K=ixW P (ev fr ix) (ev fr x) (tyk P t) K hp:=by
  simp only [opW,ixW]
  generalize ev fr ix=u
  generalize ev fr x=v
  cases u with
  | d dv =>
    cases dv with
    | int k n =>
      cases v with
      | d dv=>cases dv <;> cases tyk P t <;> rfl
      | own id i0 len tot=>cases tyk P t <;> first | rfl | (simp only;cases lk id hp <;> rfl)
      | sub id i off e len cap tot=>cases tyk P t <;> first | rfl | (simp only;cases lk id hp <;> rfl)
      | _=>cases tyk P t <;> rfl
    | _=>rfl
  | _=>rfl
def alW (t:TypeId) (z:Option (List AV)) (nx:Nat) (K:AV→Hp→Prop) (hp:Hp):Prop :=
  match z with
  | some cs=>K (.ptr nx 0 0 1) ((nx,⟨t,cs.length,[cs]⟩) :: hp)
  | none=>False
theorem r_al (t:TypeId):opW P fr hp nx (.alloc t) K=alW t (tzO P t) nx K hp:=rfl
def bdO (P:Program) (k:TK) (z:Option (List AV)) (ps:List (Nat × AV)) (K:AV→Hp→Prop) (hp:Hp):Prop :=
  match z with
  | some z=>buildW P k z ps K hp
  | none=>False
theorem r_bd (t:TypeId) (parts:Array (Nat × Operand)):opW P fr hp nx (.build t parts) K=bdO P (tyk P t) (tzO P t) (parts.toList.map fun p=>(p.1,ev fr p.2)) K hp:=rfl
def fillO (o:Option (List AV)) (K:AV→Hp→Prop) (hp:Hp):Prop :=
  match o with
  | some cs=>K (.agg cs) hp
  | none=>False
theorem r_bd_s (fs:List (Nat × TypeId)) (z:List AV) (ps:List (Nat × AV)):buildW P (.struct fs) z ps K hp=((∀ f,f ∈ fs→P.cellsOf f.2 ≠ 0)∧fillO (fillA (structPlace P fs) z ps) K hp):=rfl
theorem r_bd_a (n:Nat) (el:TypeId) (z:List AV) (ps:List (Nat × AV)):buildW P (.arr n el) z ps K hp=(P.cellsOf el ≠ 0∧fillO (fillA (fun i=>some (i*P.cellsOf el,P.cellsOf el)) z ps) K hp):=rfl
def bsR (el:TypeId) (e len nx:Nat) (o:Option (List (List AV))) (K:AV→Hp→Prop) (hp:Hp):Prop :=
  match o with
  | some rows=>K (.own nx 0 len len) ((nx,⟨el,e,rows⟩) :: hp)
  | none=>False
def bsO (P:Program) (el:TypeId) (len:Nat) (z:Option (List AV)) (ps:List (Nat × AV)) (nx:Nat) (K:AV→Hp→Prop) (hp:Hp):Prop :=
  match z with
  | some z=>len*P.cellsOf el≤16777216∧bsR el (P.cellsOf el) len nx (fillR (P.cellsOf el) (List.replicate len z) ps) K hp
  | none=>False
def bsW (P:Program) (k:TK) (len:Nat) (ps:List (Nat × AV)) (nx:Nat) (K:AV→Hp→Prop) (hp:Hp):Prop :=
  match k with
  | .slice el=>bsO P el len (tzO P el) ps nx K hp
  | _=>False
theorem r_bs (t:TypeId) (len:Nat) (parts:Array (Nat × Operand)):opW P fr hp nx (.buildSlice t len parts) K=bsW P (tyk P t) len (parts.toList.map fun p=>(p.1,ev fr p.2)) nx K hp:=by
  simp only [opW,buildSliceW,bsW]
  cases tyk P t <;> rfl
theorem r_sl (t:TypeId) (x:Operand) (lo hi:Option Operand):opW P fr hp nx (.slice t x lo hi none) K=sliceW P (tyk P t) (ev fr x) (bnd fr 0 lo) (bnd fr ((ev fr x).topLen (tyk P t)) hi) K hp:=rfl
theorem r_sl3 (t:TypeId) (x m:Operand) (lo hi:Option Operand):opW P fr hp nx (.slice t x lo hi (some m)) K=slice3W P (tyk P t) (ev fr x) (bnd fr 0 lo) (bndO fr hi) (ev fr m).num K hp:=rfl
theorem r_bndO (x:Operand):bndO fr (some x)=(ev fr x).num:=rfl
theorem r_sl3_ro (el:TypeId) (l h m:Int) (e:Nat) (es:List (List DV)):slice3W P (.slice el) (.d (.ro e es)) (some l) (some h) (some m) K hp=(P.cellsOf el ≠ 0∧e=P.cellsOf el∧0≤l∧l≤h∧h=m∧h≤es.length∧K (.d (.rof e ((es.take h.toNat).drop l.toNat))) hp):=rfl
theorem r_sl3_nil (el:TypeId) (l h m:Int):slice3W P (.slice el) .nil (some l) (some h) (some m) K hp=(P.cellsOf el ≠ 0∧l=0∧h=0∧m=0∧K (.d (.rof (P.cellsOf el) [])) hp):=rfl
theorem r_sl3_own (el:TypeId) (id i0 len tot:Nat) (l h m:Int):slice3W P (.slice el) (.own id i0 len tot) (some l) (some h) (some m) K hp=(P.cellsOf el ≠ 0∧l=0∧h=0∧m=0∧K (.d (.rof (P.cellsOf el) [])) hp):=rfl
def mkO (P:Program) (el:TypeId) (z:Option (List AV)) (n c:Int) (nx:Nat) (K:AV→Hp→Prop) (hp:Hp):Prop :=
  match z with
  | some z=>0≤n∧n≤c∧c*P.cellsOf el≤16777216∧P.bytesOf el*c≤281474976710656∧c≤9223372036854775807∧K (.own nx 0 n.toNat n.toNat) ((nx,⟨el,P.cellsOf el,List.replicate n.toNat z⟩) :: hp)
  | none=>False
theorem r_mk (t:TypeId) (l m:Operand):opW P fr hp nx (.makeSlice t l m) K=makeW P (tyk P t) (ev fr l) (ev fr m) nx K hp:=rfl
theorem r_mk1 (el:TypeId) (k1 k2:IntKind) (n c:Int):makeW P (.slice el) (.d (.int k1 n)) (.d (.int k2 c)) nx K hp=mkO P el (tzO P el) n c nx K hp:=rfl
theorem r_arr (t:TypeId) (x:Operand):opW P fr hp nx (.sliceToArrayPointer t x) K=arrW (tyk P t) (ev fr x) K hp:=rfl
theorem r_arr2 (n:Nat) (el:TypeId) (id i off e len cap tot:Nat):arrW (.arr n el) (.sub id i off e len cap tot) K hp=(match lk id hp with
    | some b=>b.es.length=tot∧0<n∧n≤len∧K (.ptr id i off tot) hp
    | none=>False):=rfl
theorem r_arr1 (n:Nat) (el:TypeId) (es:List (List DV)):arrW (.arr n el) (.d (.ro 1 es)) K hp=(0<n∧n≤es.length∧K (.rop es.flatten) hp):=rfl
theorem r_cp (s x:Operand) (t u:TypeId):opW P fr hp nx (.call ⟨.builtin .copy,#[s,x],#[t,u]⟩) K=biW P fr hp nx .copy [s,x] [t,u] K:=rfl
def cpB (P:Program) (el:TypeId) (b:Option Blk) (id i0 len tot:Nat) (xs:List (List AV)) (K:AV→Hp→Prop) (hp:Hp):Prop :=
  match b with
  | some b=>b.es.length=tot∧b.e=1∧P.cellsOf el=1∧K (.d (.int .i64 (min len xs.length:Nat))) (setH id ⟨b.ty,b.e,b.es.take i0 ++ (xs.take len ++ b.es.drop (i0+min len xs.length))⟩ hp)
  | none=>False
theorem r_cp1 (el:TypeId) (id i0 len tot:Nat) (xs:List (List AV)):copyW P el (.own id i0 len tot) (some xs) K hp=cpB P el (lk id hp) id i0 len tot xs K hp:=by
  simp only [copyW,cpB]
  cases lk id hp <;> rfl
theorem drows_inj:∀ {a b:List (List DV)},a.map (fun r=>r.map AV.d)=b.map (fun r=>r.map AV.d)→a=b:=by
  have one:∀ {x y:List DV},x.map AV.d=y.map AV.d→x=y:=by
    intro x
    induction x with
    | nil=>intro y h;cases y with
      | nil=>rfl
      | cons _ _=>simp at h
    | cons u x ih=>intro y h;cases y with
      | nil=>simp at h
      | cons v y=>simp at h;rw [h.1,ih (by simpa using h.2)]
  intro a
  induction a with
  | nil=>intro b h;cases b with
    | nil=>rfl
    | cons _ _=>simp at h
  | cons u a ih=>intro b h;cases b with
    | nil=>simp at h
    | cons v b =>
      rw [List.map_cons,List.map_cons] at h
      injection h with h1 h2
      rw [one h1,ih h2]
def apS (P:Program) (el:TypeId) (o:Option (List (List AV))) (len cap:Nat) (xs:List (List AV)) (nx:Nat) (K:AV→Hp→Prop) (hp:Hp):Prop :=
  cap<len+xs.length∧(tzO P el).isSome=true∧P.bytesOf el ≠ 0∧(len+xs.length)*P.bytesOf el≤140737488355328 ∧
      (match o with
      | some rs=>K (.own nx 0 (len+xs.length) (len+xs.length)) ((nx,⟨el,P.cellsOf el,rs ++ xs⟩) :: hp)
      | none=>False)
theorem r_ap_sub (el:TypeId) (xs:List (List AV)) (id i off e len cap tot:Nat):appendW P el (.sub id i off e len cap tot) (some xs) nx K hp=apS P el (rowsOf hp (P.cellsOf el) (.sub id i off e len cap tot)) len cap xs nx K hp:=by
  simp only [appendW,apS]
  generalize rowsOf hp (P.cellsOf el) (.sub id i off e len cap tot)=o
  cases o <;> rfl
def EitherK (A B:Prop):Prop:=A ∨ B
theorem r_ap_rof (el:TypeId) (e:Nat) (es ds:List (List DV)):appendW P el (.d (.rof e es)) (some (ds.map fun r=>r.map AV.d)) nx K hp=(e=P.cellsOf el∧(tzO P el).isSome=true∧P.bytesOf el ≠ 0∧(es.length+ds.length)*P.bytesOf el≤140737488355328 ∧
    EitherK (K (.d (.ro e (es ++ ds))) hp) (ds ≠ []∧K (.own nx 0 (es.length+ds.length) (es.length+ds.length)) ((nx,⟨el,P.cellsOf el,es.map (fun r=>r.map AV.d) ++ ds.map fun r=>r.map AV.d⟩) :: hp))):=by
  simp only [appendW,List.length_map,eq_iff_iff,EitherK]
  constructor
  · rintro ⟨h1,h2,h3,h4,⟨ds',h5,h6⟩ | ⟨h5,h6⟩⟩
    · have h7:=drows_inj h5
      subst h7
      exact ⟨h1,h2,h3,h4,.inl h6⟩
    · exact ⟨h1,h2,h3,h4,.inr ⟨by simpa using h5,h6⟩⟩
  · rintro ⟨h1,h2,h3,h4,h5 | ⟨h5,h6⟩⟩
    · exact ⟨h1,h2,h3,h4,.inl ⟨ds,rfl,h5⟩⟩
    · exact ⟨h1,h2,h3,h4,.inr ⟨by simpa using h5,h6⟩⟩
theorem r_bnd0 (d:Int):bnd fr d none=some d:=rfl
theorem r_bnd1 (d:Int) (x:Operand):bnd fr d (some x)=(ev fr x).num:=rfl
theorem r_num (k:IntKind) (n:Int):(AV.d (.int k n)).num=some n:=rfl
theorem r_sl_nil (el:TypeId) (l h:Int):sliceW P (.slice el) .nil (some l) (some h) K hp=(P.cellsOf el ≠ 0∧l=0∧h=0∧K .nil hp):=rfl
theorem r_sl_ro (el:TypeId) (l h:Int) (e:Nat) (es:List (List DV)):sliceW P (.slice el) (.d (.ro e es)) (some l) (some h) K hp=(P.cellsOf el ≠ 0∧e=P.cellsOf el∧0≤l∧l≤h∧h≤es.length∧K (.d (.ro e ((es.take h.toNat).drop l.toNat))) hp):=rfl
def slB (b:Option Blk) (n:Nat) (A:Prop):Prop :=
  match b with
  | some b=>b.e=n∧A
  | none=>False
theorem r_sl_own (el:TypeId) (l h:Int) (id i0 len tot:Nat):sliceW P (.slice el) (.own id i0 len tot) (some l) (some h) K hp=slB (lk id hp) (P.cellsOf el) (P.cellsOf el ≠ 0∧0≤l∧l≤h∧h≤len∧K (.own id (i0+l.toNat) (h.toNat - l.toNat) tot) hp):=by
  simp only [sliceW]
  cases lk id hp with
  | none=>rfl
  | some b=>simp only [slB,eq_iff_iff];exact ⟨fun ⟨a,b,c⟩=>⟨b,a,c⟩,fun ⟨b,a,c⟩=>⟨a,b,c⟩⟩
theorem r_sl_sub (el:TypeId) (l h:Int) (id i off e len cap tot:Nat):sliceW P (.slice el) (.sub id i off e len cap tot) (some l) (some h) K hp=(P.cellsOf el ≠ 0∧e=P.cellsOf el∧0≤l∧l≤h∧h≤len∧K (.sub id i (off+l.toNat*e) e (h.toNat - l.toNat) (cap - l.toNat) tot) hp):=rfl
def slP (b:Option Blk) (n:Nat) (A:Prop):Prop :=
  match b with
  | some b=>n≤b.e∧A
  | none=>False
theorem r_sl_ptr (n:Nat) (el:TypeId) (l h:Int) (id i off tot:Nat):sliceW P (.arr n el) (.ptr id i off tot) (some l) (some h) K hp=slP (lk id hp) (off+n*P.cellsOf el) (P.cellsOf el ≠ 0∧i<tot∧0≤l∧l≤h∧h≤n∧K (.sub id i (off+l.toNat*P.cellsOf el) (P.cellsOf el) (h.toNat - l.toNat) (n - l.toNat) tot) hp):=by
  simp only [sliceW]
  cases lk id hp with
  | none=>rfl
  | some b=>simp only [slP,eq_iff_iff];exact ⟨fun ⟨a,b,c⟩=>⟨b,a,c⟩,fun ⟨b,a,c⟩=>⟨a,b,c⟩⟩
theorem r_sl_rop (n:Nat) (el:TypeId) (l h:Int) (cs:List DV):sliceW P (.arr n el) (.rop cs) (some l) (some h) K hp=(P.cellsOf el=1∧n≤cs.length∧0≤l∧l≤h∧h≤n∧K (.d (.ro 1 (((cs.take h.toNat).drop l.toNat).map fun c=>[c]))) hp):=rfl
theorem r_sl_str (bs:List Int) (l h:Int):sliceW P .str (.d (.str bs)) (some l) (some h) K hp=(0≤l∧l≤h∧h≤bs.length∧K (.d (.str ((bs.take h.toNat).drop l.toNat))) hp):=rfl
def apB (P:Program) (el:TypeId) (b:Option Blk) (id len tot:Nat) (xs:List (List AV)) (K:AV→Hp→Prop) (hp:Hp):Prop :=
  match b with
  | some b=>b.es.length=tot∧b.ty=el∧b.e=P.cellsOf el∧(tzO P el).isSome=true∧P.bytesOf el ≠ 0∧(len+xs.length)*P.bytesOf el≤140737488355328 ∧
        (len+xs.length≤tot→K (.own id 0 (len+xs.length) tot) (setH id ⟨b.ty,b.e,b.es.take len ++ (xs ++ b.es.drop (len+xs.length))⟩ hp)) ∧
        (tot<len+xs.length→K (.own id 0 (len+xs.length) (len+xs.length)) (setH id ⟨b.ty,b.e,b.es.take len ++ xs⟩ hp))
  | none=>False
theorem r_ap_nil (el:TypeId) (xs:List (List AV)):appendW P el .nil (some xs) nx K hp=((tzO P el).isSome=true∧P.bytesOf el ≠ 0∧xs.length*P.bytesOf el≤140737488355328∧K (.own nx 0 xs.length xs.length) ((nx,⟨el,P.cellsOf el,xs⟩) :: hp)):=rfl
theorem r_ap_own (el:TypeId) (xs:List (List AV)) (id len tot:Nat):appendW P el (.own id 0 len tot) (some xs) nx K hp=apB P el (lk id hp) id len tot xs K hp:=rfl
def apF (P:Program) (el:TypeId) (b:Option Blk) (id len:Nat) (xs:List (List AV)) (K:AV→Hp→Prop) (hp:Hp):Prop :=
  match b with
  | some b=>b.es.length=len∧b.ty=el∧b.e=P.cellsOf el∧(tzO P el).isSome=true∧P.bytesOf el ≠ 0∧(len+xs.length)*P.bytesOf el≤140737488355328∧K (.own id 0 (len+xs.length) (len+xs.length)) (setH id ⟨b.ty,b.e,b.es ++ xs⟩ hp)
  | none=>False
theorem r_ap_full (el:TypeId) (xs:List (List AV)) (id len:Nat):appendW P el (.own id 0 len len) (some xs) nx K hp=apF P el (lk id hp) id len xs K hp:=by
  rw [r_ap_own]
  unfold apB apF
  cases hb:lk id hp with
  | none=>rfl
  | some b =>
    simp only [eq_iff_iff]
    constructor
    · rintro ⟨h1,h2,h3,h4,h5,h6,h7,h8⟩
      refine ⟨h1,h2,h3,h4,h5,h6,?_⟩
      rcases Nat.eq_zero_or_pos xs.length with h0 | h0
      · have hx:xs=[]:=List.eq_nil_of_length_eq_zero h0
        subst hx
        have:=h7 (by simp)
        simpa using this
      · have:=h8 (by omega)
        rw [List.take_of_length_le (by omega)] at this
        exact this
    · rintro ⟨h1,h2,h3,h4,h5,h6,h7⟩
      refine ⟨h1,h2,h3,h4,h5,h6,fun h=>?_,fun h=>?_⟩
      · have hx:xs=[]:=List.eq_nil_of_length_eq_zero (by omega)
        subst hx
        simpa using h7
      · rw [List.take_of_length_le (by omega)]
        exact h7
theorem r_ro_nil (sz:Nat):rowsOf hp sz .nil=some []:=rfl
theorem r_ro_ro (sz e:Nat) (es:List (List DV)):rowsOf hp sz (.d (.ro e es))=if e=sz then some (es.map fun r=>r.map .d) else none:=rfl
def roB (b:Option Blk) (sz i0 len tot:Nat):Option (List (List AV)) :=
  match b with
  | some b=>if b.es.length=tot∧b.e=sz then some ((b.es.drop i0).take len) else none
  | none=>none
theorem r_ro_own (sz id i0 len tot:Nat):rowsOf hp sz (.own id i0 len tot)=roB (lk id hp) sz i0 len tot:=rfl
def roR (row:Option (List AV)) (n tot e sz off len:Nat):Option (List (List AV)) :=
  match row with
  | some row=>if n=tot∧e=sz then some ((List.range len).map fun k=>(row.drop (off+k*e)).take e) else none
  | none=>none
def roS (b:Option Blk) (sz i off e len tot:Nat):Option (List (List AV)) :=
  match b with
  | some b=>roR b.es[i]? b.es.length tot e sz off len
  | none=>none
theorem r_ro_sub (sz id i off e len cap tot:Nat):rowsOf hp sz (.sub id i off e len cap tot)=roS (lk id hp) sz i off e len tot:=by
  simp only [rowsOf,roS]
  cases lk id hp with
  | none=>rfl
  | some b =>
    simp only
    cases b.es[i]? <;> rfl
theorem r_app (s x:Operand) (t u:TypeId):opW P fr hp nx (.call ⟨.builtin .append,#[s,x],#[t,u]⟩) K=biW P fr hp nx .append [s,x] [t,u] K:=rfl
theorem r_co_d (v:DV):(AV.d v).cellsO=some [.d v]:=rfl
theorem r_co_a (cs:List AV):(AV.agg cs).cellsO=some cs:=rfl
theorem r_co_own (a b c d:Nat):(AV.own a b c d).cellsO=some [.own a b c d]:=rfl
theorem r_co_sub (a b c d e f g:Nat):(AV.sub a b c d e f g).cellsO=some [.sub a b c d e f g]:=rfl
theorem r_co_ptr (a b c d:Nat):(AV.ptr a b c d).cellsO=some [.ptr a b c d]:=rfl
theorem r_co_nil:(AV.nil).cellsO=some [.nil]:=rfl
theorem r_co_fn (f:FuncId) (cs:List AV):(AV.fn f cs).cellsO=some [.fn f cs]:=rfl
theorem r_co_rop (cs:List DV):(AV.rop cs).cellsO=some [.rop cs]:=rfl
def nilQ (eq:Bool) (k:TK) (v:AV) (K:AV→Hp→Prop) (hp:Hp):Prop :=
  match v,k with
  | .nil,.slice _=>K (.d (.bool eq)) hp
  | .d (.ro _ es),.slice _=>∀ b,(b=eq→es.length=0)→K (.d (.bool b)) hp
  | .d (.rof _ es),.slice _=>∀ b,(b=eq→es.length=0)→K (.d (.bool b)) hp
  | .own _ _ len _,.slice _=>∀ b,(b=eq→len=0)→K (.d (.bool b)) hp
  | .sub _ _ _ _ len _ _,.slice _=>∀ b,(b=eq→len=0)→K (.d (.bool b)) hp
  | _,_=>False
theorem r_b_nile (t:TypeId) (v:AV):binW P .eql t v .nil K hp=nilQ true (tyk P t) v K hp:=by
  unfold binW binW0 nilQ
  cases v with
  | d dv=>cases dv <;> cases tyk P t <;> rfl
  | _=>cases tyk P t <;> rfl
theorem r_b_niln (t:TypeId) (v:AV):binW P .neq t v .nil K hp=nilQ false (tyk P t) v K hp:=by
  unfold binW binW0 nilQ
  cases v with
  | d dv=>cases dv <;> cases tyk P t <;> rfl
  | _=>cases tyk P t <;> rfl
theorem r_b_seq (t:TypeId) (a b:List Int):binW P .eql t (.d (.str a)) (.d (.str b)) K hp=K (.d (.bool (decide (a=b)))) hp:=rfl
theorem r_b_slt (t:TypeId) (a b:List Int):binW P .lss t (.d (.str a)) (.d (.str b)) K hp=K (.d (.bool (strLess a b))) hp:=rfl
theorem r_b_sle (t:TypeId) (a b:List Int):binW P .leq t (.d (.str a)) (.d (.str b)) K hp=K (.d (.bool (strLess a b || decide (a=b)))) hp:=rfl
theorem r_b_sgt (t:TypeId) (a b:List Int):binW P .gtr t (.d (.str a)) (.d (.str b)) K hp=K (.d (.bool (!(strLess a b || decide (a=b))))) hp:=rfl
theorem r_b_sge (t:TypeId) (a b:List Int):binW P .geq t (.d (.str a)) (.d (.str b)) K hp=K (.d (.bool (!strLess a b))) hp:=rfl
theorem r_b_sadd (t:TypeId) (a b:List Int):binW P .add t (.d (.str a)) (.d (.str b)) K hp=(a.length+b.length≤9223372036854775807∧K (.d (.str (a ++ b))) hp):=rfl
def clV (P:Program) (v:AV) (args:List AV) (hp:Hp) (N:Nat) (K:AV→Hp→Prop):Prop:=match v with
  | .fn g caps=>ClW P g (args ++ caps) hp N K
  | _=>False
theorem r_callv (f:Tmp) (args:Array Operand) (ts:Array TypeId):opW P fr hp nx (.call ⟨.value (.tmp f),args,ts⟩) K=clV P (fv f fr) (args.toList.map (ev fr)) hp nx K:=by
  simp only [opW,clV,ev]
  cases fv f fr <;> rfl
theorem r_clv (g:FuncId) (args caps:List AV) (N:Nat):clV P (.fn g caps) args hp N K=ClW P g (args ++ caps) hp N K:=rfl
def mxW (x y:AV) (K:AV→Hp→Prop) (hp:Hp):Prop :=
  match x,y with
  | .d (.int k m),.d (.int _ n)=>K (.d (.int k (if n > m then n else m))) hp
  | _,_=>False
theorem r_max (x y:Operand) (t u:TypeId):opW P fr hp nx (.call ⟨.builtin .max,#[x,y],#[t,u]⟩) K=mxW (ev fr x) (ev fr y) K hp:=rfl
def mnW (x y:AV) (K:AV→Hp→Prop) (hp:Hp):Prop :=
  match x,y with
  | .d (.int k m),.d (.int _ n)=>K (.d (.int k (if n<m then n else m))) hp
  | _,_=>False
theorem r_min (x y:Operand) (t u:TypeId):opW P fr hp nx (.call ⟨.builtin .min,#[x,y],#[t,u]⟩) K=mnW (ev fr x) (ev fr y) K hp:=rfl
theorem r_b_sne (t:TypeId) (a b:List Int):binW P .neq t (.d (.str a)) (.d (.str b)) K hp=K (.d (.bool (!decide (a=b)))) hp:=rfl
def bxW (t:TypeId) (v:AV) (nx:Nat) (K:AV→Hp→Prop) (hp:Hp):Prop :=
  match v with
  | .agg cs=>K (.ptr nx 0 0 1) ((nx,⟨t,cs.length,[cs]⟩) :: hp)
  | .any=>False
  | .tup _=>False
  | .d v=>K (.ptr nx 0 0 1) ((nx,⟨t,1,[[.d v]]⟩) :: hp)
  | .own a b c d=>K (.ptr nx 0 0 1) ((nx,⟨t,1,[[.own a b c d]]⟩) :: hp)
  | .sub a b c d e f g=>K (.ptr nx 0 0 1) ((nx,⟨t,1,[[.sub a b c d e f g]]⟩) :: hp)
  | .ptr a b c d=>K (.ptr nx 0 0 1) ((nx,⟨t,1,[[.ptr a b c d]]⟩) :: hp)
  | .rop cs=>K (.ptr nx 0 0 1) ((nx,⟨t,1,[[.rop cs]]⟩) :: hp)
  | .fn f cs=>K (.ptr nx 0 0 1) ((nx,⟨t,1,[[.fn f cs]]⟩) :: hp)
  | .nil=>K (.ptr nx 0 0 1) ((nx,⟨t,1,[[.nil]]⟩) :: hp)
  | .mp a=>K (.ptr nx 0 0 1) ((nx,⟨t,1,[[.mp a]]⟩) :: hp)
theorem r_bx (t:TypeId) (x:Operand):opW P fr hp nx (.box t x) K=bxW t (ev fr x) nx K hp:=by
  simp only [opW]
  cases ev fr x <;> rfl
def stR (P:Program) (t:TypeId) (id:Nat) (b:Blk) (i off:Nat) (row:List AV) (u:AV) (K:AV→Hp→Prop) (hp:Hp):Prop :=
  match u with
  | .agg cs=>cs.length=P.cellsOf t∧P.cellsOf t ≠ 0∧off+cs.length≤row.length∧K .any (setH id ⟨b.ty,b.e,b.es.set i (row.take off ++ (cs ++ row.drop (off+cs.length)))⟩ hp)
  | .any=>False
  | .tup _=>False
  | .d v=>P.cellsOf t=1∧off<row.length∧K .any (setH id ⟨b.ty,b.e,b.es.set i (row.set off (.d v))⟩ hp)
  | .own a1 a2 a3 a4=>P.cellsOf t=1∧off<row.length∧K .any (setH id ⟨b.ty,b.e,b.es.set i (row.set off (.own a1 a2 a3 a4))⟩ hp)
  | .sub a1 a2 a3 a4 a5 a6 a7=>P.cellsOf t=1∧off<row.length∧K .any (setH id ⟨b.ty,b.e,b.es.set i (row.set off (.sub a1 a2 a3 a4 a5 a6 a7))⟩ hp)
  | .ptr a1 a2 a3 a4=>P.cellsOf t=1∧off<row.length∧K .any (setH id ⟨b.ty,b.e,b.es.set i (row.set off (.ptr a1 a2 a3 a4))⟩ hp)
  | .rop cs=>P.cellsOf t=1∧off<row.length∧K .any (setH id ⟨b.ty,b.e,b.es.set i (row.set off (.rop cs))⟩ hp)
  | .fn f cs=>P.cellsOf t=1∧off<row.length∧K .any (setH id ⟨b.ty,b.e,b.es.set i (row.set off (.fn f cs))⟩ hp)
  | .nil=>P.cellsOf t=1∧off<row.length∧K .any (setH id ⟨b.ty,b.e,b.es.set i (row.set off .nil)⟩ hp)
  | .mp a=>P.cellsOf t=1∧off<row.length∧K .any (setH id ⟨b.ty,b.e,b.es.set i (row.set off (.mp a))⟩ hp)
def stB (P:Program) (t:TypeId) (id:Nat) (b:Option Blk) (i off tot:Nat) (u:AV) (K:AV→Hp→Prop) (hp:Hp):Prop :=
  match b with
  | some b=>(match b.es[i]? with
    | some row=>b.es.length=tot∧stR P t id b i off row u K hp
    | none=>False)
  | none=>False
def stW (P:Program) (t:TypeId) (v u:AV) (K:AV→Hp→Prop) (hp:Hp):Prop :=
  match v with
  | .ptr id i off tot=>stB P t id (lk id hp) i off tot u K hp
  | _=>False
theorem r_st (t:TypeId) (x y:Operand):opW P fr hp nx (.store t x y) K=stW P t (ev fr x) (ev fr y) K hp:=by
  simp only [opW,stW]
  generalize ev fr x=v
  generalize ev fr y=u
  cases v with
  | ptr id i off tot =>
    simp only [stB]
    cases lk id hp with
    | none=>rfl
    | some b =>
      simp only
      cases b.es[i]? with
      | none=>rfl
      | some row=>cases u <;> rfl
  | _=>rfl
theorem r_mm (t:TypeId):opW P fr hp nx (.makeMap t none) K=(∀ g,K (.mp nx) ((nx,⟨g,0,mapR []⟩) :: hp)):=rfl
theorem r_lu (t:TypeId) (m x:Operand):opW P fr hp nx (.lookup t m x false) K=luW P t (ev fr m) (ev fr x) K hp:=rfl
theorem r_mu (t:TypeId) (m x v:Operand):opW P fr hp nx (.mapUpdate t m x v) K=muW P t (ev fr m) (ev fr x) (ev fr v) K hp:=rfl
theorem r_len (x:Operand) (t:TypeId):opW P fr hp nx (.call ⟨.builtin .len,#[x],#[t]⟩) K=biW P fr hp nx .len [x] [t] K:=rfl
theorem r_call (f:FuncId) (args:Array Operand) (ts:Array TypeId):opW P fr hp nx (.call ⟨.value (.func f),args,ts⟩) K=ClW P f (args.toList.map (ev fr)) hp nx K:=by
  simp [opW,ev,ClW]
end
section
variable (P:Program)
def skB (k:TK):Bool:=match k with
  | .slice _=>false
  | _=>true
theorem sk_bin (op:BinOp) (t t':TypeId) (x y:Operand):stillKind P (.binOp op t x y t')=skB (tyk P t):=by
  simp only [stillKind,skB]
  cases tyk P t <;> rfl
theorem sk_move (x:Operand):stillKind P (.move x)=true:=rfl
theorem sk_assign (x:Operand):stillKind P (.assign x)=true:=rfl
theorem sk_pick (x y z:Operand):stillKind P (.pick x y z)=true:=rfl
theorem sk_un (o:UnOp) (t:TypeId) (x:Operand):stillKind P (.unOp o t x)=true:=rfl
theorem sk_nil (x:Operand):stillKind P (.nilCheck x)=true:=rfl
theorem sk_ex (x:Operand) (i:Nat):stillKind P (.extract x i)=true:=rfl
theorem sk_cv (s t:TypeId) (x:Operand):stillKind P (.convert s t x)=skB (tyk P t):=by
  simp only [stillKind,skB]
  cases tyk P t <;> rfl
theorem sk_arr (t:TypeId) (x:Operand):stillKind P (.sliceToArrayPointer t x)=true:=rfl
theorem sk_ld (t:TypeId) (x:Operand):stillKind P (.load t x)=true:=rfl
theorem sk_fa (t:TypeId) (x:Operand) (i:Nat):stillKind P (.fieldAddr t x i)=true:=rfl
theorem sk_ix (t:TypeId) (x y:Operand):stillKind P (.indexAddr t x y)=true:=rfl
theorem sk_fd (t:TypeId) (x:Operand) (i:Nat):stillKind P (.field t x i)=true:=rfl
theorem sk_idx (t:TypeId) (x y:Operand):stillKind P (.index t x y)=true:=rfl
theorem sk_bd (t:TypeId) (x:Array (Nat × Operand)):stillKind P (.build t x)=true:=rfl
theorem sk_sl (t:TypeId) (x:Operand) (lo hi m:Option Operand):stillKind P (.slice t x lo hi m)=true:=rfl
theorem sk_len (x:Array Operand) (t:Array TypeId):stillKind P (.call ⟨.builtin .len,x,t⟩)=true:=rfl
end
attribute [go_sem] r_min mnW r_mm r_lu r_mu r_b_slt r_b_sle r_b_sgt r_b_sge r_b_sadd r_callv r_clv r_max mxW apS r_ap_sub r_b_pn1 r_b_pn2 r_b_pn3 pnW r_b_ag agK agO r_ag r_sg sgR litsOf ints_map idO idS idX idW r_index sk_idx cvB r_sl3 r_bndO r_sl3_ro r_sl3_nil r_sl3_own mkO r_mk r_mk1 r_arr r_arr1 r_arr2 r_cp cpB r_cp1 r_ap_rof r_vstr List.getElem?_toArray Option.bind_some decide_not Bool.not_not r_draw skB sk_bin sk_move sk_assign sk_pick sk_un sk_nil sk_ex sk_cv sk_arr sk_ld sk_fa sk_ix sk_bd sk_sl sk_len SaW r_bd bdO r_bd_s r_bd_a fillO fillA structPlace r_bs bsW bsO bsR fillR r_sl r_bnd0 r_bnd1 r_num r_sl_nil r_sl_ro r_sl_own slB r_sl_sub slP r_sl_ptr r_sl_rop r_sl_str AV.topLen apF r_ap_nil r_ap_full r_ro_nil r_ro_ro r_ro_own roB roR roS r_ro_sub r_app r_co_d r_co_a r_co_own r_co_sub r_co_ptr r_co_nil r_co_fn r_co_rop nilQ r_b_nile r_b_niln r_b_seq r_b_sne Option.isSome_some List.length_replicate List.replicate_succ List.replicate_zero List.length_append r_un unW r_nilc nilW r_ex exW r_cv cvW r_ld ldW ldB ldR ldO r_ldv ldvK r_fa fldK faO r_fd fdO sk_fd r_ix ixW ixB ixO r_al alW r_bx bxW r_st stW stB stR EndK retW resV r_seq r_skip r_ret r_exit r_block r_region r_loop r_cond r_cnd_t r_cnd_f r_cnd_d r_cnd_n r_sq_n r_sq_r r_sq_e r_bl_n r_bl_r r_bl_e r_norm r_lp_r r_lp_e r_nil r_cons r_guard r_g_u r_g_t r_g_f r_g_tf r_g_ft r_g_df r_rg r_put r_put0 r_dst r_dst0 r_tmp r_const r_func r_fv r_fv0 r_setH r_vi r_vb r_vs r_vp r_move r_assign r_pick r_pick_f r_pick_bb r_pick_a r_pick_u r_bin r_b_add r_b_sub r_b_mul r_b_quo r_b_rem r_b_and r_b_or r_b_xor r_b_shl r_b_shr r_b_eql r_b_neq r_b_lss r_b_leq r_b_gtr r_b_geq r_len r_call r_lk r_lk0 fr0 biW AV.slen List.length_map Int.toNat_natCast List.getElem?_map Option.map_some Int.natCast_nonneg ne_eq not_false_eq_true List.map_cons List.map_nil List.drop_zero List.drop_succ_cons List.length_cons List.length_nil List.take_succ_cons List.take_zero List.getElem?_cons_zero List.getElem?_cons_succ List.head?_cons List.set_cons_zero List.cons_append List.nil_append Nat.zero_add List.drop_nil Nat.add_zero true_and and_true
def LoopT {T:Type} (mk:T→St) (inv:T→Prop) (mu:T→Nat) (t:T) (Q:Exit→St→Prop):Exit→St→Prop
  | .normal,st=>∃ t',inv t'∧mu t'<mu t∧Wk st (mk t')
  | e,st=>Q e st
theorem r_lt_r {T:Type} (mk:T→St) (inv:T→Prop) (mu:T→Nat) (t:T) (Q:Exit→St→Prop) (st:St):LoopT mk inv mu t Q .ret st=Q .ret st:=rfl
theorem r_lt_e {T:Type} (mk:T→St) (inv:T→Prop) (mu:T→Nat) (t:T) (Q:Exit→St→Prop) (st:St) (i:Nat):LoopT mk inv mu t Q (.exit i) st=Q (.exit i) st:=rfl
attribute [go_sem] r_lt_r r_lt_e
theorem next_of {T:Type} {mk:T→St} {inv:T→Prop} {mu:T→Nat} {t:T} {Q:Exit→St→Prop} {st:St} (t':T) (hI:inv t') (hm:mu t'<mu t) (hw:Weak st (mk t')):LoopT mk inv mu t Q .normal st:=⟨t',hI,hm,weak_wk hw⟩
theorem nextF_of {T:Type} {mk:T→St} {inv:T→Prop} {mu:T→Nat} {t:T} {Q:Exit→St→Prop} {st:St} (t':T) (hI:inv t') (hm:mu t'<mu t) (ids:List Nat) (fz:Fr) (hz:∀ p,p ∈ fz→Snap st.hp (fun id=>id ∈ ids) (fv p.1 st.fr) p.2) (hw:Weak ⟨fz ++ st.fr,dropH ids st.hp,st.nx⟩ (mk t')):LoopT mk inv mu t Q .normal st:=⟨t',hI,hm,weakF_of ids fz hz hw⟩
theorem nextW_of {T:Type} {mk:T→St} {inv:T→Prop} {mu:T→Nat} {t:T} {Q:Exit→St→Prop} {st:St} (t':T) (hI:inv t') (hm:mu t'<mu t) (hw:Wk st (mk t')):LoopT mk inv mu t Q .normal st:=⟨t',hI,hm,hw⟩
theorem loopW_of {P:Program} {n:Nat} {x:Code} {Q:Exit→St→Prop} {st:St} {T:Type} (mk:T→St) (inv:T→Prop) (mu:T→Nat) (t0:T) (h0:inv t0) (hw:Wk st (mk t0))
    (h:∀ t,inv t→awp P n x (LoopT mk inv mu t Q) (mk t)):LpW P n x Q st:=by
  refine ⟨fun m st=>∃ t,mu t=m∧inv t∧st=mk t,⟨mu t0,mk t0,hw,t0,rfl,h0,rfl⟩,?_⟩
  rintro m _ ⟨t,rfl,hi,rfl⟩
  have:LoopK (fun m st=>∃ t,mu t=m∧inv t∧st=mk t) (mu t) Q=LoopT mk inv mu t Q:=by
    funext e st
    cases e <;> try rfl
    simp only [LoopK,LoopT,eq_iff_iff]
    constructor
    · rintro ⟨m',st',h1,h2,t',rfl,h3,rfl⟩
      exact ⟨t',h3,h1,h2⟩
    · rintro ⟨t',h3,h1,h2⟩
      exact ⟨mu t',mk t',h1,h2,t',rfl,h3,rfl⟩
  rw [this]
  exact h t hi
theorem loop_of {P:Program} {n:Nat} {x:Code} {Q:Exit→St→Prop} {st:St} {T:Type} (mk:T→St) (inv:T→Prop) (mu:T→Nat) (t0:T) (h0:inv t0) (hw:Weak st (mk t0))
    (h:∀ t,inv t→awp P n x (LoopT mk inv mu t Q) (mk t)):LpW P n x Q st:=loopW_of mk inv mu t0 h0 (weak_wk hw) h
theorem cl_ext {P:Program} {g:FuncId} {args:List AV} {hp:Hp} {N:Nat} {K:AV→Hp→Prop} {r:AV} (h:ExtOk P g args r) (hK:K r hp):ClW P g args hp N K:=.inr ⟨r,h,hK⟩
theorem cl_fn {P:Program} {g:FuncId} {args:List AV} {hp:Hp} {N:Nat} {K:AV→Hp→Prop} {Q:AV→Prop} (h:Rets P g args Q) (hd:∀ v,v ∈ args→v.deep) (hK:∀ r,Q r→K r hp):ClW P g args hp N K:=.inl (callsA_fn h hd hK)
theorem cl_eq {P:Program} {g:FuncId} {args:List AV} {hp:Hp} {N:Nat} {K:AV→Hp→Prop} {r:AV} (h:Rets P g args (fun x=>x=r)) (hd:∀ v,v ∈ args→v.deep) (hK:K r hp):ClW P g args hp N K:=.inl (callsA_fn h hd (fun _ e=>by rw [e];exact hK))
theorem cl_froz (ids:List Nat) {P:Program} {g:FuncId} {args args':List AV} {hp:Hp} {N:Nat} {K:AV→Hp→Prop} {r:AV} (h:Rets P g args' (fun x=>x=r)) (hl':args.length=args'.length)
    (hs:∀ (i:Nat) (v v':AV),args[i]?=some v→args'[i]?=some v'→Snap hp (fun id=>id ∈ ids) v v') (hK:K r (dropH ids hp)):ClW P g args hp N K:=.inl (callsA_froz ids h hl' hs (fun _ e=>by rw [e];exact hK))
theorem cl_snap {P:Program} {g:FuncId} {args args':List AV} {hp:Hp} {N:Nat} {K:AV→Hp→Prop} {r:AV} (h:Rets P g args' (fun x=>x=r)) (hl':args.length=args'.length)
    (hs:∀ (i:Nat) (v v':AV),args[i]?=some v→args'[i]?=some v'→Snap hp (fun _=>True) v v') (hf:r.flat) (hK:K r hp):ClW P g args hp N K:=.inl (callsA_snap h hl' hs (fun _ e=>by rw [e];exact hf) (fun _ e=>by rw [e];exact hK))
theorem snap_nil {hp:Hp} {I:Nat→Prop} {args':List AV}:∀ (i:Nat) (v v':AV),([]:List AV)[i]?=some v→args'[i]?=some v'→Snap hp I v v':=by intro i v v' h;simp at h
theorem snap_cons {hp:Hp} {I:Nat→Prop} {a a':AV} {args args':List AV} (h:Snap hp I a a') (t:∀ (i:Nat) (v v':AV),args[i]?=some v→args'[i]?=some v'→Snap hp I v v'):∀ (i:Nat) (v v':AV),(a :: args)[i]?=some v→(a' :: args')[i]?=some v'→Snap hp I v v':=by
  intro i v v' h1 h2
  cases i with
  | zero=>simp at h1 h2;subst h1;subst h2;exact h
  | succ i=>simp at h1 h2;exact t i v v' h1 h2
theorem snap1_nil {hp:Hp} {I:Nat→Prop} {args':List AV}:∀ (i:Nat) (v v':AV),([]:List AV)[i]?=some v→args'[i]?=some v'→Snap1 hp I v v':=by intro i v v' h;simp at h
theorem snap1_cons {hp:Hp} {I:Nat→Prop} {a a':AV} {args args':List AV} (h:Snap1 hp I a a') (t:∀ (i:Nat) (v v':AV),args[i]?=some v→args'[i]?=some v'→Snap1 hp I v v'):∀ (i:Nat) (v v':AV),(a :: args)[i]?=some v→(a' :: args')[i]?=some v'→Snap1 hp I v v':=by
  intro i v v' h1 h2
  cases i with
  | zero=>simp at h1 h2;subst h1;subst h2;exact h
  | succ i=>simp at h1 h2;exact t i v v' h1 h2
theorem snap1_same {hp:Hp} {I:Nat→Prop} {v:AV} (h:v.deep1):Snap1 hp I v v:=.inl ⟨rfl,h⟩
theorem snap1_d {hp:Hp} {I:Nat→Prop} {v:AV} {d:DV} (h:SnapD hp I v d):Snap1 hp I v (.d d):=.inr ⟨d,rfl,h⟩
end Go.Am
namespace Go.Am
structure ZIt where
  g:Option (Tmp × Bool)
  z:Nat
  op:Op
  dst:Option Tmp
inductive Its (ops:Array Oper):List Nat→List ZIt→Prop
  | nil:Its ops [] []
  | plain {z:Nat} {d:Option Tmp} {op:Op} {ty:TypeId} {pos:String} {af:Array Edge} {zs:List Nat} {its:List ZIt} (h:ops[z]?=some ⟨d,op,ty,pos,af,none⟩) (t:Its ops zs its):Its ops (z :: zs) (⟨none,z,op,d⟩ :: its)
  | guard {z:Nat} {d:Option Tmp} {op:Op} {ty:TypeId} {pos:String} {af:Array Edge} {g:Nat} {want:Bool} {gd:Tmp} {zs:List Nat} {its:List ZIt} (h:ops[z]?=some ⟨d,op,ty,pos,af,some (g,want)⟩) (hg:(ops[g]?).bind (·.dst)=some gd) (t:Its ops zs its):Its ops (z :: zs) (⟨some (gd,want),z,op,d⟩ :: its)
section
variable (P:Program) (base:Nat) (hp0:Hp)
def zI (F:Fr→Prop):List ZIt→Fr→Prop
  | [],fr=>F fr
  | ⟨none,z,op,d⟩ :: r,fr=>zOp P hp0 fr base op fun v=>zI F r (putFr fr d v)
  | ⟨some (t,want),z,op,d⟩ :: r,fr=>match fv t fr with
    | .d (.bool b)=>(b=want→zOp P hp0 fr base op fun v=>zI F r (putFr fr d v))∧(b=!want→zI F r (putFr fr d (.tup [])))
    | .tup []=>zI F r (putFr fr d (.tup []))
    | _=>False
def chI (F:Fr→Hp→Prop):List (ZIt × List ZIt)→Nat→Fr→Hp→Prop
  | [],_,fr,hp=>F fr hp
  | (⟨none,z,op,d⟩,zs) :: r,m,fr,hp=>opW P fr hp (base+32*z) op fun v hp'=>(m ≠ 0→SaW hp0 hp')∧zI P base hp0 (fun fr=>chI F r (m - 1) fr hp') zs (putFr fr d v)
  | (⟨some (t,want),z,op,d⟩,zs) :: r,m,fr,hp=>match fv t fr with
    | .d (.bool b)=>(b=want→opW P fr hp (base+32*z) op fun v hp'=>(m ≠ 0→SaW hp0 hp')∧zI P base hp0 (fun fr=>chI F r (m - 1) fr hp') zs (putFr fr d v)) ∧
        (b=!want→zI P base hp0 (fun fr=>chI F r (m - 1) fr hp) zs (putFr fr d (.tup [])))
    | .tup []=>zI P base hp0 (fun fr=>chI F r (m - 1) fr hp) zs (putFr fr d (.tup []))
    | _=>False
end
inductive Jts (ops:Array Oper):Segs→List (ZIt × List ZIt)→Prop
  | nil:Jts ops [] []
  | plain {z:Nat} {d:Option Tmp} {op:Op} {ty:TypeId} {pos:String} {af:Array Edge} {zs:List Nat} {its:List ZIt} {ss:Segs} {jts:List (ZIt × List ZIt)} (h:ops[z]?=some ⟨d,op,ty,pos,af,none⟩) (hz:Its ops zs its) (t:Jts ops ss jts):Jts ops ((z,zs) :: ss) ((⟨none,z,op,d⟩,its) :: jts)
  | guard {z:Nat} {d:Option Tmp} {op:Op} {ty:TypeId} {pos:String} {af:Array Edge} {g:Nat} {want:Bool} {gd:Tmp} {zs:List Nat} {its:List ZIt} {ss:Segs} {jts:List (ZIt × List ZIt)} (h:ops[z]?=some ⟨d,op,ty,pos,af,some (g,want)⟩) (hg:(ops[g]?).bind (·.dst)=some gd) (hz:Its ops zs its) (t:Jts ops ss jts):Jts ops ((z,zs) :: ss) ((⟨some (gd,want),z,op,d⟩,its) :: jts)
theorem zI_eq {P:Program} {base:Nat} {hp0:Hp} {ops:Array Oper} {C:Fr→Prop} {zs:List Nat} {its:List ZIt} (h:Its ops zs its):∀ (fr:Fr),zW P ops base hp0 C zs fr=zI P base hp0 C its fr:=by
  induction h with
  | nil=>intro fr;rfl
  | plain h _ ih =>
    intro fr
    simp only [zW,zI,h,ih]
  | @guard z d op ty pos af g want gd zs its h hg _ ih =>
    intro fr
    simp only [zW,zI,h,hg,ih]
    cases fv gd fr with
    | d v=>cases v <;> rfl
    | tup l=>cases l <;> rfl
    | _=>rfl
theorem chI_eq {P:Program} {base:Nat} {hp0:Hp} {ops:Array Oper} {K:Fr→Hp→Prop} {ss:Segs} {jts:List (ZIt × List ZIt)} (h:Jts ops ss jts):∀ (m:Nat) (fr:Fr) (hp:Hp),chW P ops base hp0 K ss m fr hp=chI P base hp0 K jts m fr hp:=by
  induction h with
  | nil=>intro m fr hp;rfl
  | plain h hz _ ih =>
    intro m fr hp
    simp only [chW,chI,h,ih,zI_eq hz]
  | @guard z d op ty pos af g want gd zs its ss jts h hg hz _ ih =>
    intro m fr hp
    simp only [chW,chI,h,hg,ih,zI_eq hz]
    cases fv gd fr with
    | d v=>cases v <;> rfl
    | tup l=>cases l <;> rfl
    | _=>rfl
theorem draw2 {P:Program} {n:Nat} {ops:Array Oper} {Q:Exit→St→Prop} {st:St} (zs:List Nat) (ss:Segs) (m:Nat) {its:List ZIt} {jts:List (ZIt × List ZIt)} {k:Nat} (h1:regB n ops zs ss m=true) (h2:P.follows .mixedOrders=true) (hk:ops.size=k) (hz:Its ops zs its) (hj:Jts ops ss jts)
    (h3:∀ F:Fr→Hp→Prop,(∀ fr hp,Q .normal ⟨fr,hp,st.nx+32*k⟩→F fr hp)→zI P st.nx st.hp (fun fr=>chI P st.nx st.hp F jts m fr st.hp) its st.fr):DrW P n ops Q st:=by
  subst hk
  refine .inl ⟨zs,ss,m,h1,h2,?_⟩
  rw [zI_eq hz]
  have:=h3 (fun fr hp=>Q .normal ⟨fr,hp,st.nx+32*ops.size⟩) (fun fr hp h=>h)
  refine cast ?_ this
  congr 1
  funext fr
  exact (chI_eq hj _ _ _).symm
section
variable (P:Program) (base:Nat) (hp0:Hp) (F:Fr→Prop) (G:Fr→Hp→Prop) (fr:Fr) (hp:Hp) (m:Nat) (r:List ZIt) (q:List (ZIt × List ZIt)) (zs:List ZIt)
def ZiK (dst:Option Tmp) (v:AV) (hp':Hp):Prop:=zI P base hp0 F r (putFr fr dst v)
def ChiK (dst:Option Tmp) (v:AV) (hp':Hp):Prop:=(m ≠ 0→SaW hp0 hp')∧zI P base hp0 (fun fr=>chI P base hp0 G q (m - 1) fr hp') zs (putFr fr dst v)
def zi1 (op:Op) (dst:Option Tmp):Bool→Prop
  | true=>opW P fr hp0 base op (ZiK P base hp0 F fr r dst)
  | false=>∃ v,Still P fr hp0 op v∧zI P base hp0 F r (putFr fr dst v)
theorem r_zi_o (op:Op) (dst:Option Tmp):(zOp P hp0 fr base op fun v=>zI P base hp0 F r (putFr fr dst v))=zi1 P base hp0 F fr r op dst (stillKind P op):=by
  unfold zOp zi1
  cases stillKind P op
  · simp
  · simp only [if_true];rfl
def ziG (op:Op) (dst:Option Tmp) (want:Bool):AV→Prop
  | .d (.bool b)=>(b=want→zi1 P base hp0 F fr r op dst (stillKind P op))∧(b=!want→zI P base hp0 F r (putFr fr dst (.tup [])))
  | .tup []=>zI P base hp0 F r (putFr fr dst (.tup []))
  | _=>False
def chG (op:Op) (dst:Option Tmp) (N:Nat) (want:Bool):AV→Prop
  | .d (.bool b)=>(b=want→opW P fr hp N op (ChiK P base hp0 G fr m q zs dst))∧(b=!want→zI P base hp0 (fun fr=>chI P base hp0 G q (m - 1) fr hp) zs (putFr fr dst (.tup [])))
  | .tup []=>zI P base hp0 (fun fr=>chI P base hp0 G q (m - 1) fr hp) zs (putFr fr dst (.tup []))
  | _=>False
theorem r_zi0:zI P base hp0 F [] fr=F fr:=rfl
theorem r_zi1 (z:Nat) (op:Op) (d:Option Tmp):zI P base hp0 F (⟨none,z,op,d⟩ :: r) fr=zi1 P base hp0 F fr r op d (stillKind P op):=by
  simp only [zI];exact r_zi_o ..
theorem r_zi2 (t:Tmp) (want:Bool) (z:Nat) (op:Op) (d:Option Tmp):zI P base hp0 F (⟨some (t,want),z,op,d⟩ :: r) fr=ziG P base hp0 F fr r op d want (fv t fr):=by
  simp only [zI,ziG,r_zi_o]
theorem r_zi_t (op:Op) (dst:Option Tmp):zi1 P base hp0 F fr r op dst true=opW P fr hp0 base op (ZiK P base hp0 F fr r dst):=rfl
theorem r_zik (dst:Option Tmp) (v:AV) (hp':Hp):ZiK P base hp0 F fr r dst v hp'=zI P base hp0 F r (putFr fr dst v):=rfl
theorem r_zig_u (op:Op) (dst:Option Tmp) (want:Bool):ziG P base hp0 F fr r op dst want (.tup [])=zI P base hp0 F r (putFr fr dst (.tup [])):=rfl
theorem r_zig_t (op:Op) (dst:Option Tmp):ziG P base hp0 F fr r op dst true (.d (.bool true))=zi1 P base hp0 F fr r op dst (stillKind P op):=by simp [ziG]
theorem r_zig_f (op:Op) (dst:Option Tmp):ziG P base hp0 F fr r op dst false (.d (.bool false))=zi1 P base hp0 F fr r op dst (stillKind P op):=by simp [ziG]
theorem r_zig_tf (op:Op) (dst:Option Tmp):ziG P base hp0 F fr r op dst false (.d (.bool true))=zI P base hp0 F r (putFr fr dst (.tup [])):=by simp [ziG]
theorem r_zig_ft (op:Op) (dst:Option Tmp):ziG P base hp0 F fr r op dst true (.d (.bool false))=zI P base hp0 F r (putFr fr dst (.tup [])):=by simp [ziG]
theorem r_chi0:chI P base hp0 G [] m fr hp=G fr hp:=rfl
theorem r_chi1 (z:Nat) (op:Op) (d:Option Tmp):chI P base hp0 G ((⟨none,z,op,d⟩,zs) :: q) m fr hp=opW P fr hp (base+32*z) op (ChiK P base hp0 G fr m q zs d):=rfl
theorem r_chi2 (t:Tmp) (want:Bool) (z:Nat) (op:Op) (d:Option Tmp):chI P base hp0 G ((⟨some (t,want),z,op,d⟩,zs) :: q) m fr hp=chG P base hp0 G fr hp m q zs op d (base+32*z) want (fv t fr):=rfl
theorem r_chik (dst:Option Tmp) (v:AV) (hp':Hp):ChiK P base hp0 G fr m q zs dst v hp'=((m ≠ 0→SaW hp0 hp')∧zI P base hp0 (fun fr=>chI P base hp0 G q (m - 1) fr hp') zs (putFr fr dst v)):=rfl
theorem r_chg_u (op:Op) (dst:Option Tmp) (N:Nat) (want:Bool):chG P base hp0 G fr hp m q zs op dst N want (.tup [])=zI P base hp0 (fun fr=>chI P base hp0 G q (m - 1) fr hp) zs (putFr fr dst (.tup [])):=rfl
theorem r_chg_t (op:Op) (dst:Option Tmp) (N:Nat):chG P base hp0 G fr hp m q zs op dst N true (.d (.bool true))=opW P fr hp N op (ChiK P base hp0 G fr m q zs dst):=by simp [chG]
theorem r_chg_f (op:Op) (dst:Option Tmp) (N:Nat):chG P base hp0 G fr hp m q zs op dst N false (.d (.bool false))=opW P fr hp N op (ChiK P base hp0 G fr m q zs dst):=by simp [chG]
theorem r_chg_tf (op:Op) (dst:Option Tmp) (N:Nat):chG P base hp0 G fr hp m q zs op dst N false (.d (.bool true))=zI P base hp0 (fun fr=>chI P base hp0 G q (m - 1) fr hp) zs (putFr fr dst (.tup [])):=by simp [chG]
theorem r_chg_ft (op:Op) (dst:Option Tmp) (N:Nat):chG P base hp0 G fr hp m q zs op dst N true (.d (.bool false))=zI P base hp0 (fun fr=>chI P base hp0 G q (m - 1) fr hp) zs (putFr fr dst (.tup [])):=by simp [chG]
end
inductive TI where
  | done
  | alt (a b:TI)
  | step (it:ZIt) (zs:List ZIt) (keep:Bool) (t:TI)
section
variable (P:Program) (base:Nat) (hp0:Hp) (F:Fr→Hp→Prop)
def tI:TI→Fr→Hp→Prop
  | .done,fr,hp=>F fr hp
  | .alt a b,fr,hp=>tI a fr hp∧tI b fr hp
  | .step ⟨none,z,op,d⟩ zs keep t,fr,hp=>opW P fr hp (base+32*z) op fun v hp'=>(keep=true→SaW hp0 hp')∧zI P base hp0 (fun fr=>tI t fr hp') zs (putFr fr d v)
  | .step ⟨some (g,want),z,op,d⟩ zs keep t,fr,hp=>match fv g fr with
    | .d (.bool b)=>(b=want→opW P fr hp (base+32*z) op fun v hp'=>(keep=true→SaW hp0 hp')∧zI P base hp0 (fun fr=>tI t fr hp') zs (putFr fr d v)) ∧
        (b=!want→zI P base hp0 (fun fr=>tI t fr hp) zs (putFr fr d (.tup [])))
    | .tup []=>zI P base hp0 (fun fr=>tI t fr hp) zs (putFr fr d (.tup []))
    | _=>False
end
inductive Tts (ops:Array Oper):Tr→TI→Prop
  | done:Tts ops .done .done
  | alt {a b:Tr} {x y:TI} (h:Tts ops a x) (h':Tts ops b y):Tts ops (.alt a b) (.alt x y)
  | plain {z:Nat} {d:Option Tmp} {op:Op} {ty:TypeId} {pos:String} {af:Array Edge} {zs:List Nat} {its:List ZIt} {t:Tr} {x:TI} {keep:Bool} (h:ops[z]?=some ⟨d,op,ty,pos,af,none⟩) (hz:Its ops zs its) (ht:Tts ops t x):Tts ops (.step z zs keep t) (.step ⟨none,z,op,d⟩ its keep x)
  | guard {z:Nat} {d:Option Tmp} {op:Op} {ty:TypeId} {pos:String} {af:Array Edge} {g:Nat} {want:Bool} {gd:Tmp} {zs:List Nat} {its:List ZIt} {t:Tr} {x:TI} {keep:Bool} (h:ops[z]?=some ⟨d,op,ty,pos,af,some (g,want)⟩) (hg:(ops[g]?).bind (·.dst)=some gd) (hz:Its ops zs its) (ht:Tts ops t x):Tts ops (.step z zs keep t) (.step ⟨some (gd,want),z,op,d⟩ its keep x)
theorem tI_eq {P:Program} {base:Nat} {hp0:Hp} {ops:Array Oper} {K:Fr→Hp→Prop} {t:Tr} {x:TI} (h:Tts ops t x):∀ (fr:Fr) (hp:Hp),trW P ops base hp0 K t fr hp=tI P base hp0 K x fr hp:=by
  induction h with
  | done=>intro fr hp;rfl
  | alt _ _ ih1 ih2=>intro fr hp;simp only [trW,tI,ih1,ih2]
  | plain h hz _ ih =>
    intro fr hp
    simp only [trW,tI,h,ih,zI_eq hz]
  | @guard z d op ty pos af g want gd zs its t x keep h hg hz _ ih =>
    intro fr hp
    simp only [trW,tI,h,hg,ih,zI_eq hz]
    cases fv gd fr with
    | d v=>cases v <;> rfl
    | tup l=>cases l <;> rfl
    | _=>rfl
theorem draw3 {P:Program} {n:Nat} {ops:Array Oper} {Q:Exit→St→Prop} {st:St} (zs is za:List Nat) (t:Tr) (st':St) {its:List ZIt} {x:TI} {k:Nat} (h1:tregB n ops zs is za t=true) (h2:P.follows .mixedOrders=true) (hk:ops.size=k) (hz:Its ops zs its) (hj:Tts ops t x)
    (h3:∀ F:Fr→Hp→Prop,(∀ fr hp,Wk ⟨fr,hp,st.nx+32*k⟩ st'→F fr hp)→zI P st.nx st.hp (fun fr=>tI P st.nx st.hp F x fr st.hp) its st.fr) (hq:Q .normal st'):DrW P n ops Q st:=by
  subst hk
  refine .inr ⟨zs,is,za,t,st',h1,h2,?_,hq⟩
  rw [zI_eq hz]
  have:=h3 (fun fr hp=>Wk ⟨fr,hp,st.nx+32*ops.size⟩ st') (fun fr hp h=>h)
  refine cast ?_ this
  congr 1
  funext fr
  exact (tI_eq hj _ _).symm
section
variable (P:Program) (base:Nat) (hp0:Hp) (F:Fr→Hp→Prop) (fr:Fr) (hp:Hp)
def TiK (zs:List ZIt) (keep:Bool) (x:TI) (dst:Option Tmp) (v:AV) (hp':Hp):Prop:=(keep=true→SaW hp0 hp')∧zI P base hp0 (fun fr=>tI P base hp0 F x fr hp') zs (putFr fr dst v)
def tiG (zs:List ZIt) (keep:Bool) (x:TI) (op:Op) (dst:Option Tmp) (N:Nat) (want:Bool):AV→Prop
  | .d (.bool b)=>(b=want→opW P fr hp N op (TiK P base hp0 F fr zs keep x dst))∧(b=!want→zI P base hp0 (fun fr=>tI P base hp0 F x fr hp) zs (putFr fr dst (.tup [])))
  | .tup []=>zI P base hp0 (fun fr=>tI P base hp0 F x fr hp) zs (putFr fr dst (.tup []))
  | _=>False
theorem r_ti0:tI P base hp0 F .done fr hp=F fr hp:=rfl
theorem r_tia (a b:TI):tI P base hp0 F (.alt a b) fr hp=(tI P base hp0 F a fr hp∧tI P base hp0 F b fr hp):=rfl
theorem r_ti1 (z:Nat) (op:Op) (d:Option Tmp) (zs:List ZIt) (keep:Bool) (x:TI):tI P base hp0 F (.step ⟨none,z,op,d⟩ zs keep x) fr hp=opW P fr hp (base+32*z) op (TiK P base hp0 F fr zs keep x d):=rfl
theorem r_ti2 (t:Tmp) (want:Bool) (z:Nat) (op:Op) (d:Option Tmp) (zs:List ZIt) (keep:Bool) (x:TI):tI P base hp0 F (.step ⟨some (t,want),z,op,d⟩ zs keep x) fr hp=tiG P base hp0 F fr hp zs keep x op d (base+32*z) want (fv t fr):=rfl
theorem r_tik (zs:List ZIt) (keep:Bool) (x:TI) (dst:Option Tmp) (v:AV) (hp':Hp):TiK P base hp0 F fr zs keep x dst v hp'=((keep=true→SaW hp0 hp')∧zI P base hp0 (fun fr=>tI P base hp0 F x fr hp') zs (putFr fr dst v)):=rfl
theorem r_tig_u (zs:List ZIt) (keep:Bool) (x:TI) (op:Op) (dst:Option Tmp) (N:Nat) (want:Bool):tiG P base hp0 F fr hp zs keep x op dst N want (.tup [])=zI P base hp0 (fun fr=>tI P base hp0 F x fr hp) zs (putFr fr dst (.tup [])):=rfl
end
attribute [go_sem] r_ti0 r_tia r_ti1 r_ti2 r_tik r_tig_u
attribute [go_sem] r_zi0 r_zi1 r_zi2 r_zi_t r_zik r_zig_u r_zig_t r_zig_f r_zig_tf r_zig_ft r_chi0 r_chi1 r_chi2 r_chik r_chg_u r_chg_t r_chg_f r_chg_tf r_chg_ft
theorem cl_eff (prs:List (Nat × Nat)) {P:Program} {g:FuncId} {k:Nat} {hp0:Hp} {args args0:List AV} {hp:Hp} {N:Nat} {K:AV→Hp→Prop} {Q:AV→Hp→Prop} (h:RetsE P g k hp0 args0 Q)
    (hprs:prsB prs=true) (hlt:∀ p,p ∈ prs→p.1<k) (hall:∀ p,p ∈ prs→∃ b,lk p.2 hp=some b∧b.e ≠ 0)
    (hin:∀ p,p ∈ hp0→∃ id b,lk p.1 prs=some id∧lk id hp=some b∧p.2=b.ren (rho (swp prs) k))
    (hargs:args0=AV.renL (rho (swp prs) k) args)
    (hK:∀ r hp',Q r hp'→∃ news,newsB prs news=true∧K (r.ren (rho (outP prs news N) (N+31))) (outH prs news N hp' hp)):ClW P g args hp N K :=
  .inl (callsA_eff prs h hprs hlt hall (fun i b0 hb=>by
    obtain ⟨id,b,h1,h2,h3⟩:=hin _ (lk_mem hb)
    exact ⟨id,b,h1,h2,h3⟩) hargs hK)
theorem nextR_of {T:Type} {mk:T→St} {inv:T→Prop} {mu:T→Nat} {t:T} {Q:Exit→St→Prop} {st:St} (t':T) (hI:inv t') (hm:mu t'<mu t) (prs:List (Nat × Nat)) (N:Nat) (hprs:prsB prs=true) (hlo:∀ p,p ∈ prs→p.1=p.2 ∨ 64≤p.2) (hN:∀ p,p ∈ prs→p.2<N) (h64:64≤N)
    (hw:Weak ⟨renF (rho prs N) st.fr,renH prs N st.hp,N+1⟩ (mk t')):LoopT mk inv mu t Q .normal st:=nextW_of t' hI hm ((ren_wk prs N hprs hlo hN h64).trans (weak_wk hw))
theorem rets_of_E {P:Program} {g:FuncId} {args:List AV} {Q:AV→Hp→Prop} {Q':AV→Prop} (h:RetsE P g 0 [] args Q) (hd:∀ v,v ∈ args→v.deep) (hq:∀ r hp',Q r hp'→∃ r',Snap hp' (fun _=>True) r r'∧r'.deep∧Q' r'):Rets P g args Q':=by
  obtain ⟨h1,hk,h2⟩:=h
  refine ⟨h1,fun w S vs hS hl hv=>?_⟩
  have hH:Hand w S (fun _=>none) [] 0:=⟨fun b hb=>⟨hS b hb,fun id blk g h=>(by cases h)⟩,fun i j bi bj g h=>(by cases h),fun i b h=>(by cases h),fun i b h=>(by cases h)⟩
  refine (h2 w S (fun _=>none) vs hH hl (fun i v x hi hx=>deep_is (hd v (List.mem_of_getElem? hi)) (fun b hb=>hb) (hv i v x hi hx))).mono fun e w' he=>?_
  obtain ⟨x,r,hp',U',σ',rfl,hQ,hr,hh,hx⟩:=he
  obtain ⟨r',hs,hdr,hQ'⟩:=hq r hp' hQ
  refine ⟨x,r',rfl,hQ',hdr,⟨hr.os,hr.tape,hr.output,hr.size,fun b hb=>hr.old b hb (fun ⟨id,blk,hc,_⟩=>by cases hc)⟩,snap_is (fun b hb=>?_) (fun id blk g _ hk hg=>?_) hr hs hx⟩
  · rcases hb.2 with h | h
    · rcases h with h | ⟨id,blk,hc,_⟩
      · exact .inl h
      · cases hc
    · exact .inr ⟨h,hb.1.1⟩
  · rcases hr.mine id blk g hk hg with h | h
    · obtain ⟨id,blk,hc,_⟩:=h
      cases hc
    · exact .inr ⟨h,blk_lt (hr.at hk hg)⟩
theorem callsA_drop (ids:List Nat) {P:Program} {g:FuncId} {args args':List AV} {hp:Hp} {N:Nat} {K:AV→Hp→Prop} (h:CallsA P g args' (dropH ids hp) N K) (hl':args.length=args'.length)
    (hs:∀ (i:Nat) (v v':AV),args[i]?=some v→args'[i]?=some v'→v'=v ∨ Snap hp (fun id=>id ∈ ids) v v'):CallsA P g args hp N K:=by
  refine ⟨h.1,fun c U σ w vs hr hN hl hv=>?_⟩
  obtain ⟨d1,d2⟩:=rel_drop ids hr
  refine (h.2 c U σ w vs d1 hN (hl.trans hl') (fun i v' x hi hx=>?_)).mono fun e w' he=>?_
  · have hlt:i<args.length:=by have:=(List.getElem?_eq_some_iff.1 hi).1;omega
    rcases hs i _ v' (List.getElem?_eq_getElem hlt) hi with e | hsn
    · rw [e]
      exact (hv i _ x (List.getElem?_eq_getElem hlt) hx).step d2
    · refine snap_is (fun b hb=>d2.sub b hb) (fun id blk g hid hk hg=>⟨⟨blk_lt (hr.at hk hg),fun id' blk' g' hk' hg' e=>?_⟩,?_⟩) hr hsn (hv i _ x (List.getElem?_eq_getElem hlt) hx)
      · subst e
        rw [lk_dropH] at hk'
        split at hk'
        · cases hk'
        · rename_i hn
          have:=hr.inj id id' blk blk' g hk hk' hg hg'
          subst this
          exact hn (by simpa using hid)
      · rcases hr.mine id blk g hk hg with h | h
        · exact .inl (c.hM g h)
        · exact .inr h
  · obtain ⟨x,rfl,v,hp',σ',k1,k2,k3,k4⟩:=he
    exact ⟨x,rfl,v,hp',σ',k1,k2,d2.trans k3,k4⟩
theorem cl_effz (ids:List Nat) {P:Program} {g:FuncId} {args args':List AV} {hp:Hp} {N:Nat} {K:AV→Hp→Prop} {Q:AV→Hp→Prop} (h:RetsE P g 0 [] args' Q) (hl':args.length=args'.length)
    (hs:∀ (i:Nat) (v v':AV),args[i]?=some v→args'[i]?=some v'→Snap hp (fun id=>id ∈ ids) v v') (hd:∀ ρ,args'=AV.renL ρ args')
    (hK:∀ r hp',Q r hp'→∃ news,newsB [] news=true∧K (r.ren (rho (outP [] news N) (N+31))) (outH [] news N hp' (dropH ids hp))):ClW P g args hp N K :=
  .inl (callsA_drop ids (callsA_eff [] h rfl (by simp) (by simp) (by intro i b0 hb;cases hb) (hd _) hK) hl' fun i v v' h1 h2=>.inr (hs i v v' h1 h2))
end Go.Am
namespace Go.Am
def TyFs (R:TypeId→List DV→Prop) (size:TypeId→Nat):List TypeId→List DV→Prop
  | [],ds=>ds=[]
  | t :: r,ds=>∃ a b,ds=a ++ b∧a.length=size t∧R t a∧TyFs R size r b
def TyD (P:Program):Nat→TypeId→List DV→Prop
  | 0,_,_=>False
  | n+1,t,ds =>
    match P.underlying t with
    | some .bool=>∃ b,ds=[.bool b]
    | some (.int k)=>∃ x,ds=[.int k x]∧k.has x
    | some .string=>∃ bs:List Int,ds=[.str bs]∧bs.length≤maxLen∧∀ b,b ∈ bs→0≤b∧b<256
    | some (.slice e)=>∃ es,ds=[.ro (P.cellsOf e) es]∧es.length≤maxLen∧∀ r,r ∈ es→TyD P n e r∧r.length=P.cellsOf e
    | some (.pointer e)=>ds=[.nilp] ∨ ∃ cs,ds=[.box cs]∧TyD P n e cs∧cs.length=P.cellsOf e
    | some (.struct fs)=>TyFs (TyD P n) P.cellsOf (fs.toList.map (·.type)) ds
    | some (.array m e)=>TyFs (TyD P n) P.cellsOf (List.replicate m e) ds
    | _=>False
def layF (P:Program):Nat→List Field→Option Nat
  | off,[]=>some off
  | off,f :: r=>if f.offset=off then layF P (off+P.cellsOf f.type) r else none
def okTy (P:Program):Nat→TypeId→Bool
  | 0,_=>false
  | n+1,t =>
    match P.underlying t with
    | some .bool=>true
    | some (.int _)=>true
    | some .string=>true
    | some (.slice e)=>decide (0<P.cellsOf e) && okTy P n e
    | some (.pointer e)=>decide (0<P.cellsOf e) && okTy P n e
    | some (.struct fs)=>decide (layF P 0 fs.toList=some (P.cellsOf t)) && fs.toList.all fun f=>okTy P n f.type
    | some (.array m e)=>decide (m*P.cellsOf e=P.cellsOf t) && okTy P n e
    | _=>false
section
variable {H:Type} {enc:TypeId × Value→H} {P:Program} {w:World} {spare:Nat→Bool}
def AllD (w:World) (ds:List DV) (cs:List Value):Prop:=ds.length=cs.length∧∀ (j:Nat) (d:DV) (v:Value),ds[j]?=some d→cs[j]?=some v→DIs w (fun b=>b<w.heap.size) d v
theorem mapM_each {α β:Type} {f:α→Option β}:∀ {l:List α} {r:List β},l.mapM f=some r→∀ x,x ∈ l→∃ y,f x=some y
  | [],_,_,x,hx=>by simp at hx
  | a :: l,r,h,x,hx=>by
    rw [List.mapM_cons] at h
    cases ha:f a with
    | none=>simp [ha] at h
    | some b =>
      cases hl:l.mapM f with
      | none=>simp [ha,hl] at h
      | some bs =>
        rcases List.mem_cons.1 hx with rfl | hx
        · exact ⟨b,ha⟩
        · exact mapM_each hl x hx
theorem allD_app {a b:List DV} {cs:List Value} {k:Nat} (ha:AllD w a (cs.take k)) (hk:k≤cs.length) (hb:AllD w b (cs.drop k)):AllD w (a ++ b) cs:=by
  have hal:a.length=k:=by rw [ha.1];simp;omega
  have hbl:=hb.1
  rw [List.length_drop] at hbl
  refine ⟨by rw [List.length_append];omega,fun j d v hj hv=>?_⟩
  rw [List.getElem?_append] at hj
  split at hj
  · rename_i h
    exact ha.2 j d v hj (by rw [List.getElem?_take,if_pos (by omega)];exact hv)
  · rename_i h
    refine hb.2 (j - a.length) d v hj ?_
    rw [List.getElem?_drop,show k+(j - a.length)=j by omega]
    exact hv
theorem fields_deep {R:TypeId→List DV→Prop} {size:TypeId→Nat}:∀ (ts:List TypeId) (cs:List Value),(ts.map size).sum=cs.length →
      (∀ (pre:List TypeId) (t:TypeId) (post:List TypeId),ts=pre ++ t :: post→∃ ds,R t ds∧AllD w ds ((cs.drop (pre.map size).sum).take (size t)))→∃ ds,TyFs R size ts ds∧AllD w ds cs
  | [],cs,hl,_=>by
    simp at hl
    have:cs=[]:=List.eq_nil_of_length_eq_zero hl.symm
    subst this
    exact ⟨[],rfl,rfl,by simp⟩
  | t :: r,cs,hl,h=>by
    simp only [List.map_cons,List.sum_cons] at hl
    obtain ⟨a,ha1,ha2⟩:=h [] t r rfl
    simp only [List.map_nil,List.sum_nil,List.drop_zero] at ha2
    obtain ⟨b,hb1,hb2⟩:=fields_deep (R:=R) (size:=size) r (cs.drop (size t)) (by rw [List.length_drop];omega) fun pre u post e=>by
      obtain ⟨ds,h1,h2⟩:=h (t :: pre) u post (by rw [e];rfl)
      refine ⟨ds,h1,?_⟩
      rw [List.drop_drop]
      simpa using h2
    refine ⟨a ++ b,⟨a,b,rfl,?_,ha1,hb1⟩,allD_app ha2 (by omega) hb2⟩
    rw [ha2.1]
    simp
    omega
theorem layF_at:∀ (fs:List Field) (off tot:Nat),layF P off fs=some tot→off+((fs.map (·.type)).map P.cellsOf).sum=tot∧∀ (pre:List Field) (f:Field) (post:List Field),fs=pre ++ f :: post→f.offset=off+((pre.map (·.type)).map P.cellsOf).sum
  | [],off,tot,h=>by
    simp only [layF] at h
    injection h with h
    exact ⟨by simpa using h,fun pre f post e=>by simp at e⟩
  | g :: r,off,tot,h=>by
    simp only [layF] at h
    split at h
    · rename_i ho
      obtain ⟨h1,h2⟩:=layF_at r _ tot h
      refine ⟨by simp only [List.map_cons,List.sum_cons];omega,fun pre f post e=>?_⟩
      cases pre with
      | nil=>simp at e;rw [← e.1,ho];simp
      | cons p pre =>
        simp at e
        have:=h2 pre f post e.2
        rw [this,← e.1]
        simp only [List.map_cons,List.sum_cons]
        omega
    · cases h
theorem sum_rep (f:TypeId→Nat) (e:TypeId):∀ m:Nat,((List.replicate m e).map f).sum=m*f e
  | 0=>by simp
  | m+1=>by simp only [List.replicate_succ,List.map_cons,List.sum_cons,sum_rep f e m,Nat.add_mul,Nat.one_mul];omega
theorem has_of_wf {k:IntKind} {x:Int} (h:(Lit.int k x).wf=true):k.has x:=by
  simp only [Lit.wf,Bool.and_eq_true,decide_eq_true_eq] at h
  exact h
theorem trod_deep:∀ (fuel n:Nat) (t:TypeId) (cs:List Value) (x:DataW H × List MemPlace),okTy P n t=true→DataW.trod enc P w 0 spare true fuel t cs=some x→∃ ds,TyD P n t ds∧AllD w ds cs
  | 0,_,_,_,_,_,h=>by simp [DataW.trod] at h
  | _+1,0,_,_,_,hk,_=>by simp [okTy] at hk
  | fuel+1,n+1,t,cs,x,hk,h=>by
    have ih:=fun e cs x hk h=>trod_deep fuel n e cs x hk h
    have one:∀ d v,DIs w (fun b=>b<w.heap.size) d v→AllD w [d] [v]:=by
      intro d v hd
      refine ⟨rfl,fun j d' v' h1 h2=>?_⟩
      cases j with
      | zero=>simp at h1 h2;subst h1;subst h2;exact hd
      | succ j=>simp at h1
    simp only [okTy] at hk
    cases hu:P.underlying t with
    | none=>simp [hu] at hk
    | some td =>
      rw [hu] at hk
      cases td with
      | bool =>
        rcases cs with _ | ⟨v,_ | ⟨u,r⟩⟩
        · simp [DataW.trod,hu] at h
        · cases v <;> simp [DataW.trod,hu] at h
          exact ⟨[.bool _],by simp [TyD,hu],one _ _ (.bool _)⟩
        · simp [DataW.trod,hu] at h
      | int k =>
        rcases cs with _ | ⟨v,_ | ⟨u,r⟩⟩
        · simp [DataW.trod,hu] at h
        · cases v <;> simp [DataW.trod,hu] at h
          rename_i k' x'
          obtain ⟨⟨rfl,hw⟩,_⟩:=h
          exact ⟨[.int _ x'],by simp [TyD,hu];exact has_of_wf hw,one _ _ (.int _ _)⟩
        · simp [DataW.trod,hu] at h
      | string =>
        rcases cs with _ | ⟨v,_ | ⟨u,r⟩⟩
        · simp [DataW.trod,hu] at h
        · cases v <;> simp [DataW.trod,hu] at h
          rename_i s
          refine ⟨[.str (s.data.toList.map fun c=>(c.toNat:Int))],?_,one _ _ (.str _)⟩
          simp only [TyD,hu]
          refine ⟨_,rfl,by simpa using h.1,fun b hb=>?_⟩
          rw [List.mem_map] at hb
          obtain ⟨c,_,rfl⟩:=hb
          have:=c.toNat_lt
          omega
        · simp [DataW.trod,hu] at h
      | slice e =>
        rw [Bool.and_eq_true,decide_eq_true_eq] at hk
        rcases cs with _ | ⟨v,_ | ⟨u,r⟩⟩
        · simp [DataW.trod,hu] at h
        · cases v with
          | slice A len cap =>
            cases A with
            | none =>
              have:len=0∧cap=0:=by
                rcases len with _ | len <;> rcases cap with _ | cap <;> simp [DataW.trod,hu] at h ⊢
              obtain ⟨rfl,rfl⟩:=this
              refine ⟨[.ro (P.cellsOf e) []],by simp [TyD,hu],one _ _ ?_⟩
              exact .ro _ [] none 0 (fun _ _=>default) (by simp) (by simp) (by simp) (by simp) (by simp)
            | some ad =>
              simp only [DataW.trod,hu] at h
              split at h
              · rename_i hc
                obtain ⟨_,hlc,hcm⟩:=hc
                cases he:(List.range len).mapM fun i=>(w.cells? 0 (ad.add (i*P.cellsOf e)) (P.cellsOf e)).bind (DataW.trod enc P w 0 spare true fuel e) with
                | none=>simp [he] at h
                | some elems =>
                  have hel:∀ i,i<len→∃ cells ds,w.cells? 0 (ad.add (i*P.cellsOf e)) (P.cellsOf e)=some cells∧TyD P n e ds∧AllD w ds cells:=by
                    intro i hi
                    obtain ⟨y,hy⟩:=mapM_each he i (by simp [hi])
                    cases hcl:w.cells? 0 (ad.add (i*P.cellsOf e)) (P.cellsOf e) with
                    | none=>simp [hcl] at hy
                    | some cells =>
                      simp only [hcl,Option.bind_some] at hy
                      obtain ⟨ds,h1,h2⟩:=ih e cells y hk.2 hy
                      exact ⟨cells,ds,rfl,h1,h2⟩
                  let es:List (List DV):=(List.range len).map fun i=>if hi:i<len then (hel i hi).choose_spec.choose else []
                  have hes:∀ i r,es[i]?=some r→∃ cells,i<len∧w.cells? 0 (ad.add (i*P.cellsOf e)) (P.cellsOf e)=some cells∧TyD P n e r∧AllD w r cells:=by
                    intro i r hr
                    have hi:i<len:=by
                      have:=(List.getElem?_eq_some_iff.1 hr).1
                      simpa [es] using this
                    simp only [es,List.getElem?_map,List.getElem?_range hi,Option.map_some,Option.some.injEq,dif_pos hi] at hr
                    subst hr
                    exact ⟨(hel i hi).choose,hi,(hel i hi).choose_spec.choose_spec⟩
                  have hlen:es.length=len:=by simp [es]
                  have hrl:∀ r,r ∈ es→TyD P n e r∧r.length=P.cellsOf e:=by
                    intro r hr
                    obtain ⟨i,hi⟩:=List.getElem?_of_mem hr
                    obtain ⟨cells,_,h1,h2,h3⟩:=hes i r hi
                    exact ⟨h2,by rw [h3.1,(World.cells?_some h1).2.1]⟩
                  refine ⟨[.ro (P.cellsOf e) es],?_,one _ _ ?_⟩
                  · simp only [TyD,hu]
                    exact ⟨es,rfl,by omega,hrl⟩
                  · have:=DIs.ro (w:=w) (S:=fun b=>b<w.heap.size) (P.cellsOf e) es (some ad) cap (fun i j=>(w.cell? (ad.add (i*P.cellsOf e+j))).getD undef) (by omega) (fun r hr=>(hrl r hr).2)
                      (fun r hr=>⟨ad,rfl,by
                        obtain ⟨i,hi⟩:=List.getElem?_of_mem hr
                        obtain ⟨cells,_,h1,_,_⟩:=hes i r hi
                        have:=World.cells?_block h1 hk.1
                        rwa [add_block] at this⟩)
                      (fun a' ha i j r y hi hj=>by
                        injection ha with ha
                        subst ha
                        obtain ⟨cells,_,h1,_,h3⟩:=hes i r hi
                        have hj':j<P.cellsOf e:=by
                          have:=(List.getElem?_eq_some_iff.1 hj).1
                          rw [h3.1,(World.cells?_some h1).2.1] at this
                          exact this
                        have h4:=(World.cells?_some h1).2.2 j hj'
                        rw [add_add] at h4
                        have:cells[j]?=some (cells[j]'(by rw [(World.cells?_some h1).2.1];exact hj')):=List.getElem?_eq_getElem _
                        rw [h4,this]
                        rfl)
                      (fun i j r y hi hj=>by
                        obtain ⟨cells,_,h1,_,h3⟩:=hes i r hi
                        have hj':j<P.cellsOf e:=by
                          have:=(List.getElem?_eq_some_iff.1 hj).1
                          rw [h3.1,(World.cells?_some h1).2.1] at this
                          exact this
                        have h4:=(World.cells?_some h1).2.2 j hj'
                        rw [add_add] at h4
                        have h5:cells[j]?=some (cells[j]'(by rw [(World.cells?_some h1).2.1];exact hj')):=List.getElem?_eq_getElem _
                        rw [h4,h5]
                        exact h3.2 j y _ hj h5)
                    rw [hlen] at this
                    exact this
              · cases h
          | _=>simp [DataW.trod,hu] at h
        · simp [DataW.trod,hu] at h
      | pointer e =>
        rw [Bool.and_eq_true,decide_eq_true_eq] at hk
        rcases cs with _ | ⟨v,_ | ⟨u,r⟩⟩
        · simp [DataW.trod,hu] at h
        · cases v with
          | pointer A =>
            cases A with
            | none=>exact ⟨[.nilp],by simp [TyD,hu],one _ _ .nilp⟩
            | some ad =>
              simp only [DataW.trod,hu] at h
              cases hcl:w.cells? 0 ad (P.cellsOf e) with
              | none=>simp [hcl] at h
              | some cells =>
                simp only [hcl,Option.bind_some] at h
                cases hy:DataW.trod enc P w 0 spare true fuel e cells with
                | none=>simp [hy] at h
                | some y =>
                  obtain ⟨ds,h1,h2⟩:=ih e cells y hk.2 hy
                  have hc:=World.cells?_some hcl
                  refine ⟨[.box ds],?_,one _ _ (.box ds ad (fun j=>(w.cell? (ad.add j)).getD undef) (World.cells?_block hcl hk.1) (fun j z hz=>?_) (fun j z hz=>?_))⟩
                  · simp only [TyD,hu]
                    exact .inr ⟨ds,rfl,h1,by rw [h2.1,hc.2.1]⟩
                  · have hj:j<P.cellsOf e:=by
                      have:=(List.getElem?_eq_some_iff.1 hz).1
                      rw [h2.1,hc.2.1] at this
                      exact this
                    have h5:cells[j]?=some (cells[j]'(by rw [hc.2.1];exact hj)):=List.getElem?_eq_getElem _
                    rw [hc.2.2 j hj,h5]
                    rfl
                  · have hj:j<P.cellsOf e:=by
                      have:=(List.getElem?_eq_some_iff.1 hz).1
                      rw [h2.1,hc.2.1] at this
                      exact this
                    have h5:cells[j]?=some (cells[j]'(by rw [hc.2.1];exact hj)):=List.getElem?_eq_getElem _
                    rw [hc.2.2 j hj,h5]
                    exact h2.2 j z _ hz h5
          | _=>simp [DataW.trod,hu] at h
        · simp [DataW.trod,hu] at h
      | struct fs =>
        rw [Bool.and_eq_true,decide_eq_true_eq] at hk
        obtain ⟨hk1,hk2⟩:=hk
        obtain ⟨l1,l2⟩:=layF_at fs.toList 0 _ hk1
        have hh:cs.length=P.cellsOf t∧∃ xs,(fs.toList.mapM fun f=>DataW.trod enc P w 0 spare true fuel f.type ((cs.drop f.offset).take (P.cellsOf f.type)))=some xs:=by
          simp only [DataW.trod,hu] at h
          split at h
          · rename_i hc
            cases hm:(fs.toList.mapM fun f=>DataW.trod enc P w 0 spare true fuel f.type ((cs.drop f.offset).take (P.cellsOf f.type))) with
            | none=>simp [hm] at h
            | some xs=>exact ⟨hc,xs,rfl⟩
          · cases h
        obtain ⟨hc,xs,hxs⟩:=hh
        obtain ⟨ds,d1,d2⟩:=fields_deep (w:=w) (R:=TyD P n) (size:=P.cellsOf) (fs.toList.map (·.type)) cs (by omega) (fun pre u post e=>by
          rw [List.map_eq_append_iff] at e
          obtain ⟨fp,fr,e1,e2,e3⟩:=e
          rw [List.map_eq_cons_iff] at e3
          obtain ⟨f,fr',e4,e5,e6⟩:=e3
          subst e2 e5
          have hmem:f ∈ fs.toList:=by rw [e1,e4];simp
          obtain ⟨y,hy⟩:=mapM_each hxs f hmem
          have ho:=l2 fp f fr' (by rw [e1,e4])
          rw [Nat.zero_add] at ho
          rw [ho] at hy
          exact ih _ _ y (List.all_eq_true.1 hk2 f hmem) hy)
        exact ⟨ds,by simp only [TyD,hu];exact d1,d2⟩
      | array m e =>
        rw [Bool.and_eq_true,decide_eq_true_eq] at hk
        obtain ⟨hk1,hk2⟩:=hk
        have hh:cs.length=P.cellsOf t∧∃ xs,((List.range m).mapM fun i=>DataW.trod enc P w 0 spare true fuel e ((cs.drop (i*P.cellsOf e)).take (P.cellsOf e)))=some xs:=by
          simp only [DataW.trod,hu] at h
          split at h
          · rename_i hc
            cases hm:((List.range m).mapM fun i=>DataW.trod enc P w 0 spare true fuel e ((cs.drop (i*P.cellsOf e)).take (P.cellsOf e))) with
            | none=>simp [hm] at h
            | some xs=>exact ⟨hc,xs,rfl⟩
          · cases h
        obtain ⟨hc,xs,hxs⟩:=hh
        obtain ⟨ds,d1,d2⟩:=fields_deep (w:=w) (R:=TyD P n) (size:=P.cellsOf) (List.replicate m e) cs (by rw [sum_rep];omega) (fun pre u post h'=>by
          have hpl:pre.length<m:=by
            have:=congrArg List.length h'
            simp at this
            omega
          have hpe:pre=List.replicate pre.length e:=List.eq_replicate_iff.2 ⟨rfl,fun x hx=>List.eq_of_mem_replicate (n:=m) (by rw [h'];simp [hx])⟩
          have hu':u=e:=by
            have:u ∈ List.replicate m e:=by rw [h'];simp
            exact List.eq_of_mem_replicate this
          subst hu'
          obtain ⟨y,hy⟩:=mapM_each hxs pre.length (by simp [hpl])
          have hs:(pre.map P.cellsOf).sum=pre.length*P.cellsOf u:=by
            rw [hpe,sum_rep,List.length_replicate]
          rw [hs]
          exact ih _ _ y hk2 hy)
        exact ⟨ds,by simp only [TyD,hu];exact d1,d2⟩
      | _=>simp at hk
end
end Go.Am
namespace Go.Am
open Go.ChangeShapes Go.RowKit
def ArgTy (P:Program) (n:Nat) (t:TypeId) (a:AV):Prop :=
  match P.underlying t with
  | some (.struct _)=>∃ ds,a=.agg (ds.map .d)∧TyD P n t ds
  | some (.array _ _)=>∃ ds,a=.agg (ds.map .d)∧TyD P n t ds
  | _=>∃ d,a=.d d∧TyD P n t [d]
def ArgTys (P:Program) (n:Nat):List TypeId→List AV→Prop
  | [],as=>as=[]
  | t :: ts,as=>∃ a r,as=a :: r∧ArgTy P n t a∧ArgTys P n ts r
section
variable {H:Type} {enc:TypeId × Value→H} {P:Program} {W:World}
theorem arg_in {n:Nat} {t:TypeId} {v:Value} {d:DataW H} {ps:List MemPlace} {base:Nat} (hk:okTy P n t=true) (hv:Value.okWide P W .any base t v) (h:DataW.Trod enc P W 0 (fun _=>true) true t v d ps) :
    ∃ a,ArgTy P n t a∧AIs W (fun b=>b<W.heap.size) (fun _=>none) [] (fun _=>False) a v:=by
  obtain ⟨fuel,h⟩:=h
  obtain ⟨ds,h1,h2⟩:=trod_deep fuel n t _ _ hk h
  have agg:(∃ cs,v=.agg cs∧cs.size=P.cellsOf t∧Row.okWide P W .any base t cs)→∃ a,(∃ ds,a=.agg (ds.map .d)∧TyD P n t ds)∧AIs W (fun b=>b<W.heap.size) (fun _=>none) [] (fun _=>False) a v:=by
    rintro ⟨cs,rfl,_,_⟩
    simp only [Value.cells] at h2
    have hl:ds.length=cs.size:=by simpa using h2.1
    refine ⟨_,⟨ds,rfl,h1⟩,.agg _ cs (by simp [hl]) (fun i x hx=>?_) (fun i c x hc hx=>?_)⟩
    · have hi:i<ds.length:=by
        have:=(Array.getElem?_eq_some_iff.1 hx).1
        omega
      exact dis_one (h2.2 i ds[i] x (List.getElem?_eq_getElem hi) (by simpa using hx))
    · simp only [List.getElem?_map,Option.map_eq_some_iff] at hc
      obtain ⟨d,hd,rfl⟩:=hc
      exact .d (h2.2 i d x hd (by simpa using hx))
  have one:v.cells=#[v]→∃ a,(∃ d,a=.d d∧TyD P n t [d])∧AIs W (fun b=>b<W.heap.size) (fun _=>none) [] (fun _=>False) a v:=by
    intro hc
    rw [hc] at h2
    simp only at h2
    have hl:=h2.1
    match ds,hl,h1,h2 with
    | [d],_,h1,h2=>exact ⟨_,⟨d,rfl,h1⟩,.d (h2.2 0 d v rfl rfl)⟩
  unfold ArgTy
  unfold Value.okWide at hv
  cases n with
  | zero=>simp [okTy] at hk
  | succ n =>
    simp only [okTy] at hk
    cases hu:P.underlying t with
    | none=>simp [hu] at hk
    | some td =>
      rw [hu] at hk hv
      cases td with
      | struct fs=>exact agg hv
      | array m e=>exact agg hv
      | bool =>
        simp only [Cell.okWide,Cell.ok,hu] at hv
        refine one ?_
        cases v <;> simp at hv <;> rfl
      | int k =>
        simp only [Cell.okWide,Cell.ok,hu] at hv
        refine one ?_
        cases v <;> simp at hv <;> rfl
      | string =>
        simp only [Cell.okWide,Cell.ok,hu] at hv
        refine one ?_
        cases v <;> simp at hv <;> rfl
      | slice e =>
        simp only [Cell.okWide,Cell.ok,hu] at hv
        refine one ?_
        cases v <;> simp at hv <;> rfl
      | pointer e =>
        simp only [Cell.okWide,Cell.ok,hu] at hv
        refine one ?_
        cases v <;> simp at hv <;> rfl
      | _=>simp at hk
theorem args_in {n:Nat} {base:Nat}:∀ (ts:List TypeId) (vs:List Value) (ds:List (DataW H)) (ps:List MemPlace),ts.all (okTy P n)=true→(∀ (j:Nat) (t:TypeId) (v:Value),ts[j]?=some t→vs[j]?=some v→Value.okWide P W .any base t v) →
    DataW.TrodAll enc P W 0 (fun _=>true) true ts vs ds ps→vs.length=ts.length∧ds.length=ts.length∧∃ as,ArgTys P n ts as∧as.length=ts.length∧∀ (i:Nat) (a:AV) (x:Value),as[i]?=some a→vs[i]?=some x→AIs W (fun b=>b<W.heap.size) (fun _=>none) [] (fun _=>False) a x
  | [],vs,ds,ps,_,_,h=>by
    cases vs <;> cases ds <;> simp [DataW.TrodAll] at h
    exact ⟨rfl,rfl,[],rfl,rfl,by simp⟩
  | t :: ts,vs,ds,ps,hk,hv,h=>by
    obtain ⟨v,vs',d,ds',p,q,rfl,rfl,rfl,h1,h2⟩:=trodAll_cons h
    simp only [List.all_cons,Bool.and_eq_true] at hk
    obtain ⟨a,ha1,ha2⟩:=arg_in hk.1 (hv 0 t v rfl rfl) h1
    obtain ⟨l1,l2,as,k1,k2,k3⟩:=args_in ts vs' ds' q hk.2 (fun j t v ht hv'=>hv (j+1) t v (by simpa using ht) (by simpa using hv')) h2
    refine ⟨by simp [l1],by simp [l2],a :: as,⟨a,as,rfl,ha1,k1⟩,by simp [k2],fun i b x hb hx=>?_⟩
    cases i with
    | zero=>simp at hb hx;subst hb;subst hx;exact ha2
    | succ i=>simp at hb hx;exact k3 i b x hb hx
theorem trodAll_below (hl:laidOutB P=true) {W':World} (hb:Below W.heap.size W W'):∀ (ts:List TypeId) (vs:List Value) (ds:List (DataW H)) (ps:List MemPlace),(ts.all fun t=>P.readableRec t && decide (t<P.types.size))=true→(∀ x,x ∈ ps→x.block<W.heap.size) →
    DataW.TrodAll enc P W 0 (fun _=>true) true ts vs ds ps→DataW.TrodAll enc P W' 0 (fun b=>decide (b<W.heap.size)) true ts vs ds ps
  | [],vs,ds,ps,_,_,h=>by
    cases vs <;> cases ds <;> simp [DataW.TrodAll] at h ⊢
    exact h
  | t :: ts,vs,ds,ps,hk,hlt,h=>by
    obtain ⟨v,vs',d,ds',p,q,rfl,rfl,rfl,h1,h2⟩:=trodAll_cons h
    simp only [List.all_cons,Bool.and_eq_true,decide_eq_true_eq] at hk
    exact ⟨p,q,Below.trod hl hk.1.1 hk.1.2 h1 hb (fun x hx=>hlt x (by simp [hx])),trodAll_below hl hb ts vs' ds' q hk.2 (fun x hx=>hlt x (by simp [hx])) h2,rfl⟩
theorem law_fin {f:Func} {s:ChangeSpec} {g:FuncId} {n base:Nat} {args:Array Value} {ds gs:List (DataW H)} {before:List MemPlace} {tb:TypeId} (hl:laidOutB P=true) (hr:f.resultTypes=#[tb]) (htb:P.underlying tb=some .bool) (hvars:s.vars=[])
    (hrd:(f.params.toList.all fun t=>P.readableRec t && decide (t<P.types.size))=true) (hok:f.params.toList.all (okTy P n)=true)
    (hval:∀ (j:Nat) (t:TypeId) (v:Value),f.params[j]?=some t→args[j]?=some v→Value.okWide P W .any base t v) (hW:DataW.Whole enc P f.params.toList s.vars false W args.toList ds gs before)
    (hs:∀ ds:List (DataW H),ds.length=f.params.size→s.fn H ds={ results:=[.lit (.bool true)],args:=ds })
    (hlaw:∀ as,ArgTys P n f.params.toList as→Rets P g as (fun r=>r=.d (.bool true))) :
    Calls P g args W fun e W'=>∃ v,e=.returned v∧s.post enc P f false true false false W args v W':=by
  have hW':=hW
  obtain ⟨p,q,hA,hV,rfl,hfz,hnd⟩:=hW
  rw [hvars] at hV
  obtain ⟨rfl,rfl⟩:=trodVars_none hV
  obtain ⟨l1,l2,as,k1,k2,k3⟩:=args_in f.params.toList args.toList ds p hok (fun j t v ht hv=>hval j t v (by simpa using ht) (by simpa using hv)) hA
  have hc:=(hlaw as k1).2 W (fun b=>b<W.heap.size) args.toList (fun b hb=>hb) (by omega) k3
  have e:args.toList.toArray=args:=Array.toArray_toList
  rw [e] at hc
  refine hc.mono fun e W' he=>?_
  obtain ⟨x,r,rfl,rfl,hd,hb,hx⟩:=he
  have hx':=is_bool hx
  subst hx'
  have hfn:=hs ds (by simpa using l2)
  refine ⟨_,rfl,ds,[],p ++ [],[],p,[],hW',?_,?_,?_,hb.frame _,fun h=>by cases h⟩
  · rw [List.append_nil,hfn,hr]
    exact trodAll_mk1 (shut_bool htb true)
  · rw [List.append_nil,hfn]
    exact trodAll_below hl hb _ _ _ _ hrd (fun x hx=>by simpa using hW'.lt x (by simp [hx])) hA
  · rw [hvars,List.append_nil,hfn]
    rfl
end
theorem map_of {α β:Type} {enc:α→β} {R:α→Prop}:∀ {es:List β},(∀ r,r ∈ es→∃ o,r=enc o∧R o)→∃ os:List α,es=os.map enc∧∀ o,o ∈ os→R o
  | [],_=>⟨[],rfl,by simp⟩
  | e :: es,h=>by
    obtain ⟨o,rfl,ho⟩:=h e (List.mem_cons_self ..)
    obtain ⟨os,rfl,hos⟩:=map_of fun r hr=>h r (List.mem_cons_of_mem _ hr)
    exact ⟨o :: os,rfl,fun x hx=>by rcases List.mem_cons.1 hx with rfl | h;exact ho;exact hos x h⟩
end Go.Am
namespace Go.Am
theorem drw2 {P:Program} {n:Nat} {ops:Array Oper} {Q:Exit→St→Prop} {st:St} (zs:List Nat) (ss:Segs) (m:Nat) {its:List ZIt} {jts:List (ZIt × List ZIt)} {k:Nat}
    (h3:∀ F:Fr→Hp→Prop,(∀ fr hp,Q .normal ⟨fr,hp,st.nx+32*k⟩→F fr hp)→zI P st.nx st.hp (fun fr=>chI P st.nx st.hp F jts m fr st.hp) its st.fr)
    (h1:regB n ops zs ss m=true:=by kernel_rfl) (h2:P.follows .mixedOrders=true:=by kernel_rfl) (hk:ops.size=k:=by rfl) (hz:Its ops zs its:=by repeat (first | exact Its.nil | apply Its.plain rfl | apply Its.guard rfl rfl))
    (hj:Jts ops ss jts:=by repeat (first | exact Jts.nil | exact Its.nil | apply Its.plain rfl | apply Its.guard rfl rfl | apply Jts.plain rfl | apply Jts.guard rfl rfl)):DrW P n ops Q st:=draw2 zs ss m h1 h2 hk hz hj h3
theorem drw3 {P:Program} {n:Nat} {ops:Array Oper} {Q:Exit→St→Prop} {st:St} (zs is za:List Nat) (t:Tr) (st':St) {its:List ZIt} {x:TI} {k:Nat}
    (h3:∀ F:Fr→Hp→Prop,(∀ fr hp,Wk ⟨fr,hp,st.nx+32*k⟩ st'→F fr hp)→zI P st.nx st.hp (fun fr=>tI P st.nx st.hp F x fr st.hp) its st.fr) (hq:Q .normal st')
    (h1:tregB n ops zs is za t=true:=by kernel_rfl) (h2:P.follows .mixedOrders=true:=by kernel_rfl) (hk:ops.size=k:=by rfl) (hz:Its ops zs its:=by repeat (first | exact Its.nil | apply Its.plain rfl | apply Its.guard rfl rfl))
    (hj:Tts ops t x:=by repeat (first | exact Tts.done | exact Its.nil | apply Tts.alt | apply Its.plain rfl | apply Its.guard rfl rfl | apply Tts.plain rfl | apply Tts.guard rfl rfl)):DrW P n ops Q st:=draw3 zs is za t st' h1 h2 hk hz hj h3 hq
theorem nlb {a b:Nat} (h:Nat.ble a b=true):a≤b:=Nat.le_of_ble_eq_true h
theorem fna {P:Program} {g:FuncId} {fn:Func} {code:Code} {args:List AV} {Q:AV→Prop} {n:Nat} {rs:List ResultVar} (hf:P.funcs[g]?=some fn) (hnt:fn.ntmps=n) (hd:∀ v,v ∈ args→v.deep) (h:awp P n code (EndK P rs (PostK Q)) ⟨fr0 0 args,[],0⟩)
    (hn : (fn.name == "runtime.NumGoroutine") = false := by kernel_rfl) (hb : fn.body = some code := by exact rfl) (hrs : fn.results.toList = rs := by exact rfl) (hle : args.length ≤ n := by exact (nlb rfl)) : Rets P g args Q := fn_of_awp hf hn hb hnt hrs hle hd h
theorem wkA {st st':St} (h:Weak st st':=by
      simp only [Weak,slotOk]
      refine ⟨?_,?_,by simp⟩
      · repeat (refine List.forall_mem_cons.2 ⟨⟨.inl (Eq.symm (by assumption)),by simp [AV.low,AV.low1]⟩,?_⟩)
        exact List.forall_mem_nil _
      · repeat (refine List.forall_mem_cons.2 ⟨⟨.inl (by first | rfl | assumption),by simp,by first | exact List.forall_mem_cons.2 ⟨by first | exact cI_low _ _ | exact cV_low _ _ _ _ | exact cP_low _ _ _ _ | exact cb_low _ _ | exact leafC_low _ _ _ _ (by simp [AV.low1]) (by simp [AV.low1]),List.forall_mem_nil _⟩ | exact rb_low _ _ | exact rows_low _ _ | exact rows_low2 _ _ _ _⟩,?_⟩)
        exact List.forall_mem_nil _):Wk st st':=weak_wk h
end Go.Am
namespace Go.Am
def cellLe (n:Nat) (v v':AV):Prop:=v'=v ∨ (v=.nil∧∃ id,id<n∧v'=.own id 0 0 0)
theorem cells_wk {st:St} {L:Nat} {b:Blk} {es':List (List AV)} (hb:lk L st.hp=some b) (hz:b.e ≠ 0) (hl:es'.length=b.es.length)
    (hc:∀ (i:Nat) (x x':List AV),b.es[i]?=some x→es'[i]?=some x'→x'.length=x.length∧∀ (j:Nat) (v v':AV),x[j]?=some v→x'[j]?=some v'→cellLe st.nx v v'):Wk st ⟨st.fr,setH L ⟨b.ty,b.e,es'⟩ st.hp,st.nx⟩:=by
  intro c a w hs
  obtain ⟨h1,h2,σ,hr,hf,hist⟩:=hs
  have hlk:∀ i b',lk i (setH L ⟨b.ty,b.e,es'⟩ st.hp)=some b'→∃ b0,lk i st.hp=some b0∧b'.ty=b0.ty∧b'.e=b0.e∧b'.es.length=b0.es.length∧(i ≠ L→b'=b0)∧(i=L→b'=⟨b.ty,b.e,es'⟩∧b0=b):=by
    intro i b' h
    rw [lk_setH] at h
    by_cases hi:i=L
    · subst hi
      rw [if_pos rfl,hb] at h
      simp only [Option.map_some,Option.some.injEq] at h
      subst h
      exact ⟨b,hb,rfl,rfl,hl,fun e=>absurd rfl e,fun _=>⟨rfl,rfl⟩⟩
    · rw [if_neg hi] at h
      exact ⟨b',h,rfl,rfl,rfl,fun _=>rfl,fun e=>absurd e hi⟩
  have hS:∀ b0,Sof c w σ st.hp b0→Sof c w σ (setH L ⟨b.ty,b.e,es'⟩ st.hp) b0:=fun b0 hb0=>⟨⟨hb0.1.1,fun id blk g h hg=>by
    obtain ⟨b1,h3,_⟩:=hlk id blk h
    exact hb0.1.2 id b1 g h3 hg⟩,hb0.2⟩
  have step:Step w (Sof c w σ st.hp) σ st.hp (fun i=>i<st.nx) w (Sof c w σ (setH L ⟨b.ty,b.e,es'⟩ st.hp)) σ (setH L ⟨b.ty,b.e,es'⟩ st.hp) (fun i=>i<st.nx) :=
    ⟨hS,fun _ _=>rfl,fun _ h=>h,fun id b' _ h=>by
      obtain ⟨b1,h3,h4,h5,h6,_⟩:=hlk id b' h
      exact ⟨b1,h3,h5,h4,by omega,fun _ g hg=>⟨hg,fun _ h=>h⟩⟩⟩
  refine ⟨h1,h2,σ,⟨fun i j bi bj g hi hj hgi hgj=>?_,fun i b' h=>?_,fun i b' h=>?_,fun i b' g h hg=>?_,hr.os,hr.tape,hr.output,hr.size,hr.old⟩,fun n=>(hf n).step step,hist.trans step⟩
  · obtain ⟨b1,h3,_⟩:=hlk i bi hi
    obtain ⟨b2,h4,_⟩:=hlk j bj hj
    exact hr.inj i j b1 b2 g h3 h4 hgi hgj
  · obtain ⟨b1,h3,_⟩:=hlk i b' h
    exact hr.lt i b1 h3
  · obtain ⟨b1,h3,h4,h5,h6,h7,h8⟩:=hlk i b' h
    rcases hr.blk i b1 h3 with ⟨k1,k2⟩ | ⟨g,k1,ccs,k2,k3,k4,k5,k6⟩
    · refine .inl ⟨k1,?_⟩
      by_cases hi:i=L
      · obtain ⟨rfl,rfl⟩:=h8 hi
        have:=k2.none hz
        exact .inl (List.length_eq_zero_iff.1 (by rw [h6,this];rfl))
      · rw [h7 hi];exact k2
    · refine .inr ⟨g,k1,ccs,by rw [h4];exact k2,k3,?_,by rw [h6,h5];exact k5,?_⟩
      · by_cases hi:i=L
        · obtain ⟨rfl,rfl⟩:=h8 hi
          intro x hx
          obtain ⟨n,hn,rfl⟩:=List.mem_iff_getElem.1 hx
          have hn':n<b1.es.length:=by simp only at hn;omega
          obtain ⟨q1,_⟩:=hc n b1.es[n] _ (List.getElem?_eq_getElem hn') (List.getElem?_eq_getElem hn)
          rw [q1]
          exact k4 _ (List.getElem_mem _)
        · rw [h7 hi];exact k4
      · intro i' j x y v a1 a2 a3
        rw [h5] at a3
        by_cases hi:i=L
        · obtain ⟨rfl,rfl⟩:=h8 hi
          have hn':i'<b1.es.length:=by have:=(List.getElem?_eq_some_iff.1 a1).1;simp only at this;omega
          obtain ⟨q1,q2⟩:=hc i' b1.es[i'] x (List.getElem?_eq_getElem hn') a1
          have hj:j<b1.es[i'].length:=by have:=(List.getElem?_eq_some_iff.1 a2).1;omega
          have hv:=k6 i' j b1.es[i'] b1.es[i'][j] v (List.getElem?_eq_getElem hn') (List.getElem?_eq_getElem hj) a3
          rcases q2 j _ y (List.getElem?_eq_getElem hj) a2 with rfl | ⟨e1,id,hid,rfl⟩
          · exact hv.step step
          · rw [e1] at hv
            cases hv with
            | nil=>exact .own id 0 0 0 none 0 hid (Nat.le_refl _) (fun _=>rfl) fun b2 hb2=>⟨Nat.zero_le _,fun _=>⟨Nat.le_refl _,Nat.le_refl _,fun h=>by omega⟩⟩
        · rw [h7 hi] at a1
          exact (k6 i' j x y v a1 a2 a3).step step
  · obtain ⟨b1,h3,_⟩:=hlk i b' h
    exact hr.mine i b1 g h3 hg
end Go.Am
namespace Go.Am
def cellFz (hp:Hp) (ids:List Nat) (v v':AV):Prop:=v'=v ∨ ∃ d,v'=.d d∧SnapD hp (fun id=>id ∈ ids) v d
theorem cells_froz {st:St} {L:Nat} {b:Blk} {es':List (List AV)} (ids:List Nat) (hL:L ∉ ids) (hb:lk L st.hp=some b) (hz:b.e ≠ 0) (hl:es'.length=b.es.length)
    (hc:∀ (i:Nat) (x x':List AV),b.es[i]?=some x→es'[i]?=some x'→x'.length=x.length∧∀ (j:Nat) (v v':AV),x[j]?=some v→x'[j]?=some v'→cellFz st.hp ids v v'):Wk st ⟨st.fr,setH L ⟨b.ty,b.e,es'⟩ (dropH ids st.hp),st.nx⟩:=by
  intro c a w hs
  obtain ⟨h1,h2,σ,hr,hf,hist⟩:=hs
  obtain ⟨d1,d2⟩:=rel_drop ids hr
  have hb1:lk L (dropH ids st.hp)=some b:=by rw [lk_dropH,if_neg (by simpa using hL)];exact hb
  have hlk:∀ i b',lk i (setH L ⟨b.ty,b.e,es'⟩ (dropH ids st.hp))=some b'→∃ b0,lk i (dropH ids st.hp)=some b0∧b'.ty=b0.ty∧b'.e=b0.e∧b'.es.length=b0.es.length∧(i ≠ L→b'=b0)∧(i=L→b'=⟨b.ty,b.e,es'⟩∧b0=b):=by
    intro i b' h
    rw [lk_setH] at h
    by_cases hi:i=L
    · subst hi
      rw [if_pos rfl,hb1] at h
      simp only [Option.map_some,Option.some.injEq] at h
      subst h
      exact ⟨b,hb1,rfl,rfl,hl,fun e=>absurd rfl e,fun _=>⟨rfl,rfl⟩⟩
    · rw [if_neg hi] at h
      exact ⟨b',h,rfl,rfl,rfl,fun _=>rfl,fun e=>absurd e hi⟩
  have hS:∀ b0,Sof c w σ (dropH ids st.hp) b0→Sof c w σ (setH L ⟨b.ty,b.e,es'⟩ (dropH ids st.hp)) b0:=fun b0 hb0=>⟨⟨hb0.1.1,fun id blk g h hg=>by
    obtain ⟨b1,h3,_⟩:=hlk id blk h
    exact hb0.1.2 id b1 g h3 hg⟩,hb0.2⟩
  have step:Step w (Sof c w σ (dropH ids st.hp)) σ (dropH ids st.hp) (fun i=>i<st.nx) w (Sof c w σ (setH L ⟨b.ty,b.e,es'⟩ (dropH ids st.hp))) σ (setH L ⟨b.ty,b.e,es'⟩ (dropH ids st.hp)) (fun i=>i<st.nx) :=
    ⟨hS,fun _ _=>rfl,fun _ h=>h,fun id b' _ h=>by
      obtain ⟨b1,h3,h4,h5,h6,_⟩:=hlk id b' h
      exact ⟨b1,h3,h5,h4,by omega,fun _ g hg=>⟨hg,fun _ h=>h⟩⟩⟩
  have read:∀ (v:AV) (d:DV) (x:Value),SnapD st.hp (fun id=>id ∈ ids) v d→AIs w (Sof c w σ st.hp) σ st.hp (fun i=>i<st.nx) v x→DIs w (Sof c w σ (setH L ⟨b.ty,b.e,es'⟩ (dropH ids st.hp))) d x:=by
    intro v d x hsn hx
    refine snapD_is (fun b0 hb0=>hS _ (d2.sub b0 hb0)) (fun id blk g hid hk hg=>hS _ ⟨⟨blk_lt (hr.at hk hg),fun id' blk' g' hk' hg' e=>?_⟩,?_⟩) hr hsn hx
    · subst e
      rw [lk_dropH] at hk'
      split at hk'
      · cases hk'
      · rename_i hn
        have:=hr.inj id id' blk blk' g hk hk' hg hg'
        subst this
        exact hn (by simpa using hid)
    · rcases hr.mine id blk g hk hg with h | h
      · exact .inl (c.hM g h)
      · exact .inr h
  refine ⟨h1,h2,σ,⟨fun i j bi bj g hi hj hgi hgj=>?_,fun i b' h=>?_,fun i b' h=>?_,fun i b' g h hg=>?_,hr.os,hr.tape,hr.output,hr.size,hr.old⟩,fun n=>((hf n).step d2).step step,(hist.trans d2).trans step⟩
  · obtain ⟨b1,h3,_⟩:=hlk i bi hi
    obtain ⟨b2,h4,_⟩:=hlk j bj hj
    exact d1.inj i j b1 b2 g h3 h4 hgi hgj
  · obtain ⟨b1,h3,_⟩:=hlk i b' h
    exact d1.lt i b1 h3
  · obtain ⟨b1,h3,h4,h5,h6,h7,h8⟩:=hlk i b' h
    by_cases hi:i=L
    · obtain ⟨rfl,rfl⟩:=h8 hi
      subst hi
      rcases hr.blk i b1 hb with ⟨k1,k2⟩ | ⟨g,k1,ccs,k2,k3,k4,k5,k6⟩
      · have:=k2.none hz
        exact .inl ⟨k1,.inl (List.length_eq_zero_iff.1 (by rw [h6,this];rfl))⟩
      · refine .inr ⟨g,k1,ccs,k2,k3,?_,by rw [h6];exact k5,?_⟩
        · intro x hx
          obtain ⟨n,hn,rfl⟩:=List.mem_iff_getElem.1 hx
          have hn':n<b1.es.length:=by simp only at hn;omega
          obtain ⟨q1,_⟩:=hc n b1.es[n] _ (List.getElem?_eq_getElem hn') (List.getElem?_eq_getElem hn)
          rw [q1]
          exact k4 _ (List.getElem_mem _)
        · intro i' j x y v a1 a2 a3
          have hn':i'<b1.es.length:=by have:=(List.getElem?_eq_some_iff.1 a1).1;simp only at this;omega
          obtain ⟨q1,q2⟩:=hc i' b1.es[i'] x (List.getElem?_eq_getElem hn') a1
          have hj:j<b1.es[i'].length:=by have:=(List.getElem?_eq_some_iff.1 a2).1;omega
          have hv:=k6 i' j b1.es[i'] b1.es[i'][j] v (List.getElem?_eq_getElem hn') (List.getElem?_eq_getElem hj) a3
          rcases q2 j _ y (List.getElem?_eq_getElem hj) a2 with rfl | ⟨d,rfl,hsn⟩
          · exact (hv.step d2).step step
          · exact .d (read _ _ _ hsn hv)
    · rw [h7 hi]
      rcases d1.blk i b1 h3 with k | ⟨g,k1,k2⟩
      · exact .inl k
      · exact .inr ⟨g,k1,k2.step step rfl⟩
  · obtain ⟨b1,h3,_⟩:=hlk i b' h
    exact d1.mine i b1 g h3 hg
end Go.Am
namespace Go.Am
section
variable {P:Program}
def sem (P:Program) (n:Nat) (x:Code) (Q:Exit→St→Prop) (st:St):Prop:=∀ (c:Ctx) (a:Act) (w:World),c.n=n→Sim c st a w→x.wp P (fun e a' w'=>∃ st',Q e st'∧Sim c st' a' w') a w
theorem sem_of_awp {n:Nat} {x:Code} {Q:Exit→St→Prop} {st:St} (h:awp P n x Q st):sem P n x Q st:=fun c a w hn hs=>by
  subst hn
  exact awp_snd x Q st a w h hs
theorem sem_wk {n:Nat} {x:Code} {Q:Exit→St→Prop} {st st':St} (hw:Wk st st') (h:sem P n x Q st'):sem P n x Q st:=fun c a w hn hs=>h c a w hn (hw c a w hs)
theorem sem_seq {n:Nat} {x y:Code} {Q:Exit→St→Prop} {st:St} (h:sem P n x (SeqK (sem P n y Q) Q) st):sem P n (.seq x y) Q st:=by
  intro c a w hn hs
  refine wp_seq (wp_mono (h c a w hn hs) fun e a' w' ⟨st',hq,hs'⟩=>?_)
  cases e with
  | normal=>exact hq c a' w' hn hs'
  | _=>exact ⟨st',hq,hs'⟩
theorem sem_mono {n:Nat} {x:Code} {Q Q':Exit→St→Prop} {st:St} (h:sem P n x Q st) (hq:∀ e st,Q e st→Q' e st):sem P n x Q' st:=fun c a w hn hs =>
  wp_mono (h c a w hn hs) fun e a' w' ⟨st',k,hs'⟩=>⟨st',hq e st' k,hs'⟩
theorem fn_of_sem {g : FuncId} {fn : Func} {code : Code} {args : List AV} {Q : AV → Prop} (hf : P.funcs[g]? = some fn) (hn : (fn.name == "runtime.NumGoroutine") = false) (hb : fn.body = some code)
    {n:Nat} {rs:List ResultVar} (hnt:fn.ntmps=n) (hrs:fn.results.toList=rs) (hle:args.length≤n) (hd:∀ v,v ∈ args→v.deep)
    (h:sem P n code (EndK P rs (PostK Q)) ⟨fr0 0 args,[],0⟩):Rets P g args Q:=by
  subst hnt
  subst hrs
  refine ⟨⟨fn,hf,hn,by simp [hb]⟩,fun w S vs hS hl hv=>?_⟩
  have hsz:((vs.toArray ++ Array.replicate (fn.ntmps - vs.toArray.size) undef):Array Value).size=fn.ntmps:=by simp;omega
  refine calls_of_wp hf hb ?_
  let c:Ctx:=⟨w,fun _=>False,S,fn.ntmps,fun _ h=>h.elim,fun _=>False,fun _=>none,[],0,by omega⟩
  have hsim:Sim c ⟨fr0 0 args,[],0⟩ { tmps:=vs.toArray ++ Array.replicate (fn.ntmps - vs.toArray.size) undef,defers:=[] } w:=by
    refine ⟨rfl,hsz,fun _=>none,⟨(fun i j bi bj g h=>by cases h),(fun i b h=>by cases h),(fun i b h=>by cases h),(fun i b g h=>by cases h),rfl,rfl,rfl,Nat.le_refl _,fun _ _ _=>rfl⟩,fun n=>?_,⟨fun _ h=>h.elim,fun _ h=>h.elim,fun i h=>absurd h (Nat.not_lt_zero _),fun i b' h=>absurd h (Nat.not_lt_zero _)⟩⟩
    simp only [fv,lk_fr0,Nat.zero_le,if_true,Nat.sub_zero]
    cases hn:args[n]? with
    | none=>exact .any _
    | some v =>
      have hlt:n<vs.length:=by have:=(List.getElem?_eq_some_iff.1 hn).1;omega
      have hx:vs[n]?=some vs[n]:=List.getElem?_eq_getElem hlt
      have:(vs.toArray ++ Array.replicate (fn.ntmps - vs.toArray.size) undef).getD n undef=vs[n]:=by
        rw [Array.getD_eq_getD_getElem?,Array.getElem?_append,if_pos (by simpa using hlt)]
        simp [hx]
      rw [this]
      simp only [Option.getD_some]
      exact deep_is (hd v (List.mem_of_getElem? hn)) (fun b hb=>⟨⟨hS b hb,(fun id blk g h=>by cases h)⟩,.inl hb⟩) (hv n v _ hn hx)
  have fin:∀ st a w',retW P fn.results.toList (PostK Q) st→Sim c st a w'→∃ v,(results fn a.tmps).run P w'=.ok v w'∧∃ x r,Ending.returned v=.returned x∧Q r∧r.deep∧RowKit.Below w.heap.size w w' ∧
      AIs w' (fun b=>S b ∨ (w.heap.size≤b∧b<w'.heap.size)) (fun _=>none) [] (fun _=>False) r x:=by
    intro st a w' hret hs
    obtain ⟨v,x,⟨r,hsn,hrd,hQ⟩,hrun,σ,hr,hx,_⟩:=retW_is hs hret
    refine ⟨x,hrun,x,r,rfl,hQ,hrd,⟨hr.os,hr.tape,hr.output,hr.size,fun b hb=>hr.old b hb (fun h=>h)⟩,?_⟩
    refine snap_is (fun b hb=>?_) (fun id blk g _ hk hg=>?_) hr hsn hx
    · rcases hb.2 with h | h
      · exact .inl h
      · exact .inr ⟨h,hb.1.1⟩
    · rcases hr.mine id blk g hk hg with h | h
      · exact h.elim
      · exact .inr ⟨h,blk_lt (hr.at hk hg)⟩
  refine wp_mono (h c _ w rfl hsim) fun e a w' ⟨st,hq,hs⟩=>?_
  cases e with
  | normal=>exact ⟨hs.1,fin st a w' hq hs⟩
  | ret=>exact ⟨hs.1,fin st a w' hq hs⟩
  | _=>exact hq.elim
end
end Go.Am
namespace Go.Am
section
variable {P:Program}
theorem fnE_of_sem {g : FuncId} {fn : Func} {code : Code} {k : Nat} {hp0 : Hp} {args : List AV} {Q : AV → Hp → Prop} (hf : P.funcs[g]? = some fn) (hn : (fn.name == "runtime.NumGoroutine") = false) (hb : fn.body = some code)
    {n:Nat} {rs:List ResultVar} (hnt:fn.ntmps=n) (hrs:fn.results.toList=rs) (hle:args.length≤n) (hk:k≤64)
    (h:sem P n code (EndK P rs (fun v st=>Q v st.hp)) ⟨fr0 0 args,hp0,k+1⟩):RetsE P g k hp0 args Q:=by
  subst hnt
  subst hrs
  refine ⟨⟨fn,hf,hn,by simp [hb]⟩,hk,fun w S σ vs hH hl hv=>?_⟩
  have hsz:((vs.toArray ++ Array.replicate (fn.ntmps - vs.toArray.size) undef):Array Value).size=fn.ntmps:=by simp;omega
  refine calls_of_wp hf hb ?_
  let c:Ctx:=ctxE w S σ hp0 k fn.ntmps hk
  have hsof:∀ b,S b→Sof c w σ hp0 b:=fun b hb=>sofE hH hb
  have hst0:Step w S σ hp0 (fun i=>i<k+1) w (Sof c w σ hp0) σ hp0 (fun i=>i<k+1):=⟨hsof,fun _ _=>rfl,fun _ h=>h,fun id b' _ h=>⟨b',h,rfl,rfl,Nat.le_refl _,fun _ g hg=>⟨hg,fun _ h=>h⟩⟩⟩
  have hsim:Sim c ⟨fr0 0 args,hp0,k+1⟩ { tmps:=vs.toArray ++ Array.replicate (fn.ntmps - vs.toArray.size) undef,defers:=[] } w:=by
    refine ⟨rfl,hsz,σ,⟨hH.inj,fun i b h=>Nat.lt_succ_of_lt (hH.lt i b h),fun i b h=>?_,fun i b g h hg=>.inl ⟨i,b,h,hg⟩,rfl,rfl,rfl,Nat.le_refl _,fun _ _ _=>rfl⟩,fun n=>?_,⟨hsof,fun _ _=>rfl,fun i h=>Nat.lt_succ_of_lt h,fun id b' _ h=>⟨b',h,rfl,rfl,Nat.le_refl _,fun _ g hg=>⟨hg,fun _ h=>h⟩⟩⟩⟩
    · rcases hH.blk i b h with h0 | ⟨g,h1,h2⟩
      · exact .inl ⟨h0.1,.inl h0.2⟩
      · exact .inr ⟨g,h1,h2.mono hsof⟩
    · simp only [fv,lk_fr0,Nat.zero_le,if_true,Nat.sub_zero]
      cases hn:args[n]? with
      | none=>exact .any _
      | some v =>
        have hlt:n<vs.length:=by have:=(List.getElem?_eq_some_iff.1 hn).1;omega
        have hx:vs[n]?=some vs[n]:=List.getElem?_eq_getElem hlt
        have:(vs.toArray ++ Array.replicate (fn.ntmps - vs.toArray.size) undef).getD n undef=vs[n]:=by
          rw [Array.getD_eq_getD_getElem?,Array.getElem?_append,if_pos (by simpa using hlt)]
          simp [hx]
        rw [this]
        simp only [Option.getD_some]
        exact (hv n v _ hn hx).step hst0
  have fin:∀ st a w',retW P fn.results.toList (fun v st=>Q v st.hp) st→Sim c st a w'→∃ v,(results fn a.tmps).run P w'=.ok v w'∧∃ x r hp' U' σ',Ending.returned v=.returned x∧Q r hp'∧Rel (ctxE w S σ hp0 k 0 hk) hp' U' σ' w'∧Hist (ctxE w S σ hp0 k 0 hk) hp' U' σ' w' ∧
      AIs w' (Sof (ctxE w S σ hp0 k 0 hk) w' σ' hp') σ' hp' U' r x:=by
    intro st a w' hret hs
    obtain ⟨v,x,hQ,hrun,σ',hr,hx,hh⟩:=retW_is hs hret
    exact ⟨x,hrun,x,v,st.hp,_,σ',rfl,hQ,⟨hr.inj,hr.lt,hr.blk,hr.mine,hr.os,hr.tape,hr.output,hr.size,hr.old⟩,hh,hx⟩
  refine wp_mono (h c _ w rfl hsim) fun e a w' ⟨st,hq,hs⟩=>?_
  cases e with
  | normal=>exact ⟨hs.1,fin st a w' hq hs⟩
  | ret=>exact ⟨hs.1,fin st a w' hq hs⟩
  | _=>exact hq.elim
def leV (n:Nat) (v v':AV):Prop:=v'=v ∨ v'=.any ∨ ((v=.nil ∨ ∃ e,v=.d (.rof e []))∧((∃ id,id<n∧v'=.own id 0 0 0) ∨ ∃ e,v'=.d (.ro e [])))
theorem leV_is {n:Nat} {v v':AV} (h:leV n v v') {w:World} {S:Nat→Prop} {σ:Nat→Option Nat} {hp:Hp} {x:Value} (hx:AIs w S σ hp (fun i=>i<n) v x):AIs w S σ hp (fun i=>i<n) v' x:=by
  rcases h with rfl | rfl | ⟨h,h2⟩
  · exact hx
  · exact .any _
  · have own:∀ A,AIs w S σ hp (fun i=>i<n) v' (.slice A 0 0):=fun A=>by
      rcases h2 with ⟨id,hid,rfl⟩ | ⟨e,rfl⟩
      · exact .own id 0 0 0 A 0 hid (Nat.le_refl _) (fun _=>rfl) fun b2 hb2=>⟨Nat.zero_le _,fun _=>⟨Nat.le_refl _,Nat.le_refl _,fun h=>by omega⟩⟩
      · exact .d (.ro e [] A 0 (fun _ _=>undef) (by simp) (by simp) (by simp) (by simp) (by simp))
    rcases h with rfl | ⟨e,rfl⟩
    · cases hx with
      | nil=>exact own none
    · cases hx with
      | d hx =>
        cases hx with
        | rof _ _ A vs h1 h2 h3 h4=>exact own A
theorem le_wk {st:St} {L:Nat} {b:Blk} {es':List (List AV)} (hb:lk L st.hp=some b) (hz:b.e ≠ 0) (hl:es'.length=b.es.length)
    (hc:∀ (i:Nat) (x x':List AV),b.es[i]?=some x→es'[i]?=some x'→x'.length=x.length∧∀ (j:Nat) (v v':AV),x[j]?=some v→x'[j]?=some v'→leV st.nx v v'):Wk st ⟨st.fr,setH L ⟨b.ty,b.e,es'⟩ st.hp,st.nx⟩:=by
  intro c a w hs
  obtain ⟨h1,h2,σ,hr,hf,hist⟩:=hs
  have hlk:∀ i b',lk i (setH L ⟨b.ty,b.e,es'⟩ st.hp)=some b'→∃ b0,lk i st.hp=some b0∧b'.ty=b0.ty∧b'.e=b0.e∧b'.es.length=b0.es.length∧(i ≠ L→b'=b0)∧(i=L→b'=⟨b.ty,b.e,es'⟩∧b0=b):=by
    intro i b' h
    rw [lk_setH] at h
    by_cases hi:i=L
    · subst hi
      rw [if_pos rfl,hb] at h
      simp only [Option.map_some,Option.some.injEq] at h
      subst h
      exact ⟨b,hb,rfl,rfl,hl,fun e=>absurd rfl e,fun _=>⟨rfl,rfl⟩⟩
    · rw [if_neg hi] at h
      exact ⟨b',h,rfl,rfl,rfl,fun _=>rfl,fun e=>absurd e hi⟩
  have hS:∀ b0,Sof c w σ st.hp b0→Sof c w σ (setH L ⟨b.ty,b.e,es'⟩ st.hp) b0:=fun b0 hb0=>⟨⟨hb0.1.1,fun id blk g h hg=>by
    obtain ⟨b1,h3,_⟩:=hlk id blk h
    exact hb0.1.2 id b1 g h3 hg⟩,hb0.2⟩
  have step:Step w (Sof c w σ st.hp) σ st.hp (fun i=>i<st.nx) w (Sof c w σ (setH L ⟨b.ty,b.e,es'⟩ st.hp)) σ (setH L ⟨b.ty,b.e,es'⟩ st.hp) (fun i=>i<st.nx) :=
    ⟨hS,fun _ _=>rfl,fun _ h=>h,fun id b' _ h=>by
      obtain ⟨b1,h3,h4,h5,h6,_⟩:=hlk id b' h
      exact ⟨b1,h3,h5,h4,by omega,fun _ g hg=>⟨hg,fun _ h=>h⟩⟩⟩
  refine ⟨h1,h2,σ,⟨fun i j bi bj g hi hj hgi hgj=>?_,fun i b' h=>?_,fun i b' h=>?_,fun i b' g h hg=>?_,hr.os,hr.tape,hr.output,hr.size,hr.old⟩,fun n=>(hf n).step step,hist.trans step⟩
  · obtain ⟨b1,h3,_⟩:=hlk i bi hi
    obtain ⟨b2,h4,_⟩:=hlk j bj hj
    exact hr.inj i j b1 b2 g h3 h4 hgi hgj
  · obtain ⟨b1,h3,_⟩:=hlk i b' h
    exact hr.lt i b1 h3
  · obtain ⟨b1,h3,h4,h5,h6,h7,h8⟩:=hlk i b' h
    rcases hr.blk i b1 h3 with ⟨k1,k2⟩ | ⟨g,k1,ccs,k2,k3,k4,k5,k6⟩
    · refine .inl ⟨k1,?_⟩
      by_cases hi:i=L
      · obtain ⟨rfl,rfl⟩:=h8 hi
        have:=k2.none hz
        exact .inl (List.length_eq_zero_iff.1 (by rw [h6,this];rfl))
      · rw [h7 hi];exact k2
    · refine .inr ⟨g,k1,ccs,by rw [h4];exact k2,k3,?_,by rw [h6,h5];exact k5,?_⟩
      · by_cases hi:i=L
        · obtain ⟨rfl,rfl⟩:=h8 hi
          intro x hx
          obtain ⟨n,hn,rfl⟩:=List.mem_iff_getElem.1 hx
          have hn':n<b1.es.length:=by simp only at hn;omega
          obtain ⟨q1,_⟩:=hc n b1.es[n] _ (List.getElem?_eq_getElem hn') (List.getElem?_eq_getElem hn)
          rw [q1]
          exact k4 _ (List.getElem_mem _)
        · rw [h7 hi];exact k4
      · intro i' j x y v a1 a2 a3
        rw [h5] at a3
        by_cases hi:i=L
        · obtain ⟨rfl,rfl⟩:=h8 hi
          have hn':i'<b1.es.length:=by have:=(List.getElem?_eq_some_iff.1 a1).1;simp only at this;omega
          obtain ⟨q1,q2⟩:=hc i' b1.es[i'] x (List.getElem?_eq_getElem hn') a1
          have hj:j<b1.es[i'].length:=by have:=(List.getElem?_eq_some_iff.1 a2).1;omega
          have hv:=k6 i' j b1.es[i'] b1.es[i'][j] v (List.getElem?_eq_getElem hn') (List.getElem?_eq_getElem hj) a3
          exact (leV_is (q2 j _ y (List.getElem?_eq_getElem hj) a2) hv).step step
        · rw [h7 hi] at a1
          exact (k6 i' j x y v a1 a2 a3).step step
  · obtain ⟨b1,h3,_⟩:=hlk i b' h
    exact hr.mine i b1 g h3 hg
def leRow (n:Nat) (x x':List AV):Prop:=x'.length=x.length∧∀ (j:Nat) (v v':AV),x[j]?=some v→x'[j]?=some v'→leV n v v'
theorem leRow_mid {n:Nat} (l r:List AV) {a a':AV} (h:leV n a a'):leRow n (l ++ a :: r) (l ++ a' :: r):=by
  refine ⟨by simp,fun j v v' h1 h2=>?_⟩
  rcases Nat.lt_or_ge j l.length with hj | hj
  · rw [List.getElem?_append_left hj] at h1 h2
    rw [h1] at h2
    exact .inl (Option.some.inj h2).symm
  · rw [List.getElem?_append_right hj] at h1 h2
    cases hk:j - l.length with
    | zero =>
      rw [hk] at h1 h2
      simp at h1 h2
      subst h1;subst h2
      exact h
    | succ k =>
      rw [hk] at h1 h2
      simp at h1 h2
      rw [h1] at h2
      exact .inl (Option.some.inj h2).symm
theorem le_one {st:St} {L:Nat} {ty:TypeId} {e:Nat} {x x':List AV} (hb:lk L st.hp=some ⟨ty,e,[x]⟩) (he:e ≠ 0) (h:leRow st.nx x x'):Wk st ⟨st.fr,setH L ⟨ty,e,[x']⟩ st.hp,st.nx⟩ :=
  le_wk hb he rfl fun i y y' h1 h2=>by
    cases i with
    | zero=>simp at h1 h2;subst h1;subst h2;exact h
    | succ i=>simp at h1
end
end Go.Am
namespace Go.Am
def InjN (n:Nat) (f:Nat→Nat):Prop:=∀ i j,i<n→j<n→f i=f j→i=j
def prF (n:Nat) (f g:Nat→Nat):List (Nat × Nat):=(List.range n).map fun i=>(f i,g i)
theorem mem_prF {n:Nat} {f g:Nat→Nat} {p:Nat × Nat}:p ∈ prF n f g ↔ ∃ i,i<n∧p=(f i,g i):=by
  simp only [prF,List.mem_map,List.mem_range]
  constructor
  · rintro ⟨i,h,rfl⟩;exact ⟨i,h,rfl⟩
  · rintro ⟨i,h,rfl⟩;exact ⟨i,h,rfl⟩
theorem injN_id (n:Nat):InjN n id:=fun i j _ _ h=>h
theorem prF_B {n:Nat} {f g:Nat→Nat} (hf:InjN n f) (hg:InjN n g):prsB (prF n f g)=true:=by
  refine List.all_eq_true.2 fun p hp=>List.all_eq_true.2 fun q hq=>?_
  obtain ⟨i,hi,rfl⟩:=mem_prF.1 hp
  obtain ⟨j,hj,rfl⟩:=mem_prF.1 hq
  rw [beq_iff_eq,Bool.eq_iff_iff,beq_iff_eq,beq_iff_eq]
  exact ⟨fun h=>by rw [hf i j hi hj h],fun h=>by rw [hg i j hi hj h]⟩
theorem swp_prF (n:Nat) (f g:Nat→Nat):swp (prF n f g)=prF n g f:=by simp [swp,prF]
theorem lk_prF {n:Nat} {f:Nat→Nat} (g:Nat→Nat) (hf:InjN n f) {i:Nat} (hi:i<n):lk (f i) (prF n f g)=some (g i) :=
  lk_of_mem (fun a b c h1 h2=>by
    obtain ⟨i,hi,e1⟩:=mem_prF.1 h1
    obtain ⟨j,hj,e2⟩:=mem_prF.1 h2
    cases e1
    simp only [Prod.mk.injEq] at e2
    obtain ⟨e2,rfl⟩:=e2
    rw [hf i j hi hj e2]) (mem_prF.2 ⟨i,hi,rfl⟩)
theorem rho_prF {n:Nat} {f:Nat→Nat} (g:Nat→Nat) (d:Nat) (hf:InjN n f) {i:Nat} (hi:i<n):rho (prF n f g) d (f i)=g i:=rho_of (lk_prF g hf hi)
def hpL (n:Nat) (f:Nat→Nat) (b:Nat→Blk):Hp:=(List.range n).map fun i=>(f i,b i)
theorem mem_hpL {n:Nat} {f:Nat→Nat} {b:Nat→Blk} {p:Nat × Blk}:p ∈ hpL n f b ↔ ∃ i,i<n∧p=(f i,b i):=by
  simp only [hpL,List.mem_map,List.mem_range]
  constructor
  · rintro ⟨i,h,rfl⟩;exact ⟨i,h,rfl⟩
  · rintro ⟨i,h,rfl⟩;exact ⟨i,h,rfl⟩
theorem lkB_of_mem {α:Type} {n:Nat} {v:α}:∀ {l:List (Nat × α)},(n,v) ∈ l→(∀ u,(n,u) ∈ l→u=v)→lk n l=some v
  | (m,u) :: t,h,hu=>by
    simp only [lk]
    by_cases e:m=n
    · subst e
      rw [if_pos rfl,hu u (List.mem_cons_self ..)]
    · rw [if_neg e]
      rcases List.mem_cons.1 h with h | h
      · cases h;exact absurd rfl e
      · exact lkB_of_mem h fun u hm=>hu u (List.mem_cons_of_mem _ hm)
theorem lk_hpL {n:Nat} {f:Nat→Nat} (b:Nat→Blk) (hf:InjN n f) {i:Nat} (hi:i<n):lk (f i) (hpL n f b)=some (b i) :=
  lkB_of_mem (mem_hpL.2 ⟨i,hi,rfl⟩) fun u hu=>by
    obtain ⟨j,hj,e⟩:=mem_hpL.1 hu
    simp only [Prod.mk.injEq] at e
    obtain ⟨e,rfl⟩:=e
    rw [hf i j hi hj e]
theorem lk_hpL_none {n:Nat} {f:Nat→Nat} {b:Nat→Blk} {x:Nat} (h:∀ i,i<n→f i ≠ x):lk x (hpL n f b)=none:=by
  cases hl:lk x (hpL n f b) with
  | none=>rfl
  | some y =>
    obtain ⟨i,hi,e⟩:=mem_hpL.1 (lk_mem hl)
    cases e
    exact absurd rfl (h i hi)
theorem lk_fm {F:Nat→Option Blk} {x y:Nat}:∀ {l:List (Nat × Nat)},(x,y) ∈ l→(∀ z,(z,y) ∈ l→z=x)→(∃ v,F x=some v)→lk y (l.filterMap fun p=>(F p.1).map fun b=>(p.2,b))=F x
  | (a,c) :: t,h,hu,hv=>by
    obtain ⟨v,hv'⟩:=hv
    by_cases e:c=y
    · subst e
      obtain rfl:a=x:=hu a (List.mem_cons_self ..)
      rw [List.filterMap_cons_some (b:=(c,v)) (by simp [hv'])]
      simp [lk,hv']
    · have hm:(x,y) ∈ t:=by
        rcases List.mem_cons.1 h with h | h
        · cases h;exact absurd rfl e
        · exact h
      have ih:=lk_fm (F:=F) hm (fun z hz=>hu z (List.mem_cons_of_mem _ hz)) ⟨v,hv'⟩
      cases hF:F a with
      | none=>rw [List.filterMap_cons_none (by simp [hF])];exact ih
      | some w =>
        rw [List.filterMap_cons_some (b:=(c,w)) (by simp [hF])]
        simp only [lk,if_neg e]
        exact ih
theorem lk_fm_none {F:Nat→Option Blk} {y:Nat}:∀ {l:List (Nat × Nat)},(∀ x,(x,y) ∉ l)→lk y (l.filterMap fun p=>(F p.1).map fun b=>(p.2,b))=none:=by
  intro l h
  cases hl:lk y (l.filterMap fun p=>(F p.1).map fun b=>(p.2,b)) with
  | none=>rfl
  | some v =>
    have:=lk_mem hl
    rw [List.mem_filterMap] at this
    obtain ⟨⟨a,c⟩,h1,h2⟩:=this
    simp only at h2
    cases hF:F a with
    | none=>rw [hF] at h2;simp at h2
    | some w =>
      rw [hF] at h2
      simp only [Option.map_some,Option.some.injEq,Prod.mk.injEq] at h2
      obtain ⟨rfl,_⟩:=h2
      exact absurd h1 (h a)
theorem lk_renH {n d:Nat} {f g:Nat→Nat} {hp:Hp} (hg:InjN n g) {i:Nat} (hi:i<n) {b:Blk} (h:lk (f i) hp=some b):lk (g i) (renH (prF n f g) d hp)=some (b.ren (rho (prF n f g) d)):=by
  have:lk (g i) (renH (prF n f g) d hp)=(lk (f i) hp).map (fun b=>b.ren (rho (prF n f g) d)):=by
    have:=lk_fm (F:=fun a=>(lk a hp).map fun b=>b.ren (rho (prF n f g) d)) (l:=prF n f g) (x:=f i) (y:=g i) (mem_prF.2 ⟨i,hi,rfl⟩) (fun z hz=>by
      obtain ⟨j,hj,e⟩:=mem_prF.1 hz
      simp only [Prod.mk.injEq] at e
      obtain ⟨rfl,e⟩:=e
      rw [hg i j hi hj e]) ⟨b.ren (rho (prF n f g) d),by simp [h]⟩
    rw [← this]
    unfold renH
    congr 2
    funext p
    cases lk p.1 hp <;> rfl
  rw [this,h];rfl
section
variable {P:Program} {n:Nat} {f:Nat→Nat} {news:List (Nat × Nat)} {N:Nat} {hp hp':Hp}
def roO (n:Nat) (f:Nat→Nat) (news:List (Nat × Nat)) (N:Nat):Nat→Nat:=rho (outP (prF n id f) news N) (N+31)
theorem out_news (hn:newsB (prF n id f) news=true):(∀ c j,(c,j) ∈ news→j<31∧n≤c)∧prsB news=true:=by
  simp only [newsB,Bool.and_eq_true,List.all_eq_true,decide_eq_true_eq,bne_iff_ne,ne_eq] at hn
  refine ⟨fun c j h=>⟨(hn.2 _ h).1,?_⟩,hn.1⟩
  rcases Nat.lt_or_ge c n with hlt | hge
  · exact absurd rfl ((hn.2 _ h).2 (c,f c) (mem_prF.2 ⟨c,hlt,rfl⟩))
  · exact hge
theorem out_uniq (hn:newsB (prF n id f) news=true) (hf:InjN n f) (hN:∀ i,i<n→f i<N) {x z y:Nat} (h1:(x,y) ∈ outP (prF n id f) news N) (h2:(z,y) ∈ outP (prF n id f) news N):z=x:=by
  obtain ⟨q1,q2⟩:=out_news hn
  rcases List.mem_append.1 h1 with h1 | h1 <;> rcases List.mem_append.1 h2 with h2 | h2
  · obtain ⟨i,hi,e⟩:=mem_prF.1 h1
    obtain ⟨j,hj,e2⟩:=mem_prF.1 h2
    cases e
    simp only [Prod.mk.injEq,id_eq] at e2 ⊢
    obtain ⟨e3,e2⟩:=e2
    rw [e3]
    exact (hf _ _ hi hj e2).symm
  · obtain ⟨i,hi,e⟩:=mem_prF.1 h1
    obtain ⟨⟨c,j⟩,hj,e2⟩:=List.mem_map.1 h2
    cases e
    simp only [Prod.mk.injEq] at e2
    have:=hN i hi
    omega
  · obtain ⟨i,hi,e⟩:=mem_prF.1 h2
    obtain ⟨⟨c,j⟩,hj,e2⟩:=List.mem_map.1 h1
    cases e
    simp only [Prod.mk.injEq] at e2
    have:=hN i hi
    omega
  · obtain ⟨⟨c,j⟩,hj,e⟩:=List.mem_map.1 h1
    obtain ⟨⟨c2,j2⟩,hj2,e2⟩:=List.mem_map.1 h2
    simp only [Prod.mk.injEq] at e e2
    obtain ⟨rfl,e⟩:=e
    obtain ⟨rfl,e2⟩:=e2
    exact ((prs_iff q2 hj hj2).2 (by omega)).symm
theorem out_fun (hn:newsB (prF n id f) news=true) {x y z:Nat} (h1:(x,y) ∈ outP (prF n id f) news N) (h2:(x,z) ∈ outP (prF n id f) news N):y=z:=by
  obtain ⟨q1,q2⟩:=out_news hn
  rcases List.mem_append.1 h1 with h1 | h1 <;> rcases List.mem_append.1 h2 with h2 | h2
  · obtain ⟨i,hi,e⟩:=mem_prF.1 h1
    obtain ⟨j,hj,e2⟩:=mem_prF.1 h2
    cases e
    simp only [Prod.mk.injEq,id_eq] at e2
    obtain ⟨rfl,rfl⟩:=e2
    rfl
  · obtain ⟨i,hi,e⟩:=mem_prF.1 h1
    obtain ⟨⟨c,j⟩,hj,e2⟩:=List.mem_map.1 h2
    cases e
    simp only [Prod.mk.injEq,id_eq] at e2
    have:=(q1 _ _ hj).2
    omega
  · obtain ⟨i,hi,e⟩:=mem_prF.1 h2
    obtain ⟨⟨c,j⟩,hj,e2⟩:=List.mem_map.1 h1
    cases e
    simp only [Prod.mk.injEq,id_eq] at e2
    have:=(q1 _ _ hj).2
    omega
  · obtain ⟨⟨c,j⟩,hj,e⟩:=List.mem_map.1 h1
    obtain ⟨⟨c2,j2⟩,hj2,e2⟩:=List.mem_map.1 h2
    simp only [Prod.mk.injEq] at e e2
    obtain ⟨rfl,rfl⟩:=e
    obtain ⟨rfl,rfl⟩:=e2
    rw [(prs_iff q2 hj hj2).1 rfl]
theorem roO_of (hn:newsB (prF n id f) news=true) {i:Nat} (hi:i<n):roO n f news N i=f i :=
  rho_of (lk_of_mem (fun a b c h1 h2=>out_fun hn h1 h2) (List.mem_append_left _ (mem_prF.2 ⟨i,hi,rfl⟩)))
theorem roO_new (hn:newsB (prF n id f) news=true) {c j:Nat} (h:(c,j) ∈ news):roO n f news N c=N+j :=
  rho_of (lk_of_mem (fun a b c h1 h2=>out_fun hn h1 h2) (List.mem_append_right _ (List.mem_map.2 ⟨(c,j),h,rfl⟩)))
theorem outH_at (hn:newsB (prF n id f) news=true) (hf:InjN n f) (hN:∀ i,i<n→f i<N) {x y:Nat} (h1:(x,y) ∈ outP (prF n id f) news N) {b:Blk} (hb:lk x hp'=some b) :
    lk y (outH (prF n id f) news N hp' hp)=some (b.ren (roO n f news N)):=by
  have:=lk_fm (F:=fun a=>(lk a hp').map fun b=>b.ren (roO n f news N)) h1 (fun z hz=>out_uniq hn hf hN h1 hz) ⟨b.ren (roO n f news N),by simp [hb]⟩
  simp only [hb,Option.map_some] at this
  unfold outH
  rw [lk_app]
  have e:(outP (prF n id f) news N).filterMap (fun p=>(lk p.1 hp').map fun b=>(p.2,b.ren (rho (outP (prF n id f) news N) (N+31))))=(outP (prF n id f) news N).filterMap (fun p=>((lk p.1 hp').map fun b=>b.ren (roO n f news N)).map fun b=>(p.2,b)):=by
    congr 1
    funext p
    cases lk p.1 hp' <;> rfl
  rw [e,this]
theorem outH_el (hN:∀ i,i<n→f i<N) {y:Nat} (hy:y<N) (h1:∀ i,i<n→f i ≠ y):lk y (outH (prF n id f) news N hp' hp)=lk y hp:=by
  have hno:∀ x,(x,y) ∉ outP (prF n id f) news N:=by
    intro x hx
    rcases List.mem_append.1 hx with hx | hx
    · obtain ⟨i,hi,e⟩:=mem_prF.1 hx
      cases e
      exact h1 i hi rfl
    · obtain ⟨⟨c,j⟩,hj,e2⟩:=List.mem_map.1 hx
      simp only [Prod.mk.injEq] at e2
      omega
  have:=lk_fm_none (F:=fun a=>(lk a hp').map fun b=>b.ren (roO n f news N)) hno
  unfold outH
  rw [lk_app]
  have e:(outP (prF n id f) news N).filterMap (fun p=>(lk p.1 hp').map fun b=>(p.2,b.ren (rho (outP (prF n id f) news N) (N+31))))=(outP (prF n id f) news N).filterMap (fun p=>((lk p.1 hp').map fun b=>b.ren (roO n f news N)).map fun b=>(p.2,b)):=by
    congr 1
    funext p
    cases lk p.1 hp' <;> rfl
  rw [e,this]
  simp only
  rw [lk_filter fun n'=>!((prF n id f).map (·.2)).contains n',if_pos]
  simp only [Bool.not_eq_true',List.contains_eq_mem,decide_eq_false_iff_not,List.mem_map,not_exists,not_and]
  intro p hp2 e
  obtain ⟨i,hi,rfl⟩:=mem_prF.1 hp2
  exact h1 i hi e
theorem cl_ob {g:FuncId} {args args0:List AV} {K:AV→Hp→Prop} {Q:AV→Hp→Prop} {hp0:Hp} {b0:Nat→Blk} (f:Nat→Nat) (h:RetsE P g n hp0 args0 Q) (h0:∀ i b,lk i hp0=some b→i<n∧b=b0 i) (hf:InjN n f) (hN:∀ i,i<n→f i<N)
    (hb:∀ i,i<n→∃ b,lk (f i) hp=some b∧b.e ≠ 0∧b0 i=b.ren (rho (prF n f id) n))
    (ha:args0=AV.renL (rho (prF n f id) n) args) (news:List (Nat × Nat)) (hn:newsB (prF n id f) news=true)
    (hK:∀ r hp',Q r hp'→∀ hpX,(∀ i,i<n→∀ b,lk i hp'=some b→lk (f i) hpX=some (b.ren (roO n f news N)))→(∀ c j,(c,j) ∈ news→∀ b,lk c hp'=some b→lk (N+j) hpX=some (b.ren (roO n f news N))) →
      (∀ y,y<N→(∀ i,i<n→f i ≠ y)→lk y hpX=lk y hp)→K (r.ren (roO n f news N)) hpX):ClW P g args hp N K:=by
  refine .inl (callsA_eff (prF n id f) h (prF_B (injN_id n) hf) ?_ ?_ ?_ ?_ ?_)
  · intro p hp1
    obtain ⟨i,hi,rfl⟩:=mem_prF.1 hp1
    exact hi
  · intro p hp1
    obtain ⟨i,hi,rfl⟩:=mem_prF.1 hp1
    obtain ⟨b,q1,q2,_⟩:=hb i hi
    exact ⟨b,q1,q2⟩
  · intro i b1 hi
    obtain ⟨hj,rfl⟩:=h0 i b1 hi
    obtain ⟨b,q1,q2,q3⟩:=hb i hj
    exact ⟨f i,b,lk_prF f (injN_id n) hj,q1,by rw [swp_prF];exact q3⟩
  · rw [swp_prF];exact ha
  · intro r hp' hQ
    refine ⟨news,hn,hK r hp' hQ _ (fun i hi b hl=>?_) (fun c j hm b hl=>?_) (fun y hy hz=>?_)⟩
    · exact outH_at hn hf hN (List.mem_append_left _ (mem_prF.2 ⟨i,hi,rfl⟩)) hl
    · exact outH_at hn hf hN (List.mem_append_right _ (List.mem_map.2 ⟨(c,j),hm,rfl⟩)) hl
    · exact outH_el hN hy hz
end
end Go.Am
