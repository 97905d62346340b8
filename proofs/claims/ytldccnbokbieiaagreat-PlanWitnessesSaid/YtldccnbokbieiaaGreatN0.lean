/-
 Part 1 of what the claim rests on.
-/
import Derived.WalkKit
import Derived.Maps.Keyed
import Derived.ChangeKeysEq
import Derived.Laws.StructEq
set_option linter.unusedVariables false
set_option linter.unusedSimpArgs false
set_option maxRecDepth 100000
set_option maxHeartbeats 16000000
theorem aa {P:Prop} (h:P:=by omega):P:=h
theorem ab {P:Prop} (h:P:=by simp):P:=h
namespace Go.Am
inductive DV where
 | int (k:IntKind) (n:Int)
 | bool (b:Bool)
 | str (bs:List Int)
 | ro (e:Nat) (es:List (List DV))
 /-- one whose room ends where it ends -/
 | rof (e:Nat) (es:List (List DV))
 | box (cs:List DV)
 | nilp
 deriving Inhabited
inductive DIs (w:World) (S:Nat→Prop):DV→Value→Prop
 | int (k:IntKind) (n:Int):DIs w S (.int k n) (.int k n)
 | bool (b:Bool):DIs w S (.bool b) (.bool b)
 | str (s:ByteArray):DIs w S (.str (s.data.toList.map fun c=>(c.toNat:Int))) (.string s)
 | ro (e:Nat) (es:List (List DV)) (A:Option Addr) (c:Nat) (vs:Nat→Nat→Value)
   (hc:es.length≤c)
   (he:∀ x,x ∈ es→x.length=e)
   (hA:∀ x,x ∈ es→∃ ad,A=some ad∧S ad.block)
   (hv:∀ ad,A=some ad→∀ (i j:Nat) (x:List DV) (y:DV),es[i]?=some x→x[j]?=some y→w.cell? (ad.add (i*e+j))=some (vs i j))
   (hd:∀ (i j:Nat) (x:List DV) (y:DV),es[i]?=some x→x[j]?=some y→DIs w S y (vs i j)) :
   DIs w S (.ro e es) (.slice A es.length c)
 | rof (e:Nat) (es:List (List DV)) (A:Option Addr) (vs:Nat→Nat→Value)
   (he:∀ x,x ∈ es→x.length=e)
   (hA:∀ x,x ∈ es→∃ ad,A=some ad∧S ad.block)
   (hv:∀ ad,A=some ad→∀ (i j:Nat) (x:List DV) (y:DV),es[i]?=some x→x[j]?=some y→w.cell? (ad.add (i*e+j))=some (vs i j))
   (hd:∀ (i j:Nat) (x:List DV) (y:DV),es[i]?=some x→x[j]?=some y→DIs w S y (vs i j)) :
   DIs w S (.rof e es) (.slice A es.length es.length)
 | box (cs:List DV) (ad:Addr) (vs:Nat→Value)
   (hS:S ad.block)
   (hv:∀ (j:Nat) (y:DV),cs[j]?=some y→w.cell? (ad.add j)=some (vs j))
   (hd:∀ (j:Nat) (y:DV),cs[j]?=some y→DIs w S y (vs j)) :
   DIs w S (.box cs) (.pointer (some ad))
 | nilp:DIs w S .nilp (.pointer none)
theorem K3 (a:Addr) (n:Nat):(a.add n).block=a.block:=by unfold Addr.add;split <;> rfl
theorem DIs.mono {w w':World} {S S':Nat→Prop} (hS:∀ b,S b→S' b) (hw:∀ p:Addr,S p.block→w'.cell? p=w.cell? p) {d:DV} {v:Value} (h:DIs w S d v):DIs w' S' d v:=by
 induction h with
 | int k n=>exact .int k n
 | bool b=>exact .bool b
 | str s=>exact .str s
 | ro e es A c vs hc he hA hv hd ih =>
  refine .ro e es A c vs hc he (fun x hx=>?_) (fun ad hAd i j x y hx hy=>?_) (fun i j x y hx hy=>ih i j x y hx hy)
  ·obtain ⟨ad,h1,h2⟩:=hA x hx;exact ⟨ad,h1,hS _ h2⟩
  ·obtain ⟨ad',h1,h2⟩:=hA x (List.mem_of_getElem? hx);rw [hAd] at h1;injection h1 with h1;subst h1;rw [hw _ (by rw [K3];exact h2)];exact hv ad hAd i j x y hx hy
 | rof e es A vs he hA hv hd ih =>
  refine .rof e es A vs he (fun x hx=>?_) (fun ad hAd i j x y hx hy=>?_) (fun i j x y hx hy=>ih i j x y hx hy)
  ·obtain ⟨ad,h1,h2⟩:=hA x hx;exact ⟨ad,h1,hS _ h2⟩
  ·obtain ⟨ad',h1,h2⟩:=hA x (List.mem_of_getElem? hx);rw [hAd] at h1;injection h1 with h1;subst h1;rw [hw _ (by rw [K3];exact h2)];exact hv ad hAd i j x y hx hy
 | box cs ad vs hs hv hd ih =>
  refine .box cs ad vs (hS _ hs) (fun j y hy=>?_) (fun j y hy=>ih j y hy);rw [hw _ (by rw [K3];exact hs)];exact hv j y hy
 | nilp=>exact .nilp
inductive AV where
 | any
 | d (v:DV)
 | agg (cs:List AV)
 | tup (vs:List AV)
 /-- a slice over rows i0 .. i0+len of block id,which has tot rows -/
 | own (id i0 len tot:Nat)
 /-- a slice over cells of one row of block id: e cells an element,from cell off on;len elements,cap elements -/
 | sub (id i off e len cap tot:Nat)
 /-- a pointer at a cell of a row of block id -/
 | ptr (id i off tot:Nat)
 /-- a pointer at cells that are read-only -/
 | rop (cs:List DV)
 | fn (f:FuncId) (cs:List AV)
 /-- the nil slice,known as such -/
 | nil
 /-- a map of the call's own -/
 | mp (id:Nat)
 deriving Inhabited
structure Blk where
 ty:TypeId
 e:Nat
 es:List (List AV)
 deriving Inhabited
abbrev Hp:=List (Nat × Blk)
def lk {α:Type} (n:Nat):List (Nat × α)→Option α
 | []=>none
 | (m,v) :: t=>if m=n then some v else lk n t
def World.rows (w:World) (b:Nat) (ty:TypeId) (n:Nat):Prop:=∃ ccs,w.heap[b]?=some (.cells ccs ty (0,0))∧ccs.size=n
inductive AIs (w:World) (S:Nat→Prop) (σ:Nat→Option Nat) (hp:Hp) (U:Nat→Prop):AV→Value→Prop
 | any (v:Value):AIs w S σ hp U .any v
 | d {d:DV} {v:Value} (h:DIs w S d v):AIs w S σ hp U (.d d) v
 | agg (cs:List AV) (xs:Array Value) (hl:cs.length=xs.size) (h1:∀ (i:Nat) (x:Value),xs[i]?=some x→x.oneCell'=true) (h:∀ (i:Nat) (c:AV) (x:Value),cs[i]?=some c→xs[i]?=some x→AIs w S σ hp U c x):AIs w S σ hp U (.agg cs) (.agg xs)
 | tup (cs:List AV) (xs:Array Value) (hl:cs.length=xs.size) (h:∀ (i:Nat) (c:AV) (x:Value),cs[i]?=some c→xs[i]?=some x→AIs w S σ hp U c x):AIs w S σ hp U (.tup cs) (.tuple xs)
 | own (id i0 len tot:Nat) (A:Option Addr) (cap:Nat) (hN:U id) (hl:len≤cap) (h0:A=none→len=0)
   (h:∀ b,lk id hp=some b→tot≤b.es.length∧(b.es.length=tot→i0+len≤tot∧tot≤i0+cap∧(0<cap→∃ g,σ id=some g∧A=some ⟨g,i0*b.e,none⟩∧∃ n,World.rows w g b.ty n∧(i0+cap)*b.e≤n))) :
   AIs w S σ hp U (.own id i0 len tot) (.slice A len cap)
 | sub (id i off e len cap tot:Nat) (A:Option Addr) (hN:U id) (hl:len≤cap) (h0:A=none→len=0)
   (h:∀ b,lk id hp=some b→tot≤b.es.length∧(b.es.length=tot→i<tot∧off+cap*e≤b.e∧(0<cap→∃ g,σ id=some g∧A=some ⟨g,i*b.e+off,none⟩))) :
   AIs w S σ hp U (.sub id i off e len cap tot) (.slice A len cap)
 | ptr (id i off tot:Nat) (a:Addr) (hN:U id)
   (h:∀ b,lk id hp=some b→tot≤b.es.length∧(b.es.length=tot→∃ g,σ id=some g∧a=⟨g,i*b.e+off,none⟩)) :
   AIs w S σ hp U (.ptr id i off tot) (.pointer (some a))
 | rop (cs:List DV) (ad:Addr) (vs:Nat→Value)
   (hS:S ad.block)
   (hv:∀ (j:Nat) (y:DV),cs[j]?=some y→w.cell? (ad.add j)=some (vs j))
   (hd:∀ (j:Nat) (y:DV),cs[j]?=some y→DIs w S y (vs j)) :
   AIs w S σ hp U (.rop cs) (.pointer (some ad))
 | fn (f:FuncId) (cs:List AV) (xs:Array Value) (hl:cs.length=xs.size) (h:∀ (i:Nat) (c:AV) (x:Value),cs[i]?=some c→xs[i]?=some x→AIs w S σ hp U c x):AIs w S σ hp U (.fn f cs) (.func (.func f) #[] xs)
 | nil:AIs w S σ hp U .nil (.slice none 0 0)
 | mp (id g:Nat) (hN:U id) (h:∀ b,lk id hp=some b→b.ty=g):AIs w S σ hp U (.mp id) (.map (some g))
structure Step (w:World) (S:Nat→Prop) (σ:Nat→Option Nat) (hp:Hp) (U:Nat→Prop) (w':World) (S':Nat→Prop) (σ':Nat→Option Nat) (hp':Hp) (U':Nat→Prop):Prop where
 sub:∀ b,S b→S' b
 cell:∀ p:Addr,S p.block→w'.cell? p=w.cell? p
 le:∀ i,U i→U' i
 blk:∀ id b',U id→lk id hp'=some b'→∃ b,lk id hp=some b∧b'.e=b.e∧b'.ty=b.ty∧b.es.length≤b'.es.length ∧
  (b'.es.length=b.es.length→∀ g,σ id=some g→σ' id=some g∧∀ n,World.rows w g b.ty n→World.rows w' g b.ty n)
theorem AIs.step {w w':World} {S S':Nat→Prop} {σ σ':Nat→Option Nat} {hp hp':Hp} {U U':Nat→Prop} (st:Step w S σ hp U w' S' σ' hp' U') {a:AV} {v:Value} (h:AIs w S σ hp U a v):AIs w' S' σ' hp' U' a v:=by
 induction h with
 | any v=>exact .any v
 | d h=>exact .d (h.mono st.sub st.cell)
 | agg cs xs hl h1 _ ih=>exact .agg cs xs hl h1 ih
 | tup cs xs hl _ ih=>exact .tup cs xs hl ih
 | own id i0 len tot A cap hN hl h0 h =>
  refine .own id i0 len tot A cap (st.le _ hN) hl h0 fun b' hb'=>?_;obtain ⟨b,hb,he,hty,hle,heq⟩:=st.blk id b' hN hb';obtain ⟨h1,h2⟩:=h b hb;refine ⟨aa,fun ht=>?_⟩;obtain ⟨h3,h3',h4⟩:=h2 aa;refine ⟨h3,h3',fun hc=>?_⟩;obtain ⟨g,hg,h5,n,h6,h7⟩:=h4 hc;obtain ⟨e1,e2⟩:=heq aa g hg;exact ⟨g,e1,by rw [he];exact h5,n,by rw [hty];exact e2 n h6,by rw [he];exact h7⟩
 | sub id i off e len cap tot A hN hl h0 h =>
  refine .sub id i off e len cap tot A (st.le _ hN) hl h0 fun b' hb'=>?_;obtain ⟨b,hb,he,hty,hle,heq⟩:=st.blk id b' hN hb';obtain ⟨h1,h2⟩:=h b hb;refine ⟨aa,fun ht=>?_⟩;obtain ⟨h3,h4,h5⟩:=h2 aa;refine ⟨h3,by rw [he];exact h4,fun hc=>?_⟩;obtain ⟨g,hg,h6⟩:=h5 hc;exact ⟨g,(heq aa g hg).1,by rw [he];exact h6⟩
 | ptr id i off tot a hN h =>
  refine .ptr id i off tot a (st.le _ hN) fun b' hb'=>?_;obtain ⟨b,hb,he,hty,hle,heq⟩:=st.blk id b' hN hb';obtain ⟨h1,h2⟩:=h b hb;refine ⟨aa,fun ht=>?_⟩;obtain ⟨g,hg,h6⟩:=h2 aa;exact ⟨g,(heq aa g hg).1,by rw [he];exact h6⟩
 | rop cs ad vs hS hv hd =>
  refine .rop cs ad vs (st.sub _ hS) (fun j y hy=>?_) (fun j y hy=>(hd j y hy).mono st.sub st.cell);rw [st.cell _ (by rw [K3];exact hS)];exact hv j y hy
 | fn f cs xs hl _ ih=>exact .fn f cs xs hl ih
 | nil=>exact .nil
 | mp id g hN h =>
  refine .mp id g (st.le _ hN) fun b' hb'=>?_;obtain ⟨b,hb,_,hty,_⟩:=st.blk id b' hN hb';rw [hty];exact h b hb
def WC (u:List (IntKind × Int)):List AV:=u.map fun p=>.d (.int p.1 p.2)
def Vj (u:List (IntKind × Int)):Value:=.agg (u.map fun p=>Value.int p.1 p.2).toArray
def Wr (ks:List (List (IntKind × Int))):List (List AV):=[.any] :: ks.map WC
def ase (w:World) (g:Nat) (es:List (List AV)):Prop :=
 ∃ (ks:List (List (IntKind × Int))) (ms:Array MapEntry) (clock:Nat),es=Wr ks∧w.heap[g]?=some (.map ms clock) ∧
  (∀ m ∈ ms.toList,m.val=.bool true∧∃ u ∈ ks,m.key=Vj u)∧∀ u ∈ ks,∃ m ∈ ms.toList,m.key=Vj u
def NoB (n:Nat) (w:World) (b:Blk):Prop:=b.es=[] ∨ (b.e=0∧n≤b.ty∧ase w b.ty b.es)
theorem NoB.keep {n:Nat} {w w':World} {b:Blk} (h:NoB n w b) (hold:∀ (g:Nat) (ms:Array MapEntry) (clock:Nat),w.heap[g]?=some (Obj.map ms clock)→w'.heap[g]?=w.heap[g]?):NoB n w' b:=by
 rcases h with h | ⟨h0,hn,ks,ms,clock,h1,h2,h3⟩
 ·exact .inl h
 ·exact .inr ⟨h0,hn,ks,ms,clock,h1,(hold _ _ _ h2).trans h2,h3⟩
theorem NoB.le {n n':Nat} {w:World} {b:Blk} (hle:n'≤n) (h:NoB n w b):NoB n' w b:=by
 rcases h with h | ⟨h0,hn,h1⟩
 ·exact .inl h
 ·exact .inr ⟨h0,Nat.le_trans hle hn,h1⟩
theorem Zx {w:World} {g:Nat} {o:Obj} (h:w.heap[g]?=some o):g<w.heap.size:=(Array.getElem?_eq_some_iff.1 h).1
theorem NoB.none {n:Nat} {w:World} {b:Blk} (h:NoB n w b) (he:b.e ≠ 0):b.es=[]:=by
 rcases h with h | ⟨h0,_⟩
 ·exact h
 ·exact (he h0).elim
def BlkOk (w:World) (S:Nat→Prop) (σ:Nat→Option Nat) (hp:Hp) (U:Nat→Prop) (g:Nat) (b:Blk):Prop :=
 ∃ ccs,w.heap[g]?=some (.cells ccs b.ty (0,0))∧(∀ (i:Nat) (x:Value),ccs[i]?=some x→x.oneCell'=true)∧(∀ x,x ∈ b.es→x.length=b.e)∧b.es.length*b.e≤ccs.size ∧
  ∀ (i j:Nat) (x:List AV) (y:AV) (v:Value),b.es[i]?=some x→x[j]?=some y→ccs[i*b.e+j]?=some v→AIs w S σ hp U y v
structure Ctx where
 w0:World
 M0:Nat→Prop
 S0:Nat→Prop
 n:Nat
 hM:∀ b,M0 b→S0 b
 /-- what was handed in as one's own: ids below kx -/
 Sx:Nat→Prop
 σx:Nat→Option Nat
 hpx:Hp
 kx:Nat
 hk:kx≤64
def z7 (c:Ctx) (w:World) (σ:Nat→Option Nat) (hp:Hp) (b:Nat):Prop:=(b<w.heap.size∧∀ id blk g,lk id hp=some blk→σ id=some g→b ≠ g)∧(c.S0 b ∨ c.w0.heap.size≤b)
structure Rel (c:Ctx) (hp:Hp) (U:Nat→Prop) (σ:Nat→Option Nat) (w:World):Prop where
 inj:∀ i j bi bj g,lk i hp=some bi→lk j hp=some bj→σ i=some g→σ j=some g→i=j
 lt:∀ i b,lk i hp=some b→U i
 blk:∀ i b,lk i hp=some b→(σ i=none∧NoB c.w0.heap.size w b) ∨ ∃ g,σ i=some g∧BlkOk w (z7 c w σ hp) σ hp U g b
 mine:∀ i b g,lk i hp=some b→σ i=some g→c.M0 g ∨ c.w0.heap.size≤g
 os:w.os=c.w0.os
 tape:w.tape=c.w0.tape
 output:w.output=c.w0.output
 size:c.w0.heap.size≤w.heap.size
 old:∀ b,b<c.w0.heap.size→¬ c.M0 b→w.heap[b]?=c.w0.heap[b]?
theorem Rel.there {c:Ctx} {hp:Hp} {U:Nat→Prop} {σ:Nat→Option Nat} {w:World} (hr:Rel c hp U σ w) {i k:Nat} {b:Blk} {row:List AV} (hb:lk i hp=some b) (he:b.e ≠ 0) (h:b.es[k]?=some row):∃ g,σ i=some g∧BlkOk w (z7 c w σ hp) σ hp U g b:=by
 rcases hr.blk i b hb with ⟨_,h0⟩ | h1
 ·rw [h0.none he] at h;simp at h
 ·exact h1
theorem Rel.at {c:Ctx} {hp:Hp} {U:Nat→Prop} {σ:Nat→Option Nat} {w:World} (hr:Rel c hp U σ w) {i g:Nat} {b:Blk} (hb:lk i hp=some b) (hg:σ i=some g):BlkOk w (z7 c w σ hp) σ hp U g b:=by
 rcases hr.blk i b hb with ⟨h0,_⟩ | ⟨g',h1,h2⟩
 ·rw [hg] at h0;cases h0
 ·rw [hg] at h1;injection h1 with h1;subst h1;exact h2
end Go.Am
namespace Go.Am
inductive TK where
 | none
 | scal
 | str
 | slice (e:TypeId)
 | arr (n:Nat) (e:TypeId)
 | struct (fs:List (Nat × TypeId))
 deriving Inhabited
def B7 (P:Program) (t:TypeId):TK :=
 match P.underlying t with
 | Option.none=>.none
 | some (.struct fs)=>.struct (fs.toList.map fun f=>(f.offset,f.type))
 | some (.array n e)=>.arr n e
 | some (.slice e)=>.slice e
 | some .string=>.str
 | some _=>.scal
def ah0:Value→AV
 | .int k n=>.d (.int k n)
 | .bool b=>.d (.bool b)
 | .string s=>.d (.str (s.data.toList.map fun c=>(c.toNat:Int)))
 | .slice Option.none 0 0=>.nil
 | .pointer Option.none=>.d .nilp
 | _=>.any
def ofV:Value→AV
 | .agg cs=>if cs.all Value.oneCell' then .agg (cs.toList.map ah0) else .any
 | v=>ah0 v
def tz (P:Program) (t:TypeId):List AV :=
 match (P.info? t).bind (·.zero) with
 | some v=>v.cells.toList.map ah0
 | Option.none=>[]
abbrev Fr:=List (Nat × AV)
def fv (n:Nat) (fr:Fr):AV:=(lk n fr).getD .any
def ev (fr:Fr):Operand→AV
 | .tmp t=>fv t fr
 | .const v=>ofV v
 | .func f=>.fn f []
 | .global _=>.any
def AV.cells:AV→List AV
 | .agg cs=>cs
 | v=>[v]
def ldv (P:Program) (t:TypeId) (cells:List AV):Option AV :=
 match B7 P t with
 | .none=>Option.none
 | .arr _ _ | .struct _=>if P.cellsOf t≤cells.length then some (.agg (cells.take (P.cellsOf t))) else Option.none
 | _=>cells.head?
def A0 (id:Nat) (b:Blk):Hp→Hp
 | []=>[]
 | (m,v) :: t=>if m=id then (m,b) :: t else (m,v) :: A0 id b t
section
variable {w:World} {S:Nat→Prop} {σ:Nat→Option Nat} {hp:Hp} {U:Nat→Prop}
theorem abY {d:DV} {v:Value} (h:DIs w S d v):v.oneCell'=true:=by cases h <;> rfl
theorem abZ (v:Value):AIs w S σ hp U (ah0 v) v:=by
 unfold ah0
 split
 ·exact .d (.int _ _)
 ·exact .d (.bool _)
 ·exact .d (.str _)
 ·exact .nil
 ·exact .d .nilp
 ·exact .any _
theorem apD (v:Value):AIs w S σ hp U (ofV v) v:=by
 unfold ofV
 split
 ·rename_i cs
  split
  ·rename_i h;refine .agg _ _ ab (fun i x hx=>?_) (fun i c x hc hx=>?_)
   ·simp only [Array.all_eq_true] at h;obtain ⟨hi,rfl⟩:=Array.getElem?_eq_some_iff.1 hx;exact h i hi
   ·simp only [List.getElem?_map,Array.getElem?_toList,Option.map_eq_some_iff] at hc;obtain ⟨a,ha,rfl⟩:=hc;rw [hx] at ha;injection ha with ha;subst ha;exact abZ _
  ·exact .any _
 ·exact abZ _
theorem aa2 {fr:Fr} {a:Act} (h:∀ n,AIs w S σ hp U (fv n fr) (a.tmps.getD n undef)) (x:Operand):AIs w S σ hp U (ev fr x) (a.eval x):=by
 cases x with
 | tmp t=>exact h t
 | const v=>exact apD v
 | func f=>exact .fn f [] #[] rfl ab
 | global g=>exact .any _
theorem Step.trans {w1 w2:World} {S1 S2:Nat→Prop} {σ1 σ2:Nat→Option Nat} {hp1 hp2:Hp} {U1 U2:Nat→Prop} (h:Step w S σ hp U w1 S1 σ1 hp1 U1) (k:Step w1 S1 σ1 hp1 U1 w2 S2 σ2 hp2 U2):Step w S σ hp U w2 S2 σ2 hp2 U2:=by
 refine ⟨fun b hb=>k.sub b (h.sub b hb),fun p hp=>(k.cell p (h.sub _ hp)).trans (h.cell p hp),fun i hi=>k.le i (h.le i hi),fun id b' hid hb'=>?_⟩;obtain ⟨b1,h1,e1,t1,l1,q1⟩:=k.blk id b' (h.le _ hid) hb';obtain ⟨b0,h0,e0,t0,l0,q0⟩:=h.blk id b1 hid h1;refine ⟨b0,h0,e1.trans e0,t1.trans t0,Nat.le_trans l0 l1,fun he g hg=>?_⟩;obtain ⟨s0,r0⟩:=q0 aa g hg;obtain ⟨s1,r1⟩:=q1 aa g s0;refine ⟨s1,fun n hn=>?_⟩;have:=r0 n hn;rw [← t0] at this;have:=r1 n this;rw [t0] at this;exact this
end
def I6 (U:Nat→Prop) (N:Nat) (i:Nat):Prop:=U i ∨ (N≤i∧i<N+32)
def Free (U:Nat→Prop) (N:Nat):Prop:=∀ i,N≤i→i<N+32→¬ U i
theorem Free.at {U:Nat→Prop} {N:Nat} (h:Free U N):¬ U N:=h N (Nat.le_refl _) aa
theorem Uy {U:Nat→Prop} {N:Nat}:I6 U N N:=.inr ⟨Nat.le_refl _,aa⟩
def Good (c:Ctx) (K:AV→Hp→Prop) (hp:Hp) (U:Nat→Prop) (N:Nat) (σ:Nat→Option Nat) (w:World) (x:Value) (w':World):Prop :=
 ∃ v hp' σ',K v hp'∧Rel c hp' (I6 U N) σ' w'∧Step w (z7 c w σ hp) σ hp U w' (z7 c w' σ' hp') σ' hp' (I6 U N)∧AIs w' (z7 c w' σ' hp') σ' hp' (I6 U N) v x
def OpOk (P:Program) (c:Ctx) (K:AV→Hp→Prop) (hp:Hp) (U:Nat→Prop) (N:Nat) (σ:Nat→Option Nat) (w:World):Result Next→Prop
 | .ok (.value x) w'=>Good c K hp U N σ w x w'
 | .ok .skip w'=>Good c K hp U N σ w undef w'
 | .ok (.enter f args) w'=>w'=w∧Calls P f args w fun e w'=>∃ x,e=.returned x∧Good c K hp U N σ w x w'
 | _=>False
section
variable {P:Program} {c:Ctx} {K:AV→Hp→Prop} {hp:Hp} {U:Nat→Prop} {N:Nat} {σ:Nat→Option Nat} {w:World}
theorem Step.more {S:Nat→Prop}:Step w S σ hp U w S σ hp (I6 U N):=⟨fun _ h=>h,fun _ _=>rfl,fun _ h=>.inl h,fun id b' _ h=>⟨b',h,rfl,rfl,Nat.le_refl _,fun _ g hg=>⟨hg,fun _ h=>h⟩⟩⟩
theorem Rel.more (hr:Rel c hp U σ w):Rel c hp (I6 U N) σ w:=by
 refine ⟨hr.inj,fun i b h=>.inl (hr.lt i b h),fun i b h=>?_,hr.mine,hr.os,hr.tape,hr.output,hr.size,hr.old⟩;rcases hr.blk i b h with h0 | ⟨g,hg,ccs,h1,h2,h3,h4,h5⟩
 ·exact .inl h0
 ·exact .inr ⟨g,hg,ccs,h1,h2,h3,h4,fun i j x y v a1 a2 a3=>(h5 i j x y v a1 a2 a3).step Step.more⟩
theorem Good.same (hr:Rel c hp U σ w) {v:AV} {x:Value} (hK:K v hp) (h:AIs w (z7 c w σ hp) σ hp U v x):Good c K hp U N σ w x w :=
 ⟨v,hp,σ,hK,hr.more,Step.more,h.step Step.more⟩
theorem OpOk.val {r:Result Next} {x:Value} (h:r=.ok (.value x) w) (g:Good c K hp U N σ w x w):OpOk P c K hp U N σ w r:=by
 subst h;exact g
end
def adu (c:Ctx) (hp:Hp) (U:Nat→Prop) (σ:Nat→Option Nat) (w:World):Prop:=Step c.w0 c.Sx c.σx c.hpx (fun i=>i<c.kx) w (z7 c w σ hp) σ hp U
def U8 (c:Ctx) (fr:Fr) (hp:Hp) (U:Nat→Prop) (a:Act) (w:World):Prop :=
 a.defers=[]∧a.tmps.size=c.n∧∃ σ,Rel c hp U σ w∧(∀ n,AIs w (z7 c w σ hp) σ hp U (fv n fr) (a.tmps.getD n undef))∧adu c hp U σ w
def w9 (fr:Fr) (dst:Option Tmp) (v:AV):Fr :=
 match dst with
 | some d=>(d,v) :: fr
 | none=>fr
def P8 (n:Nat):Option Tmp→Prop
 | some d=>d<n
 | none=>True
theorem Sg (d n:Nat) (v:AV) (fr:Fr):fv n ((d,v) :: fr)=if d=n then v else fv n fr:=by
 unfold fv;simp only [lk]
 split <;> simp
theorem amB {c:Ctx} {fr:Fr} {hp hp':Hp} {U U':Nat→Prop} {a:Act} {w w':World} {σ σ':Nat→Option Nat} {dst:Option Tmp} {v:AV} {x:Value}
  (hd:a.defers=[]) (hn:a.tmps.size=c.n) (hdst:P8 c.n dst)
  (hf:∀ n,AIs w (z7 c w σ hp) σ hp U (fv n fr) (a.tmps.getD n undef))
  (hh:adu c hp U σ w) (hr:Rel c hp' U' σ' w') (hs:Step w (z7 c w σ hp) σ hp U w' (z7 c w' σ' hp') σ' hp' U') (hv:AIs w' (z7 c w' σ' hp') σ' hp' U' v x) :
  U8 c (w9 fr dst v) hp' U' (a.put dst x) w':=by
 cases dst with
 | none=>exact ⟨hd,hn,σ',hr,fun n=>(hf n).step hs,hh.trans hs⟩
 | some d =>
  refine ⟨hd,by simp [Act.put,hn],σ',hr,fun n=>?_,hh.trans hs⟩;simp only [w9,Act.put,Sg];have hdn:d<a.tmps.size:=by rw [hn];exact hdst
  by_cases h:d=n
  ·subst h;simp only [if_true];have:(a.tmps.setIfInBounds d x).getD d undef=x:=by simp [Array.getD,hdn]
   rw [this];exact hv
  ·simp only [if_neg h]
   have:(a.tmps.setIfInBounds d x).getD n undef=a.tmps.getD n undef:=by
    simp only [Array.getD_eq_getD_getElem?,Array.getElem?_setIfInBounds,if_neg h]
   rw [this];exact (hf n).step hs
theorem WZ {P:Program} {c:Ctx} {fr:Fr} {hp:Hp} {U:Nat→Prop} {N:Nat} {a:Act} {w:World} {σ:Nat→Option Nat} {o:Oper} {K:AV→Hp→Prop} {next:Act→World→Prop} {Q:Exit→Act→World→Prop} {r:Result Next}
  (hd:a.defers=[]) (hn:a.tmps.size=c.n) (hdst:P8 c.n o.dst)
  (hf:∀ n,AIs w (z7 c w σ hp) σ hp U (fv n fr) (a.tmps.getD n undef)) (hh:adu c hp U σ w)
  (h:OpOk P c K hp U N σ w r)
  (hnext:∀ v hp' a' w',K v hp'→U8 c (w9 fr o.dst v) hp' (I6 U N) a' w'→next a' w') :
  o.upon P a next Q r:=by
 have key:∀ x w',Good c K hp U N σ w x w'→next (a.put o.dst x) w':=by
  rintro x w' ⟨v,hp',σ',hK,hr,hs,hv⟩;exact hnext v hp' _ w' hK (amB hd hn hdst hf hh hr hs hv)
 cases r with
 | halt e w'=>exact h.elim
 | ok n w' =>
  cases n with
  | value x=>exact key x w' h
  | skip=>exact key undef w' h
  | enter f args =>
   obtain ⟨rfl,h⟩:=h;refine h.mono fun e w' he=>?_;obtain ⟨x,rfl,hg⟩:=he;exact key x w' hg
  | _=>exact h.elim
end Go.Am
namespace Go.Am
def TF (op:BinOp) (k:IntKind) (x y:Int) (K:AV→Hp→Prop) (hp:Hp):Prop :=
 match op with
 | .add=>K (.d (.int k (k.wrap (x+y)))) hp
 | .sub=>K (.d (.int k (k.wrap (x - y)))) hp
 | .mul=>K (.d (.int k (k.wrap (x*y)))) hp
 | .quo=>y ≠ 0∧K (.d (.int k (k.wrap (x.tdiv y)))) hp
 | .rem=>y ≠ 0∧K (.d (.int k (x.tmod y))) hp
 | .and=>K (.d (.int k (bits .and k x y))) hp
 | .or=>K (.d (.int k (bits .or k x y))) hp
 | .xor=>K (.d (.int k (bits .xor k x y))) hp
 | .andNot=>K (.d (.int k (bits .andNot k x y))) hp
 | .eql=>K (.d (.bool (decide (x=y)))) hp
 | .neq=>K (.d (.bool (!decide (x=y)))) hp
 | .lss=>K (.d (.bool (decide (x<y)))) hp
 | .leq=>K (.d (.bool (decide (x≤y)))) hp
 | .gtr=>K (.d (.bool (decide (y<x)))) hp
 | .geq=>K (.d (.bool (decide (y≤x)))) hp
 | .shl=>0≤y∧K (.d (.int k (k.wrap (x*2 ^ (min y.toNat k.bits))))) hp
 | .shr=>0≤y∧K (.d (.int k (x.fdiv (2 ^ (min y.toNat k.bits))))) hp
def G1:List Int→List Int→Bool
 | _,[]=>false
 | [],_ :: _=>true
 | a :: x,b :: y=>decide (a<b) || (decide (a=b) && G1 x y)
def W0:BinOp→Bool
 | .shl=>true
 | .shr=>true
 | _=>false
def AV.nilTest:AV→Bool
 | .d (.ro _ _)=>true
 | .own ..=>true
 | .sub ..=>true
 | _=>false
def AV.slen:AV→Option Nat
 | .d (.ro _ es)=>some es.length
 | .d (.rof _ es)=>some es.length
 | .own _ _ len _=>some len
 | .sub _ _ _ _ len _ _=>some len
 | .nil=>some 0
 | _=>none
def DV.isInt:DV→Option Int
 | .int _ n=>some n
 | _=>none
def AV.int?:AV→Option (IntKind × Int)
 | .d (.int k n)=>some (k,n)
 | _=>none
def G9 (P:Program) (op:BinOp) (t:TypeId) (x y:AV) (K:AV→Hp→Prop) (hp:Hp):Prop :=
 match x,y with
 | .d (.int k a),.d (.int k' b)=>(W0 op=true ∨ k=k')∧TF op k a b K hp
 | .d (.bool a),.d (.bool b) =>
  (match op with
  | .eql=>P.underlying t=some .bool∧K (.d (.bool (a == b))) hp
  | .neq=>P.underlying t=some .bool∧K (.d (.bool (a != b))) hp
  | _=>False)
 | .d (.str a),.d (.str b) =>
  (match op with
  | .eql=>K (.d (.bool (decide (a=b)))) hp
  | .neq=>K (.d (.bool (!decide (a=b)))) hp
  | .lss=>K (.d (.bool (G1 a b))) hp
  | .leq=>K (.d (.bool (G1 a b || decide (a=b)))) hp
  | .gtr=>K (.d (.bool (!(G1 a b || decide (a=b))))) hp
  | .geq=>K (.d (.bool (!G1 a b))) hp
  | .add=>a.length+b.length≤9223372036854775807∧K (.d (.str (a ++ b))) hp
  | _=>False)
 | v,.nil =>
  (match op,v,B7 P t with
  | .eql,.nil,.slice _=>K (.d (.bool true)) hp
  | .neq,.nil,.slice _=>K (.d (.bool false)) hp
  | .eql,v,.slice _=>(match v.slen with
   | some n=>∀ b,(b=true→n=0)→K (.d (.bool b)) hp
   | none=>False)
  | .neq,v,.slice _=>(match v.slen with
   | some n=>∀ b,(b=false→n=0)→K (.d (.bool b)) hp
   | none=>False)
  | _,_,_=>False)
 | _,_=>False
def agA (P:Program) (t:TypeId):Bool :=
 match P.underlying t with
 | some (.pointer _)=>true
 | _=>false
def SU (P:Program) (t:TypeId):Option IntKind :=
 match P.underlying t with
 | some (.int k)=>some k
 | _=>none
def pnW (P:Program) (op:BinOp) (t:TypeId) (v:Bool) (K:AV→Hp→Prop) (hp:Hp):Prop :=
 agA P t=true∧(match op with
  | .eql=>K (.d (.bool v)) hp
  | .neq=>K (.d (.bool (!v))) hp
  | _=>False)
def B8 (k:IntKind):List AV→Option (List Int)
 | []=>some []
 | .d (.int k' n) :: r=>if k'=k then (B8 k r).map (n :: ·) else none
 | _ :: _=>none
def agW (P:Program) (op:BinOp) (t:TypeId) (n:Nat) (el:TypeId) (k:Option IntKind) (a b:List AV) (K:AV→Hp→Prop) (hp:Hp):Prop :=
 match k with
 | some k=>(match B8 k a,B8 k b with
  | some us,some vs=>us.length=n∧vs.length=n∧P.cellsOf el=1∧P.eqGuardType P.depth t=false∧(match op with
   | .eql=>K (.d (.bool (decide (us=vs)))) hp
   | .neq=>K (.d (.bool (!decide (us=vs)))) hp
   | _=>False)
  | _,_=>False)
 | none=>False
inductive L1 where
 | i (k:IntKind) (n:Int)
 | b (v:Bool)
 deriving DecidableEq
def L1.v:L1→Value
 | .i k n=>.int k n
 | .b v=>.bool v
def L1.k:L1→Option IntKind
 | .i k _=>some k
 | .b _=>none
instance:Inhabited L1:=⟨.b false⟩
def Zy (P:Program) (g:TypeId→Option (List (Option IntKind))):Nat→List Field→Option (List (Option IntKind))
 | _,[]=>some []
 | off, f :: r => if f.name ≠ "_" ∧ f.offset = off then (match g f.type with
  | some a=>if P.cellsOf f.type=a.length then (Zy P g (off+a.length) r).map (a ++ ·) else none
  | none=>none) else none
def J2 (P:Program):Nat→TypeId→Option (List (Option IntKind))
 | 0,_=>none
 | m+1,t=>match P.underlying t with
  | some (.int k)=>some [some k]
  | some .bool=>some [none]
  | some (.array n e)=>(match J2 P m e with
   | some a=>if P.cellsOf e=a.length then some (List.replicate n a).flatten else none
   | none=>none)
  | some (.struct fs)=>if P.stoodInHeld t=true then none else Zy P (J2 P m) 0 fs.toList
  | _=>none
def L3:List AV→Option (List L1)
 | []=>some []
 | .d (.int k n) :: r=>(L3 r).map (L1.i k n :: ·)
 | .d (.bool v) :: r=>(L3 r).map (L1.b v :: ·)
 | _ :: _=>none
def sgW (P:Program) (op:BinOp) (t:TypeId) (a b:List AV) (K:AV→Hp→Prop) (hp:Hp):Prop :=
 match L3 a,L3 b with
 | some us,some vs=>P.eqGuardType P.depth t=false∧J2 P 8 t=some (us.map L1.k)∧J2 P 8 t=some (vs.map L1.k)∧(match op with
  | .eql=>K (.d (.bool (decide (us=vs)))) hp
  | .neq=>K (.d (.bool (!decide (us=vs)))) hp
  | _=>False)
 | _,_=>False
def F4 (P:Program) (op:BinOp) (t:TypeId) (x y:AV) (K:AV→Hp→Prop) (hp:Hp):Prop :=
 match x,y with
 | .ptr _ _ _ _,.d .nilp=>pnW P op t false K hp
 | .rop _,.d .nilp=>pnW P op t false K hp
 | .d .nilp,.d .nilp=>pnW P op t true K hp
 | .agg a,.agg b=>(match B7 P t with
  | .arr n el=>agW P op t n el (SU P el) a b K hp
  | .struct _=>sgW P op t a b K hp
  | _=>False)
 | x,y=>G9 P op t x y K hp
def Tf (P:Program) (t:TypeId) (i:Nat):Option (Nat × TypeId) :=
 match B7 P t with
 | .struct fs=>fs[i]?
 | _=>none
def Uz (P:Program) (g:FuncId) (args:List AV) (hp:Hp) (N:Nat) (K:AV→Hp→Prop):Prop :=
 (∃ fn, P.funcs[g]? = some fn ∧ (fn.name == "runtime.NumGoroutine") = false ∧ fn.body.isNone = false) ∧
 ∀ (c:Ctx) (U:Nat→Prop) (σ:Nat→Option Nat) (w:World) (vs:List Value),Rel c hp U σ w→Free U N→vs.length=args.length →
  (∀ (i:Nat) (v:AV) (x:Value),args[i]?=some v→vs[i]?=some x→AIs w (z7 c w σ hp) σ hp U v x) →
  Calls P g vs.toArray w fun e w'=>∃ x,e=.returned x∧Good c K hp U N σ w x w'
def W4 (P:Program) (g:FuncId) (args:List AV) (r:AV):Prop :=
 ∀ (w:World) (S:Nat→Prop) (σ:Nat→Option Nat) (hp:Hp) (U:Nat→Prop) (vs:List Value),vs.length=args.length →
  (∀ (i:Nat) (v:AV) (x:Value),args[i]?=some v→vs[i]?=some x→AIs w S σ hp U v x)→∃ x,(callFunc g vs.toArray).run P w=.ok (.value x) w∧AIs w S σ hp U r x
def apE (P:Program) (g:FuncId) (args:List AV) (hp:Hp) (K:AV→Hp→Prop):Prop:=∃ r,W4 P g args r∧K r hp
def AV.num:AV→Option Int
 | .d (.int _ n)=>some n
 | _=>none
def bnd (fr:Fr) (dflt:Int):Option Operand→Option Int
 | none=>some dflt
 | some x=>(ev fr x).num
def afk (fr:Fr):Option Operand→Option Int
 | none=>none
 | some x=>(ev fr x).num
def AV.cellsO:AV→Option (List AV)
 | .agg cs=>some cs
 | .any=>none
 | .tup _=>none
 | v=>some [v]
def Ub (place:Nat→Option (Nat × Nat)):List AV→List (Nat × AV)→Option (List AV)
 | cells,[]=>some cells
 | cells,(i,v) :: rest =>
  match place i,v.cellsO with
  | some (off,size),some vs=>if vs.length=size∧off+size≤cells.length then Ub place (cells.take off ++ (vs ++ cells.drop (off+size))) rest else none
  | _,_=>none
def Zz (size:Nat):List (List AV)→List (Nat × AV)→Option (List (List AV))
 | rows,[]=>some rows
 | rows,(i,v) :: rest =>
  match v.cellsO with
  | some vs=>if vs.length=size∧i<rows.length then Zz size (rows.set i vs) rest else none
  | none=>none
def Sy (P:Program) (fs:List (Nat × TypeId)) (i:Nat):Option (Nat × Nat):=(fs[i]?).map fun f=>(f.1,P.cellsOf f.2)
def XX (P:Program) (k:TK) (zero:List AV) (parts:List (Nat × AV)) (K:AV→Hp→Prop) (hp:Hp):Prop :=
 match k with
 | .struct fs=>(∀ f,f ∈ fs→P.cellsOf f.2 ≠ 0)∧(match Ub (Sy P fs) zero parts with
  | some cs=>K (.agg cs) hp
  | none=>False)
 | .arr _ el=>P.cellsOf el ≠ 0∧(match Ub (fun i=>some (i*P.cellsOf el,P.cellsOf el)) zero parts with
  | some cs=>K (.agg cs) hp
  | none=>False)
 | _=>False
def P2 (P:Program) (t:TypeId):Option (List AV) :=
 match (P.info? t).bind (·.zero) with
 | some v=>if v.cells.all Value.oneCell'=true∧v.cells.size ≠ 0∧v.cells.size=P.cellsOf t then some (v.cells.toList.map ah0) else none
 | none=>none
def Vk (P:Program) (k:TK) (len:Nat) (parts:List (Nat × AV)) (N:Nat) (K:AV→Hp→Prop) (hp:Hp):Prop :=
 match k with
 | .slice el=>(match P2 P el with
  | some z=>len*P.cellsOf el≤16777216∧(match Zz (P.cellsOf el) (List.replicate len z) parts with
   | some rows=>K (.own N 0 len len) ((N,⟨el,P.cellsOf el,rows⟩) :: hp)
   | none=>False)
  | none=>False)
 | _=>False
def D9 (hp:Hp) (sz:Nat):AV→Option (List (List AV))
 | .nil=>some []
 | .d (.ro e es)=>if e=sz then some (es.map fun r=>r.map .d) else none
 | .own id i0 len tot =>
  match lk id hp with
  | some b=>if b.es.length=tot∧b.e=sz then some ((b.es.drop i0).take len) else none
  | none=>none
 | .sub id i off e len _ tot =>
  match lk id hp with
  | some b =>
   (match b.es[i]? with
   | some row=>if b.es.length=tot∧e=sz then some ((List.range len).map fun k=>(row.drop (off+k*e)).take e) else none
   | none=>none)
  | none=>none
 | _=>none
def M5 (P:Program) (el:TypeId) (s:AV) (xs:Option (List (List AV))) (N:Nat) (K:AV→Hp→Prop) (hp:Hp):Prop :=
 match s,xs with
 | .nil,some xs=>(P2 P el).isSome=true∧P.bytesOf el ≠ 0∧xs.length*P.bytesOf el≤140737488355328∧K (.own N 0 xs.length xs.length) ((N,⟨el,P.cellsOf el,xs⟩) :: hp)
 | .own id 0 len tot,some xs =>
  (match lk id hp with
  | some b=>b.es.length=tot∧b.ty=el∧b.e=P.cellsOf el∧(P2 P el).isSome=true∧P.bytesOf el ≠ 0∧(len+xs.length)*P.bytesOf el≤140737488355328 ∧
    (len+xs.length≤tot→K (.own id 0 (len+xs.length) tot) (A0 id ⟨b.ty,b.e,b.es.take len ++ (xs ++ b.es.drop (len+xs.length))⟩ hp)) ∧
    (tot<len+xs.length→K (.own id 0 (len+xs.length) (len+xs.length)) (A0 id ⟨b.ty,b.e,b.es.take len ++ xs⟩ hp))
  | none=>False)
 | .d (.rof e es),some xs=>e=P.cellsOf el∧(P2 P el).isSome=true∧P.bytesOf el ≠ 0∧(es.length+xs.length)*P.bytesOf el≤140737488355328 ∧
   ((∃ ds:List (List DV),xs=ds.map (fun r=>r.map AV.d)∧K (.d (.ro e (es ++ ds))) hp) ∨
    (xs ≠ []∧K (.own N 0 (es.length+xs.length) (es.length+xs.length)) ((N,⟨el,P.cellsOf el,es.map (fun r=>r.map AV.d) ++ xs⟩) :: hp)))
 | .sub id i off e len cap tot,some xs=>cap<len+xs.length∧(P2 P el).isSome=true∧P.bytesOf el ≠ 0∧(len+xs.length)*P.bytesOf el≤140737488355328 ∧
   (match D9 hp (P.cellsOf el) (.sub id i off e len cap tot) with
   | some rs=>K (.own N 0 (len+xs.length) (len+xs.length)) ((N,⟨el,P.cellsOf el,rs ++ xs⟩) :: hp)
   | none=>False)
 | _,_=>False
def Rp (P:Program) (k:TK) (v:AV) (lo hi:Option Int) (K:AV→Hp→Prop) (hp:Hp):Prop :=
 match v,k,lo,hi with
 | .nil,.slice el,some l,some h=>P.cellsOf el ≠ 0∧l=0∧h=0∧K .nil hp
 | .d (.ro e es),.slice el,some l,some h=>P.cellsOf el ≠ 0∧e=P.cellsOf el∧0≤l∧l≤h∧h≤es.length∧K (.d (.ro e ((es.take h.toNat).drop l.toNat))) hp
 | .own id i0 len tot,.slice el,some l,some h =>
  (match lk id hp with
  | some b=>P.cellsOf el ≠ 0∧b.e=P.cellsOf el∧0≤l∧l≤h∧h≤len∧K (.own id (i0+l.toNat) (h.toNat - l.toNat) tot) hp
  | none=>False)
 | .sub id i off e len cap tot,.slice el,some l,some h=>P.cellsOf el ≠ 0∧e=P.cellsOf el∧0≤l∧l≤h∧h≤len∧K (.sub id i (off+l.toNat*e) e (h.toNat - l.toNat) (cap - l.toNat) tot) hp
 | .ptr id i off tot,.arr n el,some l,some h =>
  (match lk id hp with
  | some b=>P.cellsOf el ≠ 0∧off+n*P.cellsOf el≤b.e∧i<tot∧0≤l∧l≤h∧h≤n∧K (.sub id i (off+l.toNat*P.cellsOf el) (P.cellsOf el) (h.toNat - l.toNat) (n - l.toNat) tot) hp
  | none=>False)
 | .rop cs,.arr n el,some l,some h=>P.cellsOf el=1∧n≤cs.length∧0≤l∧l≤h∧h≤n∧K (.d (.ro 1 (((cs.take h.toNat).drop l.toNat).map fun c=>[c]))) hp
 | .d (.str bs),.str,some l,some h=>0≤l∧l≤h∧h≤bs.length∧K (.d (.str ((bs.take h.toNat).drop l.toNat))) hp
 | _,_,_,_=>False
def AV.topLen (k:TK):AV→Int
 | .nil=>0
 | .d (.ro _ es)=>es.length
 | .own _ _ len _=>len
 | .sub _ _ _ _ len _ _=>len
 | .d (.str bs)=>bs.length
 | _=>match k with
  | .arr n _=>n
  | _=>0
def UA (P:Program) (k:TK) (v:AV) (lo hi mx:Option Int) (K:AV→Hp→Prop) (hp:Hp):Prop :=
 match v,k,lo,hi,mx with
 | .d (.ro e es),.slice el,some l,some h,some m=>P.cellsOf el ≠ 0∧e=P.cellsOf el∧0≤l∧l≤h∧h=m∧h≤es.length∧K (.d (.rof e ((es.take h.toNat).drop l.toNat))) hp
 | .nil,.slice el,some l,some h,some m=>P.cellsOf el ≠ 0∧l=0∧h=0∧m=0∧K (.d (.rof (P.cellsOf el) [])) hp
 | .own _ _ _ _,.slice el,some l,some h,some m=>P.cellsOf el ≠ 0∧l=0∧h=0∧m=0∧K (.d (.rof (P.cellsOf el) [])) hp
 | _,_,_,_,_=>False
def agB (P:Program) (k:TK) (l m:AV) (N:Nat) (K:AV→Hp→Prop) (hp:Hp):Prop :=
 match k,l,m with
 | .slice el,.d (.int _ n),.d (.int _ c)=>(match P2 P el with
  | some z=>0≤n∧n≤c∧c*P.cellsOf el≤16777216∧P.bytesOf el*c≤281474976710656∧c≤9223372036854775807∧K (.own N 0 n.toNat n.toNat) ((N,⟨el,P.cellsOf el,List.replicate n.toNat z⟩) :: hp)
  | none=>False)
 | _,_,_=>False
def agC (P:Program) (el:TypeId) (s:AV) (xs:Option (List (List AV))) (K:AV→Hp→Prop) (hp:Hp):Prop :=
 match s,xs with
 | .own id i0 len tot,some xs=>(match lk id hp with
  | some b=>b.es.length=tot∧b.e=1∧P.cellsOf el=1 ∧
    K (.d (.int .i64 (min len xs.length:Nat))) (A0 id ⟨b.ty,b.e,b.es.take i0 ++ (xs.take len ++ b.es.drop (i0+min len xs.length))⟩ hp)
  | none=>False)
 | .sub id i off e len cap tot,some xs=>(match lk id hp with
  | some b=>(match b.es[i]? with
   | some row=>b.es.length=tot∧e=1∧P.cellsOf el=1 ∧
     K (.d (.int .i64 (min len xs.length:Nat))) (A0 id ⟨b.ty,b.e,b.es.set i (row.take off ++ ((xs.take len).flatten ++ row.drop (off+(xs.take len).flatten.length)))⟩ hp)
   | none=>False)
  | none=>False)
 | _,_=>False
def ah1 (k:TK) (v:AV) (K:AV→Hp→Prop) (hp:Hp):Prop :=
 match k,v with
 | .arr n _,.d (.ro 1 es)=>0<n∧n≤es.length∧K (.rop es.flatten) hp
 | .arr n _,.sub id i off _ len _ tot=>(match lk id hp with
  | some b=>b.es.length=tot∧0<n∧n≤len∧K (.ptr id i off tot) hp
  | none=>False)
 | _,_=>False
def biW (P:Program) (fr:Fr) (hp:Hp) (N:Nat) (b:Builtin) (args:List Operand) (tys:List TypeId) (K:AV→Hp→Prop):Prop :=
 match b,args,tys with
 | .len,[x],[t] =>
  (match ev fr x,B7 P t with
  | .d (.str bs),.str=>K (.d (.int .i64 bs.length)) hp
  | _,.arr n _=>K (.d (.int .i64 n)) hp
  | v,.slice _=>(match v.slen with
   | some n=>K (.d (.int .i64 n)) hp
   | none=>False)
  | _,_=>False)
 | .append,[s,x],[ts,tx] =>
  (match B7 P ts,B7 P tx with
  | .slice el,.slice _=>M5 P el (ev fr s) (D9 hp (P.cellsOf el) (ev fr x)) N K hp
  | .slice el,.scal=>(match ev fr s,ev fr x,SU P tx with
   | .own id i0 len tot,.d (.int k n),some k'=>k=k'∧0≤n∧n≤4294967296∧P.bytesOf el*n≤281474976710656∧(match P2 P el with
    | some z=>M5 P el (.own id i0 len tot) (some (List.replicate n.toNat z)) N K hp
    | none=>False)
   | _,_,_=>False)
  | _,_=>False)
 | .copy,[s,x],[ts,tx] =>
  (match B7 P ts,B7 P tx with
  | .slice el,.slice el2=>P.cellsOf el2=1∧agC P el (ev fr s) (D9 hp (P.cellsOf el) (ev fr x)) K hp
  | _,_=>False)
 | .max,[x,y],[_,_] =>
  (match ev fr x,ev fr y with
  | .d (.int k m),.d (.int _ n)=>K (.d (.int k (if n > m then n else m))) hp
  | _,_=>False)
 | .min,[x,y],[_,_] =>
  (match ev fr x,ev fr y with
  | .d (.int k m),.d (.int _ n)=>K (.d (.int k (if n<m then n else m))) hp
  | _,_=>False)
 | _,_,_=>False
def ao5 (P:Program) (t:TypeId) (vs:List (List (IntKind × Int))):Prop :=
 ∃ k e,P.underlying t=some (.map k e)∧Go.Maps.Keyed P k∧(∀ w,(zeroValue e).run P w=.ok (.bool false) w)∧∀ u ∈ vs,∃ l,keyOf P k (Vj u)=some l
def luW (P:Program) (t:TypeId) (m x:AV) (K:AV→Hp→Prop) (hp:Hp):Prop :=
 match m,x with
 | .mp id,.agg cs=>∃ b ks u,lk id hp=some b∧b.e=0∧b.es=Wr ks∧cs=WC u∧ao5 P t (u :: ks)∧K (.d (.bool (decide (u ∈ ks)))) hp
 | _,_=>False
def muW (P:Program) (t:TypeId) (m x v:AV) (K:AV→Hp→Prop) (hp:Hp):Prop :=
 match m,x,v with
 | .mp id,.agg cs,.d (.bool true)=>∃ b ks u,lk id hp=some b∧b.e=0∧b.es=Wr ks∧cs=WC u∧ao5 P t (u :: ks)∧(∀ p,p ∈ hp→p.2.e=0→p.1=id)∧K .any (A0 id ⟨b.ty,b.e,Wr (ks ++ [u])⟩ hp)
 | _,_,_=>False
def A6 (P:Program) (fr:Fr) (hp:Hp) (N:Nat) (op:Op) (K:AV→Hp→Prop):Prop :=
 match op with
 | .move x=>K (ev fr x) hp
 | .assign x=>K (ev fr x) hp
 | .pick c a b =>
  match ev fr c with
  | .d (.bool t) =>
   (match ev fr a,ev fr b with
   | .d (.bool x),.d (.bool y)=>K (.d (.bool (if t then x else y))) hp
   | va,vb=>(t=true→K va hp)∧(t=false→K vb hp))
  | _=>False
 | .binOp op t x y _=>F4 P op t (ev fr x) (ev fr y) K hp
 | .unOp .not _ x =>
  match ev fr x with
  | .d (.bool b)=>K (.d (.bool (!b))) hp
  | _=>False
 | .unOp .neg _ x =>
  match ev fr x with
  | .d (.int k n)=>K (.d (.int k (k.wrap (0 - n)))) hp
  | _=>False
 | .unOp .xor _ x =>
  match ev fr x with
  | .d (.int k n)=>K (.d (.int k (bits .xor k (if k.signed then -1 else k.max) n))) hp
  | _=>False
 | .nilCheck x =>
  match ev fr x with
  | .ptr id i off tot=>K (.ptr id i off tot) hp
  | .rop cs=>K (.rop cs) hp
  | .fn f cs=>K (.fn f cs) hp
  | _=>False
 | .extract x i =>
  match ev fr x with
  | .tup vs=>(match vs[i]? with
   | some v=>K v hp
   | none=>False)
  | _=>False
 | .convert s t x =>
  match ev fr x with
  | .d (.ro 1 es)=>∃ bs:List Int,es=bs.map (fun b=>[.int .u8 b])∧(∀ b,b ∈ bs→0≤b∧b<256)∧(match B7 P s,B7 P t with
   | .slice el,.str=>P.underlying el=some (.int .u8)∧K (.d (.str bs)) hp
   | _,_=>False)
  | .d (.int _ n)=>(match P.underlying s,P.underlying t with
   | some _,some (.int k)=>K (.d (.int k (k.wrap n))) hp
   | _,_=>False)
  | .d (.str bs)=>(match B7 P s,B7 P t with
   | .str,.slice el=>P.underlying el=some (.int .u8)∧K (.d (.ro 1 (bs.map fun b=>[.int .u8 b]))) hp
   | _,_=>False)
  | v=>∃ bs:List Int,D9 hp 1 v=some (bs.map fun b=>[.d (.int .u8 b)])∧(∀ b,b ∈ bs→0≤b∧b<256)∧(match B7 P s,B7 P t with
   | .slice el,.str=>P.underlying el=some (.int .u8)∧K (.d (.str bs)) hp
   | _,_=>False)
 | .load t x =>
  match ev fr x with
  | .ptr id i off tot=>(match lk id hp with
   | some b=>(match b.es[i]? with
    | some row=>b.es.length=tot∧(match ldv P t (row.drop off) with
     | some v=>K v hp
     | none=>False)
    | none=>False)
   | none=>False)
  | .rop cs=>(match ldv P t (cs.map .d) with
   | some v=>K v hp
   | none=>False)
  | _=>False
 | .fieldAddr t x i =>
  match ev fr x,Tf P t i with
  | .ptr id j off tot,some (o,ft)=>P.cellsOf ft ≠ 0∧K (.ptr id j (off+o) tot) hp
  | .rop cs,some (o,ft)=>P.cellsOf ft ≠ 0∧K (.rop (cs.drop o)) hp
  | _,_=>False
 | .field t x i=>(match ev fr x,Tf P t i with
  | .agg cs,some (o,ft)=>(match ldv P ft (cs.drop o) with
   | some v=>K v hp
   | none=>False)
  | _,_=>False)
 | .indexAddr t x ix =>
  match ev fr ix with
  | .d (.int _ n) =>
   (match ev fr x,B7 P t with
   | .d (.ro e es),.slice el=>0≤n∧e=P.cellsOf el∧P.cellsOf el ≠ 0∧(match es[n.toNat]? with
    | some cs=>K (.rop cs) hp
    | none=>False)
   | .own id i0 len tot,.slice el=>0≤n∧n<len∧(match lk id hp with
    | some b=>b.es.length=tot∧b.e=P.cellsOf el∧P.cellsOf el ≠ 0∧K (.ptr id (i0+n.toNat) 0 tot) hp
    | none=>False)
   | .sub id i off e len _ tot,.slice el=>0≤n∧n<len∧(match lk id hp with
    | some b=>b.es.length=tot∧e=P.cellsOf el∧P.cellsOf el ≠ 0∧K (.ptr id i (off+n.toNat*e) tot) hp
    | none=>False)
   | .ptr id i off tot,.arr len el=>0≤n∧n<len∧P.cellsOf el ≠ 0∧K (.ptr id i (off+n.toNat*P.cellsOf el) tot) hp
   | .rop cs,.arr len el=>0≤n∧n<len∧P.cellsOf el ≠ 0∧K (.rop (cs.drop (n.toNat*P.cellsOf el))) hp
   | _,_=>False)
  | _=>False
 | .alloc t =>
  match P2 P t with
  | some cs=>K (.ptr N 0 0 1) ((N,⟨t,cs.length,[cs]⟩) :: hp)
  | none=>False
 | .build t parts =>
  match P2 P t with
  | some z=>XX P (B7 P t) z (parts.toList.map fun p=>(p.1,ev fr p.2)) K hp
  | none=>False
 | .buildSlice t len parts=>Vk P (B7 P t) len (parts.toList.map fun p=>(p.1,ev fr p.2)) N K hp
 | .slice t x lo hi (some m)=>UA P (B7 P t) (ev fr x) (bnd fr 0 lo) (afk fr hi) (ev fr m).num K hp
 | .index t x i=>(match B7 P t,ev fr x,ev fr i with
  | .arr n el,.agg cs,.d (.int _ m)=>0≤m∧m<n∧(match B7 P el with
   | .scal=>P.cellsOf el=1∧(match cs[m.toNat]? with
    | some v=>K v hp
    | none=>False)
   | .arr _ _=>P.cellsOf el ≠ 0∧(match ldv P el (cs.drop (m.toNat*P.cellsOf el)) with
    | some v=>K v hp
    | none=>False)
   | _=>False)
  | .str,.d (.str bs),.d (.int _ m)=>0≤m∧(match bs[m.toNat]? with
   | some b=>K (.d (.int .u8 b)) hp
   | none=>False)
  | _,_,_=>False)
 | .makeFunc (.func f) first caps=>first=#[]∧K (.fn f (caps.toList.map (ev fr))) hp
 | .makeSlice t l m=>agB P (B7 P t) (ev fr l) (ev fr m) N K hp
 | .sliceToArrayPointer t x=>ah1 (B7 P t) (ev fr x) K hp
 | .slice t x lo hi none=>Rp P (B7 P t) (ev fr x) (bnd fr 0 lo) (bnd fr ((ev fr x).topLen (B7 P t)) hi) K hp
 | .box t x =>
  match ev fr x with
  | .agg cs=>K (.ptr N 0 0 1) ((N,⟨t,cs.length,[cs]⟩) :: hp)
  | .any=>False
  | .tup _=>False
  | v=>K (.ptr N 0 0 1) ((N,⟨t,1,[[v]]⟩) :: hp)
 | .store t x v =>
  match ev fr x with
  | .ptr id i off tot=>(match lk id hp with
   | some b=>(match b.es[i]? with
    | some row=>b.es.length=tot∧(match ev fr v with
     | .agg cs=>cs.length=P.cellsOf t∧P.cellsOf t ≠ 0∧off+cs.length≤row.length ∧
       K .any (A0 id ⟨b.ty,b.e,b.es.set i (row.take off ++ (cs ++ row.drop (off+cs.length)))⟩ hp)
     | .any=>False
     | .tup _=>False
     | u=>P.cellsOf t=1∧off<row.length∧K .any (A0 id ⟨b.ty,b.e,b.es.set i (row.set off u)⟩ hp))
    | none=>False)
   | none=>False)
  | _=>False
 | .call cl =>
  match cl.callee with
  | .builtin b=>biW P fr hp N b cl.args.toList cl.argTypes.toList K
  | .value f =>
   (match ev fr f with
   | .fn g caps=>Uz P g (cl.args.toList.map (ev fr) ++ caps) hp N K ∨ apE P g (cl.args.toList.map (ev fr) ++ caps) hp K
   | _=>False)
  | .invoke _ _=>False
 | .makeMap _ none=>∀ g,K (.mp N) ((N,⟨g,0,Wr []⟩) :: hp)
 | .lookup t m x false=>luW P t (ev fr m) (ev fr x) K hp
 | .mapUpdate t m x v=>muW P t (ev fr m) (ev fr x) (ev fr v) K hp
 | _=>False
end Go.Am
namespace Go.Am
section
variable {P:Program} {c:Ctx} {K:AV→Hp→Prop} {hp:Hp} {U:Nat→Prop} {N:Nat} {σ:Nat→Option Nat} {w:World} {S:Nat→Prop}
theorem J5 {k:IntKind} {n:Int} {v:Value} (h:AIs w S σ hp U (.d (.int k n)) v):v=.int k n:=by
 cases h with | d h=>cases h;rfl
theorem O6 {b:Bool} {v:Value} (h:AIs w S σ hp U (.d (.bool b)) v):v=.bool b:=by
 cases h with | d h=>cases h;rfl
theorem aja (op:BinOp) (k k':IntKind) (x y:Int) (h:TF op k x y K hp) (hk:W0 op=true ∨ k=k') (t:TypeId) :
  ∃ d v,K (.d d) hp∧(binOp op t (.int k x) (.int k' y)).run P w=.ok v w∧DIs w S d v:=by
 cases op <;> simp only [TF] at h
 case shl=>exact ⟨_,_,h.2,by simp [binOp,Op.shift];intro h';omega,.int _ _⟩
 case shr=>exact ⟨_,_,h.2,by simp [binOp,Op.shift];intro h';omega,.int _ _⟩
 all_goals (obtain rfl:k=k':=by simpa [W0] using hk)
 case quo=>exact ⟨_,_,h.2,by simp [binOp,Op.intDiv,h.1],.int _ _⟩
 case rem=>exact ⟨_,_,h.2,by simp [binOp,Op.intDiv,h.1],.int _ _⟩
 case and=>exact ⟨_,_,h,by simp [binOp,intBits_and],.int _ _⟩
 case or=>exact ⟨_,_,h,by simp [binOp,intBits_or],.int _ _⟩
 case xor=>exact ⟨_,_,h,by simp [binOp,intBits_xor],.int _ _⟩
 case andNot=>exact ⟨_,_,h,by simp [binOp,intBits_andNot],.int _ _⟩
 case add=>exact ⟨_,_,h,by simp [binOp,Op.intArith],.int _ _⟩
 case sub=>exact ⟨_,_,h,by simp [binOp,Op.intArith],.int _ _⟩
 case mul=>exact ⟨_,_,h,by simp [binOp,Op.intArith],.int _ _⟩
 case eql=>exact ⟨_,_,h,by simp [binOp,Op.intCmp];rfl,.bool _⟩
 case neq=>exact ⟨_,_,h,by simp [binOp,Op.intCmp];rfl,.bool _⟩
 all_goals exact ⟨_,_,h,by simp [binOp,Op.intCmp],.bool _⟩
theorem TL (id j:Nat) (b':Blk):∀ hp:Hp,lk j (A0 id b' hp)=if j=id then (lk id hp).map (fun _=>b') else lk j hp
 | []=>by simp [A0,lk]
 | (m,v) :: t=>by
  have ih:=TL id j b' t;simp only [A0];by_cases hm:m=id
  ·subst hm;simp only [if_true,lk];by_cases hj:m=j
   ·subst hj;simp
   ·have hj':¬ j=m:=fun h=>hj h.symm;simp [hj,hj']
  ·simp only [if_neg hm,lk];by_cases hj:m=j
   ·subst hj;simp [hm]
   ·simp only [if_neg hj,ih]
theorem W5 (m j:Nat) {α:Type} (v:α) (t:List (Nat × α)):lk j ((m,v) :: t)=if m=j then some v else lk j t:=rfl
theorem P9 (w:World) (o:Obj) (i:Nat) (h:i<w.heap.size):(w.alloc o).heap[i]?=w.heap[i]?:=by
 show (w.heap.push o)[i]?=_;rw [Array.getElem?_push,if_neg (Nat.ne_of_lt h)]
theorem H4 {g:Nat} {b:Blk} (h:BlkOk w S σ hp U g b):g<w.heap.size:=by
 obtain ⟨ccs,h1,_⟩:=h;rcases Nat.lt_or_ge g w.heap.size with h | h
 ·exact h
 ·rw [Array.getElem?_eq_none h] at h1;cases h1
theorem BlkOk.step {w':World} {S':Nat→Prop} {σ':Nat→Option Nat} {hp':Hp} {U':Nat→Prop} {g:Nat} {b:Blk} (h:BlkOk w S σ hp U g b) (hs:Step w S σ hp U w' S' σ' hp' U') (hg:w'.heap[g]?=w.heap[g]?):BlkOk w' S' σ' hp' U' g b:=by
 obtain ⟨ccs,h1,h2,h3,h4,h5⟩:=h;exact ⟨ccs,hg.trans h1,h2,h3,h4,fun i j x y v a1 a2 a3=>(h5 i j x y v a1 a2 a3).step hs⟩
theorem agD (hr:Rel c hp U σ w) (hN:Free U N) (ccs:Array Value) (b:Blk)
  (h1:∀ (i:Nat) (x:Value),ccs[i]?=some x→x.oneCell'=true) (h2:∀ x,x ∈ b.es→x.length=b.e) (h3:b.es.length*b.e≤ccs.size)
  (h4:∀ (i j:Nat) (x:List AV) (y:AV) (v:Value),b.es[i]?=some x→x[j]?=some y→ccs[i*b.e+j]?=some v→AIs w (z7 c w σ hp) σ hp U y v) :
  let w':=w.alloc (.cells ccs b.ty)
  let σ':=fun i=>if i=N then some w.heap.size else σ i
  Rel c ((N,b) :: hp) (I6 U N) σ' w'∧Step w (z7 c w σ hp) σ hp U w' (z7 c w' σ' ((N,b) :: hp)) σ' ((N,b) :: hp) (I6 U N):=by
 intro w' σ'
 have hlkN:lk N hp=none:=by
  cases h:lk N hp with
  | none=>rfl
  | some b0=>exact absurd (hr.lt _ _ h) hN.at
 have hlk:∀ i b0,lk i ((N,b) :: hp)=some b0→(i=N∧b0=b) ∨ (i ≠ N∧lk i hp=some b0):=by
  intro i b0 h;rw [W5] at h
  split at h
  ·rename_i e;injection h with h;exact .inl ⟨e.symm,h.symm⟩
  ·rename_i e;exact .inr ⟨fun h'=>e h'.symm,h⟩
 have hσ:∀ i,i ≠ N→σ' i=σ i:=fun i h=>if_neg h;have hσN:σ' N=some w.heap.size:=if_pos rfl;have hsize:w'.heap.size=w.heap.size+1:=World.size_alloc w _;have hold:∀ i,i<w.heap.size→w'.heap[i]?=w.heap[i]?:=fun i h=>P9 w _ i h;have hlt:∀ i b0 g,lk i hp=some b0→σ i=some g→g<w.heap.size:=fun i b0 g h hg=>H4 (hr.at h hg)
 have hst:Step w (z7 c w σ hp) σ hp U w' (z7 c w' σ' ((N,b) :: hp)) σ' ((N,b) :: hp) (I6 U N):=by
  refine ⟨fun g hg=>⟨⟨by rw [hsize];have:=hg.1.1;omega,fun id blk g' hb hg'=>?_⟩,hg.2⟩,fun p hp'=>?_,fun _ h=>.inl h,fun id b' hid hb=>?_⟩
  ·rcases hlk id blk hb with ⟨rfl,rfl⟩ | ⟨h,hb⟩
   ·rw [hσN] at hg';injection hg' with hg';have:=hg.1.1;omega
   ·rw [hσ id h] at hg';exact hg.1.2 id blk g' hb hg'
  ·exact World.cell?_of_block (w:=w) (hold _ hp'.1.1)
  ·rcases hlk id b' hb with ⟨rfl,rfl⟩ | ⟨h,hb⟩
   ·exact absurd hid hN.at
   ·refine ⟨b',hb,rfl,rfl,Nat.le_refl _,fun _ g hg=>⟨(hσ id h).trans hg,fun n hn=>?_⟩⟩;obtain ⟨cc,h5,h6⟩:=hn;exact ⟨cc,(hold _ (hlt id b' g hb hg)).trans h5,h6⟩
 refine ⟨⟨fun i j bi bj g hi hj hgi hgj=>?_,fun i b0 h=>?_,fun i b0 h=>?_,fun i b0 g h hg=>?_,hr.os,hr.tape,hr.output,by rw [hsize];have:=hr.size;omega,fun g hg hm=>?_⟩,hst⟩
 ·rcases hlk i bi hi with ⟨e1,_⟩ | ⟨hi',hi1⟩ <;> rcases hlk j bj hj with ⟨e2,_⟩ | ⟨hj',hj1⟩
  ·rw [e1,e2]
  ·rw [e1,hσN] at hgi;injection hgi with hgi;rw [hσ j hj'] at hgj;have:=hlt j bj g hj1 hgj;omega
  ·rw [e2,hσN] at hgj;injection hgj with hgj;rw [hσ i hi'] at hgi;have:=hlt i bi g hi1 hgi;omega
  ·rw [hσ i hi'] at hgi;rw [hσ j hj'] at hgj;exact hr.inj i j bi bj g hi1 hj1 hgi hgj
 ·rcases hlk i b0 h with ⟨rfl,rfl⟩ | ⟨_,h⟩
  ·exact Uy
  ·exact .inl (hr.lt i b0 h)
 ·rcases hlk i b0 h with ⟨rfl,rfl⟩ | ⟨hi,h⟩
  ·exact .inr ⟨_,hσN,ccs,heap_alloc_new w _,h1,h2,h3,fun i j x y v a1 a2 a3=>(h4 i j x y v a1 a2 a3).step hst⟩
  ·rcases hr.blk i b0 h with ⟨k1,k2⟩ | ⟨g,k1,k2⟩
   ·exact .inl ⟨(hσ i hi).trans k1,k2.keep fun _ _ _ hm=>hold _ (Zx hm)⟩
   ·exact .inr ⟨g,(hσ i hi).trans k1,k2.step hst (hold _ (H4 k2))⟩
 ·rcases hlk i b0 h with ⟨rfl,rfl⟩ | ⟨hi,h⟩
  ·rw [hσN] at hg;injection hg with hg;subst hg;exact .inr hr.size
  ·rw [hσ i hi] at hg;exact hr.mine i b0 g h hg
 ·rw [hold g (by have:=hr.size;omega)];exact hr.old g hg hm
theorem ZA (hr:Rel c hp U σ w) {id g0:Nat} {b b':Blk} (hb:lk id hp=some b) (hg0:σ id=some g0) (he:b'.e=b.e) (ht:b'.ty=b.ty) (hl:b.es.length≤b'.es.length) (ccs ccs':Array Value) (hfit:b'.es.length*b.e≤ccs'.size) (hc:w.heap[g0]?=some (.cells ccs b.ty (0,0))) (hsz:ccs'.size=ccs.size)
  (h1:∀ (i:Nat) (x:Value),ccs'[i]?=some x→x.oneCell'=true) (h2:∀ x,x ∈ b'.es→x.length=b.e)
  (h4:∀ (i j:Nat) (x:List AV) (y:AV) (v:Value),b'.es[i]?=some x→x[j]?=some y→ccs'[i*b.e+j]?=some v→AIs w (z7 c w σ hp) σ hp U y v) :
  let w':=w.setRow g0 ccs'
  Rel c (A0 id b' hp) U σ w'∧Step w (z7 c w σ hp) σ hp U w' (z7 c w' σ (A0 id b' hp)) σ (A0 id b' hp) U:=by
 intro w'
 have hlk:∀ i b0,lk i (A0 id b' hp)=some b0→(i=id∧b0=b') ∨ (i ≠ id∧lk i hp=some b0):=by
  intro i b0 h;rw [TL] at h
  split at h
  ·rename_i e;rw [hb] at h;simp at h;exact .inl ⟨e,h.symm⟩
  ·rename_i e;exact .inr ⟨e,h⟩
 have hlk':∀ i b0,lk i (A0 id b' hp)=some b0→∃ b1,lk i hp=some b1:=by
  intro i b0 h;rcases hlk i b0 h with ⟨rfl,rfl⟩ | ⟨_,h⟩
  ·exact ⟨b,hb⟩
  ·exact ⟨b0,h⟩
 have hnew:w'.heap[g0]?=some (.cells ccs' b.ty (0,0)):=setRow_heap w g0 ccs ccs' b.ty (0,0) hc;have hsize:w'.heap.size=w.heap.size:=by simp [w',World.setRow]
 have hold:∀ g,g ≠ g0→w'.heap[g]?=w.heap[g]?:=fun g h=>setRow_other w g0 g ccs' h
 have hst:Step w (z7 c w σ hp) σ hp U w' (z7 c w' σ (A0 id b' hp)) σ (A0 id b' hp) U:=by
  refine ⟨fun g hg=>⟨⟨by rw [hsize];exact hg.1.1,fun i blk g' hb0 hg'=>?_⟩,hg.2⟩,fun p hp'=>?_,fun _ h=>h,fun i b0 hid hb0=>?_⟩
  ·obtain ⟨b1,h1⟩:=hlk' i blk hb0;exact hg.1.2 i b1 g' h1 hg'
  ·exact World.cell?_of_block (w:=w) (hold _ (hp'.1.2 id b g0 hb hg0))
  ·rcases hlk i b0 hb0 with ⟨rfl,rfl⟩ | ⟨h,hb1⟩
   ·refine ⟨b,hb,he,ht,aa,fun _ g hg=>⟨hg,fun n hn=>?_⟩⟩;rw [hg0] at hg;injection hg with hg;subst hg;obtain ⟨cc,h5,h6⟩:=hn;rw [hc] at h5;injection h5 with h5;injection h5 with h5;exact ⟨ccs',hnew,by rw [hsz,h5];exact h6⟩
   ·refine ⟨b0,hb1,rfl,rfl,Nat.le_refl _,fun _ g hg=>⟨hg,fun n hn=>?_⟩⟩;obtain ⟨cc,h5,h6⟩:=hn;exact ⟨cc,(hold _ (fun e=>h (by subst e;exact hr.inj i id b0 b g hb1 hb hg hg0))).trans h5,h6⟩
 have hok:=hr.at hb hg0;refine ⟨⟨fun i j bi bj g hi hj hgi hgj=>?_,fun i b0 h=>?_,fun i b0 h=>?_,fun i b0 g h hg=>?_,hr.os,hr.tape,hr.output,by rw [hsize];exact hr.size,fun g hg hm=>?_⟩,hst⟩
 ·obtain ⟨b1,h1⟩:=hlk' i bi hi;obtain ⟨b2,h2⟩:=hlk' j bj hj;exact hr.inj i j b1 b2 g h1 h2 hgi hgj
 ·obtain ⟨b1,h1⟩:=hlk' i b0 h;exact hr.lt i b1 h1
 ·rcases hlk i b0 h with ⟨rfl,rfl⟩ | ⟨hi,h⟩
  ·obtain ⟨cc,k1,k2,k3,k4,k5⟩:=hok;rw [hc] at k1;injection k1 with k1;injection k1 with k1;subst k1;refine .inr ⟨g0,hg0,ccs',by rw [ht];exact hnew,h1,by rw [he];exact h2,by rw [he];exact hfit,fun i j x y v a1 a2 a3=>?_⟩;rw [he] at a3;exact (h4 i j x y v a1 a2 a3).step hst
  ·rcases hr.blk i b0 h with k | ⟨g,k1,k2⟩
   ·exact .inl ⟨k.1,k.2.keep fun _ _ _ hm=>hold _ (fun e=>by subst e;rw [hc] at hm;cases hm)⟩
   ·exact .inr ⟨g,k1,k2.step hst (hold _ (fun e=>hi (by subst e;exact hr.inj i id b0 b g h hb k1 hg0)))⟩
 ·obtain ⟨b1,h1⟩:=hlk' i b0 h;exact hr.mine i b1 g h1 hg
 ·rw [hold g (fun e=>?_)]
  ·exact hr.old g hg hm
  ·subst e;rcases hr.mine id b g hb hg0 with h | h
   ·exact hm h
   ·omega
theorem ab1 (hr:Rel c hp U σ w) {id g0:Nat} {b b':Blk} (hb:lk id hp=some b) (hg0:σ id=some g0) (he:b'.e=b.e) (ht:b'.ty=b.ty) (hl:b'.es.length=b.es.length) (ccs ccs':Array Value) (hc:w.heap[g0]?=some (.cells ccs b.ty (0,0))) (hsz:ccs'.size=ccs.size)
  (h1:∀ (i:Nat) (x:Value),ccs'[i]?=some x→x.oneCell'=true) (h2:∀ x,x ∈ b'.es→x.length=b.e)
  (h4:∀ (i j:Nat) (x:List AV) (y:AV) (v:Value),b'.es[i]?=some x→x[j]?=some y→ccs'[i*b.e+j]?=some v→AIs w (z7 c w σ hp) σ hp U y v) :
  let w':=w.setRow g0 ccs'
  Rel c (A0 id b' hp) U σ w'∧Step w (z7 c w σ hp) σ hp U w' (z7 c w' σ (A0 id b' hp)) σ (A0 id b' hp) U:=by
 refine ZA hr hb hg0 he ht aa ccs ccs' ?_ hc hsz h1 h2 h4;obtain ⟨cc,k1,k2,k3,k4,k5⟩:=hr.at hb hg0;rw [hc] at k1;injection k1 with k1;injection k1 with k1;subst k1;rw [hl,hsz];exact k4
theorem ajb (hr:Rel c hp U σ w) {id:Nat} {b b':Blk} (hb:lk id hp=some b) (he:b'.e=b.e) (ht:b'.ty=b.ty) (hl:b.es.length<b'.es.length) (ccs:Array Value)
  (h1:∀ (i:Nat) (x:Value),ccs[i]?=some x→x.oneCell'=true) (h2:∀ x,x ∈ b'.es→x.length=b.e) (h3:b'.es.length*b.e≤ccs.size)
  (h4:∀ (i j:Nat) (x:List AV) (y:AV) (v:Value),b'.es[i]?=some x→x[j]?=some y→ccs[i*b.e+j]?=some v→AIs w (z7 c w σ hp) σ hp U y v) :
  let w':=w.alloc (.cells ccs b.ty)
  let σ':=fun i=>if i=id then some w.heap.size else σ i
  Rel c (A0 id b' hp) U σ' w'∧Step w (z7 c w σ hp) σ hp U w' (z7 c w' σ' (A0 id b' hp)) σ' (A0 id b' hp) U:=by
 intro w' σ'
 have hlk:∀ i b0,lk i (A0 id b' hp)=some b0→(i=id∧b0=b') ∨ (i ≠ id∧lk i hp=some b0):=by
  intro i b0 h;rw [TL] at h
  split at h
  ·rename_i e;rw [hb] at h;simp at h;exact .inl ⟨e,h.symm⟩
  ·rename_i e;exact .inr ⟨e,h⟩
 have hσ:∀ i,i ≠ id→σ' i=σ i:=fun i h=>if_neg h;have hσN:σ' id=some w.heap.size:=if_pos rfl;have hsize:w'.heap.size=w.heap.size+1:=World.size_alloc w _;have hold:∀ i,i<w.heap.size→w'.heap[i]?=w.heap[i]?:=fun i h=>P9 w _ i h;have hlt:∀ i b0 g,lk i hp=some b0→σ i=some g→g<w.heap.size:=fun i b0 g h hg=>H4 (hr.at h hg)
 have hst:Step w (z7 c w σ hp) σ hp U w' (z7 c w' σ' (A0 id b' hp)) σ' (A0 id b' hp) U:=by
  refine ⟨fun g hg=>⟨⟨by rw [hsize];have:=hg.1.1;omega,fun i blk g' hb0 hg'=>?_⟩,hg.2⟩,fun p hp'=>?_,fun _ h=>h,fun i b0 hid hb0=>?_⟩
  ·rcases hlk i blk hb0 with ⟨rfl,rfl⟩ | ⟨h,hb1⟩
   ·rw [hσN] at hg';injection hg' with hg';have:=hg.1.1;omega
   ·rw [hσ i h] at hg';exact hg.1.2 i blk g' hb1 hg'
  ·exact World.cell?_of_block (w:=w) (hold _ hp'.1.1)
  ·rcases hlk i b0 hb0 with ⟨rfl,rfl⟩ | ⟨h,hb1⟩
   ·exact ⟨b,hb,he,ht,aa,fun h=>aa⟩
   ·refine ⟨b0,hb1,rfl,rfl,Nat.le_refl _,fun _ g hg=>⟨(hσ i h).trans hg,fun n hn=>?_⟩⟩;obtain ⟨cc,h5,h6⟩:=hn;exact ⟨cc,(hold _ (hlt i b0 g hb1 hg)).trans h5,h6⟩
 refine ⟨⟨fun i j bi bj g hi hj hgi hgj=>?_,fun i b0 h=>?_,fun i b0 h=>?_,fun i b0 g h hg=>?_,hr.os,hr.tape,hr.output,by rw [hsize];have:=hr.size;omega,fun g hg hm=>?_⟩,hst⟩
 ·rcases hlk i bi hi with ⟨e1,_⟩ | ⟨hi',hi1⟩ <;> rcases hlk j bj hj with ⟨e2,_⟩ | ⟨hj',hj1⟩
  ·rw [e1,e2]
  ·rw [e1,hσN] at hgi;injection hgi with hgi;rw [hσ j hj'] at hgj;have:=hlt j bj g hj1 hgj;omega
  ·rw [e2,hσN] at hgj;injection hgj with hgj;rw [hσ i hi'] at hgi;have:=hlt i bi g hi1 hgi;omega
  ·rw [hσ i hi'] at hgi;rw [hσ j hj'] at hgj;exact hr.inj i j bi bj g hi1 hj1 hgi hgj
 ·rcases hlk i b0 h with ⟨rfl,rfl⟩ | ⟨_,h⟩
  ·exact hr.lt _ b hb
  ·exact hr.lt i b0 h
 ·rcases hlk i b0 h with ⟨rfl,rfl⟩ | ⟨hi,h⟩
  ·exact .inr ⟨_,hσN,ccs,by rw [ht];exact heap_alloc_new w _,h1,by rw [he];exact h2,by rw [he];exact h3,fun i j x y v a1 a2 a3=>(h4 i j x y v a1 a2 (by rw [he] at a3;exact a3)).step hst⟩
  ·rcases hr.blk i b0 h with ⟨k1,k2⟩ | ⟨g,k1,k2⟩
   ·exact .inl ⟨(hσ i hi).trans k1,k2.keep fun _ _ _ hm=>hold _ (Zx hm)⟩
   ·exact .inr ⟨g,(hσ i hi).trans k1,k2.step hst (hold _ (H4 k2))⟩
 ·rcases hlk i b0 h with ⟨rfl,rfl⟩ | ⟨hi,h⟩
  ·rw [hσN] at hg;injection hg with hg;subst hg;exact .inr hr.size
  ·rw [hσ i hi] at hg;exact hr.mine i b0 g h hg
 ·rw [hold g (by have:=hr.size;omega)];exact hr.old g hg hm
theorem ajc (hr:Rel c hp U σ w) (hN:Free U N) (b:Blk) (hb0:b.es=[]) :
  let σ':=fun i=>if i=N then none else σ i
  Rel c ((N,b) :: hp) (I6 U N) σ' w∧Step w (z7 c w σ hp) σ hp U w (z7 c w σ' ((N,b) :: hp)) σ' ((N,b) :: hp) (I6 U N):=by
 intro σ'
 have hlk:∀ i b0,lk i ((N,b) :: hp)=some b0→(i=N∧b0=b) ∨ (i ≠ N∧lk i hp=some b0):=by
  intro i b0 h;rw [W5] at h
  split at h
  ·rename_i e;injection h with h;exact .inl ⟨e.symm,h.symm⟩
  ·rename_i e;exact .inr ⟨fun h'=>e h'.symm,h⟩
 have hσ:∀ i,i ≠ N→σ' i=σ i:=fun i h=>if_neg h;have hσN:σ' N=none:=if_pos rfl
 have hst:Step w (z7 c w σ hp) σ hp U w (z7 c w σ' ((N,b) :: hp)) σ' ((N,b) :: hp) (I6 U N):=by
  refine ⟨fun g hg=>⟨⟨hg.1.1,fun id blk g' hb hg'=>?_⟩,hg.2⟩,fun p hp'=>rfl,fun _ h=>.inl h,fun id b' hid hb=>?_⟩
  ·rcases hlk id blk hb with ⟨rfl,rfl⟩ | ⟨h,hb⟩
   ·rw [hσN] at hg';cases hg'
   ·rw [hσ id h] at hg';exact hg.1.2 id blk g' hb hg'
  ·rcases hlk id b' hb with ⟨rfl,rfl⟩ | ⟨h,hb⟩
   ·exact absurd hid hN.at
   ·exact ⟨b',hb,rfl,rfl,Nat.le_refl _,fun _ g hg=>⟨(hσ id h).trans hg,fun n hn=>hn⟩⟩
 refine ⟨⟨fun i j bi bj g hi hj hgi hgj=>?_,fun i b0 h=>?_,fun i b0 h=>?_,fun i b0 g h hg=>?_,hr.os,hr.tape,hr.output,hr.size,hr.old⟩,hst⟩
 ·rcases hlk i bi hi with ⟨e1,_⟩ | ⟨hi',hi1⟩ <;> rcases hlk j bj hj with ⟨e2,_⟩ | ⟨hj',hj1⟩
  ·rw [e1,e2]
  ·rw [e1,hσN] at hgi;cases hgi
  ·rw [e2,hσN] at hgj;cases hgj
  ·rw [hσ i hi'] at hgi;rw [hσ j hj'] at hgj;exact hr.inj i j bi bj g hi1 hj1 hgi hgj
 ·rcases hlk i b0 h with ⟨rfl,rfl⟩ | ⟨_,h⟩
  ·exact Uy
  ·exact .inl (hr.lt i b0 h)
 ·rcases hlk i b0 h with ⟨rfl,rfl⟩ | ⟨hi,h⟩
  ·exact .inl ⟨hσN,.inl hb0⟩
  ·rcases hr.blk i b0 h with ⟨k1,k2⟩ | ⟨g,k1,k2⟩
   ·exact .inl ⟨(hσ i hi).trans k1,k2⟩
   ·exact .inr ⟨g,(hσ i hi).trans k1,k2.step hst rfl⟩
 ·rcases hlk i b0 h with ⟨rfl,rfl⟩ | ⟨hi,h⟩
  ·rw [hσN] at hg;cases hg
  ·rw [hσ i hi] at hg;exact hr.mine i b0 g h hg
theorem u7 {t:TypeId} (h:P.cellsOf t ≠ 0):(sizeOf t).run P w=.ok (P.cellsOf t) w:=by
 unfold Program.cellsOf at h ⊢
 cases hi:P.info? t with
 | none=>simp [hi] at h
 | some i=>simp [sizeOf,typeInfo,hi]
theorem L4 {t:TypeId} {d:TypeDesc} (h:P.underlying t=some d):∃ i,P.info? t=some i:=by
 unfold Program.underlying at h
 cases hi:P.info? t with
 | none=>simp [hi] at h
 | some i=>exact ⟨i,rfl⟩
theorem W6 {t:TypeId} {d:TypeDesc} (h:P.underlying t=some d):(sizeOf t).run P w=.ok (P.cellsOf t) w:=by
 obtain ⟨i,hi⟩:=L4 h;simp [sizeOf,typeInfo,hi,Program.cellsOf]
def isA:TypeDesc→Bool
 | .struct _=>true
 | .array _ _=>true
 | _=>false
theorem K8 {t:TypeId} {d:TypeDesc} (h:P.underlying t=some d):(isAgg t).run P w=.ok (isA d) w:=by
 unfold isAgg;rw [Sem.run_bind,run_underlying h w]
 cases d <;> rfl
theorem WE {t:TypeId} {fs:List (Nat × TypeId)} (h:B7 P t=.struct fs):∃ F,P.underlying t=some (.struct F)∧fs=F.toList.map fun f=>(f.offset,f.type):=by
 unfold B7 at h
 split at h <;> first | cases h | skip
 exact ⟨_,‹_›,rfl⟩
theorem RL {t e:TypeId} {n:Nat} (h:B7 P t=.arr n e):P.underlying t=some (.array n e):=by
 unfold B7 at h
 split at h <;> first | cases h | skip
 assumption
theorem y6 {t e:TypeId} (h:B7 P t=.slice e):P.underlying t=some (.slice e):=by
 unfold B7 at h
 split at h <;> first | cases h | skip
 assumption
theorem VL {t:TypeId} (h:B7 P t=.str):P.underlying t=some .string:=by
 unfold B7 at h
 split at h <;> first | cases h | skip
 assumption
theorem TM (a:Addr) (i j:Nat):(a.add i).add j=a.add (i+j):=by
 unfold Addr.add;by_cases hi:i=0 <;> by_cases hj:j=0 <;> simp [hi,hj,Nat.add_assoc]
theorem P3 (g o i:Nat):(⟨g,o,none⟩:Addr).add i=⟨g,o+i,none⟩:=by
 unfold Addr.add;split <;> simp_all
theorem RN {t:TypeId} {v:AV} {ad:Addr} {cells:List AV} {vs:Nat→Value} (hl:ldv P t cells=some v)
  (hv:∀ (j:Nat) (y:AV),cells[j]?=some y→w.cell? (ad.add j)=some (vs j)) (h1:∀ (j:Nat) (y:AV),cells[j]?=some y→(vs j).oneCell'=true)
  (hd:∀ (j:Nat) (y:AV),cells[j]?=some y→AIs w S σ hp U y (vs j)) :
  ∃ x,(loadVar t ad).run P w=.ok x w∧AIs w S σ hp U v x:=by
 have agg:∀ d,P.underlying t=some d→isA d=true→P.cellsOf t≤cells.length→v=.agg (cells.take (P.cellsOf t)) →
   ∃ x,(loadVar t ad).run P w=.ok x w∧AIs w S σ hp U v x:=by
  intro d hu hd' hle hv';subst hv';have hget:∀ j,j<P.cellsOf t→∃ y,cells[j]?=some y:=fun j hj=>⟨cells[j]'aa,List.getElem?_eq_getElem aa⟩;have hrun:=run_loadCells (P:=P) w ad (P.cellsOf t) vs (fun j hj=>by obtain ⟨y,hy⟩:=hget j hj;exact hv j y hy);refine ⟨.agg ((List.range (P.cellsOf t)).map vs).toArray,?_,?_⟩
  ·unfold loadVar;rw [Sem.run_bind,K8 hu,hd'];simp [W6 hu,hrun]
  ·refine .agg _ _ (by simp;omega) (fun i x hx=>?_) (fun i c' x hc hx=>?_)
   ·simp only [List.getElem?_toArray,List.getElem?_map,Option.map_eq_some_iff] at hx;obtain ⟨k,hk,rfl⟩:=hx;have hk':=List.getElem?_eq_some_iff.1 hk;obtain ⟨hlt,he⟩:=hk';simp at hlt he;subst he;obtain ⟨y,hy⟩:=hget i hlt;exact h1 i y hy
   ·simp only [List.getElem?_toArray,List.getElem?_map,Option.map_eq_some_iff] at hx;obtain ⟨k,hk,rfl⟩:=hx;obtain ⟨hlt,he⟩:=List.getElem?_eq_some_iff.1 hk;simp at hlt he;subst he;rw [List.getElem?_take,if_pos hlt] at hc;exact hd i c' hc
 have scal:∀ d,P.underlying t=some d→isA d=false→cells.head?=some v →
   ∃ x,(loadVar t ad).run P w=.ok x w∧AIs w S σ hp U v x:=by
  intro d hu hd' hh;have h0:cells[0]?=some v:=by rw [← List.head?_eq_getElem?];exact hh
  have hc:=hv 0 v h0;have had:ad.add 0=ad:=rfl;rw [had] at hc;refine ⟨vs 0,?_,hd 0 v h0⟩;unfold loadVar;rw [Sem.run_bind,K8 hu,hd'];simp [hc]
 unfold ldv at hl
 cases hu:P.underlying t with
 | none=>simp [B7,hu] at hl
 | some d =>
  cases d with
  | struct F =>
   simp only [B7,hu] at hl
   split at hl
   ·injection hl with hl;exact agg _ hu rfl ‹_› hl.symm
   ·cases hl
  | array n e =>
   simp only [B7,hu] at hl
   split at hl
   ·injection hl with hl;exact agg _ hu rfl ‹_› hl.symm
   ·cases hl
  | _=>simp only [B7,hu] at hl;exact scal _ hu rfl hl
theorem VM (hr:Rel c hp U σ w) {id i off tot:Nat} {b:Blk} {row:List AV} {x:Value} (h:AIs w S σ hp U (.ptr id i off tot) x) (hb:lk id hp=some b) (hrow:b.es[i]?=some row) (ht:b.es.length=tot) :
  ∃ g ccs,σ id=some g∧x=.pointer (some ⟨g,i*b.e+off,none⟩)∧w.heap[g]?=some (.cells ccs b.ty (0,0))∧(∀ (i:Nat) (x:Value),ccs[i]?=some x→x.oneCell'=true)∧row.length=b.e∧i*b.e+b.e≤ccs.size ∧
   ∀ (j:Nat) (y:AV),row[j]?=some y→∃ v,ccs[i*b.e+j]?=some v∧AIs w (z7 c w σ hp) σ hp U y v:=by
 have hi:i<b.es.length:=(List.getElem?_eq_some_iff.1 hrow).1
 cases h with
 | ptr id i off tot a hN h =>
  obtain ⟨_,h6⟩:=h b hb;obtain ⟨g,hg,rfl⟩:=h6 ht;obtain ⟨ccs,h1,h2,h3,h4,h5⟩:=hr.at hb hg
  have hle:i*b.e+b.e≤ccs.size:=by
   have:(i+1)*b.e≤b.es.length*b.e:=Nat.mul_le_mul_right _ aa;rw [Nat.add_mul,Nat.one_mul] at this;omega
  have hrl:row.length=b.e:=h3 row (List.mem_of_getElem? hrow);refine ⟨g,ccs,hg,rfl,h1,h2,hrl,hle,fun j y hy=>?_⟩;have hj:j<row.length:=(List.getElem?_eq_some_iff.1 hy).1;have hlt:i*b.e+j<ccs.size:=aa;exact ⟨ccs[i*b.e+j],Array.getElem?_eq_getElem hlt,h5 i j row y _ hrow hy (Array.getElem?_eq_getElem hlt)⟩
end
end Go.Am
namespace Go.Am
def afl (P:Program) (t:TypeId) (l:List L1):Value :=
 match P.underlying t with
 | some d=>if isA d=true then .agg (l.map L1.v).toArray else (l.map L1.v).headD default
 | none=>default
section
variable {P:Program} {w:World}
theorem aa3 {m:Nat} {t:TypeId} {ks:List (Option IntKind)} (h:J2 P m t=some ks):∃ d,P.underlying t=some d∧(isA d=false→ks.length=1):=by
 cases m with
 | zero=>simp [J2] at h
 | succ m =>
  simp only [J2] at h
  cases hu:P.underlying t with
  | none=>rw [hu] at h;cases h
  | some d =>
   refine ⟨d,rfl,fun hd=>?_⟩;rw [hu] at h
   cases d <;> simp [isA] at hd <;> simp at h
   ·subst h;rfl
   ·subst h;rfl
theorem VN {m:Nat} {e:TypeId} {a:List (Option IntKind)} (hk:J2 P m e=some a) (hc:P.cellsOf e=a.length) (l:List L1) (off:Nat) (h:off+a.length≤l.length) :
  (part e (l.map L1.v).toArray off).run P w=.ok (afl P e ((l.drop off).take a.length)) w:=by
 obtain ⟨d,hu,h1⟩:=aa3 hk;obtain ⟨i,hi⟩:=L4 hu;unfold part afl;rw [hu];simp only [Sem.run_bind,K8 hu,Result.andThen_ok]
 cases hd:isA d with
 | true =>
  simp only [if_true,Sem.run_bind,run_sizeOf w hi,Result.andThen_ok,Sem.run_pure,hc];congr 2;apply Array.ext';simp [List.map_take,List.map_drop]
 | false =>
  have h2:=h1 hd;rw [h2] at h ⊢;have h3:l[off]?=some l[off]:=List.getElem?_eq_getElem aa;have h4:(l.map L1.v).toArray[off]?=some (l[off]).v:=by simp [h3]
  simp only [h4,Bool.false_eq_true,if_false,Sem.run_pure];rw [List.drop_eq_getElem_cons (by omega:off<l.length)];rfl
def ajd (P:Program) (m:Nat) (t:TypeId) (ks:List (Option IntKind)):Prop :=
 ∀ (w:World) (d:Nat) (lx ly:List L1),lx.map L1.k=ks→ly.map L1.k=ks→(Op.equalIn (d+m) t (afl P t lx) (afl P t ly)).run P w=.ok (decide (lx=ly)) w
theorem amC {α β:Type} {f:α→β} {l:List α} {a b c:List β} (h:l.map f=a ++ b ++ c):((l.drop a.length).take b.length).map f=b:=by
 rw [List.map_take,List.map_drop,h,List.append_assoc,List.drop_left,List.take_left]
theorem aa4 {m:Nat} {e:TypeId} {a:List (Option IntKind)} (hk:J2 P m e=some a) (hc:P.cellsOf e=a.length) (ih:ajd P m e a) (d N:Nat) (lx ly:List L1) (hx:lx.map L1.k=(List.replicate N a).flatten) (hy:ly.map L1.k=(List.replicate N a).flatten) :
  ∀ (n i:Nat),i+n≤N→(Op.eqItems (d+m) e (P.cellsOf e) (lx.map L1.v).toArray (ly.map L1.v).toArray (List.range' i n)).run P w=.ok (decide ((lx.drop (i*a.length)).take (n*a.length)=(ly.drop (i*a.length)).take (n*a.length))) w
 | 0,i,_=>by simp [Op.eqItems]
 | n+1,i,h=>by
  have ihn:=aa4 hk hc ih d N lx ly hx hy n (i+1) aa;have hlx:lx.length=N*a.length:=by have:=congrArg List.length hx;simpa using this
  have hly:ly.length=N*a.length:=by have:=congrArg List.length hy;simpa using this
  have hb:i*a.length+a.length≤N*a.length:=by
   have:(i+1)*a.length≤N*a.length:=Nat.mul_le_mul_right _ aa;rw [Nat.add_mul,Nat.one_mul] at this;exact this
  have p1:=VN (P:=P) (w:=w) hk hc lx (i*a.length) aa;have p2:=VN (P:=P) (w:=w) hk hc ly (i*a.length) aa
  have cut:∀ {l:List L1},l.map L1.k=(List.replicate N a).flatten→((l.drop (i*a.length)).take a.length).map L1.k=a:=by
   intro l hl
   have e:(List.replicate N a).flatten=(List.replicate i a).flatten ++ a ++ (List.replicate (N - i - 1) a).flatten:=by
    rw [show N=i+(1+(N - i - 1)) by omega,← List.replicate_append_replicate,← List.replicate_append_replicate,List.flatten_append,List.flatten_append];simp
   rw [e] at hl;have:=amC hl
   simpa using this
  rw [List.range'_succ];simp only [Op.eqItems,Sem.run_bind,hc,p1,p2,Result.andThen_ok,ih w d _ _ (cut hx) (cut hy)];rw [hc] at ihn
  have sp:∀ l:List L1,(l.drop (i*a.length)).take ((n+1)*a.length)=(l.drop (i*a.length)).take a.length ++ (l.drop ((i+1)*a.length)).take (n*a.length):=by
   intro l;rw [Nat.add_mul,Nat.one_mul,Nat.add_comm (n*a.length),List.take_add,List.drop_drop,Nat.add_mul,Nat.one_mul]
  rw [sp lx,sp ly]
  have hl1:((lx.drop (i*a.length)).take a.length).length=((ly.drop (i*a.length)).take a.length).length:=by
   simp only [List.length_take,List.length_drop];omega
  by_cases he:(lx.drop (i*a.length)).take a.length=(ly.drop (i*a.length)).take a.length
  ·rw [he];simp [ihn]
  ·have hne:¬ ((lx.drop (i*a.length)).take a.length ++ (lx.drop ((i+1)*a.length)).take (n*a.length)=(ly.drop (i*a.length)).take a.length ++ (ly.drop ((i+1)*a.length)).take (n*a.length)):=fun h=>he (List.append_inj_left h hl1);simp [he,hne]
theorem ZB {m:Nat} (ih:∀ e a,J2 P m e=some a→ajd P m e a) (d:Nat) (lx ly:List L1):∀ (fs:List Field) (off:Nat) (ks:List (Option IntKind)),Zy P (J2 P m) off fs=some ks→(lx.drop off).map L1.k=ks→(ly.drop off).map L1.k=ks→off≤lx.length→off≤ly.length →
  (Op.eqFields (d+m) (lx.map L1.v).toArray (ly.map L1.v).toArray fs).run P w=.ok (decide (lx.drop off=ly.drop off)) w
 | [],off,ks,hk,hx,hy,_,_=>by
  simp only [Zy,Option.some.injEq] at hk;subst hk;simp at hx hy;have e1:lx.drop off=[]:=List.drop_eq_nil_of_le hx;have e2:ly.drop off=[]:=List.drop_eq_nil_of_le hy;simp [Op.eqFields,e1,e2]
 | f :: r,off,ks,hk,hx,hy,ho1,ho2=>by
  simp only [Zy] at hk
  split at hk
  ·rename_i hn
   split at hk
   ·rename_i a ha
    split at hk
    ·rename_i hc;simp only [Option.map_eq_some_iff] at hk;obtain ⟨ks',hk',rfl⟩:=hk;have hl1:(lx.drop off).length=a.length+ks'.length:=by have:=congrArg List.length hx;simpa using this
     have hl2:(ly.drop off).length=a.length+ks'.length:=by have:=congrArg List.length hy;simpa using this
     rw [List.length_drop] at hl1 hl2;have p1:=VN (P:=P) (w:=w) ha hc lx off aa;have p2:=VN (P:=P) (w:=w) ha hc ly off aa;have c1:((lx.drop off).take a.length).map L1.k=a:=by rw [List.map_take,hx,List.take_left]
     have c2:((ly.drop off).take a.length).map L1.k=a:=by rw [List.map_take,hy,List.take_left]
     have d1:(lx.drop (off+a.length)).map L1.k=ks':=by rw [← List.drop_drop,List.map_drop,hx,List.drop_left]
     have d2:(ly.drop (off+a.length)).map L1.k=ks':=by rw [← List.drop_drop,List.map_drop,hy,List.drop_left]
     have ihr:=ZB ih d lx ly r (off+a.length) ks' hk' d1 d2 aa aa;have hoff:f.offset=off:=hn.2;simp only [Op.eqFields,hn.1,ne_eq,not_false_eq_true,if_true,Sem.run_bind,hoff,p1,p2,Result.andThen_ok,ih f.type a ha w d _ _ c1 c2]
     have sp:∀ l:List L1,l.drop off=(l.drop off).take a.length ++ l.drop (off+a.length):=by
      intro l;rw [← List.drop_drop,List.take_append_drop]
     have hd:decide (lx.drop off=ly.drop off)=decide ((lx.drop off).take a.length ++ lx.drop (off+a.length)=(ly.drop off).take a.length ++ ly.drop (off+a.length)):=by rw [← sp lx,← sp ly]
     rw [hd];have hll:((lx.drop off).take a.length).length=((ly.drop off).take a.length).length:=by simp only [List.length_take,List.length_drop];omega
     generalize (lx.drop off).take a.length=A1 at *;generalize (ly.drop off).take a.length=A2 at *;by_cases he:A1=A2
     ·simp [he,ihr]
     ·have hne:¬ (A1 ++ lx.drop (off+a.length)=A2 ++ ly.drop (off+a.length)):=fun h=>he (List.append_inj_left h hll);simp [he,hne]
    ·cases hk
   ·cases hk
  ·cases hk
theorem afm:∀ (m:Nat) (t:TypeId) (ks:List (Option IntKind)),J2 P m t=some ks→ajd P m t ks
 | 0,t,ks,h=>by simp [J2] at h
 | m+1,t,ks,h=>by
  intro w d lx ly hx hy;simp only [J2] at h
  cases hu:P.underlying t with
  | none=>rw [hu] at h;cases h
  | some td =>
   rw [hu] at h;unfold afl;rw [hu]
   cases td with
   | int k =>
    simp only [Option.some.injEq] at h;subst h
    match lx,ly,hx,hy with
    | [.i k1 a],[.i k2 b],hx,hy =>
     simp [L1.k] at hx hy;subst hx;subst hy;show (Op.equalIn (d+m+1) t (.int _ a) (.int _ b)).run P w=_;rw [run_equalIn_int w (d+m) t _ _ a b hu];congr 1;by_cases e:a=b <;> simp [e]
   | bool =>
    simp only [Option.some.injEq] at h;subst h
    match lx,ly,hx,hy with
    | [.b a],[.b b],hx,hy =>
     show (Op.equalIn (d+m+1) t (.bool a) (.bool b)).run P w=_;rw [run_equalIn_bool w (d+m) t a b hu];congr 1
     cases a <;> cases b <;> rfl
   | array n e =>
    simp only at h
    split at h
    ·rename_i a ha
     split at h
     ·rename_i hc;simp only [Option.some.injEq] at h;subst h;obtain ⟨i,hi⟩:=(aa3 ha).elim fun d h=>L4 h.1;have h1:=run_equalIn_array (P:=P) w (d+m) (lx.map L1.v).toArray (ly.map L1.v).toArray hu hi;have h2:=aa4 (w:=w) ha hc (afm m e a ha) d n lx ly hx hy n 0 aa;rw [List.range_eq_range',h2] at h1;simp only [Nat.zero_mul,List.drop_zero] at h1;have l1:lx.length=n*a.length:=by have:=congrArg List.length hx;simpa using this
      have l2:ly.length=n*a.length:=by have:=congrArg List.length hy;simpa using this
      rw [List.take_of_length_le aa,List.take_of_length_le aa] at h1;exact h1
     ·cases h
    ·cases h
   | struct fs =>
    simp only at h
    split at h
    ·cases h
    ·rename_i hs;have hfs:P.fieldsOf t=fs:=by simp [Program.fieldsOf,hu]
     have h1:=run_equalIn_struct (P:=P) w (d+m) t (lx.map L1.v).toArray (ly.map L1.v).toArray (by rw [hfs];exact hu) (by simpa using hs);have h2:=ZB (w:=w) (afm m) d lx ly fs.toList 0 ks h (by simpa using hx) (by simpa using hy) aa aa;rw [hfs] at h1;simp only [List.drop_zero] at h2;exact h1.trans h2
   | _=>simp at h
end
end Go.Am
namespace Go.Am
section
variable {P:Program} {c:Ctx} {K:AV→Hp→Prop} {fr:Fr} {hp:Hp} {U:Nat→Prop} {N:Nat} {σ:Nat→Option Nat} {w:World} {a:Act} {o:Oper}
theorem aje (hr:Rel c hp U σ w) (E:∀ x,AIs w (z7 c w σ hp) σ hp U (ev fr x) (a.eval x)) {x:Operand} (hop:o.op=.move x ∨ o.op=.assign x) (hK:K (ev fr x) hp) :
  OpOk P c K hp U N σ w ((execOp a.eval o).run P w):=by
 rcases hop with hop | hop <;> exact OpOk.val (by simp [execOp,hop]) (Good.same hr hK (E x))
theorem apG (hr:Rel c hp U σ w) (E:∀ x,AIs w (z7 c w σ hp) σ hp U (ev fr x) (a.eval x)) {x y z:Operand} (hop:o.op=.pick x y z) (h:A6 P fr hp N (.pick x y z) K) :
  OpOk P c K hp U N σ w ((execOp a.eval o).run P w):=by
 simp only [A6] at h
 split at h
 ·rename_i t ht;have h1:=O6 (ht ▸ E x)
  have hrun:(execOp a.eval o).run P w=.ok (.value (if t then a.eval y else a.eval z)) w:=by
   simp [execOp,hop,h1,asBool]
  split at h
  ·rename_i p q hy hz;have hy':=O6 (hy ▸ E y);have hz':=O6 (hz ▸ E z);refine OpOk.val hrun (Good.same hr h ?_);rw [hy',hz']
   cases t <;> exact .d (.bool _)
  ·refine OpOk.val hrun ?_
   cases t
   ·exact Good.same hr (h.2 rfl) (E z)
   ·exact Good.same hr (h.1 rfl) (E y)
 ·exact h.elim
theorem ajf {bs:List Int} {v:Value} {S:Nat→Prop} (h:AIs w S σ hp U (.d (.str bs)) v):∃ s:ByteArray,v=.string s∧bs=s.data.toList.map fun c=>(c.toNat:Int):=by
 cases h with | d h=>cases h;exact ⟨_,rfl,rfl⟩
theorem VO {x y:ByteArray}:(x.toList == y.toList)=decide ((x.data.toList.map fun c=>(c.toNat:Int))=y.data.toList.map fun c=>(c.toNat:Int)):=by
 rw [ByteArray.toList_eq,ByteArray.toList_eq];rw [Bool.eq_iff_iff];simp only [beq_iff_eq,decide_eq_true_eq];constructor
 ·intro h;rw [h]
 ·intro h;have inj:∀ a b:UInt8,((a.toNat:Int)=(b.toNat:Int))→a=b:=fun a b h=>UInt8.toNat_inj.1 aa;exact (List.map_inj_right inj).1 h
theorem YX (d:Nat) {t e:TypeId} (hu:P.underlying t=some (.slice e)) (A:Option Addr) (n k:Nat):(Op.equalIn (d+1) t (.slice A n k) (.slice none 0 0)).run P w=.ok A.isNone w:=by
 rw [Op.equalIn,Sem.run_bind,run_underlying hu]
 cases A <;> rfl
theorem aaN {op:BinOp} {t e:TypeId} (hu:P.underlying t=some (.slice e)) (A:Option Addr) (n k:Nat) (hop:op=.eql ∨ op=.neq) :
  (binOp op t (.slice A n k) (.slice none 0 0)).run P w=.ok (.bool (if op=.eql then A.isNone else !A.isNone)) w:=by
 have he:(Op.equal t (.slice A n k) (.slice none 0 0)).run P w=.ok A.isNone w:=YX 9999 hu A n k;rcases hop with rfl | rfl
 ·simp only [binOp,Sem.run_bind,he,Result.andThen_ok,Sem.run_pure,if_true]
 ·simp only [binOp,Sem.run_bind,he,Result.andThen_ok,Sem.run_pure];rfl
theorem agE {v:AV} {x:Value} {n:Nat} {S:Nat→Prop} (h:AIs w S σ hp U v x) (hv:v.slen=some n):∃ A k,x=.slice A n k∧(A=none→n=0):=by
 cases h <;> simp [AV.slen] at hv
 case d h =>
  rename_i d
  cases h <;> simp at hv
  case ro e es A c vs hc he hA hv1 hd =>
   subst hv;refine ⟨A,c,rfl,fun hA0=>?_⟩;rcases es with _ | ⟨y,es⟩
   ·rfl
   ·obtain ⟨ad,h1,_⟩:=hA y ab;rw [hA0] at h1
    cases h1
  case rof e es A vs he hA hv1 hd =>
   subst hv;refine ⟨A,_,rfl,fun hA0=>?_⟩;rcases es with _ | ⟨y,es⟩
   ·rfl
   ·obtain ⟨ad,h1,_⟩:=hA y ab;rw [hA0] at h1
    cases h1
 case own A cap hN hl h0 h=>subst hv;exact ⟨A,cap,rfl,h0⟩
 case sub A hN hl h0 h=>subst hv;exact ⟨A,_,rfl,h0⟩
 case nil=>subst hv;exact ⟨none,0,rfl,fun _=>rfl⟩
theorem run_equalIn_bool (d:Nat) {t:TypeId} (hu:P.underlying t=some .bool) (p q:Bool):(Op.equalIn (d+1) t (.bool p) (.bool q)).run P w=.ok (p == q) w:=by
 rw [Op.equalIn,Sem.run_bind,run_underlying hu];rfl
theorem Vl {op:BinOp} {t:TypeId} (hu:P.underlying t=some .bool) (p q:Bool) (hop:op=.eql ∨ op=.neq) :
  (binOp op t (.bool p) (.bool q)).run P w=.ok (.bool (if op=.eql then p == q else p != q)) w:=by
 have he:(Op.equal t (.bool p) (.bool q)).run P w=.ok (p == q) w:=run_equalIn_bool 9999 hu p q;rcases hop with rfl | rfl
 ·simp only [binOp,Sem.run_bind,he,Result.andThen_ok,Sem.run_pure,if_true]
 ·simp only [binOp,Sem.run_bind,he,Result.andThen_ok,Sem.run_pure];rfl
theorem ZC:∀ (x y:List UInt8),Op.bytesLess x y=G1 (x.map fun c=>(c.toNat:Int)) (y.map fun c=>(c.toNat:Int))
 | _,[]=>by simp [Op.bytesLess,G1]
 | [],_ :: _=>by simp [Op.bytesLess,G1]
 | a :: x,b :: y=>by
  have h1:(a == b)=decide ((a.toNat:Int)=(b.toNat:Int)):=by
   by_cases h:a=b
   ·subst h;simp
   ·have:¬ ((a.toNat:Int)=(b.toNat:Int)):=fun e=>h (UInt8.toNat_inj.1 aa);simp [h,this]
  have h2:decide (a<b)=decide ((a.toNat:Int)<(b.toNat:Int)):=by
   congr 1;rw [UInt8.lt_iff_toNat_lt];exact propext aa
  simp only [Op.bytesLess,List.map_cons,G1,ZC x y,h1,h2]
theorem Si (x y:ByteArray):Op.bytesLess x.toList y.toList=G1 (x.data.toList.map fun c=>(c.toNat:Int)) (y.data.toList.map fun c=>(c.toNat:Int)):=by
 rw [ZC,ByteArray.toList_eq,ByteArray.toList_eq]
theorem apH (hr:Rel c hp U σ w) (E:∀ x,AIs w (z7 c w σ hp) σ hp U (ev fr x) (a.eval x)) {op:BinOp} {t t':TypeId} {x y:Operand} (hop:o.op=.binOp op t x y t') (h:G9 P op t (ev fr x) (ev fr y) K hp) :
  OpOk P c K hp U N σ w ((execOp a.eval o).run P w):=by
 simp only [G9] at h
 split at h
 ·rename_i k p k' q hx hy;have h1:=J5 (hx ▸ E x);have h2:=J5 (hy ▸ E y)
  have guard:∀ v w',(binOp op t (.int k p) (.int k' q)).run P w=.ok v w'→(execOp a.eval o).run P w=.ok (.value v) w':=by
   intro v w' hv
   have hg:(eqGuard op t x y (.int k p) (.int k' q)).run P w=.ok () w:=by
    unfold eqGuard
    cases op <;> rfl
   simp only [execOp,hop,h1,h2,Sem.run_bind,hg,hv,Result.andThen_ok,Sem.run_pure]
  obtain ⟨hk,h⟩:=h;obtain ⟨d,v,hK,hv,hd⟩:=aja (P:=P) (w:=w) (S:=z7 c w σ hp) op k k' p q h hk t;exact OpOk.val (guard v w hv) (Good.same hr hK (.d hd))
 ·rename_i p q hx hy;have h1:=O6 (hx ▸ E x);have h2:=O6 (hy ▸ E y)
  have hg:(eqGuard op t x y (.bool p) (.bool q)).run P w=.ok () w:=by
   unfold eqGuard
   cases op <;> rfl
  split at h
  ·obtain ⟨hu,h⟩:=h;refine OpOk.val (x:=.bool (p == q)) ?_ (Good.same hr h (.d (.bool _)));simp only [execOp,hop,h1,h2,Sem.run_bind,hg,Vl hu p q (.inl rfl),Result.andThen_ok,Sem.run_pure,if_true]
  ·obtain ⟨hu,h⟩:=h;refine OpOk.val (x:=.bool (p != q)) ?_ (Good.same hr h (.d (.bool _)));simp only [execOp,hop,h1,h2,Sem.run_bind,hg,Vl hu p q (.inr rfl),Result.andThen_ok,Sem.run_pure];rfl
  ·exact h.elim
 ·rename_i p q hx hy;obtain ⟨s1,h1,e1⟩:=ajf (hx ▸ E x);obtain ⟨s2,h2,e2⟩:=ajf (hy ▸ E y)
  have hg:(eqGuard op t x y (.string s1) (.string s2)).run P w=.ok () w:=by
   unfold eqGuard
   cases op <;> rfl
  split at h
  ·refine OpOk.val (x:=.bool (decide (p=q))) ?_ (Good.same hr h (.d (.bool _)));simp only [execOp,hop,h1,h2,Sem.run_bind,hg,binOp,Op.stringOp,Result.andThen_ok,Sem.run_pure,VO,e1,e2]
  ·refine OpOk.val (x:=.bool (!decide (p=q))) ?_ (Good.same hr h (.d (.bool _)));simp only [execOp,hop,h1,h2,Sem.run_bind,hg,binOp,Op.stringOp,Result.andThen_ok,Sem.run_pure,VO,e1,e2]
  ·refine OpOk.val (x:=.bool (G1 p q)) ?_ (Good.same hr h (.d (.bool _)));simp only [execOp,hop,h1,h2,Sem.run_bind,hg,binOp,Op.stringOp,Result.andThen_ok,Sem.run_pure,Si,e1,e2]
  ·refine OpOk.val (x:=.bool (G1 p q || decide (p=q))) ?_ (Good.same hr h (.d (.bool _)));simp only [execOp,hop,h1,h2,Sem.run_bind,hg,binOp,Op.stringOp,Result.andThen_ok,Sem.run_pure,VO,Si,e1,e2]
  ·refine OpOk.val (x:=.bool (!(G1 p q || decide (p=q)))) ?_ (Good.same hr h (.d (.bool _)));simp only [execOp,hop,h1,h2,Sem.run_bind,hg,binOp,Op.stringOp,Result.andThen_ok,Sem.run_pure,VO,Si,e1,e2]
  ·refine OpOk.val (x:=.bool (!G1 p q)) ?_ (Good.same hr h (.d (.bool _)));simp only [execOp,hop,h1,h2,Sem.run_bind,hg,binOp,Op.stringOp,Result.andThen_ok,Sem.run_pure,Si,e1,e2]
  ·obtain ⟨hl,h⟩:=h
   have hsz:¬ (((s1.size+s2.size:Nat):Int) > IntKind.i64.max):=by
    have a1:s1.size=p.length:=by rw [e1,List.length_map];rfl
    have a2:s2.size=q.length:=by rw [e2,List.length_map];rfl
    have:IntKind.i64.max=9223372036854775807:=by decide
    rw [this,a1,a2];omega
   refine OpOk.val (x:=.string (s1 ++ s2)) ?_ (Good.same hr h ?_)
   ·simp only [execOp,hop,h1,h2,Sem.run_bind,hg,binOp,Op.stringOp,if_neg hsz,Result.andThen_ok,Sem.run_pure]
   ·have:p ++ q=((s1 ++ s2).data.toList.map fun c=>(c.toNat:Int)):=by
     rw [e1,e2,← List.map_append];congr 1
    rw [this];exact .d (.str _)
  ·exact h.elim
 ·rename_i hy;have hy':=E y;rw [hy] at hy';generalize hvy:a.eval y=vy at hy'
  cases hy' with
  | nil =>
   have hx':=E x;generalize hvx:a.eval x=vx at hx'
   have go:∀ A n k e,vx=.slice A n k→P.underlying t=some (.slice e)→(op=.eql ∨ op=.neq)→(execOp a.eval o).run P w=.ok (.value (.bool (if op=.eql then A.isNone else !A.isNone))) w:=by
    intro A n k e hv hu hopp
    have hg:(eqGuard op t x y (.slice A n k) (.slice none 0 0)).run P w=.ok () w:=by
     unfold eqGuard
     cases op <;> rfl
    simp only [execOp,hop,hvx,hvy,hv,Sem.run_bind,hg,aaN hu A n k hopp,Result.andThen_ok,Sem.run_pure]
   split at h
   ·rename_i e hxx ht;rw [hxx] at hx'
    cases hx' with
    | nil=>exact OpOk.val (go none 0 0 _ rfl (y6 ht) (.inl rfl)) (Good.same hr h (.d (.bool _)))
   ·rename_i e hxx ht;rw [hxx] at hx'
    cases hx' with
    | nil=>exact OpOk.val (go none 0 0 _ rfl (y6 ht) (.inr rfl)) (Good.same hr h (.d (.bool _)))
   ·split at h
    ·rename_i n hn;obtain ⟨A,k,rfl,hA⟩:=agE hx' hn;refine OpOk.val (go A n k _ rfl (y6 ‹B7 P t=.slice _›) (.inl rfl)) (Good.same hr (h A.isNone fun hb=>hA (by simpa using hb)) (.d (.bool _)))
    ·exact h.elim
   ·split at h
    ·rename_i n hn;obtain ⟨A,k,rfl,hA⟩:=agE hx' hn;refine OpOk.val (go A n k _ rfl (y6 ‹B7 P t=.slice _›) (.inr rfl)) (Good.same hr (h (!A.isNone) fun hb=>hA (by simpa using hb)) (.d (.bool _)))
    ·exact h.elim
   ·exact h.elim
 ·exact h.elim
theorem au5 (hr:Rel c hp U σ w) (E:∀ x,AIs w (z7 c w σ hp) σ hp U (ev fr x) (a.eval x)) {op:UnOp} {t:TypeId} {x:Operand} (hop:o.op=.unOp op t x) (h:A6 P fr hp N (.unOp op t x) K) :
  OpOk P c K hp U N σ w ((execOp a.eval o).run P w):=by
 cases op
 case neg =>
  simp only [A6] at h
  split at h
  ·rename_i k n hx;refine OpOk.val ?_ (Good.same hr h (.d (.int _ _)));simp [execOp,hop,J5 (hx ▸ E x),Op.unary,Op.intArith]
  ·exact h.elim
 case not =>
  simp only [A6] at h
  split at h
  ·rename_i b hx;refine OpOk.val ?_ (Good.same hr h (.d (.bool _)));simp [execOp,hop,O6 (hx ▸ E x),Op.unary]
  ·exact h.elim
 case xor =>
  simp only [A6] at h
  split at h
  ·rename_i k n hx;refine OpOk.val ?_ (Good.same hr h (.d (.int _ _)));simp [execOp,hop,J5 (hx ▸ E x),Op.unary,intBits_xor]
  ·exact h.elim
 case plus=>exact h.elim
theorem afn (hr:Rel c hp U σ w) (E:∀ x,AIs w (z7 c w σ hp) σ hp U (ev fr x) (a.eval x)) {x:Operand} (hop:o.op=.nilCheck x) (h:A6 P fr hp N (.nilCheck x) K) :
  OpOk P c K hp U N σ w ((execOp a.eval o).run P w):=by
 simp only [A6] at h
 split at h
 ·rename_i id i off tot hx;have hx':=E x;rw [hx] at hx';generalize hv:a.eval x=v at hx';have hx2:=hx'
  cases hx' with
  | ptr _ _ _ _ ad hN h' =>
   exact OpOk.val (by simp [execOp,hop,hv]) (Good.same hr h hx2)
 ·rename_i cs hx;have hx':=E x;rw [hx] at hx';generalize hv:a.eval x=v at hx';have hx2:=hx'
  cases hx' with
  | rop _ ad vs hS h1 h2 =>
   exact OpOk.val (by simp [execOp,hop,hv]) (Good.same hr h hx2)
 ·rename_i f cs hx;have hx':=E x;rw [hx] at hx';generalize hv:a.eval x=v at hx';have hx2:=hx'
  cases hx' with
  | fn _ _ xs hl h1 =>
   exact OpOk.val (by simp [execOp,hop,hv]) (Good.same hr h hx2)
 ·exact h.elim
theorem ah2 (hr:Rel c hp U σ w) (E:∀ x,AIs w (z7 c w σ hp) σ hp U (ev fr x) (a.eval x)) {x:Operand} {i:Nat} (hop:o.op=.extract x i) (h:A6 P fr hp N (.extract x i) K) :
  OpOk P c K hp U N σ w ((execOp a.eval o).run P w):=by
 simp only [A6] at h
 split at h
 ·rename_i vs hx;have hx':=E x;rw [hx] at hx';generalize hv:a.eval x=v at hx'
  split at h
  ·rename_i u hu
   cases hx' with
   | tup _ xs hl h1 =>
    have hi:i<vs.length:=(List.getElem?_eq_some_iff.1 hu).1;have hxi:xs[i]?=some (xs[i]'aa):=Array.getElem?_eq_getElem aa;refine OpOk.val (x:=xs[i]'aa) ?_ (Good.same hr h (h1 i u _ hu hxi));simp only [execOp,hop,hv,Instr.extract,hxi,Sem.run_bind,Sem.run_pure,Result.andThen_ok]
  ·exact h.elim
 ·exact h.elim
theorem aa5 (ns:List Int) (h:∀ b,b ∈ ns→0≤b∧b<256):∀ s:ByteArray,((ns.foldl (fun r n=>r.push (UInt8.ofNat n.toNat)) s).data.toList.map fun c=>(c.toNat:Int))=(s.data.toList.map fun c=>(c.toNat:Int)) ++ ns:=by
 induction ns with
 | nil=>intro s;simp
 | cons n r ih =>
  intro s;simp only [List.foldl_cons];rw [ih (fun b hb=>h b (List.mem_cons_of_mem _ hb))];obtain ⟨h1,h2⟩:=h n (List.mem_cons_self ..)
  have e:(s.push (UInt8.ofNat n.toNat)).data.toList=s.data.toList ++ [UInt8.ofNat n.toNat]:=by
   show (s.data.push _).toList=_;simp
  have e2:((UInt8.ofNat n.toNat).toNat:Int)=n:=by
   rw [UInt8.toNat_ofNat'];omega
  rw [e,List.map_append,List.append_assoc,List.map_cons,e2];rfl
theorem aa6 {el:TypeId} {k:IntKind} (hz:P.cellsOf el=1) (hu:P.underlying el=some (.int k)) (us vs:List Int) (xs ys:Array Value) (d:Nat) (hx:∀ (i:Nat) (m:Int),us[i]?=some m→xs[i]?=some (.int k m)) (hy:∀ (i:Nat) (m:Int),vs[i]?=some m→ys[i]?=some (.int k m)) :
  ∀ (n i:Nat),i+n≤us.length→i+n≤vs.length→(Op.eqItems (d+1) el (P.cellsOf el) xs ys (List.range' i n)).run P w=.ok (decide ((us.drop i).take n=(vs.drop i).take n)) w
 | 0,i,_,_=>by simp [Op.eqItems]
 | n+1,i,h1,h2=>by
  have ih:=aa6 hz hu us vs xs ys d hx hy n (i+1) aa aa;have a1:us[i]?=some us[i]:=List.getElem?_eq_getElem aa;have a2:vs[i]?=some vs[i]:=List.getElem?_eq_getElem aa
  have p1:(part el xs (i*P.cellsOf el)).run P w=.ok (.int k us[i]) w:=by
   simp [part,K8 hu,isA,hz,hx i _ a1]
  have p2:(part el ys (i*P.cellsOf el)).run P w=.ok (.int k vs[i]) w:=by
   simp [part,K8 hu,isA,hz,hy i _ a2]
  have e1:us.drop i=us[i] :: us.drop (i+1):=List.drop_eq_getElem_cons aa;have e2:vs.drop i=vs[i] :: vs.drop (i+1):=List.drop_eq_getElem_cons aa;rw [List.range'_succ];simp only [Op.eqItems,Sem.run_bind,p1,p2,Result.andThen_ok,run_equalIn_int w d el k k us[i] vs[i] hu];rw [e1,e2];simp only [List.take_succ_cons,List.cons.injEq];by_cases he:us[i]=vs[i]
  ·simp [he,ih]
  ·simp [he]
theorem ab2 {k:IntKind}:∀ {cs:List AV} {us:List Int},B8 k cs=some us→cs.length=us.length∧∀ (i:Nat) (m:Int),us[i]?=some m→cs[i]?=some (.d (.int k m))
 | [],us,h=>by simp [B8] at h;subst h;simp
 | a :: r,us,h=>by
  match a,h with
  | .d (.int k' n),h =>
   simp only [B8] at h
   split at h
   ·rename_i hk;subst hk
    cases hr:B8 k' r with
    | none=>rw [hr] at h;simp at h
    | some vs =>
     rw [hr] at h;simp only [Option.map_some,Option.some.injEq] at h;subst h;obtain ⟨h1,h2⟩:=ab2 hr;refine ⟨by simp [h1],fun i m hi=>?_⟩
     cases i with
     | zero=>simp at hi;subst hi;rfl
     | succ i=>simpa using h2 i m (by simpa using hi)
   ·cases h
  | .any,h=>simp [B8] at h
  | .agg _,h=>simp [B8] at h
  | .tup _,h=>simp [B8] at h
  | .own ..,h=>simp [B8] at h
  | .sub ..,h=>simp [B8] at h
  | .ptr ..,h=>simp [B8] at h
  | .rop _,h=>simp [B8] at h
  | .fn ..,h=>simp [B8] at h
  | .nil,h=>simp [B8] at h
  | .d (.bool _),h=>simp [B8] at h
  | .d (.str _),h=>simp [B8] at h
  | .d (.ro ..),h=>simp [B8] at h
  | .d (.rof ..),h=>simp [B8] at h
  | .d (.box _),h=>simp [B8] at h
  | .d .nilp,h=>simp [B8] at h
theorem agF {t:TypeId} (h:agA P t=true):P.underlying t=some (.pointer (P.pointee t)):=by
 unfold agA at h;unfold Program.pointee
 cases hu:P.underlying t with
 | none=>simp [hu] at h
 | some d=>cases d <;> simp [hu] at h ⊢
theorem agG {w:World} {S:Nat→Prop} {σ:Nat→Option Nat} {hp:Hp} {U:Nat→Prop}:∀ {cs:List AV} {us:List L1} {xs:Array Value},L3 cs=some us→cs.length=xs.size→(∀ (i:Nat) (c:AV) (x:Value),cs[i]?=some c→xs[i]?=some x→AIs w S σ hp U c x)→xs=(us.map L1.v).toArray:=by
 have go:∀ (cs:List AV) (us:List L1) (xs:List Value),L3 cs=some us→cs.length=xs.length→(∀ (i:Nat) (c:AV) (x:Value),cs[i]?=some c→xs[i]?=some x→AIs w S σ hp U c x)→xs=us.map L1.v:=by
  intro cs
  induction cs with
  | nil =>
   intro us xs h hl _;simp only [L3,Option.some.injEq] at h;subst h
   simpa using hl.symm
  | cons c r ih =>
   intro us xs h hl hA
   match xs,hl with
   | x :: xr,hl =>
    have hx:=hA 0 c x rfl rfl;have hr:=fun (i:Nat) (c:AV) (x:Value) (h1:r[i]?=some c) (h2:xr[i]?=some x)=>hA (i+1) c x (by simpa using h1) (by simpa using h2);have hl':r.length=xr.length:=by simpa using hl
    unfold L3 at h
    split at h
    ·cases ‹_ :: _=[]›
    ·rename_i k n r' e;injection e with e1 e2;subst e1;subst e2;simp only [Option.map_eq_some_iff] at h;obtain ⟨us',h,rfl⟩:=h;rw [ih us' xr h hl' hr,J5 hx];rfl
    ·rename_i v r' e;injection e with e1 e2;subst e1;subst e2;simp only [Option.map_eq_some_iff] at h;obtain ⟨us',h,rfl⟩:=h;rw [ih us' xr h hl' hr,O6 hx];rfl
    ·cases h
 intro cs us xs h hl hA;have:=go cs us xs.toList h (by simpa using hl) (fun i c x h1 h2=>hA i c x h1 (by simpa using h2));rw [← this]
theorem asf (hr:Rel c hp U σ w) (E:∀ x,AIs w (z7 c w σ hp) σ hp U (ev fr x) (a.eval x)) {op:BinOp} {t t':TypeId} {x y:Operand} (hop:o.op=.binOp op t x y t') (h:A6 P fr hp N (.binOp op t x y t') K) :
  OpOk P c K hp U N σ w ((execOp a.eval o).run P w):=by
 simp only [A6] at h;unfold F4 at h
 have ptr:∀ (p:Option Addr),a.eval x=.pointer p→a.eval y=.pointer none→pnW P op t p.isNone K hp→OpOk P c K hp U N σ w ((execOp a.eval o).run P w):=by
  intro p h1 h2 h;obtain ⟨hu,h⟩:=h
  have hg:(eqGuard op t x y (.pointer p) (.pointer none)).run P w=.ok () w:=by
   unfold eqGuard
   cases op <;> rfl
  split at h
  ·refine OpOk.val (x:=.bool p.isNone) ?_ (Good.same hr h (.d (.bool _)));simp only [execOp,hop,h1,h2,Sem.run_bind,hg,run_eql_pointer_nil w t p (agF hu),Result.andThen_ok,Sem.run_pure]
  ·refine OpOk.val (x:=.bool (!p.isNone)) ?_ (Good.same hr h (.d (.bool _)));simp only [execOp,hop,h1,h2,Sem.run_bind,hg,run_neq_pointer_nil w t p (agF hu),Result.andThen_ok,Sem.run_pure]
  ·exact h.elim
 have nilp:∀ {z:Operand},ev fr z=.d .nilp→a.eval z=.pointer none:=by
  intro z hz;have:=E z;rw [hz] at this;generalize a.eval z=v at this
  cases this with
  | d h=>cases h;rfl
 split at h
 ·rename_i hx hy;have hx':=E x;rw [hx] at hx';generalize hv:a.eval x=v at hx'
  cases hx' with
  | ptr _ _ _ _ ad _ _=>exact ptr (some ad) hv (nilp hy) h
 ·rename_i hx hy;have hx':=E x;rw [hx] at hx';generalize hv:a.eval x=v at hx'
  cases hx' with
  | rop _ ad _ _ _ _=>exact ptr (some ad) hv (nilp hy) h
 ·rename_i hx hy;exact ptr none (nilp hx) (nilp hy) h
 ·rename_i as bs hx hy
  split at h
  ·rename_i n el ht;unfold agW at h
   split at h
   ·rename_i k hk
    split at h
    ·rename_i us vs hus hvs;obtain ⟨hl1,hl2,hz,hg,h⟩:=h;have hx':=E x;have hy':=E y;rw [hx] at hx';rw [hy] at hy';generalize hvx:a.eval x=vx at hx';generalize hvy:a.eval y=vy at hy'
     cases hx' with
     | agg _ xs hxl hx1 hxs =>
      cases hy' with
      | agg _ ys hyl hy1 hys =>
       have hu:P.underlying el=some (.int k):=by
        unfold SU at hk
        split at hk
        ·rename_i k' hu;injection hk with hk;rw [hu,hk]
        ·cases hk
       obtain ⟨i,hi⟩:=L4 hu;obtain ⟨q1,q2⟩:=ab2 hus;obtain ⟨q3,q4⟩:=ab2 hvs
       have val:∀ {cs:List AV} {zs:Array Value} {ws:List Int},cs.length=zs.size→(∀ (i:Nat) (c0:AV) (x:Value),cs[i]?=some c0→zs[i]?=some x→AIs w (z7 c w σ hp) σ hp U c0 x)→(∀ (i:Nat) (m:Int),ws[i]?=some m→cs[i]?=some (.d (.int k m)))→∀ (i:Nat) (m:Int),ws[i]?=some m→zs[i]?=some (.int k m):=by
        intro cs zs ws hl hA hw i m hi;have h1:=hw i m hi;have h2:i<zs.size:=by rw [← hl];exact (List.getElem?_eq_some_iff.1 h1).1
        have h3:=hA i _ zs[i] h1 (Array.getElem?_eq_getElem h2);rw [Array.getElem?_eq_getElem h2,J5 h3]
       have heq:(Op.equal t (.agg xs) (.agg ys)).run P w=.ok (decide (us=vs)) w:=by
        have h1:=run_equalIn_array w 9999 xs ys (RL ht) hi;have h2:=aa6 (P:=P) (w:=w) hz hu us vs xs ys 9998 (val hxl hxs q2) (val hyl hys q4) n 0 aa aa;rw [List.range_eq_range',h2] at h1;simp only [List.drop_zero] at h1;rw [List.take_of_length_le aa,List.take_of_length_le aa] at h1;exact h1
       have hgd:(op=.eql ∨ op=.neq)→(eqGuard op t x y (.agg xs) (.agg ys)).run P w=.ok () w:=by
        rintro (rfl | rfl) <;> simp [eqGuard,hg]
       split at h
       ·refine OpOk.val (x:=.bool (decide (us=vs))) ?_ (Good.same hr h (.d (.bool _)));simp only [execOp,hop,hvx,hvy,Sem.run_bind,hgd (.inl rfl),Result.andThen_ok,binOp,heq,Sem.run_pure]
       ·refine OpOk.val (x:=.bool (!decide (us=vs))) ?_ (Good.same hr h (.d (.bool _)));simp only [execOp,hop,hvx,hvy,Sem.run_bind,hgd (.inr rfl),Result.andThen_ok,binOp,heq,Sem.run_pure]
       ·exact h.elim
    ·exact h.elim
   ·exact h.elim
  ·rename_i fs0 ht;unfold sgW at h
   split at h
   ·rename_i us vs hus hvs;obtain ⟨hg,hk1,hk2,h⟩:=h;have hx':=E x;have hy':=E y;rw [hx] at hx';rw [hy] at hy';generalize hvx:a.eval x=vx at hx';generalize hvy:a.eval y=vy at hy'
    cases hx' with
    | agg _ xs hxl hx1 hxs =>
     cases hy' with
     | agg _ ys hyl hy1 hys =>
      obtain ⟨F,hu,_⟩:=WE ht;have ex:=agG hus hxl hxs;have ey:=agG hvs hyl hys;have hv:∀ l:List L1,afl P t l=.agg (l.map L1.v).toArray:=fun l=>by unfold afl;rw [hu];rfl
      have heq:(Op.equal t (.agg xs) (.agg ys)).run P w=.ok (decide (us=vs)) w:=by
       have:=afm 8 t _ hk1 w 9992 us vs rfl (by rw [hk1] at hk2;injection hk2 with hk2;exact hk2.symm);rw [hv,hv,← ex,← ey] at this;exact this
      have hgd:(op=.eql ∨ op=.neq)→(eqGuard op t x y (.agg xs) (.agg ys)).run P w=.ok () w:=by
       rintro (rfl | rfl) <;> simp [eqGuard,hg]
      split at h
      ·refine OpOk.val (x:=.bool (decide (us=vs))) ?_ (Good.same hr h (.d (.bool _)));simp only [execOp,hop,hvx,hvy,Sem.run_bind,hgd (.inl rfl),Result.andThen_ok,binOp,heq,Sem.run_pure]
      ·refine OpOk.val (x:=.bool (!decide (us=vs))) ?_ (Good.same hr h (.d (.bool _)));simp only [execOp,hop,hvx,hvy,Sem.run_bind,hgd (.inr rfl),Result.andThen_ok,binOp,heq,Sem.run_pure]
      ·exact h.elim
   ·exact h.elim
  ·exact h.elim
 ·exact apH hr E hop h
theorem ah3 (hr:Rel c hp U σ w) (E:∀ x,AIs w (z7 c w σ hp) σ hp U (ev fr x) (a.eval x)) {s t:TypeId} {x:Operand} (hop:o.op=.convert s t x) (hstr:∀ bs el,ev fr x=.d (.str bs)→B7 P s=.str→B7 P t=.slice el→P.underlying el=some (.int .u8)→K (.d (.ro 1 (bs.map fun b=>[.int .u8 b]))) hp→OpOk P c K hp U N σ w ((execOp a.eval o).run P w)) (hown:∀ bs el,D9 hp 1 (ev fr x)=some (bs.map fun b=>[.d (.int .u8 b)])→(∀ b,b ∈ bs→0≤b∧b<256)→B7 P s=.slice el→B7 P t=.str→P.underlying el=some (.int .u8)→K (.d (.str bs)) hp→OpOk P c K hp U N σ w ((execOp a.eval o).run P w)) (h:A6 P fr hp N (.convert s t x) K) :
  OpOk P c K hp U N σ w ((execOp a.eval o).run P w):=by
 simp only [A6] at h
 split at h
 ·rename_i es hx;obtain ⟨bs,rfl,hb,h⟩:=h
  split at h
  ·rename_i el hs ht;obtain ⟨hel,h⟩:=h;have hx':=E x;rw [hx] at hx';generalize hv:a.eval x=v at hx'
   cases hx' with
   | d hx' =>
    cases hx' with
    | ro _ _ A cap vs hc he hA hv1 hd =>
     have hlen:(bs.map fun b=>[DV.int .u8 b]).length=bs.length:=by simp
     have hrun:∃ s:ByteArray,(Conv.bytesToString (.slice A (bs.map fun b=>[DV.int .u8 b]).length cap)).run P w=.ok (.string s) w∧(s.data.toList.map fun c=>(c.toNat:Int))=bs:=by
      rcases bs with _ | ⟨b0,bs'⟩
      ·cases A with
       | none=>exact ⟨.empty,by simp [Conv.bytesToString],rfl⟩
       | some ad =>
        refine ⟨.empty,?_,rfl⟩;exact run_bytesToString (P:=P) w ad 0 cap [] (by simp [loadCells,loadCellsFrom])
      ·obtain ⟨ad,rfl,_⟩:=hA [.int .u8 b0] ab
       have hcell:=run_loadCells_list (P:=P) w ad ((b0 :: bs').map (Value.int .u8)) (fun j u hj=>by
        simp only [List.getElem?_map,Option.map_eq_some_iff] at hj;obtain ⟨b,hb',rfl⟩:=hj;have h1:((b0 :: bs').map fun b=>[DV.int .u8 b])[j]?=some [.int .u8 b]:=by rw [List.getElem?_map,hb'];rfl
        have h2:=hv1 ad rfl j 0 _ _ h1 rfl;have h3:=hd j 0 _ _ h1 rfl;rw [Nat.mul_one,Nat.add_zero] at h2;rw [h2];generalize vs j 0=u at h3
        cases h3
        rfl)
       rw [List.length_map] at hcell;have:=run_bytesToString (P:=P) w ad (b0 :: bs').length cap (b0 :: bs') hcell;refine ⟨_,by rw [hlen];exact this,?_⟩;rw [aa5 _ hb];rfl
     obtain ⟨s',h1,h2⟩:=hrun;refine OpOk.val (x:=.string s') ?_ (Good.same hr h (by rw [← h2];exact .d (.str s')));have hconv:=run_convert_bytes_string (P:=P) w s t el A (bs.map fun b=>[DV.int .u8 b]).length cap (y6 hs) hel (VL ht);simp only [execOp,hop,hv,Sem.run_bind,hconv,h1,Result.andThen_ok,Sem.run_pure]
  ·exact h.elim
 ·rename_i k n hx
  split at h
  ·rename_i ds k' hs ht;refine OpOk.val ?_ (Good.same hr h (.d (.int _ _)))
   have:(convert s t (.int k n)).run P w=.ok (.int k' (k'.wrap n)) w:=by
    simp [convert,run_underlying hs,run_underlying ht,Conv.intToInt]
   simp [execOp,hop,J5 (hx ▸ E x),this]
  ·exact h.elim
 ·rename_i bs hx
  split at h
  ·rename_i el hs ht;exact hstr bs el hx hs ht h.1 h.2
  ·exact h.elim
 ·obtain ⟨bs,h1,h2,h3⟩:=h
  split at h3
  ·rename_i el hs ht;exact hown bs el h1 h2 hs ht h3.1 h3.2
  ·exact h3.elim
theorem apI (hr:Rel c hp U σ w) (E:∀ x,AIs w (z7 c w σ hp) σ hp U (ev fr x) (a.eval x)) {t:TypeId} {x:Operand} (hop:o.op=.load t x) (h:A6 P fr hp N (.load t x) K) :
  OpOk P c K hp U N σ w ((execOp a.eval o).run P w):=by
 simp only [A6] at h
 split at h
 ·rename_i id i off tot hx;have hx':=E x;rw [hx] at hx'
  split at h
  ·rename_i b hb
   split at h
   ·rename_i row hrow;obtain ⟨ht,h⟩:=h
    split at h
    ·rename_i v hv;obtain ⟨g,ccs,hg,hxv,hheap,hone,hrl,hle,hcell⟩:=VM hr hx' hb hrow ht
     have hat:∀ (j:Nat) (y:AV),(row.drop off)[j]?=some y→∃ u,ccs[i*b.e+off+j]?=some u∧AIs w (z7 c w σ hp) σ hp U y u:=by
      intro j y hy;rw [List.getElem?_drop] at hy;obtain ⟨u,h1,h2⟩:=hcell _ y hy;exact ⟨u,by rw [Nat.add_assoc];exact h1,h2⟩
     obtain ⟨u,hu1,hu2⟩:=RN (P:=P) (w:=w) (S:=z7 c w σ hp) (σ:=σ) (hp:=hp) (U:=U) (ad:=⟨g,i*b.e+off,none⟩) (vs:=fun j=>ccs.getD (i*b.e+off+j) undef) hv
      (fun j y hy=>by
       obtain ⟨u,h1,h2⟩:=hat j y hy;rw [P3,cell_of_row w _ _ ccs _ _ hheap,h1]
       simp [Array.getD_eq_getD_getElem?,h1])
      (fun j y hy=>by
       obtain ⟨u,h1,h2⟩:=hat j y hy;simp only [Array.getD_eq_getD_getElem?,h1,Option.getD_some]
       exact hone _ u h1)
      (fun j y hy=>by
       obtain ⟨u,h1,h2⟩:=hat j y hy;simp only [Array.getD_eq_getD_getElem?,h1,Option.getD_some]
       exact h2)
     refine OpOk.val (x:=u) ?_ (Good.same hr h hu2);simp [execOp,hop,hxv,Instr.loadAt,Instr.sureAddr,hu1]
    ·exact h.elim
   ·exact h.elim
  ·exact h.elim
 ·rename_i cs hx;have hx':=E x;rw [hx] at hx';generalize hv':a.eval x=xv at hx'
  split at h
  ·rename_i v hv
   cases hx' with
   | rop _ ad vs hS h1 h2 =>
    have hat:∀ (j:Nat) (y:AV),(cs.map AV.d)[j]?=some y→∃ d,y=.d d∧cs[j]?=some d:=by
     intro j y hy;rw [List.getElem?_map,Option.map_eq_some_iff] at hy;obtain ⟨d,h3,h4⟩:=hy;exact ⟨d,h4.symm,h3⟩
    obtain ⟨u,hu1,hu2⟩:=RN (P:=P) (w:=w) (S:=z7 c w σ hp) (σ:=σ) (hp:=hp) (U:=U) (ad:=ad) (vs:=vs) hv
     (fun j y hy=>by obtain ⟨d,rfl,h3⟩:=hat j y hy;exact h1 j d h3)
     (fun j y hy=>by obtain ⟨d,rfl,h3⟩:=hat j y hy;exact abY (h2 j d h3))
     (fun j y hy=>by obtain ⟨d,rfl,h3⟩:=hat j y hy;exact .d (h2 j d h3))
    refine OpOk.val (x:=u) ?_ (Good.same hr h hu2);simp [execOp,hop,hv',Instr.loadAt,Instr.sureAddr,hu1]
  ·exact h.elim
 ·exact h.elim
theorem YB {t:TypeId} {i o:Nat} {ft:TypeId} (h:Tf P t i=some (o,ft)):∃ F f,P.underlying t=some (.struct F)∧F[i]?=some f∧f.offset=o∧f.type=ft:=by
 unfold Tf at h
 split at h
 ·rename_i fs hfs;obtain ⟨F,hu,rfl⟩:=WE hfs;simp only [List.getElem?_map,Array.getElem?_toList,Option.map_eq_some_iff] at h;obtain ⟨f,hf,he⟩:=h;injection he with h1 h2;exact ⟨F,f,hu,hf,h1,h2⟩
 ·cases h
theorem adv (hr:Rel c hp U σ w) (E:∀ x,AIs w (z7 c w σ hp) σ hp U (ev fr x) (a.eval x)) {t:TypeId} {x:Operand} {i:Nat} (hop:o.op=.fieldAddr t x i) (h:A6 P fr hp N (.fieldAddr t x i) K) :
  OpOk P c K hp U N σ w ((execOp a.eval o).run P w):=by
 simp only [A6] at h
 have run:∀ off ft ad,Tf P t i=some (off,ft)→P.cellsOf ft ≠ 0→a.eval x=.pointer (some ad)→(execOp a.eval o).run P w=.ok (.value (.pointer (some (ad.add off)))) w:=by
  intro off ft ad hf hz hx;obtain ⟨F,f,hu,hF,rfl,rfl⟩:=YB hf;simp [execOp,hop,hx,Instr.fieldAt,run_underlying hu,hF,Instr.sureAddr,fieldPlace,u7 hz,hz]
 split at h
 ·rename_i id j off tot o' ft hx hf;have hx':=E x;rw [hx] at hx';generalize hv:a.eval x=v at hx'
  cases hx' with
  | ptr _ _ _ _ ad hN h' =>
   refine OpOk.val (run o' ft ad hf h.1 hv) (Good.same hr h.2 (.ptr _ _ _ _ _ hN fun b hb=>?_));obtain ⟨h1,h2⟩:=h' b hb;refine ⟨h1,fun ht=>?_⟩;obtain ⟨g,hg,rfl⟩:=h2 ht;exact ⟨g,hg,by rw [P3,Nat.add_assoc]⟩
 ·rename_i cs o' ft hx hf;have hx':=E x;rw [hx] at hx';generalize hv:a.eval x=v at hx'
  cases hx' with
  | rop _ ad vs hS h1 h2 =>
   refine OpOk.val (run o' ft ad hf h.1 hv) (Good.same hr h.2 (.rop _ _ (fun j=>vs (o'+j)) (by rw [K3];exact hS) (fun j y hy=>?_) (fun j y hy=>?_)))
   ·rw [List.getElem?_drop] at hy;rw [TM];exact h1 _ y hy
   ·rw [List.getElem?_drop] at hy;exact h2 _ y hy
 ·exact h.elim
end
end Go.Am
namespace Go.Am
section
variable {P:Program} {c:Ctx} {K:AV→Hp→Prop} {fr:Fr} {hp:Hp} {U:Nat→Prop} {N:Nat} {σ:Nat→Option Nat} {w:World} {a:Act} {o:Oper}
theorem Tg {t e:TypeId} {ad:Addr} {len cap:Nat} {k:IntKind} {n:Int} (hu:P.underlying t=some (.slice e)) (hz:P.cellsOf e ≠ 0) (h0:0≤n) (h1:n<len) :
  (Instr.indexAt t (.slice (some ad) len cap) (.int k n)).run P w=.ok (.pointer (some (ad.add (n.toNat*P.cellsOf e)))) w:=by
 simp [Instr.indexAt,run_underlying hu,asIntOf,h0,h1,u7 hz]
theorem U5 {t e:TypeId} {ad:Addr} {len:Nat} {k:IntKind} {n:Int} (hu:P.underlying t=some (.array len e)) (hz:P.cellsOf e ≠ 0) (h0:0≤n) (h1:n<len) :
  (Instr.indexAt t (.pointer (some ad)) (.int k n)).run P w=.ok (.pointer (some (ad.add (n.toNat*P.cellsOf e)))) w:=by
 simp [Instr.indexAt,run_underlying hu,asIntOf,h0,h1,u7 hz,Instr.sureAddr]
theorem adw (hr:Rel c hp U σ w) (E:∀ x,AIs w (z7 c w σ hp) σ hp U (ev fr x) (a.eval x)) {t:TypeId} {x ix:Operand} (hop:o.op=.indexAddr t x ix) (h:A6 P fr hp N (.indexAddr t x ix) K) :
  OpOk P c K hp U N σ w ((execOp a.eval o).run P w):=by
 simp only [A6] at h
 split at h
 ·rename_i k n hi;have hi':=J5 (hi ▸ E ix)
  have run:∀ v,(Instr.indexAt t (a.eval x) (.int k n)).run P w=.ok v w→(execOp a.eval o).run P w=.ok (.value v) w:=by
   intro v hv;simp only [execOp,hop,hi',Sem.run_bind,hv,Result.andThen_ok,Sem.run_pure]
  split at h
  ·rename_i e es el hx ht;obtain ⟨h0,he,hz,h⟩:=h;have hx':=E x;rw [hx] at hx';generalize hv:a.eval x=v at hx' run
   split at h
   ·rename_i cs hcs
    cases hx' with
    | d hx' =>
     cases hx' with
     | ro _ _ A cap vs hc hel hA hv1 hd =>
      have hmem:=List.mem_of_getElem? hcs;have hlt:n.toNat<es.length:=(List.getElem?_eq_some_iff.1 hcs).1;obtain ⟨ad,rfl,hS⟩:=hA cs hmem;refine OpOk.val (run _ (Tg (y6 ht) hz h0 aa)) (Good.same hr h (.rop cs _ (vs n.toNat) (by rw [K3];exact hS) (fun j y hy=>?_) (fun j y hy=>hd _ _ _ _ hcs hy)));rw [TM,← he];exact hv1 ad rfl _ _ _ _ hcs hy
   ·exact h.elim
  ·rename_i id i0 len tot el hx ht;obtain ⟨h0,h1,h⟩:=h;have hx':=E x;rw [hx] at hx';generalize hv:a.eval x=v at hx' run
   split at h
   ·rename_i b hb;obtain ⟨htot,he,hz,h⟩:=h
    cases hx' with
    | own _ _ _ _ A cap hN hl hA0 h' =>
     obtain ⟨h2,h3⟩:=h' b hb;obtain ⟨h4,_,h5⟩:=h3 htot;obtain ⟨g,hg,rfl,_⟩:=h5 aa;refine OpOk.val (run _ (Tg (y6 ht) hz h0 h1)) (Good.same hr h (.ptr _ _ _ _ _ hN fun b' hb'=>?_));rw [hb] at hb';injection hb' with hb';subst hb';exact ⟨h2,fun _=>⟨g,hg,by rw [P3,← he,Nat.add_zero,Nat.add_mul]⟩⟩
   ·exact h.elim
  ·rename_i id i off e len cap tot el hx ht;obtain ⟨h0,h1,h⟩:=h;have hx':=E x;rw [hx] at hx';generalize hv:a.eval x=v at hx' run
   split at h
   ·rename_i b hb;obtain ⟨htot,he,hz,h⟩:=h
    cases hx' with
    | sub _ _ _ _ _ _ _ A hN hl hA0 h' =>
     obtain ⟨h2,h3⟩:=h' b hb;obtain ⟨h4,h5,h6⟩:=h3 htot;obtain ⟨g,hg,rfl⟩:=h6 aa;refine OpOk.val (run _ (Tg (y6 ht) hz h0 h1)) (Good.same hr h (.ptr _ _ _ _ _ hN fun b' hb'=>?_));rw [hb] at hb';injection hb' with hb';subst hb';exact ⟨h2,fun _=>⟨g,hg,by rw [P3,← he,Nat.add_assoc]⟩⟩
   ·exact h.elim
  ·rename_i id i off tot len el hx ht;obtain ⟨h0,h1,hz,h⟩:=h;have hx':=E x;rw [hx] at hx';generalize hv:a.eval x=v at hx' run
   cases hx' with
   | ptr _ _ _ _ ad hN h' =>
    refine OpOk.val (run _ (U5 (RL ht) hz h0 h1)) (Good.same hr h (.ptr _ _ _ _ _ hN fun b hb=>?_));obtain ⟨h2,h3⟩:=h' b hb;refine ⟨h2,fun ht=>?_⟩;obtain ⟨g,hg,rfl⟩:=h3 ht;exact ⟨g,hg,by rw [P3,Nat.add_assoc]⟩
  ·rename_i cs len el hx ht;obtain ⟨h0,h1,hz,h⟩:=h;have hx':=E x;rw [hx] at hx';generalize hv:a.eval x=v at hx' run
   cases hx' with
   | rop _ ad vs hS h2 h3 =>
    refine OpOk.val (run _ (U5 (RL ht) hz h0 h1)) (Good.same hr h (.rop _ _ (fun j=>vs (n.toNat*P.cellsOf el+j)) (by rw [K3];exact hS) (fun j y hy=>?_) (fun j y hy=>?_)))
    ·rw [List.getElem?_drop] at hy;rw [TM];exact h2 _ y hy
    ·rw [List.getElem?_drop] at hy;exact h3 _ y hy
  ·exact h.elim
 ·exact h.elim
theorem ab3 (hr:Rel c hp U σ w) (hN:Free U N) {t:TypeId} {ccs:Array Value} {cs:List AV} (hl:cs.length=ccs.size)
  (h1:∀ (i:Nat) (x:Value),ccs[i]?=some x→x.oneCell'=true)
  (h2:∀ (i:Nat) (y:AV) (v:Value),cs[i]?=some y→ccs[i]?=some v→AIs w (z7 c w σ hp) σ hp U y v)
  (hK:K (.ptr N 0 0 1) ((N,⟨t,cs.length,[cs]⟩) :: hp)) :
  Good c K hp U N σ w (.pointer (some ⟨w.heap.size,0,none⟩)) (w.alloc (.cells ccs t)):=by
 obtain ⟨r1,r2⟩:=agD hr hN ccs ⟨t,cs.length,[cs]⟩ h1 ab (by simp;omega) (by
  intro i j x y v a1 a2 a3
  cases i with
  | zero =>
   simp only [List.getElem?_cons_zero,Option.some.injEq] at a1;subst a1;simp only [Nat.zero_mul,Nat.zero_add] at a3;exact h2 j y v a2 a3
  | succ i=>simp at a1)
 refine ⟨_,_,_,hK,r1,r2,.ptr _ _ _ _ _ Uy fun b hb=>?_⟩;rw [W5,if_pos rfl] at hb;injection hb with hb;subst hb;exact ⟨ab,fun _=>⟨w.heap.size,ab,ab⟩⟩
theorem afo {v:AV} {x:Value} {S:Nat→Prop} (h:AIs w S σ hp U v x) (h1:v ≠ .any) (h2:∀ vs,v ≠ .tup vs) (h3:∀ cs,v ≠ .agg cs):x.oneCell'=true∧x.cells=#[x]:=by
 cases h with
 | any=>exact absurd rfl h1
 | tup cs xs _ _=>exact absurd rfl (h2 cs)
 | agg cs xs _ _ _=>exact absurd rfl (h3 cs)
 | d h=>cases h <;> exact ⟨rfl,rfl⟩
 | own=>exact ⟨rfl,rfl⟩
 | sub=>exact ⟨rfl,rfl⟩
 | ptr=>exact ⟨rfl,rfl⟩
 | rop=>exact ⟨rfl,rfl⟩
 | fn=>exact ⟨rfl,rfl⟩
 | nil=>exact ⟨rfl,rfl⟩
 | mp=>exact ⟨rfl,rfl⟩
theorem asg (hr:Rel c hp U σ w) (E:∀ x,AIs w (z7 c w σ hp) σ hp U (ev fr x) (a.eval x)) (hN:Free U N) {t:TypeId} {x:Operand} (hop:o.op=.box t x) (h:A6 P fr hp N (.box t x) K) :
  OpOk P c K hp U N σ w ((execOp a.eval o).run P w):=by
 simp only [A6] at h
 have hrun:(execOp a.eval o).run P w=.ok (.value (.pointer (some ⟨w.heap.size,0,none⟩))) (w.alloc (.cells (a.eval x).cells t)):=by
  simp [execOp,hop,Instr.box,newVar,newRow]
 rw [hrun]
 split at h
 ·rename_i cs hx;have hx':=E x;rw [hx] at hx';generalize hv:a.eval x=v at hx'
  cases hx' with
  | agg _ xs hl h1 h2=>exact ab3 hr hN hl h1 h2 h
 ·exact h.elim
 ·exact h.elim
 ·rename_i v n1 n2 n3;obtain ⟨h1,h2⟩:=afo (E x) n2 n3 n1;rw [h2];refine ab3 (cs:=[ev fr x]) hr hN rfl (fun i y hy=>?_) (fun i y z hy hz=>?_) h
  ·cases i with
   | zero=>simp at hy;subst hy;exact h1
   | succ i=>simp at hy
  ·cases i with
   | zero=>simp at hy hz;subst hy;subst hz;exact E x
   | succ i=>simp at hy
theorem amD (hr:Rel c hp U σ w) (E:∀ x,AIs w (z7 c w σ hp) σ hp U (ev fr x) (a.eval x)) {t:TypeId} {x v:Operand} (hop:o.op=.store t x v) (h:A6 P fr hp N (.store t x v) K) :
  OpOk P c K hp U N σ w ((execOp a.eval o).run P w):=by
 simp only [A6] at h
 split at h
 ·rename_i id i off tot hx;have hx':=E x;rw [hx] at hx'
  split at h
  ·rename_i b hb
   split at h
   ·rename_i row hrow;obtain ⟨ht,h⟩:=h;obtain ⟨g,ccs,hg,hxv,hheap,hone,hrl,hle,hcell⟩:=VM hr hx' hb hrow ht;have hilt:i<b.es.length:=(List.getElem?_eq_some_iff.1 hrow).1
    -- what storing cells does
    have go:∀ (us:List Value) (cs:List AV),(a.eval v).cells=us.toArray→cs.length=us.length→us.length=P.cellsOf t→P.cellsOf t ≠ 0→off+us.length≤row.length →
      (∀ u ∈ us,u.oneCell'=true)→(∀ (j:Nat) (y:AV) (u:Value),cs[j]?=some y→us[j]?=some u→AIs w (z7 c w σ hp) σ hp U y u) →
      K .any (A0 id ⟨b.ty,b.e,b.es.set i (row.take off ++ (cs ++ row.drop (off+cs.length)))⟩ hp)→OpOk P c K hp U N σ w ((execOp a.eval o).run P w):=by
     intro us cs hcells hcl hul hz hfit h1 h2 hK;have hsto:=run_storeCells_at P g (i*b.e+off) b.ty us 0 ccs w hheap aa h1
     have hrun:(execOp a.eval o).run P w=.ok .skip (w.setRow g (ccs.toList.take (i*b.e+off) ++ us ++ ccs.toList.drop (i*b.e+off+us.length)).toArray):=by
      simp only [Nat.add_zero] at hsto;simp [execOp,hop,hxv,Instr.storeAt,Instr.sureAddr,storeVar,hcells,u7 hz,hul,hsto]
     rw [hrun];have hnl:(row.take off ++ (cs ++ row.drop (off+cs.length))).length=b.e:=by simp;omega
     have hnth:∀ m,(ccs.toList.take (i*b.e+off) ++ us ++ ccs.toList.drop (i*b.e+off+us.length)).toArray[m]? =
       if m<i*b.e+off then ccs[m]? else if m<i*b.e+off+us.length then us[m - (i*b.e+off)]? else ccs[m]?:=by
      intro m;simp only [List.getElem?_toArray,List.append_assoc];rw [List.getElem?_append];have hlt:(ccs.toList.take (i*b.e+off)).length=i*b.e+off:=by simp;omega
      rw [hlt];by_cases hm:m<i*b.e+off
      ·simp [hm]
      ·rw [if_neg hm,if_neg hm,List.getElem?_append];by_cases hm2:m<i*b.e+off+us.length
       ·rw [if_pos aa,if_pos hm2]
       ·rw [if_neg aa,if_neg hm2,List.getElem?_drop,Array.getElem?_toList];congr 1;omega
     have hrowth:∀ m,(row.take off ++ (cs ++ row.drop (off+cs.length)))[m]?=if m<off then row[m]? else if m<off+cs.length then cs[m - off]? else row[m]?:=by
      intro m;rw [List.getElem?_append];have hlt:(row.take off).length=off:=by simp;omega
      rw [hlt];by_cases hm:m<off
      ·simp [hm]
      ·rw [if_neg hm,if_neg hm,List.getElem?_append];by_cases hm2:m<off+cs.length
       ·rw [if_pos aa,if_pos hm2]
       ·rw [if_neg aa,if_neg hm2,List.getElem?_drop];congr 1;omega
     obtain ⟨r1,r2⟩:=ab1 hr (b':=⟨b.ty,b.e,b.es.set i (row.take off ++ (cs ++ row.drop (off+cs.length)))⟩) hb hg rfl rfl ab ccs (ccs.toList.take (i*b.e+off) ++ us ++ ccs.toList.drop (i*b.e+off+us.length)).toArray hheap (by simp;omega)
      (fun m y hy=>by
       rw [hnth] at hy
       split at hy
       ·exact hone m y hy
       ·split at hy
        ·exact h1 y (List.mem_of_getElem? hy)
        ·exact hone m y hy)
      (fun y hy=>by
       rcases List.mem_or_eq_of_mem_set hy with h' | rfl
       ·obtain ⟨_,_,_,h3,_⟩:=hr.at hb hg;exact h3 y h'
       ·exact hnl)
      (fun k j r y u a1 a2 a3=>by
       obtain ⟨cc,k1,_,k3,k4,k5⟩:=hr.at hb hg;rw [hheap] at k1;injection k1 with k1;injection k1 with k1;subst k1;rw [hnth] at a3;simp only [List.getElem?_set] at a1;by_cases hk:i=k
       ·subst hk;simp only [if_true,hilt] at a1;injection a1 with a1;subst a1;rw [hrowth] at a2;by_cases q1:j<off
        ·rw [if_pos q1] at a2;rw [if_pos aa] at a3;exact k5 i j row y u hrow a2 a3
        ·rw [if_neg q1] at a2;rw [if_neg aa] at a3;by_cases q2:j<off+cs.length
         ·rw [if_pos q2] at a2;rw [if_pos aa] at a3;rw [show i*b.e+j - (i*b.e+off)=j - off by omega] at a3;exact h2 _ y u a2 a3
         ·rw [if_neg q2] at a2;rw [if_neg aa] at a3;exact k5 i j row y u hrow a2 a3
       ·rw [if_neg hk] at a1
        have hj:j<b.e:=by
         have:=(List.getElem?_eq_some_iff.1 a2).1;rw [k3 r (List.mem_of_getElem? a1)] at this;exact this
        have hout:¬ (i*b.e≤k*b.e+j∧k*b.e+j<i*b.e+b.e):=by
         rintro ⟨p1,p2⟩;rcases Nat.lt_or_gt_of_ne hk with h' | h'
         ·have:(i+1)*b.e≤k*b.e:=Nat.mul_le_mul_right _ aa;rw [Nat.add_mul,Nat.one_mul] at this;omega
         ·have:(k+1)*b.e≤i*b.e:=Nat.mul_le_mul_right _ aa;rw [Nat.add_mul,Nat.one_mul] at this;omega
        have a3':ccs[k*b.e+j]?=some u:=by
         by_cases q1:k*b.e+j<i*b.e+off
         ·rwa [if_pos q1] at a3
         ·rw [if_neg q1,if_neg aa] at a3;exact a3
        exact k5 k j r y u a1 a2 a3')
     exact ⟨.any,_,σ,hK,r1.more,r2.trans Step.more,.any _⟩
    split at h
    ·rename_i cs hv;obtain ⟨h1,hz,h2,h3⟩:=h;have hv':=E v;rw [hv] at hv';generalize hvv:a.eval v=vv at hv' go
     cases hv' with
     | agg _ xs hl h4 h5 =>
      exact go xs.toList cs (by simp [Value.cells]) (by simpa using hl) (by simp;omega) hz (by simp;omega) (fun u hu=>by
        obtain ⟨j,hj⟩:=List.getElem?_of_mem hu
        exact h4 j u (by simpa using hj)) (fun j y u hy hu=>h5 j y u hy (by simpa using hu)) h3
    ·exact h.elim
    ·exact h.elim
    ·rename_i u n1 n2 n3;obtain ⟨h1,h2,h3⟩:=h;obtain ⟨h4,h5⟩:=afo (E v) n2 n3 n1;refine go [a.eval v] [ev fr v] h5 rfl (by simp [h1]) aa (by simp;omega) (by simpa using h4) (fun j y u hy hu=>?_) ?_
     ·cases j with
      | zero=>simp at hy hu;subst hy;subst hu;exact E v
      | succ j=>simp at hy
     ·have:row.take off ++ ([ev fr v] ++ row.drop (off+[ev fr v].length))=row.set off (ev fr v):=by
       rw [List.set_eq_take_append_cons_drop,if_pos h2];rfl
      rw [this];exact h3
   ·exact h.elim
  ·exact h.elim
 ·exact h.elim
theorem ash (hr:Rel c hp U σ w) (E:∀ x,AIs w (z7 c w σ hp) σ hp U (ev fr x) (a.eval x)) {t:TypeId} {x:Operand} {cl:Call} (hop:o.op=.call cl) (hc:cl.callee=.builtin .len) (ha:cl.args.toList=[x]) (ht:cl.argTypes.toList=[t])
  (h:biW P fr hp N .len [x] [t] K):OpOk P c K hp U N σ w ((execOp a.eval o).run P w):=by
 simp only [biW] at h;have ha':cl.args=#[x]:=by rw [← Array.toArray_toList (xs:=cl.args),ha]
 have ht':cl.argTypes=#[t]:=by rw [← Array.toArray_toList (xs:=cl.argTypes),ht]
 have run:∀ n:Nat,(Builtin.len_ #[t] o.type #[a.eval x]).run P w=.ok (goInt n) w→(execOp a.eval o).run P w=.ok (.value (.int .i64 n)) w:=by
  intro n hn;simp [execOp,hop,resolve,hc,ha',ht',invoke,builtin,hn,goInt]
 split at h
 ·rename_i bs hx ht;have hx':=E x;rw [hx] at hx';generalize hv:a.eval x=v at hx' run
  cases hx' with
  | d hx' =>
   cases hx' with
   | str s =>
    refine OpOk.val (run s.size ?_) (Good.same hr h (by simpa using .d (.int _ _)));simp [Builtin.len_,run_underlying (VL ht)]
 ·refine OpOk.val (run _ ?_) (Good.same hr h (.d (.int _ _)));simp [Builtin.len_,run_underlying (RL ‹B7 P t=.arr _ _›)]
 ·have hts:=y6 ‹B7 P t=.slice _›
  split at h
  ·rename_i n hn;have hx':=E x;generalize hv:a.eval x=v at hx' run;generalize ev fr x=u at hx' hn
   have Ye:∀ A len cap,v=.slice A len cap→len=n→OpOk P c K hp U N σ w ((execOp a.eval o).run P w):=by
    intro A len cap hv' hlen;subst hlen;refine OpOk.val (run len ?_) (Good.same hr h (.d (.int _ _)));rw [hv'];simp [Builtin.len_,run_underlying hts]
   cases u <;> simp [AV.slen] at hn
   case d dv =>
    cases hx' with
    | d hx'=>cases dv <;> simp at hn <;> cases hx' <;> exact Ye _ _ _ rfl hn
   case own=>cases hx' with | own=>exact Ye _ _ _ rfl hn
   case nil=>cases hx' with | nil=>exact Ye _ _ _ rfl hn
   case sub=>cases hx' with | sub=>exact Ye _ _ _ rfl hn
  ·exact h.elim
 ·exact h.elim
theorem ab4 {g : FuncId} {fn : Func} (h1 : P.funcs[g]? = some fn) (h2 : (fn.name == "runtime.NumGoroutine") = false) (h3 : fn.body.isNone = false) (args : Array Value) : (callFunc g args).run P w = .ok (.enter g args) w := by
 unfold callFunc;simp only [Sem.run_bind,run_program,Result.andThen_ok,h1,h2,h3,Bool.false_eq_true,if_false,Sem.run_pure]
theorem apJ (hr:Rel c hp U σ w) (E:∀ x,AIs w (z7 c w σ hp) σ hp U (ev fr x) (a.eval x)) (hN:Free U N) {cl:Call} {f:Operand} (hop:o.op=.call cl) (hc:cl.callee=.value f) {g:FuncId} {caps:List AV} (hf:ev fr f=.fn g caps)
  (h:Uz P g (cl.args.toList.map (ev fr) ++ caps) hp N K ∨ apE P g (cl.args.toList.map (ev fr) ++ caps) hp K):OpOk P c K hp U N σ w ((execOp a.eval o).run P w):=by
 have hf':=E f;rw [hf] at hf';generalize hv:a.eval f=v at hf'
 cases hf' with
 | fn _ _ xs hl hx =>
  have hargs:∀ (i:Nat) (u:AV) (x:Value),(cl.args.toList.map (ev fr) ++ caps)[i]?=some u→((cl.args.map a.eval).toList ++ xs.toList)[i]?=some x→AIs w (z7 c w σ hp) σ hp U u x:=?_
  ·rcases h with h | h
   ·obtain ⟨⟨fn,h1,h2,h3⟩,h⟩:=h
    have hrun:(execOp a.eval o).run P w=.ok (.enter g ((cl.args.map a.eval).toList ++ xs.toList).toArray) w:=by
     simp [execOp,hop,resolve,hc,hv,Deferred.ofValue,invoke,ab4 h1 h2 h3]
    rw [hrun];exact ⟨rfl,h c U σ w _ hr hN (by simp [hl]) hargs⟩
   ·obtain ⟨r,h1,h2⟩:=h;obtain ⟨y,hy,hy2⟩:=h1 w (z7 c w σ hp) σ hp U _ (by simp [hl]) hargs;refine OpOk.val (x:=y) ?_ (Good.same hr h2 hy2);simp [execOp,hop,resolve,hc,hv,Deferred.ofValue,invoke];rw [← hy];congr 2;simp
  intro i u x hu hx';rw [List.getElem?_append] at hu hx';simp only [List.length_map,Array.length_toList,Array.size_map] at hu hx'
  split at hu
  ·rename_i hi;rw [if_pos hi] at hx';simp only [List.getElem?_map,Option.map_eq_some_iff] at hu;obtain ⟨y,hy,rfl⟩:=hu;simp only [Array.getElem?_toList,Array.getElem?_map,Option.map_eq_some_iff] at hx' hy;obtain ⟨z,hz,rfl⟩:=hx';rw [hy] at hz;injection hz with hz;subst hz;exact E y
  ·rename_i hi;rw [if_neg hi] at hx';exact hx _ u x hu (by simpa using hx')
end
end Go.Am
namespace Go.Am
section
variable {P:Program} {c:Ctx} {K:AV→Hp→Prop} {fr:Fr} {hp:Hp} {U:Nat→Prop} {N:Nat} {σ:Nat→Option Nat} {w:World} {a:Act} {o:Oper} {S:Nat→Prop}
structure LIs (w:World) (S:Nat→Prop) (σ:Nat→Option Nat) (hp:Hp) (U:Nat→Prop) (cs:List AV) (xs:Array Value):Prop where
 len:cs.length=xs.size
 one:∀ (i:Nat) (x:Value),xs[i]?=some x→x.oneCell'=true
 is:∀ (i:Nat) (c:AV) (x:Value),cs[i]?=some c→xs[i]?=some x→AIs w S σ hp U c x
theorem adx {v:AV} {x:Value} {vs:List AV} (h:AIs w S σ hp U v x) (hv:v.cellsO=some vs):LIs w S σ hp U vs x.cells:=by
 have one:∀ (v:AV) (x:Value),AIs w S σ hp U v x→v ≠ .any→(∀ vs,v ≠ .tup vs)→(∀ cs,v ≠ .agg cs)→LIs w S σ hp U [v] x.cells:=by
  intro v x h h1 h2 h3;obtain ⟨k1,k2⟩:=afo h h1 h2 h3;rw [k2];refine ⟨rfl,fun i y hy=>?_,fun i c y hc hy=>?_⟩
  ·cases i with
   | zero=>simp at hy;subst hy;exact k1
   | succ i=>simp at hy
  ·cases i with
   | zero=>simp at hc hy;subst hc;subst hy;exact h
   | succ i=>simp at hc
 cases v with
 | agg cs =>
  simp only [AV.cellsO] at hv;injection hv with hv;subst hv
  cases h with
  | agg _ xs hl h1 h=>exact ⟨hl,h1,h⟩
 | any=>cases hv
 | tup _=>cases hv
 | _ =>
  simp only [AV.cellsO] at hv;injection hv with hv;subst hv;exact one _ _ h (by intro h;cases h) (by intro vs h;cases h) (by intro cs h;cases h)
theorem Vm:∀ (vs:List Value) (k off:Nat) (cells:Array Value) (j:Nat),
  ((vs.zipIdx k).foldl (fun cs (p:Value × Nat)=>cs.setIfInBounds (off+p.2) p.1) cells)[j]? =
   if off+k≤j∧j<off+k+vs.length∧j<cells.size then vs[j - (off+k)]? else cells[j]?
 | [],k,off,cells,j=>by
  simp only [List.zipIdx_nil,List.foldl_nil,List.length_nil,Nat.add_zero];rw [if_neg aa]
 | v :: r,k,off,cells,j=>by
  simp only [List.zipIdx_cons,List.foldl_cons];rw [Vm r (k+1) off (cells.setIfInBounds (off+k) v) j];simp only [Array.size_setIfInBounds,List.length_cons];by_cases h1:j=off+k
  ·subst h1;rw [if_neg aa];by_cases h2:off+k<cells.size
   ·rw [if_pos aa];simp [h2]
   ·rw [if_neg aa];simp [Nat.le_of_not_lt h2]
  ·by_cases h2:off+(k+1)≤j∧j<off+(k+1)+r.length∧j<cells.size
   ·rw [if_pos h2,if_pos aa,show j - (off+k)=(j - (off+(k+1)))+1 by omega,List.getElem?_cons_succ]
   ·rw [if_neg h2,if_neg aa,Array.getElem?_setIfInBounds,if_neg aa]
theorem XY:∀ (vs:List (Value × Nat)) (off:Nat) (cells:Array Value),(vs.foldl (fun cs (p:Value × Nat)=>cs.setIfInBounds (off+p.2) p.1) cells).size=cells.size
 | [],_,_=>rfl
 | p :: r,off,cells=>by simp only [List.foldl_cons];rw [XY r off];simp
theorem ah4 {cs vs:List AV} {cells us:Array Value} {off:Nat} (h:LIs w S σ hp U cs cells) (hu:LIs w S σ hp U vs us) (hfit:off+vs.length≤cs.length) :
  LIs w S σ hp U (cs.take off ++ (vs ++ cs.drop (off+vs.length))) (us.zipIdx.foldl (fun cs (p:Value × Nat)=>cs.setIfInBounds (off+p.2) p.1) cells):=by
 have e:us.zipIdx.foldl (fun cs (p:Value × Nat)=>cs.setIfInBounds (off+p.2) p.1) cells=(us.toList.zipIdx 0).foldl (fun cs (p:Value × Nat)=>cs.setIfInBounds (off+p.2) p.1) cells:=by
  rw [← Array.foldl_toList,Array.toList_zipIdx]
 rw [e];have hn:=Vm us.toList 0 off cells;have hsz:=XY (us.toList.zipIdx 0) off cells;have hul:us.toList.length=vs.length:=by simp [hu.len]
 have hcl:=h.len;simp only [Nat.add_zero,hul] at hn
 have hl:∀ j,(cs.take off ++ (vs ++ cs.drop (off+vs.length)))[j]?=if off≤j∧j<off+vs.length then vs[j - off]? else cs[j]?:=by
  intro j;rw [List.getElem?_append];have ht:(cs.take off).length=off:=by simp;omega
  rw [ht];by_cases h1:j<off
  ·rw [if_pos h1,if_neg aa,List.getElem?_take,if_pos h1]
  ·rw [if_neg h1,List.getElem?_append];by_cases h2:j<off+vs.length
   ·rw [if_pos aa,if_pos aa]
   ·rw [if_neg aa,if_neg aa,List.getElem?_drop];congr 1;omega
 refine ⟨by rw [hsz];simp;omega,fun i x hx=>?_,fun i c x hc hx=>?_⟩
 ·rw [hn] at hx
  split at hx
  ·exact hu.one _ x (by simpa using hx)
  ·exact h.one i x hx
 ·rw [hl] at hc;rw [hn] at hx;by_cases h1:off≤i∧i<off+vs.length
  ·rw [if_pos h1] at hc;rw [if_pos aa] at hx;exact hu.is _ c x hc (by simpa using hx)
  ·rw [if_neg h1] at hc;rw [if_neg aa] at hx;exact h.is i c x hc hx
theorem ab5 {place placeC:Nat→Option (Nat × Nat)} (hp':∀ i p,place i=some p→placeC i=some p) :
  ∀ (ps:List (Nat × AV)) (qs:List (Nat × Value)) (cs:List AV) (cells:Array Value) (out:List AV),ps.length=qs.length →
   (∀ (i:Nat) (p:Nat × AV) (q:Nat × Value),ps[i]?=some p→qs[i]?=some q→p.1=q.1∧AIs w S σ hp U p.2 q.2)→LIs w S σ hp U cs cells→Ub place cs ps=some out →
   ∃ cells',Instr.fill placeC cells qs=some cells'∧LIs w S σ hp U out cells'
 | [],[],cs,cells,out,_,_,hc,h=>by
  simp only [Ub] at h;injection h with h;subst h;exact ⟨cells,rfl,hc⟩
 | [],_ :: _,_,_,_,hl,_,_,_=>by simp at hl
 | _ :: _,[],_,_,_,hl,_,_,_=>by simp at hl
 | (i,v) :: ps,(k,x) :: qs,cs,cells,out,hl,hpq,hc,h=>by
  obtain ⟨e,hv⟩:=hpq 0 (i,v) (k,x) rfl rfl;simp only at e hv;subst e;simp only [Ub] at h
  split at h
  ·rename_i off size vs hpl hvs
   split at h
   ·rename_i hfit;have hu:=adx hv hvs;have hs:=ah4 (off:=off) hc hu aa;rw [hfit.1] at hs;obtain ⟨cells',h1,h2⟩:=ab5 hp' ps qs _ _ out (by simpa using hl) (fun j p q h1 h2=>hpq (j+1) p q (by simpa using h1) (by simpa using h2)) hs h;refine ⟨cells',?_,h2⟩;have hul:=hu.len;have hcl:=hc.len;simp only [Instr.fill,hp' _ _ hpl];rw [if_neg (by simp;omega)];exact h1
   ·cases h
  ·cases h
theorem aa7 {t:TypeId} {z:List AV} (h:P2 P t=some z):∃ v i,P.info? t=some i∧i.zero=some v∧v.cells.size=P.cellsOf t∧P.cellsOf t ≠ 0∧z.length=P.cellsOf t∧LIs w S σ hp U z v.cells:=by
 unfold P2 at h
 split at h
 ·rename_i v hv
  split at h
  ·rename_i hc;injection h with h;subst h
   cases hi:P.info? t with
   | none=>simp [hi] at hv
   | some i =>
    refine ⟨v,i,rfl,by simpa [hi] using hv,hc.2.2,aa,by simp [hc.2.2],ab,fun k x hx=>?_,fun k c x hc' hx=>?_⟩
    ·obtain ⟨hk,rfl⟩:=Array.getElem?_eq_some_iff.1 hx;exact (Array.all_eq_true.1 hc.1) k hk
    ·simp only [List.getElem?_map,Array.getElem?_toList,hx,Option.map_some,Option.some.injEq] at hc';subst hc';exact abZ x
  ·cases h
 ·cases h
theorem Vn {t:TypeId} {v:Value} {i:TypeInfo} (hi:P.info? t=some i) (hz:i.zero=some v):(zeroValue t).run P w=.ok v w:=by
 simp [zeroValue,typeInfo,hi,hz]
theorem amE (hr:Rel c hp U σ w) (hN:Free U N) {t:TypeId} (hop:o.op=.alloc t) (h:A6 P fr hp N (.alloc t) K) :
  OpOk P c K hp U N σ w ((execOp a.eval o).run P w):=by
 simp only [A6] at h
 split at h
 ·rename_i cs hcs;obtain ⟨v,i,hi,hz,_,_,_,hl⟩:=aa7 (w:=w) (S:=z7 c w σ hp) (σ:=σ) (hp:=hp) (U:=U) hcs
  have hrun:(execOp a.eval o).run P w=.ok (.value (.pointer (some ⟨w.heap.size,0,none⟩))) (w.alloc (.cells v.cells t)):=by
   simp [execOp,hop,Instr.alloc,Vn hi hz,newVar,newRow]
  rw [hrun];exact ab3 hr hN hl.len hl.one hl.is h
 ·exact h.elim
theorem ZD (E:∀ x,AIs w S σ hp U (ev fr x) (a.eval x)) (parts:Array (Nat × Operand)):∀ (i:Nat) (p:Nat × AV) (q:Nat × Value),(parts.toList.map fun p=>(p.1,ev fr p.2))[i]?=some p→(parts.toList.map fun p=>(p.1,a.eval p.2))[i]?=some q→p.1=q.1∧AIs w S σ hp U p.2 q.2:=by
 intro i p q hp' hq;simp only [List.getElem?_map,Option.map_eq_some_iff] at hp' hq;obtain ⟨y,hy,rfl⟩:=hp';obtain ⟨z,hz,rfl⟩:=hq;rw [hy] at hz;injection hz with hz;subst hz;exact ⟨rfl,E y.2⟩
theorem afp (F:Array Field) (h:∀ f ∈ F.toList,P.cellsOf f.type ≠ 0):(F.mapM fun f=>(do pure (f.offset,← sizeOf f.type):Sem (Nat × Nat))).run P w=.ok (F.map fun f=>(f.offset,P.cellsOf f.type)) w:=by
 have key:∀ (l:List Field) (acc:List (Nat × Nat)),(∀ f ∈ l,P.cellsOf f.type ≠ 0)→((l.mapM fun f=>(do pure (f.offset,← sizeOf f.type):Sem (Nat × Nat)))).run P w=.ok (l.map fun f=>(f.offset,P.cellsOf f.type)) w:=by
  intro l
  induction l with
  | nil=>intro acc _;rfl
  | cons f r ih =>
   intro acc hl;have h1:=u7 (P:=P) (w:=w) (hl f (List.mem_cons_self ..));have h2:=ih [] (fun g hg=>hl g (List.mem_cons_of_mem _ hg));simp only [List.mapM_cons,Sem.run_bind,h1,Result.andThen_ok,Sem.run_pure,h2,List.map_cons]
 have:=key F.toList [] h;rw [Array.mapM_eq_mapM_toList];simp only [Sem.run_map,this,Result.andThen_ok];congr 1;apply Array.ext';simp
theorem amF (hr:Rel c hp U σ w) (E:∀ x,AIs w (z7 c w σ hp) σ hp U (ev fr x) (a.eval x)) {t:TypeId} {parts:Array (Nat × Operand)} (hop:o.op=.build t parts) (h:A6 P fr hp N (.build t parts) K) :
  OpOk P c K hp U N σ w ((execOp a.eval o).run P w):=by
 simp only [A6] at h
 split at h
 ·rename_i z hz;obtain ⟨v,i,hi,hz',_,_,_,hl⟩:=aa7 (w:=w) (S:=z7 c w σ hp) (σ:=σ) (hp:=hp) (U:=U) hz;have hlen:(parts.toList.map fun p=>(p.1,ev fr p.2)).length=(parts.toList.map fun p=>(p.1,a.eval p.2)).length:=by simp
  have hpl:∀ x:Array (Nat × Operand),(x.map fun p=>(p.1,a.eval p.2)).toList=x.toList.map fun p=>(p.1,a.eval p.2):=by intro x;simp
  unfold XX at h
  split at h
  ·rename_i fs hk;obtain ⟨hne,h⟩:=h;obtain ⟨F,hu,hfs⟩:=WE hk
   split at h
   ·rename_i cs hcs
    obtain ⟨cells,h1,h2⟩:=ab5 (placeC:=fun k=>(F.map fun f=>(f.offset,P.cellsOf f.type))[k]?) (fun k p hp=>by
     unfold Sy at hp;rw [hfs] at hp;simp only [List.getElem?_map,Array.getElem?_toList,Option.map_map,Option.map_eq_some_iff] at hp;obtain ⟨f,hf,rfl⟩:=hp
     simp [hf]) _ _ _ _ cs hlen (ZD E parts) hl hcs
    refine OpOk.val (x:=.agg cells) ?_ (Good.same hr h (.agg _ _ h2.len h2.one h2.is));have hm:=afp (P:=P) (w:=w) F (fun f hf=>hne (f.offset,f.type) (by rw [hfs];simp only [List.mem_map];exact ⟨f,hf,rfl⟩))
    have hb:(Instr.build t (parts.map fun p=>(p.1,a.eval p.2))).run P w=.ok (.agg cells) w:=by
     unfold Instr.build;simp only [Sem.run_bind,Vn hi hz',Result.andThen_ok,run_underlying hu,hm,hpl,h1];rfl
    have hop':(execOp a.eval o)=(do pure (.value (← Instr.build t (parts.map fun p=>(p.1,a.eval p.2)))):Sem Next):=by
     unfold execOp;rw [hop]
    rw [hop'];simp only [Sem.run_bind,hb,Result.andThen_ok,Sem.run_pure]
   ·exact h.elim
  ·rename_i n el hk;obtain ⟨hne,h⟩:=h;have hu:=RL hk
   split at h
   ·rename_i cs hcs;obtain ⟨cells,h1,h2⟩:=ab5 (placeC:=fun k=>some (k*P.cellsOf el,P.cellsOf el)) (fun k p hp=>hp) _ _ _ _ cs hlen (ZD E parts) hl hcs;refine OpOk.val (x:=.agg cells) ?_ (Good.same hr h (.agg _ _ h2.len h2.one h2.is))
    have hb:(Instr.build t (parts.map fun p=>(p.1,a.eval p.2))).run P w=.ok (.agg cells) w:=by
     unfold Instr.build;simp only [Sem.run_bind,Vn hi hz',Result.andThen_ok,run_underlying hu,u7 hne,hpl,h1];rfl
    have hop':(execOp a.eval o)=(do pure (.value (← Instr.build t (parts.map fun p=>(p.1,a.eval p.2)))):Sem Next):=by
     unfold execOp;rw [hop]
    rw [hop'];simp only [Sem.run_bind,hb,Result.andThen_ok,Sem.run_pure]
   ·exact h.elim
  ·exact h.elim
 ·exact h.elim
end
end Go.Am
namespace Go.Am
section
variable {P:Program} {c:Ctx} {K:AV→Hp→Prop} {fr:Fr} {hp:Hp} {U:Nat→Prop} {N:Nat} {σ:Nat→Option Nat} {w:World} {a:Act} {o:Oper} {S:Nat→Prop}
structure RIs (w:World) (S:Nat→Prop) (σ:Nat→Option Nat) (hp:Hp) (U:Nat→Prop) (sz:Nat) (rows:List (List AV)) (xs:Array Value):Prop where
 len:rows.length*sz≤xs.size
 row:∀ r,r ∈ rows→r.length=sz
 one:∀ (i:Nat) (x:Value),xs[i]?=some x→x.oneCell'=true
 is:∀ (i j:Nat) (r:List AV) (c:AV) (x:Value),rows[i]?=some r→r[j]?=some c→xs[i*sz+j]?=some x→AIs w S σ hp U c x
theorem apK {sz i k j:Nat} (hj:j<sz) (h:i*sz≤k*sz+j∧k*sz+j<i*sz+sz):i=k:=by
 rcases Nat.lt_trichotomy i k with h1 | h1 | h1
 ·have:(i+1)*sz≤k*sz:=Nat.mul_le_mul_right _ aa;rw [Nat.add_mul,Nat.one_mul] at this;omega
 ·exact h1
 ·have:(k+1)*sz≤i*sz:=Nat.mul_le_mul_right _ aa;rw [Nat.add_mul,Nat.one_mul] at this;omega
theorem ady {sz:Nat} (hz:sz ≠ 0):∀ (ps:List (Nat × AV)) (qs:List (Nat × Value)) (rows:List (List AV)) (cells:Array Value) (out:List (List AV)),ps.length=qs.length →
   (∀ (i:Nat) (p:Nat × AV) (q:Nat × Value),ps[i]?=some p→qs[i]?=some q→p.1=q.1∧AIs w S σ hp U p.2 q.2)→RIs w S σ hp U sz rows cells→Zz sz rows ps=some out →
   ∃ cells',Instr.fill (fun i=>some (i*sz,sz)) cells qs=some cells'∧RIs w S σ hp U sz out cells'∧cells'.size=cells.size∧out.length=rows.length
 | [],[],rows,cells,out,_,_,hc,h=>by
  simp only [Zz] at h;injection h with h;subst h;exact ⟨cells,rfl,hc,rfl,rfl⟩
 | [],_ :: _,_,_,_,hl,_,_,_=>by simp at hl
 | _ :: _,[],_,_,_,hl,_,_,_=>by simp at hl
 | (i,v) :: ps,(k,x) :: qs,rows,cells,out,hl,hpq,hc,h=>by
  obtain ⟨e,hv⟩:=hpq 0 (i,v) (k,x) rfl rfl;simp only at e hv;subst e;simp only [Zz] at h
  split at h
  ·rename_i vs hvs
   split at h
   ·rename_i hfit;obtain ⟨hvl,hi⟩:=hfit;have hu:=adx hv hvs;have hul:=hu.len
    have hfit2:i*sz+sz≤cells.size:=by
     have:(i+1)*sz≤rows.length*sz:=Nat.mul_le_mul_right _ aa;rw [Nat.add_mul,Nat.one_mul] at this;have:=hc.len;omega
    have e2:x.cells.zipIdx.foldl (fun cs (p:Value × Nat)=>cs.setIfInBounds (i*sz+p.2) p.1) cells=(x.cells.toList.zipIdx 0).foldl (fun cs (p:Value × Nat)=>cs.setIfInBounds (i*sz+p.2) p.1) cells:=by
     rw [← Array.foldl_toList,Array.toList_zipIdx]
    have hn:=Vm x.cells.toList 0 (i*sz) cells;have hsz:=XY (x.cells.toList.zipIdx 0) (i*sz) cells;simp only [Nat.add_zero,Array.length_toList] at hn
    have hs:RIs w S σ hp U sz (rows.set i vs) (x.cells.zipIdx.foldl (fun cs (p:Value × Nat)=>cs.setIfInBounds (i*sz+p.2) p.1) cells):=by
     rw [e2];refine ⟨by rw [hsz];simpa using hc.len,fun r hr=>?_,fun m y hy=>?_,fun m j r c y hr hj hy=>?_⟩
     ·rcases List.mem_or_eq_of_mem_set hr with h' | rfl
      ·exact hc.row r h'
      ·exact hvl
     ·rw [hn] at hy
      split at hy
      ·exact hu.one _ y (by simpa using hy)
      ·exact hc.one m y hy
     ·rw [hn] at hy;rw [List.getElem?_set] at hr;by_cases hm:i=m
      ·subst hm;simp only [if_true,hi] at hr;injection hr with hr;subst hr;have hjl:j<vs.length:=(List.getElem?_eq_some_iff.1 hj).1;rw [if_pos aa,show i*sz+j - i*sz=j by omega] at hy;exact hu.is j c y hj (by simpa using hy)
      ·rw [if_neg hm] at hr
       have hjl:j<sz:=by
        have:=(List.getElem?_eq_some_iff.1 hj).1;rw [hc.row r (List.mem_of_getElem? hr)] at this;exact this
       rw [if_neg (fun h'=>hm (apK hjl ⟨h'.1,aa⟩))] at hy;exact hc.is m j r c y hr hj hy
    obtain ⟨cells',h1,h2,h3,h4⟩:=ady hz ps qs _ _ out (by simpa using hl) (fun j p q h1 h2=>hpq (j+1) p q (by simpa using h1) (by simpa using h2)) hs h;refine ⟨cells',?_,h2,by rw [h3,e2,hsz],by simpa using h4⟩;simp only [Instr.fill];rw [if_neg (by simp;omega)];exact h1
   ·cases h
  ·cases h
theorem VP {el:TypeId} {z:List AV} {v:Value} (hl:LIs w S σ hp U z v.cells) (hs:v.cells.size=P.cellsOf el) (hz:P.cellsOf el ≠ 0) (n:Nat) :
  RIs w S σ hp U (P.cellsOf el) (List.replicate n z) ((Array.range (n*P.cellsOf el)).map (v.cells[· % v.cells.size]!)):=by
 have hzl:=hl.len
 have hget:∀ m,m<n*P.cellsOf el→((Array.range (n*P.cellsOf el)).map (v.cells[· % v.cells.size]!))[m]?=some (v.cells[m % P.cellsOf el]!):=by
  intro m hm;simp [hm,hs]
 have hlt:∀ m,m % P.cellsOf el<v.cells.size:=fun m=>by rw [hs];exact Nat.mod_lt _ aa
 refine ⟨ab,fun r hr=>?_,fun i x hx=>?_,fun i j r c x hr hj hx=>?_⟩
 ·have:=List.eq_of_mem_replicate hr;subst this;omega
 ·have hi:i<n*P.cellsOf el:=by
   have:=(Array.getElem?_eq_some_iff.1 hx).1
   simpa using this
  rw [hget i hi] at hx;injection hx with hx;subst hx;exact hl.one (i % P.cellsOf el) _ (by simp [hlt i])
 ·have hin:i<n:=by
   have:=(List.getElem?_eq_some_iff.1 hr).1
   simpa using this
  have hrz:r=z:=List.eq_of_mem_replicate (List.mem_of_getElem? hr);subst hrz
  have hj':j<P.cellsOf el:=by
   have:=(List.getElem?_eq_some_iff.1 hj).1;omega
  have hi:i*P.cellsOf el+j<n*P.cellsOf el:=by
   have:(i+1)*P.cellsOf el≤n*P.cellsOf el:=Nat.mul_le_mul_right _ aa;rw [Nat.add_mul,Nat.one_mul] at this;omega
  rw [hget _ hi] at hx
  have hmod:(i*P.cellsOf el+j) % P.cellsOf el=j:=by
   rw [Nat.add_comm,Nat.add_mul_mod_self_right];exact Nat.mod_eq_of_lt hj'
  rw [hmod] at hx;injection hx with hx;subst hx;exact hl.is j c _ hj (by simp [show j<v.cells.size by omega])
theorem W7 (hr:Rel c hp U σ w) (hN:Free U N) {el:TypeId} {sz:Nat} {ccs:Array Value} {rows:List (List AV)} {cap:Nat} (h:RIs w (z7 c w σ hp) σ hp U sz rows ccs) (hcap:rows.length≤cap) (hfit:cap*sz≤ccs.size)
  (hK:K (.own N 0 rows.length rows.length) ((N,⟨el,sz,rows⟩) :: hp)) :
  Good c K hp U N σ w (.slice (some ⟨w.heap.size,0,none⟩) rows.length cap) (w.alloc (.cells ccs el)):=by
 obtain ⟨r1,r2⟩:=agD hr hN ccs ⟨el,sz,rows⟩ h.one h.row h.len h.is;refine ⟨_,_,_,hK,r1,r2,.own _ _ _ _ _ _ Uy hcap (fun h=>by cases h) fun b hb=>?_⟩;rw [W5,if_pos rfl] at hb;injection hb with hb;subst hb;exact ⟨Nat.le_refl _,fun _=>⟨aa,aa,fun _=>⟨w.heap.size,ab,ab,_,⟨ccs,heap_alloc_new w _,rfl⟩,by simpa using hfit⟩⟩⟩
theorem ab6 (hr:Rel c hp U σ w) (E:∀ x,AIs w (z7 c w σ hp) σ hp U (ev fr x) (a.eval x)) (hN:Free U N) {t:TypeId} {len:Nat} {parts:Array (Nat × Operand)} (hop:o.op=.buildSlice t len parts) (h:A6 P fr hp N (.buildSlice t len parts) K) :
  OpOk P c K hp U N σ w ((execOp a.eval o).run P w):=by
 simp only [A6] at h;unfold Vk at h
 split at h
 ·rename_i el hk
  split at h
  ·rename_i z hz;obtain ⟨hbig,h⟩:=h;obtain ⟨v,i,hi,hz',hs,hne,hzl,hl⟩:=aa7 (w:=w) (S:=z7 c w σ hp) (σ:=σ) (hp:=hp) (U:=U) hz
   split at h
   ·rename_i rows hrows;have hlen:(parts.toList.map fun p=>(p.1,ev fr p.2)).length=(parts.toList.map fun p=>(p.1,a.eval p.2)).length:=by simp
    obtain ⟨cells,h1,h2,h3,h4⟩:=ady hne _ _ _ _ rows hlen (ZD E parts) (VP hl hs hne len) hrows;have hrl:rows.length=len:=by simpa using h4
    have hsz:cells.size=len*P.cellsOf el:=by rw [h3];simp
    have hpl:∀ x:Array (Nat × Operand),(x.map fun p=>(p.1,a.eval p.2)).toList=x.toList.map fun p=>(p.1,a.eval p.2):=by intro x;simp
    have hzero:(if len*P.cellsOf el=0 then pure #[] else (do pure (← zeroValue el).cells):Sem (Array Value)).run P w=.ok (if len*P.cellsOf el=0 then #[] else v.cells) w:=by
     split
     ·rfl
     ·simp [Vn hi hz']
    have hmap:((Array.range (len*P.cellsOf el)).map ((if len*P.cellsOf el=0 then #[] else v.cells)[· % (if len*P.cellsOf el=0 then #[] else v.cells).size]!))=(Array.range (len*P.cellsOf el)).map (v.cells[· % v.cells.size]!):=by
     split
     ·rename_i h0;simp [h0]
     ·rfl
    have hb:(Instr.buildSlice t len (parts.map fun p=>(p.1,a.eval p.2))).run P w=.ok (.slice (some ⟨w.heap.size,0,none⟩) len len) (w.alloc (.cells cells el)):=by
     unfold Instr.buildSlice;have hbig':¬ (len*P.cellsOf el > 2 ^ 24):=aa;simp only [Sem.run_bind,run_underlying (y6 hk),Result.andThen_ok,u7 hne];by_cases h0:len*P.cellsOf el=0
     ·have he:∀ f g:Nat→Value,(Array.range (len*P.cellsOf el)).map f=(Array.range (len*P.cellsOf el)).map g:=by intro f g;rw [h0];simp
      rw [he _ (fun _=>default)] at h1;rw [if_neg hbig'];simp only [Sem.run_bind,if_pos h0,Sem.run_pure,Result.andThen_ok,hpl];rw [he _ (fun _=>default),h1];simp [newRow]
     ·simp only [if_neg hbig',Sem.run_bind,Sem.run_pure,Result.andThen_ok,if_neg h0,Vn hi hz',hpl,h1];simp [newRow]
    have hop':(execOp a.eval o)=(do pure (.value (← Instr.buildSlice t len (parts.map fun p=>(p.1,a.eval p.2)))):Sem Next):=by
     unfold execOp;rw [hop]
    rw [hop'];simp only [Sem.run_bind,hb,Result.andThen_ok,Sem.run_pure];rw [← hrl] at h ⊢;exact W7 hr hN h2 (Nat.le_refl _) (by rw [hsz,hrl];exact Nat.le_refl _) h
   ·exact h.elim
  ·exact h.elim
 ·exact h.elim
theorem L5 (hr:Rel c hp U σ w) {sz:Nat} {v:AV} {x:Value} {xs:List (List AV)} (h:AIs w (z7 c w σ hp) σ hp U v x) (hx:D9 hp sz v=some xs) :
  ∃ A k,x=.slice A xs.length k∧∃ us:Array Value,(Builtin.firstCells sz xs.length x).run P w=.ok us w∧us.size=xs.length*sz∧RIs w (z7 c w σ hp) σ hp U sz xs us∧(0<xs.length→∃ ad,A=some ad∧∀ (m:Nat) (v:Value),us[m]?=some v→w.cell? (ad.add m)=some v):=by
 -- from cells one by one
 have go:∀ A k (hpos:0<xs.length→∃ ad,A=some ad∧∀ (i j:Nat) (r:List AV) (y:AV),xs[i]?=some r→r[j]?=some y→∃ u,w.cell? (ad.add (i*sz+j))=some u∧u.oneCell'=true∧AIs w (z7 c w σ hp) σ hp U y u),
   (∀ r,r ∈ xs→r.length=sz)→∃ us:Array Value,(Builtin.firstCells sz xs.length (.slice A xs.length k)).run P w=.ok us w∧us.size=xs.length*sz∧RIs w (z7 c w σ hp) σ hp U sz xs us∧(0<xs.length→∃ ad,A=some ad∧∀ (m:Nat) (v:Value),us[m]?=some v→w.cell? (ad.add m)=some v):=by
  intro A k hpos hrow;rcases Nat.eq_zero_or_pos xs.length with h0 | h0
  ·have hx0:xs=[]:=List.eq_nil_of_length_eq_zero h0;subst hx0;refine ⟨#[],?_,ab,⟨ab,ab,ab,ab⟩,ab⟩
   cases A <;> simp [Builtin.firstCells,loadCells,loadCellsFrom]
  ·obtain ⟨ad,rfl,hc⟩:=hpos h0
   have hall:∀ m,m<xs.length*sz→∃ u,w.cell? (ad.add m)=some u∧u.oneCell'=true:=by
    intro m hm
    have hsz:0<sz:=by
     rcases Nat.eq_zero_or_pos sz with h | h
     ·rw [h] at hm;omega
     ·exact h
    have hi:m / sz<xs.length:=Nat.div_lt_of_lt_mul (by rw [Nat.mul_comm];exact hm);have hj:m % sz<sz:=Nat.mod_lt _ hsz;have h1:xs[m / sz]?=some xs[m / sz]:=List.getElem?_eq_getElem hi;have h2:m % sz<(xs[m / sz]).length:=by rw [hrow _ (List.getElem_mem hi)];exact hj
    obtain ⟨u,h3,h4,_⟩:=hc (m / sz) (m % sz) _ _ h1 (List.getElem?_eq_getElem h2);refine ⟨u,?_,h4⟩;rw [show m / sz*sz+m % sz=m by rw [Nat.mul_comm];exact Nat.div_add_mod m sz] at h3;exact h3
   let f:Nat→Value:=fun m=>(w.cell? (ad.add m)).getD undef
   have hrun:=run_loadCells (P:=P) w ad (xs.length*sz) f (fun m hm=>by
    obtain ⟨u,hu,_⟩:=hall m hm
    simp [f,hu])
   have hget:∀ m,m<xs.length*sz→(((List.range (xs.length*sz)).map f).toArray)[m]?=some (f m):=by
    intro m hm;simp [hm]
   refine ⟨_,hrun,ab,⟨ab,hrow,fun m y hy=>?_,fun i j r y u hi hj hu=>?_⟩,fun _=>⟨ad,rfl,fun m v hv=>?_⟩⟩
   ·have hm:m<xs.length*sz:=by
     have:=(Array.getElem?_eq_some_iff.1 hy).1
     simpa using this
    rw [hget m hm] at hy;injection hy with hy;subst hy;obtain ⟨u,h1,h2⟩:=hall m hm;simp [f,h1,h2]
   ·obtain ⟨u',h1,_,h3⟩:=hc i j r y hi hj
    have hm:i*sz+j<xs.length*sz:=by
     have:=(Array.getElem?_eq_some_iff.1 hu).1
     simpa using this
    rw [hget _ hm] at hu;injection hu with hu;subst hu;simp only [f,h1,Option.getD_some];exact h3
   ·have hm:m<xs.length*sz:=by
     have:=(Array.getElem?_eq_some_iff.1 hv).1
     simpa using this
    rw [hget m hm] at hv;injection hv with hv;subst hv;obtain ⟨u,h1,h2⟩:=hall m hm;simp [f,h1]
 cases v with
 | nil =>
  simp only [D9] at hx;injection hx with hx;subst hx
  cases h with
  | nil =>
   refine ⟨none,0,rfl,?_⟩;exact go none 0 (fun h=>by simp at h) ab
 | d dv =>
  cases dv with
  | ro e es =>
   simp only [D9] at hx
   split at hx
   ·rename_i he;injection hx with hx;subst hx;subst he
    cases h with
    | d h =>
     cases h with
     | ro _ _ A cap vs hc hel hA hv1 hd =>
      have hl:(es.map fun r=>r.map AV.d).length=es.length:=by simp
      refine ⟨A,cap,by rw [hl],?_⟩
      have:=go A cap (fun hpos=>by
       rw [hl] at hpos;obtain ⟨ad,hA',_⟩:=hA (es[0]'hpos) (List.getElem_mem hpos);refine ⟨ad,hA',fun i j r y hi hj=>?_⟩;simp only [List.getElem?_map,Option.map_eq_some_iff] at hi;obtain ⟨r',hr',rfl⟩:=hi;simp only [List.getElem?_map,Option.map_eq_some_iff] at hj;obtain ⟨y',hy',rfl⟩:=hj
       exact ⟨vs i j,hv1 ad hA' i j r' y' hr' hy',abY (hd i j r' y' hr' hy'),.d (hd i j r' y' hr' hy')⟩) (fun r hr'=>by
       simp only [List.mem_map] at hr';obtain ⟨r',h1,rfl⟩:=hr'
       simpa using hel r' h1)
      rw [hl] at this ⊢;exact this
   ·cases hx
  | _=>cases hx
 | own id i0 len tot =>
  simp only [D9] at hx
  split at hx
  ·rename_i b hb
   split at hx
   ·rename_i hc0;obtain ⟨ht,he⟩:=hc0;injection hx with hx;subst hx
    cases h with
    | own _ _ _ _ A cap hU hl hA0 h' =>
     obtain ⟨h1,h2⟩:=h' b hb;obtain ⟨h3,h4,h5⟩:=h2 ht;have hlen:((b.es.drop i0).take len).length=len:=by simp;omega
     have hel:∀ i r,((b.es.drop i0).take len)[i]?=some r→b.es[i0+i]?=some r:=by
      intro i r h;rw [List.getElem?_take] at h
      split at h
      ·rwa [List.getElem?_drop] at h
      ·cases h
     refine ⟨A,cap,by rw [hlen],?_⟩
     have:=go A cap (fun hpos=>by
      rw [hlen] at hpos;obtain ⟨g,hg,hA',_⟩:=h5 aa;obtain ⟨ccs,k1,k2,k3,k4,k5⟩:=hr.at hb hg;refine ⟨_,hA',fun i j r y hi hj=>?_⟩;have hi':=hel i r hi;have hrl:=k3 r (List.mem_of_getElem? hi');have hjl:=(List.getElem?_eq_some_iff.1 hj).1;have hil:=(List.getElem?_eq_some_iff.1 hi').1
      have hlt:(i0+i)*b.e+j<ccs.size:=by
       have:(i0+i+1)*b.e≤b.es.length*b.e:=Nat.mul_le_mul_right _ aa;rw [Nat.add_mul,Nat.one_mul] at this;omega
      refine ⟨ccs[(i0+i)*b.e+j],?_,k2 _ _ (Array.getElem?_eq_getElem hlt),k5 (i0+i) j r y _ hi' hj (Array.getElem?_eq_getElem hlt)⟩;rw [P3,cell_of_row w _ _ ccs _ _ k1,← he,show i0*b.e+(i*b.e+j)=(i0+i)*b.e+j by rw [Nat.add_mul];omega]
      exact Array.getElem?_eq_getElem hlt) (fun r hr'=>by
      obtain ⟨i,hi⟩:=List.getElem?_of_mem hr';rw [← he]
      have hpos:0<len:=by
       have:=(List.getElem?_eq_some_iff.1 hi).1;omega
      obtain ⟨g,hg,hA',_⟩:=h5 aa;obtain ⟨ccs,k1,k2,k3,k4,k5⟩:=hr.at hb hg
      exact k3 r (List.mem_of_getElem? (hel i r hi)))
     rw [hlen] at this ⊢;exact this
   ·cases hx
  ·cases hx
 | sub id i off e len cap tot =>
  simp only [D9] at hx
  split at hx
  ·rename_i b hb
   split at hx
   ·rename_i row hrow
    split at hx
    ·rename_i hc0;obtain ⟨ht,he⟩:=hc0;injection hx with hx;subst hx;subst he
     cases h with
     | sub _ _ _ _ _ _ _ A hU hl hA0 h' =>
      obtain ⟨h1,h2⟩:=h' b hb;obtain ⟨h3,h4,h5⟩:=h2 ht
      have hrl:0<len→row.length=b.e:=fun hp=>by
       obtain ⟨g,hg,_⟩:=h5 aa;obtain ⟨ccs,k1,k2,k3,k4,k5⟩:=hr.at hb hg;exact k3 _ (List.mem_of_getElem? hrow)
      have hke:∀ k,k<len→off+k*e+e≤b.e:=by
       intro k hk;have h6:(k+1)*e≤len*e:=Nat.mul_le_mul_right _ aa;have h7:len*e≤cap*e:=Nat.mul_le_mul_right _ hl;rw [Nat.add_mul,Nat.one_mul] at h6;omega
      have hlen:((List.range len).map fun k=>(row.drop (off+k*e)).take e).length=len:=by simp
      have hel:∀ k r,((List.range len).map fun k=>(row.drop (off+k*e)).take e)[k]?=some r→k<len∧r=(row.drop (off+k*e)).take e:=by
       intro k r h;have hk:=(List.getElem?_eq_some_iff.1 h).1;rw [hlen] at hk;simp [hk] at h;exact ⟨hk,h.symm⟩
      refine ⟨A,cap,by rw [hlen],?_⟩
      have:=go A cap (fun hpos=>by
       rw [hlen] at hpos;obtain ⟨g,hg,hA'⟩:=h5 aa;obtain ⟨ccs,k1,k2,k3,k4,k5⟩:=hr.at hb hg;have hrl:=hrl hpos;refine ⟨_,hA',fun k j r y hk hj=>?_⟩;obtain ⟨hk1,rfl⟩:=hel k r hk;have hke':=hke k hk1
       have hje:j<e:=by
        have:=(List.getElem?_eq_some_iff.1 hj).1;simp at this;omega
       rw [List.getElem?_take,if_pos hje,List.getElem?_drop] at hj
       have hlt:i*b.e+(off+k*e+j)<ccs.size:=by
        have:(i+1)*b.e≤b.es.length*b.e:=Nat.mul_le_mul_right _ aa;rw [Nat.add_mul,Nat.one_mul] at this;omega
       refine ⟨ccs[i*b.e+(off+k*e+j)],?_,k2 _ _ (Array.getElem?_eq_getElem hlt),k5 i (off+k*e+j) row y _ hrow hj (Array.getElem?_eq_getElem hlt)⟩;rw [P3,cell_of_row w _ _ ccs _ _ k1,show i*b.e+off+(k*e+j)=i*b.e+(off+k*e+j) by omega]
       exact Array.getElem?_eq_getElem hlt) (fun r hr'=>by
       obtain ⟨k,hk⟩:=List.getElem?_of_mem hr';obtain ⟨hk1,rfl⟩:=hel k r hk;have:=hke k hk1;have hrl:=hrl aa;simp
       omega)
      rw [hlen] at this ⊢;exact this
    ·cases hx
   ·cases hx
  ·cases hx
 | _=>cases hx
theorem E7 {isS:Bool} {len cap:Nat} {lo hi:Option Value} {l h:Int} (hlo:lo=none∧l=0 ∨ ∃ k,lo=some (.int k l)) (hhi:hi=none∧h=len ∨ ∃ k,hi=some (.int k h)) (h0:0≤l) (h1:l≤h) (h2:h≤cap) :
  (Instr.sliceBounds isS len cap lo hi none).run P w=.ok (l.toNat,h.toNat,cap) w:=by
 unfold Instr.sliceBounds;rcases hlo with ⟨rfl,rfl⟩ | ⟨k,rfl⟩ <;> rcases hhi with ⟨rfl,rfl⟩ | ⟨k',rfl⟩
 ·simp
 ·simp [Instr.sliceBound,asIntOf,show 0≤h∧h≤cap by omega]
 ·simp [Instr.sliceBound,asIntOf,show 0≤l∧l≤(len:Int) by omega]
 ·have:l≤max h 0:=aa;simp [Instr.sliceBound,asIntOf,show 0≤h∧h≤cap by omega,h0,this]
theorem N7 {U:Nat→Prop} (E:∀ x,AIs w S σ hp U (ev fr x) (a.eval x)) {d l:Int} {x:Option Operand} (h:bnd fr d x=some l):x.map a.eval=none∧l=d ∨ ∃ k,x.map a.eval=some (.int k l):=by
 cases x with
 | none=>simp only [bnd,Option.some.injEq] at h;exact .inl ⟨rfl,h.symm⟩
 | some x =>
  simp only [bnd] at h;have hx:=E x;unfold AV.num at h
  split at h
  ·rename_i k n he;injection h with h;subst h;rw [he] at hx;exact .inr ⟨k,by simp [J5 hx]⟩
  ·cases h
theorem amG (hr:Rel c hp U σ w) (E:∀ x,AIs w (z7 c w σ hp) σ hp U (ev fr x) (a.eval x)) {t:TypeId} {x:Operand} {lo hi:Option Operand} (hop:o.op=.slice t x lo hi none) (h:A6 P fr hp N (.slice t x lo hi none) K) :
  OpOk P c K hp U N σ w ((execOp a.eval o).run P w):=by
 simp only [A6] at h
 have run:∀ v,(Instr.sliceAt t (a.eval x) (lo.map a.eval) (hi.map a.eval) none).run P w=.ok v w→(execOp a.eval o).run P w=.ok (.value v) w:=by
  intro v hv;simp [execOp,hop,hv]
 have hx:=E x;generalize hxv:a.eval x=xv at hx run;generalize hxa:ev fr x=xa at hx h;generalize hlo:bnd fr 0 lo=blo at h;generalize hhi:bnd fr (xa.topLen (B7 P t)) hi=bhi at h;generalize hk:B7 P t=k at h hhi;unfold Rp at h
 split at h
 ·
  rename_i el l hh;obtain ⟨hz,rfl,rfl,h⟩:=h;have hb:=E7 (P:=P) (w:=w) (isS:=true) (len:=0) (cap:=0) (N7 E hlo) (N7 E hhi) aa aa aa
  cases hx with
  | nil =>
   refine OpOk.val (run (.slice none 0 0) ?_) (Good.same hr h .nil);simp [Instr.sliceAt,Instr.slice,run_underlying (y6 hk),hb,u7 hz]
 ·
  rename_i e es el l hh;obtain ⟨hz,he,h0,h1,h2,h⟩:=h
  cases hx with
  | d hx =>
   cases hx with
   | ro _ _ A cap vs hc hel hA hv1 hd =>
    have hb:=E7 (P:=P) (w:=w) (isS:=true) (len:=es.length) (cap:=cap) (N7 E hlo) (N7 E hhi) h0 h1 aa;refine OpOk.val (run (.slice (if cap=l.toNat then A else A.map (·.add (l.toNat*P.cellsOf el))) (hh.toNat - l.toNat) (cap - l.toNat)) ?_) (Good.same hr h (.d ?_))
    ·simp [Instr.sliceAt,Instr.slice,run_underlying (y6 hk),hb,u7 hz]
    ·have hlen:((es.take hh.toNat).drop l.toNat).length=hh.toNat - l.toNat:=by simp;omega
     have hel':∀ (i:Nat) (r:List DV),((es.take hh.toNat).drop l.toNat)[i]?=some r→es[l.toNat+i]?=some r:=by
      intro i r hi;rw [List.getElem?_drop,List.getElem?_take] at hi
      split at hi
      ·exact hi
      ·cases hi
     have hne:∀ (i:Nat) (r:List DV),((es.take hh.toNat).drop l.toNat)[i]?=some r→cap ≠ l.toNat:=by
      intro i r hi;have:=(List.getElem?_eq_some_iff.1 hi).1;omega
     rw [← hlen];refine .ro e _ _ _ (fun i j=>vs (l.toNat+i) j) aa (fun r hr'=>?_) (fun r hr'=>?_) (fun ad hAd i j r y hi hj=>?_) (fun i j r y (hi:((es.take hh.toNat).drop l.toNat)[i]?=some r) hj=>hd _ j r y (hel' i r hi) hj)
     ·obtain ⟨i,hi⟩:=List.getElem?_of_mem hr';exact hel r (List.mem_of_getElem? (hel' i r hi))
     ·obtain ⟨i,hi⟩:=List.getElem?_of_mem hr';obtain ⟨ad,k1,k2⟩:=hA r (List.mem_of_getElem? (hel' i r hi));rw [if_neg (hne i r hi),k1];exact ⟨_,rfl,by rw [K3];exact k2⟩
     ·rw [if_neg (hne i r hi)] at hAd;obtain ⟨ad',k1,rfl⟩:=Option.map_eq_some_iff.1 hAd;rw [TM,← he,show l.toNat*e+(i*e+j)=(l.toNat+i)*e+j by rw [Nat.add_mul];omega];exact hv1 ad' k1 _ j r y (hel' i r hi) hj
 ·
  rename_i id i0 len tot el l hh
  split at h
  ·rename_i b hb';obtain ⟨hz,he,h0,h1,h2,h⟩:=h
   cases hx with
   | own _ _ _ _ A cap hU hl hA0 h' =>
    have hb:=E7 (P:=P) (w:=w) (isS:=true) (len:=len) (cap:=cap) (N7 E hlo) (N7 E hhi) h0 h1 aa;refine OpOk.val (run (.slice (if cap=l.toNat then A else A.map (·.add (l.toNat*P.cellsOf el))) (hh.toNat - l.toNat) (cap - l.toNat)) ?_) (Good.same hr h ?_)
    ·simp [Instr.sliceAt,Instr.slice,run_underlying (y6 hk),hb,u7 hz]
    ·refine .own _ _ _ _ _ _ hU aa (fun hA=>?_) fun b1 hb1=>?_
     ·split at hA
      ·have:=hA0 hA;omega
      ·rw [Option.map_eq_none_iff] at hA;have:=hA0 hA;omega
     ·rw [hb'] at hb1;injection hb1 with hb1;subst hb1;obtain ⟨k1,k2⟩:=h' b hb';refine ⟨k1,fun ht=>?_⟩;obtain ⟨k3,k4,k5⟩:=k2 ht;refine ⟨aa,aa,fun hc=>?_⟩;obtain ⟨g,hg,hA',n,k6,k7⟩:=k5 aa;refine ⟨g,hg,?_,n,k6,by rw [show i0+l.toNat+(cap - l.toNat)=i0+cap by omega];exact k7⟩;rw [if_neg aa,hA',Option.map_some,P3,← he,Nat.add_mul]
  ·exact h.elim
 ·
  rename_i id i off e len cap tot el l hh;obtain ⟨hz,he,h0,h1,h2,h⟩:=h
  cases hx with
  | sub _ _ _ _ _ _ _ A hU hl hA0 h' =>
   have hb:=E7 (P:=P) (w:=w) (isS:=true) (len:=len) (cap:=cap) (N7 E hlo) (N7 E hhi) h0 h1 aa;refine OpOk.val (run (.slice (if cap=l.toNat then A else A.map (·.add (l.toNat*P.cellsOf el))) (hh.toNat - l.toNat) (cap - l.toNat)) ?_) (Good.same hr h ?_)
   ·simp [Instr.sliceAt,Instr.slice,run_underlying (y6 hk),hb,u7 hz]
   ·refine .sub _ _ _ _ _ _ _ _ hU aa (fun hA=>?_) fun b1 hb1=>?_
    ·split at hA
     ·have:=hA0 hA;omega
     ·rw [Option.map_eq_none_iff] at hA;have:=hA0 hA;omega
    ·obtain ⟨k1,k2⟩:=h' b1 hb1;refine ⟨k1,fun ht=>?_⟩;obtain ⟨k3,k4,k5⟩:=k2 ht
     have hle:off+l.toNat*e+(cap - l.toNat)*e=off+cap*e:=by
      rw [Nat.add_assoc,← Nat.add_mul,show l.toNat+(cap - l.toNat)=cap by omega]
     refine ⟨k3,aa,fun hc=>?_⟩;obtain ⟨g,hg,hA'⟩:=k5 aa;refine ⟨g,hg,?_⟩;rw [if_neg aa,hA',Option.map_some,P3,← he,Nat.add_assoc]
 ·
  rename_i id i off tot n el l hh
  split at h
  ·rename_i b hb';obtain ⟨hz,hfit,hi',h0,h1,h2,h⟩:=h
   cases hx with
   | ptr _ _ _ _ ad hU h' =>
    have hb:=E7 (P:=P) (w:=w) (isS:=false) (len:=n) (cap:=n) (N7 E hlo) (N7 E hhi) h0 h1 aa;refine OpOk.val (run (.slice (some (if n=l.toNat then ad else ad.add (l.toNat*P.cellsOf el))) (hh.toNat - l.toNat) (n - l.toNat)) ?_) (Good.same hr h ?_)
    ·simp [Instr.sliceAt,Instr.sureAddr,run_underlying (RL hk),hb,u7 hz]
    ·refine .sub _ _ _ _ _ _ _ _ hU aa (fun hA=>by cases hA) fun b1 hb1=>?_;rw [hb'] at hb1;injection hb1 with hb1;subst hb1;obtain ⟨k1,k2⟩:=h' b hb';refine ⟨k1,fun ht=>?_⟩;obtain ⟨g,hg,hA'⟩:=k2 ht
     have hle:off+l.toNat*P.cellsOf el+(n - l.toNat)*P.cellsOf el=off+n*P.cellsOf el:=by
      rw [Nat.add_assoc,← Nat.add_mul,show l.toNat+(n - l.toNat)=n by omega]
     refine ⟨aa,aa,fun hc=>⟨g,hg,?_⟩⟩;rw [if_neg aa,hA',P3,Nat.add_assoc]
  ·exact h.elim
 ·
  rename_i cs n el l hh;obtain ⟨hz,hfit,h0,h1,h2,h⟩:=h
  cases hx with
  | rop _ ad vs hS hv hd =>
   have hb:=E7 (P:=P) (w:=w) (isS:=false) (len:=n) (cap:=n) (N7 E hlo) (N7 E hhi) h0 h1 aa;refine OpOk.val (run (.slice (some (if n=l.toNat then ad else ad.add (l.toNat*P.cellsOf el))) (hh.toNat - l.toNat) (n - l.toNat)) ?_) (Good.same hr h (.d ?_))
   ·simp [Instr.sliceAt,Instr.sureAddr,run_underlying (RL hk),hb,u7 (by omega:P.cellsOf el ≠ 0)]
   ·have hlen:(((cs.take hh.toNat).drop l.toNat).map fun c=>[c]).length=hh.toNat - l.toNat:=by simp;omega
    have hel':∀ (i:Nat) (r:List DV),(((cs.take hh.toNat).drop l.toNat).map fun c=>[c])[i]?=some r→i<hh.toNat - l.toNat∧∃ c,cs[l.toNat+i]?=some c∧r=[c]:=by
     intro i r hi;have hi2:=(List.getElem?_eq_some_iff.1 hi).1;rw [hlen] at hi2;rw [List.getElem?_map,List.getElem?_drop,List.getElem?_take] at hi
     split at hi
     ·cases hc:cs[l.toNat+i]? with
      | none=>rw [hc] at hi;cases hi
      | some c =>
       rw [hc] at hi;simp only [Option.map_some,Option.some.injEq] at hi;exact ⟨hi2,c,rfl,hi.symm⟩
     ·cases hi
    rw [← hlen];refine .ro 1 _ _ _ (fun i _=>vs (l.toNat+i)) aa (fun r hr'=>?_) (fun r hr'=>?_) (fun ad' hAd i j r y hi hj=>?_) (fun i j r y hi hj=>?_)
    ·obtain ⟨i,hi⟩:=List.getElem?_of_mem hr';obtain ⟨_,c,_,rfl⟩:=hel' i r hi;rfl
    ·obtain ⟨i,hi⟩:=List.getElem?_of_mem hr';obtain ⟨h3,_⟩:=hel' i r hi;rw [if_neg aa];exact ⟨_,rfl,by rw [K3];exact hS⟩
    ·obtain ⟨h3,c,h4,rfl⟩:=hel' i r hi;rw [if_neg aa] at hAd;injection hAd with hAd;subst hAd
     cases j with
     | succ j=>simp at hj
     | zero =>
      simp only [List.getElem?_cons_zero,Option.some.injEq] at hj;subst hj;rw [TM,hz,show l.toNat*1+(i*1+0)=l.toNat+i by omega];exact hv _ _ h4
    ·obtain ⟨h3,c,h4,rfl⟩:=hel' i r hi
     cases j with
     | succ j=>simp at hj
     | zero =>
      simp only [List.getElem?_cons_zero,Option.some.injEq] at hj;subst hj;exact hd _ _ h4
 ·
  rename_i bs l hh;obtain ⟨h0,h1,h2,h⟩:=h
  cases hx with
  | d hx =>
   cases hx with
   | str s =>
    have hl:(s.data.toList.map fun c=>(c.toNat:Int)).length=s.size:=by simp
    rw [hl] at h2;have hhi':=N7 E hhi;simp only [AV.topLen,hl] at hhi';have hb:=E7 (P:=P) (w:=w) (isS:=false) (len:=s.size) (cap:=s.size) (N7 E hlo) hhi' h0 h1 aa;refine OpOk.val (run (.string (s.extract l.toNat hh.toNat)) ?_) (Good.same hr h (.d ?_))
    ·simp [Instr.sliceAt,Instr.slice,run_underlying (VL hk),hb]
    ·have e:((s.data.toList.map fun c=>(c.toNat:Int)).take hh.toNat).drop l.toNat=(s.extract l.toNat hh.toNat).data.toList.map fun c=>(c.toNat:Int):=by
      rw [ByteArray.data_extract,Array.toList_extract,List.extract_eq_take_drop,← List.map_take,← List.map_drop,List.drop_take]
     rw [e];exact .str _
 ·exact h.elim
end
end Go.Am
namespace Go.Am
section
variable {P:Program} {c:Ctx} {K:AV→Hp→Prop} {fr:Fr} {hp:Hp} {U:Nat→Prop} {N:Nat} {σ:Nat→Option Nat} {w:World} {a:Act} {o:Oper} {S:Nat→Prop}
theorem C2:Step w (z7 c w σ hp) σ hp U w.drew (z7 c w.drew σ hp) σ hp U :=
 ⟨fun _ h=>h,fun _ _=>rfl,fun _ h=>h,fun id b' _ h=>⟨b',h,rfl,rfl,Nat.le_refl _,fun _ g hg=>⟨hg,fun _ h=>h⟩⟩⟩
theorem Sz (hr:Rel c hp U σ w):Rel c hp U σ w.drew:=by
 refine ⟨hr.inj,hr.lt,fun i b h=>?_,hr.mine,hr.os,hr.tape,hr.output,hr.size,hr.old⟩;rcases hr.blk i b h with h0 | ⟨g,hg,hb⟩
 ·exact .inl ⟨h0.1,h0.2.keep fun _ _ _ _=>rfl⟩
 ·exact .inr ⟨g,hg,hb.step C2 rfl⟩
theorem SA {sz:Nat} {r1 r2:List (List AV)} {x1 x2 rest:Array Value} (h1:RIs w S σ hp U sz r1 x1) (hx1:x1.size=r1.length*sz) (h2:RIs w S σ hp U sz r2 x2) (hr:∀ (i:Nat) (x:Value),rest[i]?=some x→x.oneCell'=true) :
  RIs w S σ hp U sz (r1 ++ r2) (x1 ++ x2 ++ rest):=by
 have l1:=h1.len;have l2:=h2.len;refine ⟨by simp [Nat.add_mul];omega,fun r hr'=>?_,fun i x hx=>?_,fun i j r y x hi hj hx=>?_⟩
 ·rcases List.mem_append.1 hr' with h | h
  ·exact h1.row r h
  ·exact h2.row r h
 ·rw [Array.getElem?_append] at hx
  split at hx
  ·rw [Array.getElem?_append] at hx
   split at hx
   ·exact h1.one _ _ hx
   ·exact h2.one _ _ hx
  ·exact hr _ _ hx
 ·rw [List.getElem?_append] at hi
  split at hi
  ·rename_i hlt
   have hjl:j<sz:=by
    have:=(List.getElem?_eq_some_iff.1 hj).1;rw [h1.row r (List.mem_of_getElem? hi)] at this;exact this
   have hlt2:i*sz+j<x1.size:=by
    have:(i+1)*sz≤r1.length*sz:=Nat.mul_le_mul_right _ aa;rw [Nat.add_mul,Nat.one_mul] at this;omega
   rw [Array.getElem?_append,if_pos (by simp;omega),Array.getElem?_append,if_pos hlt2] at hx;exact h1.is i j r y x hi hj hx
  ·rename_i hge
   have hjl:j<sz:=by
    have:=(List.getElem?_eq_some_iff.1 hj).1;rw [h2.row r (List.mem_of_getElem? hi)] at this;exact this
   have hil:=(List.getElem?_eq_some_iff.1 hi).1
   have hm:(i - r1.length)*sz+j<r2.length*sz:=by
    have:(i - r1.length+1)*sz≤r2.length*sz:=Nat.mul_le_mul_right _ aa;rw [Nat.add_mul,Nat.one_mul] at this;omega
   have hsub:i*sz=r1.length*sz+(i - r1.length)*sz:=by
    rw [← Nat.add_mul];congr 1;omega
   rw [Array.getElem?_append,if_pos (by simp;omega),Array.getElem?_append,if_neg aa] at hx;rw [show i*sz+j - x1.size=(i - r1.length)*sz+j by omega] at hx;exact h2.is _ j r y x hi hj hx
section
variable {ts tx ty el el2:TypeId} {i:TypeInfo} {z:Value}
theorem UB (hts:P.underlying ts=some (.slice el)) (htx:P.underlying tx=some (.slice el2)) (hi:P.info? el=some i) {base:Option Addr} {sLen sCap n k:Nat} {B:Option Addr} {us:Array Value} {w':World}
  (hf:(Builtin.firstCells i.size n (.slice B n k)).run P w=.ok us w) (hneed:sLen+n≤sCap) (hsto:(match base with | some a=>storeCells (a.add (sLen*i.size)) us.toList | none=>pure ()).run P w=.ok () w') :
  (Builtin.append_ #[ts,tx] ty #[.slice base sLen sCap,.slice B n k]).run P w=.ok (.slice base (sLen+n) sCap) w':=by
 cases base with
 | none =>
  simp at hsto;subst hsto;simp [Builtin.append_,run_underlying hts,run_underlying htx,sizeOf,typeInfo,hi,Builtin.lenOf,hneed,hf]
 | some ad =>
  simp only at hsto;simp [Builtin.append_,run_underlying hts,run_underlying htx,sizeOf,typeInfo,hi,Builtin.lenOf,hneed,hf,hsto]
theorem RO (hts:P.underlying ts=some (.slice el)) (htx:P.underlying tx=some (.slice el2)) (hi:P.info? el=some i) (hz:i.zero=some z) {base:Option Addr} {sLen sCap n k:Nat} {B:Option Addr} {us os:Array Value}
  (hf:(Builtin.firstCells i.size n (.slice B n k)).run P w.drew=.ok us w.drew) (hfo:(Builtin.firstCells i.size sLen (.slice base sLen sCap)).run P w.drew=.ok os w.drew) (hneed:sCap<sLen+n) (hb:i.bytes ≠ 0) (hfit:(sLen+n)*i.bytes≤140737488355328) :
  (Builtin.append_ #[ts,tx] ty #[.slice base sLen sCap,.slice B n k]).run P w=.ok (.slice (some ⟨w.heap.size,0,none⟩) (sLen+n) (grownCap w (sLen+n) sCap el))
    (w.drew.alloc (.cells (os ++ us ++ Builtin.zeroCells z.cells (grownCap w (sLen+n) sCap el - (sLen+n))) el)):=by
 have hn:¬ (sLen+n≤sCap):=aa
 have h48':¬ (281474976710656<Builtin.nextslicecap (sLen+n) sCap*i.bytes):=by
  have:=growslice_fits hneed hfit;omega
 simp [Builtin.append_,run_underlying hts,run_underlying htx,sizeOf,typeInfo,zeroValue,hi,hz,Builtin.lenOf,hn,hb,h48',Question.forced,hf,hfo,newRow,grownCap]
end
theorem VQ {id:Nat} {b:Blk}:∀ {hp:Hp},lk id hp=some b→A0 id b hp=hp
 | [],h=>by cases h
 | (m,v) :: t,h=>by
  simp only [lk] at h;simp only [A0]
  split at h
  ·rename_i e;injection h with h;subst h;rw [if_pos e]
  ·rename_i e;rw [if_neg e,VQ h]
theorem adz (hr:Rel c hp U σ w) {id g len cap:Nat} {b:Blk} {xs es':List (List AV)} {us ccs:Array Value} (hb:lk id hp=some b) (hg:σ id=some g) (m1:w.heap[g]?=some (.cells ccs b.ty (0,0)))
  (hri:RIs w (z7 c w σ hp) σ hp U b.e xs us) (hul:us.size=xs.length*b.e) (hcm:cap*b.e≤ccs.size) (hneed:len+xs.length≤cap) (hle:b.es.length≤es'.length) (hcap:es'.length≤cap) (hlen3:len+xs.length≤es'.length)
  (hes:∀ k r,es'[k]?=some r→(k<len∧b.es[k]?=some r) ∨ (len≤k∧k<len+xs.length∧xs[k - len]?=some r) ∨ (len+xs.length≤k∧b.es[k]?=some r))
  (hU:U id) (hK:K (.own id 0 (len+xs.length) es'.length) (A0 id ⟨b.ty,b.e,es'⟩ hp)) :
  Good c K hp U N σ w (.slice (some ⟨g,0,none⟩) (len+xs.length) cap) (w.setRow g (ccs.toList.take (len*b.e) ++ us.toList ++ ccs.toList.drop (len*b.e+us.toList.length)).toArray):=by
 obtain ⟨cc,q1,m2,m3,m4,m5⟩:=hr.at hb hg;rw [m1] at q1;injection q1 with q1;injection q1 with q1;subst q1;have hle1:(len+xs.length)*b.e≤cap*b.e:=Nat.mul_le_mul_right _ hneed;rw [Nat.add_mul] at hle1;have hull:us.toList.length=xs.length*b.e:=by simpa using hul
 have hnth:∀ m,(ccs.toList.take (len*b.e) ++ us.toList ++ ccs.toList.drop (len*b.e+us.toList.length)).toArray[m]? =
   if m<len*b.e then ccs[m]? else if m<len*b.e+xs.length*b.e then us[m - len*b.e]? else ccs[m]?:=by
  intro m;simp only [List.getElem?_toArray,List.append_assoc];rw [List.getElem?_append];have hlt:(ccs.toList.take (len*b.e)).length=len*b.e:=by simp;omega
  rw [hlt];by_cases hm:m<len*b.e
  ·simp [hm]
  ·rw [if_neg hm,if_neg hm,List.getElem?_append];by_cases hm2:m<len*b.e+xs.length*b.e
   ·rw [if_pos aa,if_pos hm2,Array.getElem?_toList]
   ·rw [if_neg aa,if_neg hm2,List.getElem?_drop,Array.getElem?_toList];congr 1;omega
 have hrow:∀ r,r ∈ es'→r.length=b.e:=by
  intro r hr';obtain ⟨k,hk⟩:=List.getElem?_of_mem hr';rcases hes k r hk with ⟨_,h1⟩ | ⟨_,_,h1⟩ | ⟨_,h1⟩
  ·exact m3 r (List.mem_of_getElem? h1)
  ·exact hri.row r (List.mem_of_getElem? h1)
  ·exact m3 r (List.mem_of_getElem? h1)
 have hszn:(ccs.toList.take (len*b.e) ++ us.toList ++ ccs.toList.drop (len*b.e+us.toList.length)).toArray.size=ccs.size:=by
  simp only [List.size_toArray,List.length_append,List.length_take,List.length_drop,hull,Array.length_toList];omega
 have hcapm:es'.length*b.e≤cap*b.e:=Nat.mul_le_mul_right _ hcap
 obtain ⟨r1,r2⟩:=ZA hr (b':=⟨b.ty,b.e,es'⟩) hb hg rfl rfl hle ccs _ (by rw [hszn];exact Nat.le_trans hcapm hcm) m1 hszn
  (fun m y hy=>by
   rw [hnth] at hy
   split at hy
   ·exact m2 m y hy
   ·split at hy
    ·exact hri.one _ y hy
    ·exact m2 m y hy)
  hrow
  (fun k j r y u a1 a2 a3=>by
   have hj:j<b.e:=by
    have:=(List.getElem?_eq_some_iff.1 a2).1;rw [hrow r (List.mem_of_getElem? a1)] at this;exact this
   rw [hnth] at a3;rcases hes k r a1 with ⟨q1,q2⟩ | ⟨q0,q1,q2⟩ | ⟨q1,q2⟩
   ·have:(k+1)*b.e≤len*b.e:=Nat.mul_le_mul_right _ aa;rw [Nat.add_mul,Nat.one_mul] at this;rw [if_pos aa] at a3;exact m5 k j r y u q2 a2 a3
   ·have e1:k*b.e=len*b.e+(k - len)*b.e:=by rw [← Nat.add_mul];congr 1;omega
    have e2:(k - len+1)*b.e≤xs.length*b.e:=Nat.mul_le_mul_right _ aa;rw [Nat.add_mul,Nat.one_mul] at e2;rw [if_neg aa,if_pos aa,show k*b.e+j - len*b.e=(k - len)*b.e+j by omega] at a3;exact hri.is (k - len) j r y u q2 a2 a3
   ·have e1:(len+xs.length)*b.e≤k*b.e:=Nat.mul_le_mul_right _ q1;rw [Nat.add_mul] at e1;rw [if_neg aa,if_neg aa] at a3
    exact m5 k j r y u q2 a2 a3)
 refine ⟨_,_,_,hK,r1.more,r2.trans Step.more,.own _ _ _ _ _ _ (.inl hU) hneed (fun h=>by cases h) fun b1 hb1=>?_⟩;rw [TL,if_pos rfl,hb] at hb1;simp only [Option.map_some,Option.some.injEq] at hb1;subst hb1;refine ⟨Nat.le_refl _,fun _=>⟨aa,aa,fun _=>⟨g,hg,ab,ccs.size,⟨_,setRow_heap w g ccs _ b.ty (0,0) m1,hszn⟩,by simp only [Nat.zero_add];exact hcm⟩⟩⟩
theorem VR {w':World} (hr:Rel c hp U σ w) (hb:RowKit.Below w.heap.size w w') :
  Rel c hp (I6 U N) σ w'∧Step w (z7 c w σ hp) σ hp U w' (z7 c w' σ hp) σ hp (I6 U N):=by
 have hst:Step w (z7 c w σ hp) σ hp U w' (z7 c w' σ hp) σ hp (I6 U N):=by
  refine ⟨fun b h=>⟨⟨Nat.lt_of_lt_of_le h.1.1 hb.size,h.1.2⟩,h.2⟩,fun p h=>hb.cell h.1.1,fun _ h=>.inl h,fun id b' _ h=>⟨b',h,rfl,rfl,Nat.le_refl _,fun _ g hg=>⟨hg,fun n hn=>?_⟩⟩⟩;obtain ⟨ccs,h1,h2⟩:=hn;exact ⟨ccs,(hb.block _ (H4 (hr.at h hg))).trans h1,h2⟩
 refine ⟨⟨hr.inj,fun i b h=>.inl (hr.lt i b h),fun i b h=>?_,hr.mine,hb.os.trans hr.os,hb.tape.trans hr.tape,hb.output.trans hr.output,Nat.le_trans hr.size hb.size,fun b h1 h2=>?_⟩,hst⟩
 ·rcases hr.blk i b h with h0 | ⟨g,k1,k2⟩
  ·exact .inl ⟨h0.1,h0.2.keep fun _ _ _ hm=>hb.block _ (Zx hm)⟩
  ·exact .inr ⟨g,k1,k2.step hst (hb.block _ (H4 k2))⟩
 ·rw [hb.block b (Nat.lt_of_lt_of_le h1 hr.size)];exact hr.old b h1 h2
theorem ajg (w:World) (C:Array Value) (t:TypeId) (j:Nat) (v:Value) (hj:C[j]?=some v):(w.alloc (.cells C t)).cell? ⟨w.heap.size,j,none⟩=some v:=by
 have:=heap_alloc_new w (.cells C t);simp only [World.cell?,this]
 simpa using hj
theorem asi (hr:Rel c hp U σ w) {es:List (List DV)} {e cap:Nat} {C:Array Value} {w':World} (hb:RowKit.Below w.heap.size w w') (hsz:w.heap.size<w'.heap.size)
  (hcell:∀ (j:Nat) (v:Value),C[j]?=some v→w'.cell? ⟨w.heap.size,j,none⟩=some v) (hrow:∀ r,r ∈ es→r.length=e) (hlen:es.length*e≤C.size) (hcap:es.length≤cap)
  (his:∀ (i j:Nat) (r:List DV) (y:DV) (x:Value),es[i]?=some r→r[j]?=some y→C[i*e+j]?=some x→DIs w (z7 c w σ hp) y x) (hK:K (.d (.ro e es)) hp) :
  Good c K hp U N σ w (.slice (some ⟨w.heap.size,0,none⟩) es.length cap) w':=by
 obtain ⟨r1,r2⟩:=VR (N:=N) hr hb
 have hin:∀ (i j:Nat) (r:List DV) (y:DV),es[i]?=some r→r[j]?=some y→i*e+j<C.size:=by
  intro i j r y hi hj;have h1:=(List.getElem?_eq_some_iff.1 hi).1;have h2:=(List.getElem?_eq_some_iff.1 hj).1;rw [hrow r (List.mem_of_getElem? hi)] at h2;have h3:(i+1)*e≤es.length*e:=Nat.mul_le_mul_right _ h1;rw [Nat.add_mul,Nat.one_mul] at h3;omega
 refine ⟨.d (.ro e es),hp,σ,hK,r1,r2,.d (.ro e es _ cap (fun i j=>C[i*e+j]!) hcap hrow (fun r hr'=>⟨_,rfl,⟨⟨hsz,fun id blk g hi hg=>?_⟩,.inr hr.size⟩⟩) (fun ad hAd i j r y hi hj=>?_) fun i j r y hi hj=>?_)⟩
 ·exact Nat.ne_of_gt (H4 (hr.at hi hg))
 ·injection hAd with hAd;subst hAd;rw [P3,Nat.zero_add];have:=hin i j r y hi hj;exact hcell _ _ (by simp [this])
 ·have h0:=hin i j r y hi hj;exact (his i j r y (C[i*e+j]!) hi hj (by simp [h0])).mono (fun b h=>r2.sub b h) (fun p h=>r2.cell p h)
theorem amH {len:Nat} {es xs:List (List AV)} (hl:len≤es.length) (k:Nat) (r:List AV) (hk:(es.take len ++ (xs ++ es.drop (len+xs.length)))[k]?=some r) :
  (k<len∧es[k]?=some r) ∨ (len≤k∧k<len+xs.length∧xs[k - len]?=some r) ∨ (len+xs.length≤k∧es[k]?=some r):=by
 rw [List.getElem?_append] at hk;have hlt:(es.take len).length=len:=by simp;omega
 rw [hlt] at hk
 split at hk
 ·rename_i hkl;rw [List.getElem?_take,if_pos hkl] at hk;exact .inl ⟨hkl,hk⟩
 ·rename_i hkl;rw [List.getElem?_append] at hk
  split at hk
  ·exact .inr (.inl ⟨aa,aa,hk⟩)
  ·rw [List.getElem?_drop] at hk;refine .inr (.inr ⟨aa,?_⟩);rw [show k=len+xs.length+(k - len - xs.length) by omega];exact hk
theorem ajh {len:Nat} {es xs:List (List AV)} (hl:len≤es.length) (k:Nat) (r:List AV) (hk:(es.take len ++ xs)[k]?=some r) :
  (k<len∧es[k]?=some r) ∨ (len≤k∧k<len+xs.length∧xs[k - len]?=some r) ∨ (len+xs.length≤k∧es[k]?=some r):=by
 rw [List.getElem?_append] at hk;have hlt:(es.take len).length=len:=by simp;omega
 rw [hlt] at hk
 split at hk
 ·rename_i hkl;rw [List.getElem?_take,if_pos hkl] at hk;exact .inl ⟨hkl,hk⟩
 ·rename_i hkl;have:=(List.getElem?_eq_some_iff.1 hk).1;exact .inr (.inl ⟨aa,aa,hk⟩)
/-- append to a row of the call's own;what is appended comes from anywhere. -/
theorem agH (hr:Rel c hp U σ w) {el:TypeId} {id len tot:Nat} {xs:List (List AV)} {b:Blk} {sv:Value} {i:TypeInfo} {z:Value} (hss:AIs w (z7 c w σ hp) σ hp U (.own id 0 len tot) sv) (hb:lk id hp=some b)
  (ht1:b.es.length=tot) (ht2:b.ty=el) (ht3:b.e=P.cellsOf el)
  (hst:len+xs.length≤tot→K (.own id 0 (len+xs.length) tot) (A0 id ⟨b.ty,b.e,b.es.take len ++ (xs ++ b.es.drop (len+xs.length))⟩ hp))
  (hgr:tot<len+xs.length→K (.own id 0 (len+xs.length) (len+xs.length)) (A0 id ⟨b.ty,b.e,b.es.take len ++ xs⟩ hp))
  (hisz:i.size=P.cellsOf el) (hzsz:z.cells.size=P.cellsOf el) (hne:P.cellsOf el ≠ 0) (hz1:∀ (n:Nat) (v:Value),z.cells[n]?=some v→v.oneCell'=true)
  (zone:∀ (z:Value) (m:Nat),(∀ (n:Nat) (v:Value),z.cells[n]?=some v→v.oneCell'=true)→z.cells.size ≠ 0→∀ (n:Nat) (v:Value),(Builtin.zeroCells z.cells m)[n]?=some v→v.oneCell'=true)
  (hstay:∀ A cap,sv=.slice A len cap→len+xs.length≤cap→∃ us:Array Value,us.size=xs.length*P.cellsOf el∧RIs w (z7 c w σ hp) σ hp U (P.cellsOf el) xs us∧∀ w',(match A with | some ad=>storeCells (ad.add (len*i.size)) us.toList | none=>pure ()).run P w=.ok () w'→(execOp a.eval o).run P w=.ok (.value (.slice A (len+xs.length) cap)) w')
  (hgrow:∀ A cap os,sv=.slice A len cap→¬ (len+xs.length≤cap)→(Builtin.firstCells i.size len (.slice A len cap)).run P w.drew=.ok os w.drew→∃ us:Array Value,us.size=xs.length*P.cellsOf el∧RIs w.drew (z7 c w.drew σ hp) σ hp U (P.cellsOf el) xs us ∧
   (execOp a.eval o).run P w=.ok (.value (.slice (some ⟨w.heap.size,0,none⟩) (len+xs.length) (grownCap w (len+xs.length) cap el))) (w.drew.alloc (.cells (os ++ us ++ Builtin.zeroCells z.cells (grownCap w (len+xs.length) cap el - (len+xs.length))) el))) :
  OpOk P c K hp U N σ w ((execOp a.eval o).run P w):=by
 have hss':=hss
 cases hss with
 | own _ _ _ _ A cap hU hl hA0 h' =>
  obtain ⟨k1,k2⟩:=h' b hb;obtain ⟨k3,k4,k5⟩:=k2 ht1;by_cases hneed:len+xs.length≤cap
  ·obtain ⟨us,hul,hri,hgo⟩:=hstay A cap rfl hneed;rcases Nat.eq_zero_or_pos xs.length with h0 | h0
   ·
    have hx0:xs=[]:=List.eq_nil_of_length_eq_zero h0;subst hx0;have hu0:us=#[]:=Array.eq_empty_of_size_eq_zero (by simpa using hul);subst hu0;have hr0:=hgo w (by cases A <;> simp [storeCells]);have hh:=hst (by simp;omega);simp only [List.length_nil,Nat.add_zero,List.nil_append,List.take_append_drop] at hh;rw [VQ (b:=⟨b.ty,b.e,b.es⟩) hb] at hh;exact OpOk.val hr0 (Good.same hr hh hss')
   ·obtain ⟨g,hg,hA,n,hrn,hn⟩:=k5 aa;obtain ⟨ccs,m1,m2,m3,m4,m5⟩:=hr.at hb hg
    have hnsz:ccs.size=n:=by
     obtain ⟨cc,p1,p2⟩:=hrn;rw [m1] at p1;injection p1 with p1;injection p1 with p1;rw [p1];exact p2
    rw [Nat.zero_mul] at hA;subst hA;have hn':cap*b.e≤ccs.size:=by rw [hnsz];simpa using hn
    have hle1:(len+xs.length)*b.e≤cap*b.e:=Nat.mul_le_mul_right _ hneed;rw [Nat.add_mul] at hle1;have hull:us.toList.length=xs.length*b.e:=by simp [hul,ht3]
    have hsto:=run_storeCells_at P g (len*b.e) b.ty us.toList 0 ccs w m1 aa (fun u hu=>by
     obtain ⟨j,hj⟩:=List.getElem?_of_mem hu
     exact hri.one j u (by simpa using hj))
    simp only [Nat.add_zero] at hsto
    have hr0:=hgo (w.setRow g (ccs.toList.take (len*b.e) ++ us.toList ++ ccs.toList.drop (len*b.e+us.toList.length)).toArray) (by
      simp only [P3,Nat.zero_add];rw [hisz,← ht3]
      exact hsto)
    rw [hr0];have hlb:len≤b.es.length:=aa;rcases Nat.lt_or_ge tot (len+xs.length) with htot | htot
    ·have hK:=hgr htot;have hl':(b.es.take len ++ xs).length=len+xs.length:=by rw [List.length_append,List.length_take];omega
     rw [← hl'] at hK;exact adz hr hb hg m1 (ht3 ▸ hri) (ht3 ▸ hul) hn' hneed aa aa aa (ajh hlb) hU (by rw [hl'];rw [hl'] at hK;exact hK)
    ·have hK:=hst htot;have hl':(b.es.take len ++ (xs ++ b.es.drop (len+xs.length))).length=tot:=by rw [List.length_append,List.length_append,List.length_take,List.length_drop];omega
     exact adz hr hb hg m1 (ht3 ▸ hri) (ht3 ▸ hul) hn' hneed aa aa aa (amH hlb) hU (by rw [hl'];exact hK)
  ·
   clear k5 k2;have hrd:=Sz hr
   have hso:D9 hp (P.cellsOf el) (.own id 0 len tot)=some (b.es.take len):=by
    simp only [D9,hb];rw [if_pos ⟨ht1,ht3⟩,List.drop_zero]
   obtain ⟨A2,k',hA2,os,hos,hol,hro,_⟩:=L5 hrd (hss'.step C2) hso;have htl:(b.es.take len).length=len:=by simp;omega
   rw [htl] at hA2 hos;injection hA2 with e1 _ e3;subst e1;subst e3;obtain ⟨us,hul,hri,hr0⟩:=hgrow A cap os rfl hneed (by rw [hisz];exact hos);have hge:=grownCap_ge w (len+xs.length) cap el;have hrows:=SA (rest:=Builtin.zeroCells z.cells (grownCap w (len+xs.length) cap el - (len+xs.length))) hro hol hri (zone z _ hz1 aa);have hK:=hgr aa;have hl':(b.es.take len ++ xs).length=len+xs.length:=by simp;omega
   have hgt:b.es.length<(b.es.take len ++ xs).length:=aa
   have hsz:(os ++ us ++ Builtin.zeroCells z.cells (grownCap w (len+xs.length) cap el - (len+xs.length))).size=grownCap w (len+xs.length) cap el*P.cellsOf el:=by
    simp only [Array.size_append,size_zeroCells,hzsz,hol,hul,htl,← Nat.add_mul];congr 1;omega
   obtain ⟨r1,r2⟩:=ajb hrd (b':=⟨b.ty,b.e,b.es.take len ++ xs⟩) hb rfl rfl hgt _ hrows.one (by rw [ht3];exact hrows.row) (by rw [ht3];exact hrows.len) (by rw [ht3];exact hrows.is);rw [hr0,← ht2];rw [← ht2] at r1 r2;refine ⟨_,_,_,hK,r1.more,C2.trans (r2.trans Step.more),.own _ _ _ _ _ _ (.inl hU) (by rw [ht2];exact hge) (fun h=>by cases h) fun b1 hb1=>?_⟩;rw [TL,if_pos rfl,hb] at hb1;simp only [Option.map_some,Option.some.injEq] at hb1;subst hb1;refine ⟨Nat.le_of_eq hl'.symm,fun _=>⟨aa,by rw [ht2];omega,fun _=>⟨w.heap.size,ab,ab,_,⟨_,heap_alloc_new w.drew _,rfl⟩,?_⟩⟩⟩;simp only [Nat.zero_add];rw [ht2,hsz,ht3];exact Nat.le_refl _
theorem aji (hr:Rel c hp U σ w) (E:∀ x,AIs w (z7 c w σ hp) σ hp U (ev fr x) (a.eval x)) (hN:Free U N) {ts tx:TypeId} {s x:Operand} {cl:Call} (hop:o.op=.call cl) (hc:cl.callee=.builtin .append) (ha:cl.args.toList=[s,x]) (ht:cl.argTypes.toList=[ts,tx])
  (hint:∀ el id i0 len tot k n z,B7 P ts=.slice el→B7 P tx=.scal→ev fr s=.own id i0 len tot→ev fr x=.d (.int k n)→SU P tx=some k→0≤n→n≤4294967296→P.bytesOf el*n≤281474976710656→P2 P el=some z→M5 P el (.own id i0 len tot) (some (List.replicate n.toNat z)) N K hp→OpOk P c K hp U N σ w ((execOp a.eval o).run P w))
  (h:biW P fr hp N .append [s,x] [ts,tx] K):OpOk P c K hp U N σ w ((execOp a.eval o).run P w):=by
 simp only [biW] at h;have ha':cl.args=#[s,x]:=by rw [← Array.toArray_toList (xs:=cl.args),ha]
 have ht':cl.argTypes=#[ts,tx]:=by rw [← Array.toArray_toList (xs:=cl.argTypes),ht]
 have run:∀ (v:Value) (w':World),(Builtin.append_ #[ts,tx] o.type #[a.eval s,a.eval x]).run P w=.ok v w'→(execOp a.eval o).run P w=.ok (.value v) w':=by
  intro v w' hv;simp [execOp,hop,resolve,hc,ha',ht',invoke,builtin,hv]
 split at h
 ·rename_i el el2 hks hkx;have hts:=y6 hks;have htx:=y6 hkx;have hxx:=E x;have hss:=E s;generalize hxv:a.eval x=xv at hxx run;generalize hsv:a.eval s=sv at hss run;generalize ev fr x=xa at hxx h;generalize ev fr s=sa at hss h
  -- facts of the element's type
  have info:∀ (q:(P2 P el).isSome=true),∃ i z,P.info? el=some i∧i.zero=some z∧i.size=P.cellsOf el∧i.bytes=P.bytesOf el∧z.cells.size=P.cellsOf el∧P.cellsOf el ≠ 0∧∀ (n:Nat) (v:Value),z.cells[n]?=some v→v.oneCell'=true:=by
   intro q;obtain ⟨z',hz'⟩:=Option.isSome_iff_exists.1 q;obtain ⟨v,i,hi,hz,hs,hne,_,hl⟩:=aa7 (w:=w) (S:=fun _=>True) (σ:=σ) (hp:=hp) (U:=U) hz';exact ⟨i,v,hi,hz,by simp [Program.cellsOf,hi],by simp [Program.bytesOf,hi],hs,hne,hl.one⟩
  have zone:∀ (z:Value) (m:Nat),(∀ (n:Nat) (v:Value),z.cells[n]?=some v→v.oneCell'=true)→z.cells.size ≠ 0→∀ (n:Nat) (v:Value),(Builtin.zeroCells z.cells m)[n]?=some v→v.oneCell'=true:=by
   intro z m hz1 hz0 n v hv;unfold Builtin.zeroCells at hv;simp only [Array.getElem?_map,Option.map_eq_some_iff] at hv;obtain ⟨k,_,rfl⟩:=hv;have hlt:k % z.cells.size<z.cells.size:=Nat.mod_lt _ aa;exact hz1 (k % z.cells.size) _ (by simp [hlt])
  unfold M5 at h
  split at h
  ·
   rename_i xs hxs;obtain ⟨q,hby,hfit,h⟩:=h;obtain ⟨i,z,hi,hz,hisz,hiby,hzsz,hne,hz1⟩:=info q
   cases hss with
   | nil =>
    rcases Nat.eq_zero_or_pos xs.length with h0 | h0
    ·have hx0:xs=[]:=List.eq_nil_of_length_eq_zero h0;subst hx0;obtain ⟨A,k,rfl,us,hus,hul,hri,_⟩:=L5 hr hxx hxs;have hr0:=UB (ty:=o.type) (base:=none) (sLen:=0) (sCap:=0) (w':=w) hts htx hi (hisz ▸ hus) ab ab;obtain ⟨g1,g2⟩:=ajc hr hN ⟨el,P.cellsOf el,[]⟩ rfl;rw [run _ _ hr0];refine ⟨_,_,_,h,g1,g2,.own N 0 0 0 _ _ Uy (Nat.le_refl _) (fun _=>rfl) fun b hb=>?_⟩;exact ⟨Nat.zero_le _,fun _=>⟨Nat.le_refl _,Nat.le_refl _,fun h=>aa⟩⟩
    ·have hrd:=Sz hr;obtain ⟨A,k,rfl,us,hus,hul,hri,_⟩:=L5 hrd (hxx.step C2) hxs;have hr0:=RO (ty:=o.type) (base:=none) (sLen:=0) (sCap:=0) (os:=#[]) hts htx hi hz (hisz ▸ hus) (by simp [Builtin.firstCells]) aa aa (by rw [Nat.zero_add,hiby];exact hfit);rw [run _ _ hr0];simp only [Nat.zero_add];have hge:=grownCap_ge w xs.length 0 el;have hrows:=SA (rest:=Builtin.zeroCells z.cells (grownCap w xs.length 0 el - xs.length)) (r1:=[]) (x1:=#[]) (w:=w.drew) ⟨ab,ab,ab,ab⟩ ab hri (zone z _ hz1 aa);rw [List.nil_append] at hrows;have hG:=W7 (K:=K) hrd hN (el:=el) hrows hge (by simp [size_zeroCells,hzsz,hul,← Nat.add_mul];rw [show xs.length+(grownCap w xs.length 0 el - xs.length)=grownCap w xs.length 0 el by omega];exact Nat.le_refl _) h;obtain ⟨v,hp',σ',k1,k2,k3,k4⟩:=hG;exact ⟨v,hp',σ',k1,k2,C2.trans k3,k4⟩
  ·
   rename_i id len tot xs hxs
   split at h
   ·rename_i b hb;obtain ⟨ht1,ht2,ht3,q,hby,hfit,hst,hgr⟩:=h;obtain ⟨i,z,hi,hz,hisz,hiby,hzsz,hne,hz1⟩:=info q;refine agH (i:=i) (z:=z) hr hss hb ht1 ht2 ht3 hst hgr hisz hzsz hne hz1 zone (fun A cap e hneed=>?_) (fun A cap os e hneed hos=>?_)
    ·subst e;obtain ⟨B,k,rfl,us,hus,hul,hri,_⟩:=L5 hr hxx hxs;exact ⟨us,hul,hri,fun w' hsto=>run _ _ (UB (ty:=o.type) hts htx hi (hisz ▸ hus) hneed hsto)⟩
    ·subst e;have hrd:=Sz hr;obtain ⟨B,k,rfl,us,hus,hul,hri,_⟩:=L5 hrd (hxx.step C2) hxs;exact ⟨us,hul,hri,run _ _ (RO (ty:=o.type) hts htx hi hz (hisz ▸ hus) hos aa aa (by rw [hiby];exact hfit))⟩
   ·exact h.elim
  ·
   rename_i e es xs hxs;obtain ⟨he,q,hby,hfit,h⟩:=h;obtain ⟨i,z,hi,hz,hisz,hiby,hzsz,hne,hz1⟩:=info q
   cases hss with
   | d hd0 =>
    cases hd0 with
    | rof _ _ A vs hel hA hv1 hdd =>
     rcases h with ⟨ds,rfl,h⟩ | ⟨hnx,h⟩
     ·rcases Nat.eq_zero_or_pos ds.length with h0 | h0
      ·have hx0:ds=[]:=List.eq_nil_of_length_eq_zero h0;subst hx0;obtain ⟨B,k,rfl,us,hus,hul,hri,_⟩:=L5 hr hxx hxs;have hu0:us=#[]:=Array.eq_empty_of_size_eq_zero (by simpa using hul);subst hu0;have hr0:=UB (ty:=o.type) (base:=A) (sLen:=es.length) (sCap:=es.length) (w':=w) hts htx hi (hisz ▸ hus) ab (by cases A <;> simp [storeCells]);rw [List.append_nil] at h;exact OpOk.val (run _ _ hr0) (Good.same hr h (.d (.ro e es A _ vs (Nat.le_refl _) hel hA hv1 hdd)))
      ·have hrd:=Sz hr;obtain ⟨B,k,rfl,us,hus,hul,hri,_⟩:=L5 hrd (hxx.step C2) hxs;have hb0:AIs w (z7 c w σ hp) σ hp U (.d (.ro e es)) (.slice A es.length es.length):=.d (.ro e es A _ vs (Nat.le_refl _) hel hA hv1 hdd);obtain ⟨A2,k',hA2,os,hos,hol,hro,_⟩:=L5 hrd (hb0.step C2) (sz:=P.cellsOf el) (xs:=es.map fun r=>r.map AV.d) (by simp only [D9];rw [if_pos he]);rw [List.length_map] at hA2 hos;have hln:(ds.map fun r=>r.map AV.d).length=ds.length:=List.length_map _;injection hA2 with e1 _ e3;subst e1;subst e3;have hr0:=RO (ty:=o.type) (base:=A) (sLen:=es.length) (sCap:=es.length) hts htx hi hz (hisz ▸ hus) (hisz ▸ hos) aa aa (by rw [hiby];exact hfit);have hr1:=run _ _ hr0;rw [hln] at hr1;have hge:=grownCap_ge w (es.length+ds.length) es.length el;have hrows:=SA (rest:=Builtin.zeroCells z.cells (grownCap w (es.length+ds.length) es.length el - (es.length+ds.length))) hro hol hri (zone z _ hz1 aa);rw [hr1];have hG:=asi (N:=N) (K:=K) (es:=es ++ ds) (e:=e) (cap:=grownCap w (es.length+ds.length) es.length el) (C:=os ++ us ++ Builtin.zeroCells z.cells (grownCap w (es.length+ds.length) es.length el - (es.length+ds.length))) (w':=w.drew.alloc (.cells (os ++ us ++ Builtin.zeroCells z.cells (grownCap w (es.length+ds.length) es.length el - (es.length+ds.length))) el)) hr ⟨rfl,rfl,rfl,by simp [World.size_alloc],fun b hb=>P9 w.drew _ b hb⟩ (by rw [World.size_alloc];exact Nat.lt_succ_self _) (fun j v hj=>?_) (fun r hr'=>?_) ?_ (by rw [List.length_append];exact hge) (fun i' j r y x hi' hj hx=>?_) h
       ·rw [List.length_append] at hG;exact hG
       ·exact ajg w.drew _ _ j v hj
       ·have:=hrows.row (r.map AV.d) (by rw [← List.map_append];exact List.mem_map_of_mem hr');rw [List.length_map] at this;rw [this,he]
       ·have:=hrows.len;rw [← List.map_append,List.length_map] at this;rw [he];exact this
       ·have h1:=hrows.is i' j (r.map AV.d) (.d y) x (by rw [← List.map_append,List.getElem?_map,hi'];rfl) (by rw [List.getElem?_map,hj];rfl) (by rw [← he];exact hx)
        cases h1 with
        | d h1=>exact DIs.mono (w:=w.drew) (w':=w) (S:=z7 c w.drew σ hp) (S':=z7 c w σ hp) (fun _ h=>h) (fun _ _=>rfl) h1
     ·have h0:0<xs.length:=List.length_pos_iff.2 hnx;have hrd:=Sz hr;obtain ⟨B,k,rfl,us,hus,hul,hri,_⟩:=L5 hrd (hxx.step C2) hxs;have hb0:AIs w (z7 c w σ hp) σ hp U (.d (.ro e es)) (.slice A es.length es.length):=.d (.ro e es A _ vs (Nat.le_refl _) hel hA hv1 hdd);obtain ⟨A2,k',hA2,os,hos,hol,hro,_⟩:=L5 hrd (hb0.step C2) (sz:=P.cellsOf el) (xs:=es.map fun r=>r.map AV.d) (by simp only [D9];rw [if_pos he]);rw [List.length_map] at hA2 hos;injection hA2 with e1 _ e3;subst e1;subst e3;have hr0:=RO (ty:=o.type) (base:=A) (sLen:=es.length) (sCap:=es.length) hts htx hi hz (hisz ▸ hus) (hisz ▸ hos) aa aa (by rw [hiby];exact hfit);have hge:=grownCap_ge w (es.length+xs.length) es.length el;have hrows:=SA (rest:=Builtin.zeroCells z.cells (grownCap w (es.length+xs.length) es.length el - (es.length+xs.length))) hro hol hri (zone z _ hz1 aa);have hln:((es.map fun r=>r.map AV.d) ++ xs).length=es.length+xs.length:=by rw [List.length_append,List.length_map]
      rw [List.length_map] at hol;rw [run _ _ hr0]
      have hG:=W7 (K:=K) hrd hN (el:=el) (cap:=grownCap w (es.length+xs.length) es.length el) hrows (by rw [hln];exact hge) (by
       simp only [Array.size_append,size_zeroCells,hzsz,hol,hul,← Nat.add_mul];rw [show es.length+xs.length+(grownCap w (es.length+xs.length) es.length el - (es.length+xs.length))=grownCap w (es.length+xs.length) es.length el by omega]
       exact Nat.le_refl _) (by rw [hln];exact h)
      rw [hln] at hG;obtain ⟨v,hp',σ',k1,k2,k3,k4⟩:=hG;exact ⟨v,hp',σ',k1,k2,C2.trans k3,k4⟩
  ·
   rename_i id i0 off e len cap tot xs hxs;obtain ⟨hgt,q,hby,hfit,h⟩:=h
   split at h
   ·rename_i rs hrs;obtain ⟨i,z,hi,hz,hisz,hiby,hzsz,hne,hz1⟩:=info q;have hss':=hss
    cases hss with
    | sub _ _ _ _ _ _ _ A hU hl hA0 h' =>
     have hrd:=Sz hr;obtain ⟨B,k,rfl,us,hus,hul,hri,_⟩:=L5 hrd (hxx.step C2) hxs;obtain ⟨A2,k',hA2,os,hos,hol,hro,_⟩:=L5 hrd (hss'.step C2) hrs;injection hA2 with e1 e2 e3;subst e1;subst e3;rw [← e2] at hos hol;have hr0:=RO (ty:=o.type) (base:=A) (sLen:=len) (sCap:=cap) hts htx hi hz (hisz ▸ hus) (hisz ▸ hos) hgt (by rw [hiby];exact hby) (by rw [hiby];exact hfit);have hge:=grownCap_ge w (len+xs.length) cap el;have hol':os.size=rs.length*P.cellsOf el:=by rw [← e2];exact hol
     have hrows:=SA (rest:=Builtin.zeroCells z.cells (grownCap w (len+xs.length) cap el - (len+xs.length))) hro hol' hri (zone z _ hz1 aa);have hln:(rs ++ xs).length=len+xs.length:=by rw [List.length_append,← e2]
     rw [run _ _ hr0]
     have hG:=W7 (K:=K) hrd hN (el:=el) (cap:=grownCap w (len+xs.length) cap el) hrows (by rw [hln];exact hge) (by
      simp only [Array.size_append,size_zeroCells,hzsz,hol,hul,← Nat.add_mul];rw [show len+xs.length+(grownCap w (len+xs.length) cap el - (len+xs.length))=grownCap w (len+xs.length) cap el by omega]
      exact Nat.le_refl _) (by rw [hln];exact h)
     rw [hln] at hG;obtain ⟨v,hp',σ',k1,k2,k3,k4⟩:=hG;exact ⟨v,hp',σ',k1,k2,C2.trans k3,k4⟩
   ·exact h.elim
  ·exact h.elim
 ·rename_i el hks hkx
  split at h
  ·rename_i id i0 len tot k n k' hs hx hk;obtain ⟨rfl,h0,h1,h2,h⟩:=h
   split at h
   ·rename_i z hz;exact hint el id i0 len tot k n z hks hkx hs hx hk h0 h1 h2 hz h
   ·exact h.elim
  ·exact h.elim
 ·exact h.elim
end
end Go.Am
namespace Go.Am
section
variable {P:Program} {c:Ctx} {K:AV→Hp→Prop} {fr:Fr} {hp:Hp} {U:Nat→Prop} {N:Nat} {σ:Nat→Option Nat} {w:World} {a:Act} {o:Oper}
theorem agI {α:Type} {n:Nat} {v:α}:∀ {l:List (Nat × α)},lk n l=some v→(n,v) ∈ l
 | [],h=>by cases h
 | (m,u) :: t,h=>by
  simp only [lk] at h
  split at h
  ·rename_i e;injection h with h;subst e;subst h;exact List.mem_cons_self ..
  ·exact List.mem_cons_of_mem _ (agI h)
theorem adA:∀ {u v:List (IntKind × Int)},WC u=WC v→u=v
 | [],[],_=>rfl
 | [],_ :: _,h=>by simp [WC] at h
 | _ :: _,[],h=>by simp [WC] at h
 | (k,n) :: u,(k',n') :: v,h=>by
  simp only [WC,List.map_cons,List.cons.injEq,AV.d.injEq,DV.int.injEq] at h;obtain ⟨⟨rfl,rfl⟩,h⟩:=h;rw [adA (u:=u) (v:=v) h]
theorem adB {u v:List (IntKind × Int)} (h:Vj u=Vj v):u=v:=by
 have h':u.map (fun p=>Value.int p.1 p.2)=v.map (fun p=>Value.int p.1 p.2):=by simpa [Vj] using h
 clear h;have h:=h';clear h'
 induction u generalizing v with
 | nil=>cases v with
  | nil=>rfl
  | cons=>simp at h
 | cons p u ih =>
  cases v with
  | nil=>simp at h
  | cons q v =>
   obtain ⟨k,n⟩:=p;obtain ⟨k',n'⟩:=q;simp only [List.map_cons,List.cons.injEq,Value.int.injEq] at h;obtain ⟨⟨rfl,rfl⟩,h⟩:=h;rw [ih h]
theorem ajj {a b:List (List (IntKind × Int))} (h:Wr a=Wr b):a=b:=by
 simp only [Wr,List.cons.injEq,true_and] at h
 induction a generalizing b with
 | nil=>cases b with
  | nil=>rfl
  | cons=>simp at h
 | cons x a ih =>
  cases b with
  | nil=>simp at h
  | cons y b =>
   simp only [List.map_cons,List.cons.injEq] at h;rw [adA h.1,ih h.2]
theorem ajk {S:Nat→Prop} {u:List (IntKind × Int)} {v:Value} (h:AIs w S σ hp U (.agg (WC u)) v):v=Vj u:=by
 cases h with
 | agg _ xs hl h1 h2 =>
  unfold Vj;congr 1;apply Array.ext';rw [List.toList_toArray];refine List.ext_getElem? fun i=>?_;rw [List.getElem?_map]
  cases hi:u[i]? with
  | none =>
   have:xs.size≤i:=by
    have:=List.getElem?_eq_none_iff.1 hi;simp only [WC,List.length_map] at hl;omega
   simp [this]
  | some p =>
   have hlt:i<xs.size:=by
    have:=(List.getElem?_eq_some_iff.1 hi).1;simp only [WC,List.length_map] at hl;omega
   have hx:xs[i]?=some xs[i]:=Array.getElem?_eq_getElem hlt;have:=J5 (h2 i (.d (.int p.1 p.2)) xs[i] (by simp [WC,hi]) hx);rw [Array.getElem?_toList,hx,this];rfl
theorem ajl (hr:Rel c hp U σ w) {id:Nat} {b:Blk} {ks:List (List (IntKind × Int))} {v:Value} (h:AIs w (z7 c w σ hp) σ hp U (.mp id) v) (hb:lk id hp=some b) (he:b.e=0) (hes:b.es=Wr ks) :
  ∃ ms clock,v=.map (some b.ty)∧σ id=none∧c.w0.heap.size≤b.ty∧w.heap[b.ty]?=some (.map ms clock) ∧
   (∀ m ∈ ms.toList,m.val=.bool true∧∃ u ∈ ks,m.key=Vj u)∧∀ u ∈ ks,∃ m ∈ ms.toList,m.key=Vj u:=by
 cases h with
 | mp _ g hN h =>
  have hg:=h b hb;subst hg;rcases hr.blk id b hb with ⟨h0,h1 | ⟨_,hn,ks',ms,clock,k1,k2,k3,k4⟩⟩ | ⟨g,_,ccs,_,_,k3,_⟩
  ·rw [hes] at h1;simp [Wr] at h1
  ·rw [hes] at k1;have:=ajj k1;subst this;exact ⟨ms,clock,rfl,h0,hn,k2,k3,k4⟩
  ·have:=k3 [.any] (by rw [hes];simp [Wr]);rw [he] at this;simp at this
theorem ah5 (hr:Rel c hp U σ w) (hN:Free U N) {t:TypeId} (hop:o.op=.makeMap t none) (h:A6 P fr hp N (.makeMap t none) K) :
  OpOk P c K hp U N σ w ((execOp a.eval o).run P w):=by
 have hK:=h w.heap.size
 have hrun:(execOp a.eval o).run P w=.ok (.value (.map (some w.heap.size))) (w.alloc (.map #[] 0)):=by
  have:(Instr.makeMap t none).run P w=.ok (.map (some w.heap.size)) (w.alloc (.map #[] 0)):=rfl;simp [execOp,hop,this]
 rw [hrun]
 let b:Blk:=⟨w.heap.size,0,Wr []⟩
 let w':=w.alloc (.map #[] 0)
 let σ':=fun i=>if i=N then none else σ i
 have hlk:∀ i b0,lk i ((N,b) :: hp)=some b0→(i=N∧b0=b) ∨ (i ≠ N∧lk i hp=some b0):=by
  intro i b0 h;rw [W5] at h
  split at h
  ·rename_i e;injection h with h;exact .inl ⟨e.symm,h.symm⟩
  ·rename_i e;exact .inr ⟨fun h'=>e h'.symm,h⟩
 have hσ:∀ i,i ≠ N→σ' i=σ i:=fun i h=>if_neg h;have hσN:σ' N=none:=if_pos rfl;have hsize:w'.heap.size=w.heap.size+1:=World.size_alloc w _;have hold:∀ i,i<w.heap.size→w'.heap[i]?=w.heap[i]?:=fun i h=>P9 w _ i h;have hlt:∀ i b0 g,lk i hp=some b0→σ i=some g→g<w.heap.size:=fun i b0 g h hg=>H4 (hr.at h hg)
 have hst:Step w (z7 c w σ hp) σ hp U w' (z7 c w' σ' ((N,b) :: hp)) σ' ((N,b) :: hp) (I6 U N):=by
  refine ⟨fun g hg=>⟨⟨by rw [hsize];have:=hg.1.1;omega,fun id blk g' hb hg'=>?_⟩,hg.2⟩,fun p hp'=>?_,fun _ h=>.inl h,fun id b' hid hb=>?_⟩
  ·rcases hlk id blk hb with ⟨rfl,rfl⟩ | ⟨h,hb⟩
   ·rw [hσN] at hg';cases hg'
   ·rw [hσ id h] at hg';exact hg.1.2 id blk g' hb hg'
  ·exact World.cell?_of_block (w:=w) (hold _ hp'.1.1)
  ·rcases hlk id b' hb with ⟨rfl,rfl⟩ | ⟨h,hb⟩
   ·exact absurd hid hN.at
   ·refine ⟨b',hb,rfl,rfl,Nat.le_refl _,fun _ g hg=>⟨(hσ id h).trans hg,fun n hn=>?_⟩⟩;obtain ⟨cc,h5,h6⟩:=hn;exact ⟨cc,(hold _ (hlt id b' g hb hg)).trans h5,h6⟩
 refine ⟨.mp N,_,σ',hK,⟨fun i j bi bj g hi hj hgi hgj=>?_,fun i b0 h=>?_,fun i b0 h=>?_,fun i b0 g h hg=>?_,hr.os,hr.tape,hr.output,by rw [hsize];have:=hr.size;omega,fun g hg hm=>?_⟩,hst,.mp N _ Uy fun b0 hb0=>?_⟩
 ·rcases hlk i bi hi with ⟨e1,_⟩ | ⟨hi',hi1⟩ <;> rcases hlk j bj hj with ⟨e2,_⟩ | ⟨hj',hj1⟩
  ·rw [e1,e2]
  ·rw [e1,hσN] at hgi;cases hgi
  ·rw [e2,hσN] at hgj;cases hgj
  ·rw [hσ i hi'] at hgi;rw [hσ j hj'] at hgj;exact hr.inj i j bi bj g hi1 hj1 hgi hgj
 ·rcases hlk i b0 h with ⟨rfl,rfl⟩ | ⟨_,h⟩
  ·exact Uy
  ·exact .inl (hr.lt i b0 h)
 ·rcases hlk i b0 h with ⟨rfl,rfl⟩ | ⟨hi,h⟩
  ·exact .inl ⟨hσN,.inr ⟨rfl,hr.size,[],#[],0,rfl,heap_alloc_new w _,ab,ab⟩⟩
  ·rcases hr.blk i b0 h with ⟨k1,k2⟩ | ⟨g,k1,k2⟩
   ·exact .inl ⟨(hσ i hi).trans k1,k2.keep fun _ _ _ hm=>hold _ (Zx hm)⟩
   ·exact .inr ⟨g,(hσ i hi).trans k1,k2.step hst (hold _ (H4 k2))⟩
 ·rcases hlk i b0 h with ⟨rfl,rfl⟩ | ⟨hi,h⟩
  ·rw [hσN] at hg;cases hg
  ·rw [hσ i hi] at hg;exact hr.mine i b0 g h hg
 ·rw [hold g (by have:=hr.size;omega)];exact hr.old g hg hm
 ·rcases hlk N b0 hb0 with ⟨_,rfl⟩ | ⟨h,_⟩
  ·rfl
  ·exact absurd rfl h
theorem ajm (hr:Rel c hp U σ w) (E:∀ x,AIs w (z7 c w σ hp) σ hp U (ev fr x) (a.eval x)) {t:TypeId} {m x:Operand} (hop:o.op=.lookup t m x false) (h:A6 P fr hp N (.lookup t m x false) K) :
  OpOk P c K hp U N σ w ((execOp a.eval o).run P w):=by
 simp only [A6] at h;unfold luW at h
 split at h
 ·rename_i id cs hm hx;obtain ⟨b,ks,u,hb,he,hes,rfl,⟨k,e,ht,Kd,hz,hkeys⟩,hK⟩:=h;obtain ⟨ms,clock,hv,_,_,hheap,h1,h2⟩:=ajl hr (hm ▸ E m) hb he hes;have hkv:=ajk (hx ▸ E x);obtain ⟨l,hl⟩:=hkeys u ab
  have hks:∀ m ∈ ms.toList,∃ l,keyOf P k m.key=some l:=fun m hm=>by
   obtain ⟨_,v,hv,e⟩:=h1 m hm;rw [e];exact hkeys v (by simp [hv])
  have run:∀ r:Value,(Instr.lookup t (.map (some b.ty)) (Vj u) false).run P w=.ok r w→(execOp a.eval o).run P w=.ok (.value r) w:=by
   intro r hrun;simp [execOp,hop,hv,hkv,hrun]
  rcases Kd.find w hl ms.toList hks with ⟨q1,q2⟩ | ⟨j,e0,q1,q2,q3⟩
  ·have hno:decide (u ∈ ks)=false:=by
    refine decide_eq_false fun hu=>?_;obtain ⟨m,hm,e⟩:=h2 u hu;exact q2 m hm e
   rw [hno] at hK;exact OpOk.val (run _ (by simp [Instr.lookup,run_underlying ht,MapKept.run_getObj_map hheap,Kd.check w _ hl,q1,hz,Result.andThen])) (Good.same hr hK (.d (.bool _)))
  ·have hm0:e0 ∈ ms.toList:=List.mem_of_getElem? q2;obtain ⟨hval,v,hv2,e⟩:=h1 e0 hm0
   have hyes:decide (u ∈ ks)=true:=by
    refine decide_eq_true ?_;rw [q3] at e;rw [adB e];exact hv2
   rw [hyes] at hK;exact OpOk.val (run _ (by simp [Instr.lookup,run_underlying ht,MapKept.run_getObj_map hheap,Kd.check w _ hl,q1,hval,Result.andThen])) (Good.same hr hK (.d (.bool _)))
 ·exact h.elim
theorem adC (hr:Rel c hp U σ w) (E:∀ x,AIs w (z7 c w σ hp) σ hp U (ev fr x) (a.eval x)) {t:TypeId} {m x v:Operand} (hop:o.op=.mapUpdate t m x v) (h:A6 P fr hp N (.mapUpdate t m x v) K) :
  OpOk P c K hp U N σ w ((execOp a.eval o).run P w):=by
 simp only [A6] at h;unfold muW at h
 split at h
 ·rename_i id cs hm hx hvv;obtain ⟨b,ks,u,hb,he,hes,rfl,⟨k,e,ht,Kd,_,hkeys⟩,honly,hK⟩:=h;obtain ⟨ms,clock,hv,hσ0,hnew,hheap,h1,h2⟩:=ajl hr (hm ▸ E m) hb he hes;have hkv:=ajk (hx ▸ E x);have hvt:=O6 (hvv ▸ E v);obtain ⟨l,hl⟩:=hkeys u ab
  have hks:∀ m ∈ ms.toList,∃ l,keyOf P k m.key=some l:=fun m hm=>by
   obtain ⟨_,v,hv,e⟩:=h1 m hm;rw [e];exact hkeys v (by simp [hv])
  have key:∃ ms' clock',(Instr.mapUpdate t (.map (some b.ty)) (Vj u) (.bool true)).run P w=.ok () (ChangeMaps.setBlock w b.ty (.map ms' clock')) ∧
    (∀ m ∈ ms'.toList,m.val=.bool true∧∃ v ∈ ks ++ [u],m.key=Vj v)∧∀ v ∈ ks ++ [u],∃ m ∈ ms'.toList,m.key=Vj v:=by
   rcases Kd.find w hl ms.toList hks with ⟨q1,q2⟩ | ⟨j,e0,q1,q2,q3⟩
   ·refine ⟨ms.push ⟨Vj u,.bool true,clock⟩,clock+1,by simp [Instr.mapUpdate,run_underlying ht,MapKept.run_getObj_map hheap,Kd.check w false hl,q1,MapKept.run_setObj_map _ hheap,Result.andThen,ChangeMaps.setBlock],fun m hm=>?_,fun v hv=>?_⟩
    ·simp only [Array.toList_push,List.mem_append,List.mem_singleton] at hm;rcases hm with hm | rfl
     ·obtain ⟨p1,v,p2,p3⟩:=h1 m hm;exact ⟨p1,v,List.mem_append.2 (.inl p2),p3⟩
     ·exact ⟨rfl,u,ab,rfl⟩
    ·rcases List.mem_append.1 hv with hv | hv
     ·obtain ⟨m,p1,p2⟩:=h2 v hv;exact ⟨m,by simp [p1],p2⟩
     ·simp only [List.mem_singleton] at hv;subst hv;exact ⟨⟨Vj v,.bool true,clock⟩,ab,rfl⟩
   ·have hj:ms[j]?=some e0:=by simpa using q2
    have hm0:e0 ∈ ms.toList:=List.mem_of_getElem? q2;obtain ⟨hval,v0,hv0,ev0⟩:=h1 e0 hm0
    have hu:u ∈ ks:=by
     rw [q3] at ev0;rw [adB ev0];exact hv0
    have hsame:ms.modify j (fun e'=>{ e' with key:=Vj u,val:=.bool true })=ms:=by
     apply Array.ext';rw [Array.toList_modify];refine List.ext_getElem? fun i=>?_;rw [List.getElem?_modify];by_cases hij:j=i
     ·subst hij;rw [q2];simp only [if_true,Option.map_eq_map,Option.map_some,Option.some.injEq];rw [← q3,← hval]
     ·simp [hij]
    refine ⟨ms,clock,?_,fun m hm=>?_,fun v hv=>?_⟩
    ·simp [Instr.mapUpdate,run_underlying ht,MapKept.run_getObj_map hheap,Kd.check w false hl,q1,hj,q3,Kd.stays w hl,hsame,MapKept.run_setObj_map _ hheap,Result.andThen,ChangeMaps.setBlock]
    ·obtain ⟨p1,v,p2,p3⟩:=h1 m hm;exact ⟨p1,v,List.mem_append.2 (.inl p2),p3⟩
    ·refine h2 v ?_;rcases List.mem_append.1 hv with hv | hv
     ·exact hv
     ·simp only [List.mem_singleton] at hv;subst hv;exact hu
  obtain ⟨ms',clock',hrun0,g1,g2⟩:=key
  have hrun:(execOp a.eval o).run P w=.ok .skip (ChangeMaps.setBlock w b.ty (.map ms' clock')):=by
   simp [execOp,hop,hv,hkv,hvt,hrun0]
  rw [hrun]
  let w':=ChangeMaps.setBlock w b.ty (.map ms' clock')
  let b':Blk:=⟨b.ty,b.e,Wr (ks ++ [u])⟩
  have hsame:w'.heap[b.ty]?=some (.map ms' clock'):=ChangeMaps.heap_setBlock_same hheap _;have hold:∀ i,i ≠ b.ty→w'.heap[i]?=w.heap[i]?:=fun i h=>ChangeMaps.heap_setBlock_other hheap _ h;have hsize:w'.heap.size=w.heap.size:=by simp [w',ChangeMaps.setBlock]
  have hlk:∀ i b0,lk i (A0 id b' hp)=some b0→(i=id∧b0=b') ∨ (i ≠ id∧lk i hp=some b0):=by
   intro i b0 h;rw [TL] at h
   split at h
   ·rename_i e;rw [hb] at h;simp at h;exact .inl ⟨e,h.symm⟩
   ·rename_i e;exact .inr ⟨e,h⟩
  have hcells:∀ g ccs ty,w.heap[g]?=some (.cells ccs ty (0,0))→g ≠ b.ty:=fun g ccs ty h e=>by
   subst e;rw [hheap] at h
   cases h
  have hst:Step w (z7 c w σ hp) σ hp U w' (z7 c w' σ (A0 id b' hp)) σ (A0 id b' hp) U:=by
   refine ⟨fun g hg=>⟨⟨by rw [hsize];exact hg.1.1,fun i blk g' hb0 hg'=>?_⟩,hg.2⟩,fun p hp'=>?_,fun _ h=>h,fun i b0 hid hb0=>?_⟩
   ·rcases hlk i blk hb0 with ⟨rfl,rfl⟩ | ⟨h,hb1⟩
    ·rw [hσ0] at hg';cases hg'
    ·exact hg.1.2 i blk g' hb1 hg'
   ·by_cases hp0:p.block=b.ty
    ·simp only [World.cell?,hp0,hsame,hheap]
    ·exact World.cell?_of_block (w:=w) (hold _ hp0)
   ·rcases hlk i b0 hb0 with ⟨rfl,rfl⟩ | ⟨h,hb1⟩
    ·refine ⟨b,hb,rfl,rfl,?_,fun _ g hg=>?_⟩
     ·rw [hes];simp [b',Wr]
     ·rw [hσ0] at hg;cases hg
    ·refine ⟨b0,hb1,rfl,rfl,Nat.le_refl _,fun _ g hg=>⟨hg,fun n hn=>?_⟩⟩;obtain ⟨cc,h5,h6⟩:=hn;exact ⟨cc,(hold _ (hcells _ _ _ h5)).trans h5,h6⟩
  have hrel:Rel c (A0 id b' hp) U σ w':=by
   refine ⟨fun i j bi bj g hi hj hgi hgj=>?_,fun i b0 h=>?_,fun i b0 h=>?_,fun i b0 g h hg=>?_,hr.os,hr.tape,hr.output,by rw [hsize];exact hr.size,fun g hg hm=>?_⟩
   ·rcases hlk i bi hi with ⟨rfl,_⟩ | ⟨hi',hi1⟩
    ·rw [hσ0] at hgi;cases hgi
    ·rcases hlk j bj hj with ⟨rfl,_⟩ | ⟨hj',hj1⟩
     ·rw [hσ0] at hgj;cases hgj
     ·exact hr.inj i j bi bj g hi1 hj1 hgi hgj
   ·rcases hlk i b0 h with ⟨rfl,rfl⟩ | ⟨_,h⟩
    ·exact hr.lt _ b hb
    ·exact hr.lt i b0 h
   ·rcases hlk i b0 h with ⟨rfl,rfl⟩ | ⟨hi,h⟩
    ·exact .inl ⟨hσ0,.inr ⟨he,hnew,ks ++ [u],ms',clock',rfl,hsame,g1,g2⟩⟩
    ·rcases hr.blk i b0 h with ⟨k1,k2 | ⟨k2,_⟩⟩ | ⟨g,k1,k2⟩
     ·exact .inl ⟨k1,.inl k2⟩
     ·exact absurd (honly _ (agI h) k2) hi
     ·refine .inr ⟨g,k1,k2.step hst (hold _ ?_)⟩;obtain ⟨ccs,k3,_⟩:=k2;exact hcells _ _ _ k3
   ·rcases hlk i b0 h with ⟨rfl,rfl⟩ | ⟨hi,h⟩
    ·rw [hσ0] at hg;cases hg
    ·exact hr.mine i b0 g h hg
   ·rw [hold g (fun e=>by subst e;omega)];exact hr.old _ hg hm
  exact ⟨.any,_,σ,hK,hrel.more,hst.trans Step.more,.any _⟩
 ·exact h.elim
end
end Go.Am
