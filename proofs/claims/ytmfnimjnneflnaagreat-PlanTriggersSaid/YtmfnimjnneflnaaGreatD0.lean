/-
 Part 1 of what the claim rests on.
-/
import Derived.WalkKit
import Derived.Maps.Keyed
import Derived.ChangeKeysEq
import Derived.Laws.StructEq
set_option linter.unusedVariables false
set_option linter.unusedSimpArgs false
set_option maxRecDepth 100000
set_option maxHeartbeats 16000000
theorem aq{P:Prop}(h:P:=by omega):P:=h
theorem aw{P:Prop}(h:P:=by simp):P:=h
theorem b_{α:Type _}{d b:List α}:(d++b).length=d.length+b.length:=List.length_append
theorem ci{α:Type _}{i:Nat}{a:α}{l:List α}:l[i]?=some a↔∃h,l[i]=a:=List.getElem?_eq_some_iff
theorem cm{α:Type _}{l:List α}{i:Nat}(h:i<l.length):l[i]?=some l[i]:=List.getElem?_eq_getElem h
theorem cr{α:Type _}{l:List α}{i:Nat}{a:α}:l[i]?=some a→a∈l:=List.mem_of_getElem?
theorem ct{α:Type _}{xs:Array α}{i:Nat}{d:α}:xs.getD i d=xs[i]?.getD d:=Array.getD_eq_getD_getElem?
theorem cx{α:Type _}{i:Nat}{l:List α}:l.length≤i→List.take i l=l:=List.take_of_length_le
theorem cA{α:Type _}(d b cs:List α):d++b++cs=d++(b++cs):=List.append_assoc d b cs
theorem cD{α:Type _}{a:α}{s t:List α}:a∈s++t↔a∈s∨a∈t:=List.mem_append
theorem cL(n:Nat):n≤n:=Nat.le_refl n
theorem cR{α:Type _}{l:List α}{i:Nat}{a:α}:l.getD i a=l[i]?.getD a:=List.getD_eq_getElem?_getD
theorem cS{α:Type _}(y:α){a:α}{l:List α}:a∈l→a∈y::l:=List.mem_cons_of_mem y
theorem cU{α:Type _}{β:Type _}{f:α→β}{l:List α}{i:Nat}:(List.map f l)[i]?=Option.map f l[i]?:=List.getElem?_map
theorem c_{α:Type _}{b:List α}{i:Nat}:b.length≤i→List.drop i b=[]:=List.drop_eq_nil_of_le
theorem dg{α:Type _}{xs:Array α}{i:Nat}(h:i<xs.size):xs[i]?=some xs[i]:=Array.getElem?_eq_getElem h
theorem dn{α:Type _}{b d:List α}{i:Nat}:b.length≤i→(b++d)[i]?=d[i-b.length]?:=List.getElem?_append_right
theorem dz{α:Type _}{a:α}{l:List α}:a∈a::l:=List.mem_cons_self
theorem d7{α:Type _}{p:α→Bool}{l:List α}:l.all p=true↔∀(x:α),x∈l→p x=true:=List.all_eq_true
theorem d9{n m:Nat}(k:Nat):n≤m→n*k≤m*k:=Nat.mul_le_mul_right k
theorem d_{α:Type _}{b:α}{l:List α}{a:α}:a∈b::l↔a=b∨a∈l:=List.mem_cons
theorem et{α:Type _}{i:Nat}{l:List α}:(List.drop i l).length=l.length-i:=List.length_drop
namespace Go.Am
inductive DV where
 |int (k:IntKind) (n:Int)
 |bool (b:Bool)
 |str (bs:List Int)
 |ro (e:Nat) (es:List (List DV))
 /-- one whose room ends where it ends -/
 |rof (e:Nat) (es:List (List DV))
 |box (cs:List DV)
 |nilp
 deriving Inhabited
inductive DIs(w:World)(S:Nat→Prop):DV→Value→Prop
 |int (k:IntKind) (n:Int):DIs w S (.int k n) (.int k n)
 |bool (b:Bool):DIs w S (.bool b) (.bool b)
 |str (s:ByteArray):DIs w S (.str (s.data.toList.map fun c=>(c.toNat:Int))) (.string s)
 | ro (e:Nat) (es:List (List DV)) (A:Option Addr) (c:Nat) (vs:Nat→Nat→Value)
   (hc:es.length≤c)
   (he:∀x,x∈es→x.length=e)
   (hA:∀x,x∈es→∃ad,A=some ad∧S ad.block)
   (hv:∀ad,A=some ad→∀(i j:Nat)(x:List DV)(y:DV),es[i]?=some x→x[j]?=some y→w.cell? (ad.add (i*e+j))=some (vs i j))
   (hd:∀(i j:Nat)(x:List DV)(y:DV),es[i]?=some x→x[j]?=some y→DIs w S y (vs i j)) :
   DIs w S (.ro e es) (.slice A es.length c)
 | rof (e:Nat) (es:List (List DV)) (A:Option Addr) (vs:Nat→Nat→Value)
   (he:∀x,x∈es→x.length=e)
   (hA:∀x,x∈es→∃ad,A=some ad∧S ad.block)
   (hv:∀ad,A=some ad→∀(i j:Nat)(x:List DV)(y:DV),es[i]?=some x→x[j]?=some y→w.cell? (ad.add (i*e+j))=some (vs i j))
   (hd:∀(i j:Nat)(x:List DV)(y:DV),es[i]?=some x→x[j]?=some y→DIs w S y (vs i j)) :
   DIs w S (.rof e es) (.slice A es.length es.length)
 | box (cs:List DV) (ad:Addr) (vs:Nat→Value)
   (hS:S ad.block)
   (hv:∀(j:Nat)(y:DV),cs[j]?=some y→w.cell? (ad.add j)=some (vs j))
   (hd:∀(j:Nat)(y:DV),cs[j]?=some y→DIs w S y (vs j)) :
   DIs w S (.box cs) (.pointer (some ad))
 |nilp:DIs w S .nilp (.pointer none)
theorem eK(a:Addr)(n:Nat):(a.add n).block=a.block:=by unfold Addr.add;split<;>rfl
theorem DIs.mono{w w':World}{S S':Nat→Prop}(r:∀b,S b→S' b)(u:∀p:Addr,S p.block→w'.cell? p=w.cell? p){d:DV}{v:Value}(h:DIs w S d v):DIs w' S' d v:=by
 induction h with
 |int k n=>exact .int k n
 |bool b=>exact .bool b
 |str s=>exact .str s
 |ro e es A c vs hc he hA hv hd ih =>
  refine .ro e es A c vs hc he (fun x f=>?_) (fun ad l i j x y f m=>?_) (fun i j x y f m=>ih i j x y f m);obtain⟨ad,g,q⟩:=hA x f;exact⟨ad,g,r _ q⟩;obtain⟨t,g,q⟩:=hA x (cr f);rw[l]at g;injection g with g;subst g;rw[u _ (by rw[eK];exact q)];exact hv ad l i j x y f m
 |rof e es A vs he hA hv hd ih =>
  refine .rof e es A vs he (fun x f=>?_) (fun ad l i j x y f m=>?_) (fun i j x y f m=>ih i j x y f m);obtain⟨ad,g,q⟩:=hA x f;exact⟨ad,g,r _ q⟩;obtain⟨t,g,q⟩:=hA x (cr f);rw[l]at g;injection g with g;subst g;rw[u _ (by rw[eK];exact q)];exact hv ad l i j x y f m
 |box cs ad vs hs hv hd ih =>
  refine .box cs ad vs (r _ hs) (fun j y m=>?_) (fun j y m=>ih j y m);rw[u _ (by rw[eK];exact hs)];exact hv j y m
 |nilp=>exact .nilp
inductive AV where
 |any
 |d (v:DV)
 |agg (cs:List AV)
 |tup (vs:List AV)
 /-- a slice over rows i0 .. i0+len of block id,which has tot rows -/
 |own (id i0 len tot:Nat)
 /-- a slice over cells of one row of block id: e cells an element,from cell off on;len elements,cap elements -/
 |sub (id i off e len cap tot:Nat)
 /-- a pointer at a cell of a row of block id -/
 |ptr (id i off tot:Nat)
 /-- a pointer at cells that are read-only -/
 |rop (cs:List DV)
 |fn (f:FuncId) (cs:List AV)
 /-- a method bound to its first values -/
 |mth (f:FuncId) (cs:List AV)
 /-- the nil slice,known as such -/
 |nil
 /-- a map of the call's own -/
 |mp (id:Nat)
 deriving Inhabited
structure Blk where
 ty:TypeId
 e:Nat
 es:List (List AV)
 deriving Inhabited
abbrev Hp:=List (Nat×Blk)
def lk{α:Type}(n:Nat):List (Nat×α)→Option α
 |[]=>none
 |(m,v)::t=>if m=n then some v else lk n t
def World.rows(w:World)(b:Nat)(ty:TypeId)(n:Nat):Prop:=∃ccs,w.heap[b]?=some (.cells ccs ty (0,0))∧ccs.size=n
inductive AIs(w:World)(S:Nat→Prop)(σ:Nat→Option Nat)(hp:Hp)(U:Nat→Prop):AV→Value→Prop
 |any (v:Value):AIs w S σ hp U .any v
 |d {d:DV} {v:Value} (h:DIs w S d v):AIs w S σ hp U (.d d) v
 |agg (cs:List AV) (xs:Array Value) (hl:cs.length=xs.size) (h1:∀(i:Nat)(x:Value),xs[i]?=some x→x.oneCell'=true) (h:∀(i:Nat)(c:AV)(x:Value),cs[i]?=some c→xs[i]?=some x→AIs w S σ hp U c x):AIs w S σ hp U (.agg cs) (.agg xs)
 |tup (cs:List AV) (xs:Array Value) (hl:cs.length=xs.size) (h:∀(i:Nat)(c:AV)(x:Value),cs[i]?=some c→xs[i]?=some x→AIs w S σ hp U c x):AIs w S σ hp U (.tup cs) (.tuple xs)
 | own (id i0 len tot:Nat) (A:Option Addr) (cap:Nat) (hN:U id) (hl:len≤cap) (h0:A=none→len=0)
   (h:∀b,lk id hp=some b→tot≤b.es.length∧(b.es.length=tot→i0+len≤tot∧tot≤i0+cap∧(0<cap→∃g,σ id=some g∧A=some ⟨g,i0*b.e,none⟩∧∃n,World.rows w g b.ty n∧(i0+cap)*b.e≤n))) :
   AIs w S σ hp U (.own id i0 len tot) (.slice A len cap)
 | sub (id i off e len cap tot:Nat) (A:Option Addr) (hN:U id) (hl:len≤cap) (h0:A=none→len=0)
   (h:∀b,lk id hp=some b→tot≤b.es.length∧(b.es.length=tot→i<tot∧off+cap*e≤b.e∧(0<cap→∃g,σ id=some g∧A=some ⟨g,i*b.e+off,none⟩))) :
   AIs w S σ hp U (.sub id i off e len cap tot) (.slice A len cap)
 | ptr (id i off tot:Nat) (a:Addr) (hN:U id)
   (h:∀b,lk id hp=some b→tot≤b.es.length∧(b.es.length=tot→∃g,σ id=some g∧a=⟨g,i*b.e+off,none⟩)) :
   AIs w S σ hp U (.ptr id i off tot) (.pointer (some a))
 | rop (cs:List DV) (ad:Addr) (vs:Nat→Value)
   (hS:S ad.block)
   (hv:∀(j:Nat)(y:DV),cs[j]?=some y→w.cell? (ad.add j)=some (vs j))
   (hd:∀(j:Nat)(y:DV),cs[j]?=some y→DIs w S y (vs j)) :
   AIs w S σ hp U (.rop cs) (.pointer (some ad))
 |fn (f:FuncId) (cs:List AV) (xs:Array Value) (hl:cs.length=xs.size) (h:∀(i:Nat)(c:AV)(x:Value),cs[i]?=some c→xs[i]?=some x→AIs w S σ hp U c x):AIs w S σ hp U (.fn f cs) (.func (.func f) #[] xs)
 |mth (f:FuncId) (cs:List AV) (xs:Array Value) (hl:cs.length=xs.size) (h:∀(i:Nat)(c:AV)(x:Value),cs[i]?=some c→xs[i]?=some x→AIs w S σ hp U c x):AIs w S σ hp U (.mth f cs) (.func (.func f) xs #[])
 |nil:AIs w S σ hp U .nil (.slice none 0 0)
 |mp (id g:Nat) (hN:U id) (h:∀b,lk id hp=some b→b.ty=g):AIs w S σ hp U (.mp id) (.map (some g))
structure Step(w:World)(S:Nat→Prop)(σ:Nat→Option Nat)(hp:Hp)(U:Nat→Prop)(w':World)(S':Nat→Prop)(σ':Nat→Option Nat)(hp':Hp)(U':Nat→Prop):Prop where
 sub:∀b,S b→S' b
 cell:∀p:Addr,S p.block→w'.cell? p=w.cell? p
 le:∀i,U i→U' i
 blk:∀id b',U id→lk id hp'=some b'→∃b,lk id hp=some b∧b'.e=b.e∧b'.ty=b.ty∧b.es.length≤b'.es.length ∧
  (b'.es.length=b.es.length→∀g,σ id=some g→σ' id=some g∧∀n,World.rows w g b.ty n→World.rows w' g b.ty n)
theorem AIs.step{w w':World}{S S':Nat→Prop}{σ J:Nat→Option Nat}{hp s:Hp}{U H:Nat→Prop}(st:Step w S σ hp U w' S' J s H){a:AV}{v:Value}(h:AIs w S σ hp U a v):AIs w' S' J s H a v:=by
 induction h with
 |any v=>exact .any v
 |d h=>exact .d (h.mono st.sub st.cell)
 |agg cs xs hl B _ ih=>exact .agg cs xs hl B ih
 |tup cs xs hl _ ih=>exact .tup cs xs hl ih
 |own id i0 len tot A cap hN hl h0 h =>
  refine .own id i0 len tot A cap (st.le _ hN) hl h0 fun p k=>?_;obtain⟨b,r,q,m,u,l⟩:=st.blk id p hN k;obtain⟨B,z⟩:=h b r;refine⟨aq,fun I=>?_⟩;obtain⟨D,C,F⟩:=z aq;refine⟨D,C,fun hc=>?_⟩;obtain⟨g,t,E,n,x,O⟩:=F hc;obtain⟨L,M⟩:=l aq g t;exact⟨g,L,by rw[q];exact E,n,by rw[m];exact M n x,by rw[q];exact O⟩
 |sub id i off e len cap tot A hN hl h0 h =>
  refine .sub id i off e len cap tot A (st.le _ hN) hl h0 fun p k=>?_;obtain⟨b,r,q,m,u,l⟩:=st.blk id p hN k;obtain⟨B,z⟩:=h b r;refine⟨aq,fun I=>?_⟩;obtain⟨D,F,E⟩:=z aq;refine⟨D,by rw[q];exact F,fun hc=>?_⟩;obtain⟨g,t,x⟩:=E hc;exact⟨g,(l aq g t).1,by rw[q];exact x⟩
 |ptr id i off tot a hN h =>
  refine .ptr id i off tot a (st.le _ hN) fun p k=>?_;obtain⟨b,r,q,m,u,l⟩:=st.blk id p hN k;obtain⟨B,z⟩:=h b r;refine⟨aq,fun I=>?_⟩;obtain⟨g,t,x⟩:=z aq;exact⟨g,(l aq g t).1,by rw[q];exact x⟩
 |rop cs ad vs hS hv hd =>
  refine .rop cs ad vs (st.sub _ hS) (fun j y G=>?_) (fun j y G=>(hd j y G).mono st.sub st.cell);rw[st.cell _ (by rw[eK];exact hS)];exact hv j y G
 |fn f cs xs hl _ ih=>exact .fn f cs xs hl ih
 |mth f cs xs hl _ ih=>exact .mth f cs xs hl ih
 |nil=>exact .nil
 |mp id g hN h =>
  refine .mp id g (st.le _ hN) fun p k=>?_;obtain⟨b,r,_,m,_⟩:=st.blk id p hN k;rw[m];exact h b r
def pT(u:List (IntKind×Int)):List AV:=u.map fun p=>.d (.int p.1 p.2)
def nE(u:List (IntKind×Int)):Value:=.agg (u.map fun p=>Value.int p.1 p.2).toArray
def pC(b:List (List (IntKind×Int))):List (List AV):=[.any]::b.map pT
def Yk(w:World)(g:Nat)(es:List (List AV)):Prop :=
 ∃(e:List (List (IntKind×Int)))(d:Array MapEntry)(b:Nat),es=pC e∧w.heap[g]?=some (.map d b) ∧
  (∀m∈d.toList,m.val=.bool true∧∃u∈e,m.key=nE u)∧∀u∈e,∃m∈d.toList,m.key=nE u
def NoB(n:Nat)(w:World)(b:Blk):Prop:=b.es=[]∨(b.e=0∧n≤b.ty∧Yk w b.ty b.es)
theorem NoB.keep{n:Nat}{w w':World}{b:Blk}(h:NoB n w b)(e:∀(g:Nat)(f:Array MapEntry)(d:Nat),w.heap[g]?=some (Obj.map f d)→w'.heap[g]?=w.heap[g]?):NoB n w' b:=by
 rcases h with h|⟨m,l,p,f,d,j,i,k⟩;exact .inl h;exact .inr ⟨m,l,p,f,d,j,(e _ _ _ i).trans i,k⟩
theorem NoB.le{n e:Nat}{w:World}{b:Blk}(d:e≤n)(h:NoB n w b):NoB e w b:=by
 rcases h with h|⟨i,g,f⟩;exact .inl h;exact .inr ⟨i,Nat.le_trans d g,f⟩
theorem uU{w:World}{g:Nat}{o:Obj}(h:w.heap[g]?=some o):g<w.heap.size:=(Array.getElem?_eq_some_iff.1 h).1
theorem NoB.none{n:Nat}{w:World}{b:Blk}(h:NoB n w b)(d:b.e≠0):b.es=[]:=by
 rcases h with h|⟨f,_⟩;exact h;exact(d f).elim
def BlkOk(w:World)(S:Nat→Prop)(σ:Nat→Option Nat)(hp:Hp)(U:Nat→Prop)(g:Nat)(b:Blk):Prop :=
 ∃ccs,w.heap[g]?=some (.cells ccs b.ty (0,0))∧(∀(i:Nat)(x:Value),ccs[i]?=some x→x.oneCell'=true)∧(∀x,x∈b.es→x.length=b.e)∧b.es.length*b.e≤ccs.size ∧
  ∀(i j:Nat)(x:List AV)(y:AV)(v:Value),b.es[i]?=some x→x[j]?=some y→ccs[i*b.e+j]?=some v→AIs w S σ hp U y v
structure Ctx where
 w0:World
 M0:Nat→Prop
 S0:Nat→Prop
 n:Nat
 hM:∀b,M0 b→S0 b
 /-- what was handed in as one's own: ids below kx -/
 Sx:Nat→Prop
 σx:Nat→Option Nat
 hpx:Hp
 kx:Nat
 hk:kx≤64
def bD(c:Ctx)(w:World)(σ:Nat→Option Nat)(hp:Hp)(b:Nat):Prop:=(b<w.heap.size∧∀id blk g,lk id hp=some blk→σ id=some g→b≠g)∧(c.S0 b∨c.w0.heap.size≤b)
structure Rel(c:Ctx)(hp:Hp)(U:Nat→Prop)(σ:Nat→Option Nat)(w:World):Prop where
 inj:∀i j bi bj g,lk i hp=some bi→lk j hp=some bj→σ i=some g→σ j=some g→i=j
 lt:∀i b,lk i hp=some b→U i
 blk:∀i b,lk i hp=some b→(σ i=none∧NoB c.w0.heap.size w b)∨∃g,σ i=some g∧BlkOk w (bD c w σ hp) σ hp U g b
 mine:∀i b g,lk i hp=some b→σ i=some g→c.M0 g∨c.w0.heap.size≤g
 os:w.os=c.w0.os
 tape:w.tape=c.w0.tape
 output:w.output=c.w0.output
 size:c.w0.heap.size≤w.heap.size
 old:∀b,b<c.w0.heap.size→¬c.M0 b→w.heap[b]?=c.w0.heap[b]?
theorem Rel.there{c:Ctx}{hp:Hp}{U:Nat→Prop}{σ:Nat→Option Nat}{w:World}(m:Rel c hp U σ w){i k:Nat}{b:Blk}{d:List AV}(f:lk i hp=some b)(l:b.e≠0)(h:b.es[k]?=some d):∃g,σ i=some g∧BlkOk w (bD c w σ hp) σ hp U g b:=by
 rcases m.blk i b f with ⟨_,n⟩|j;rw[n.none l]at h;simp at h;exact j
theorem Rel.at{c:Ctx}{hp:Hp}{U:Nat→Prop}{σ:Nat→Option Nat}{w:World}(j:Rel c hp U σ w){i g:Nat}{b:Blk}(h:lk i hp=some b)(f:σ i=some g):BlkOk w (bD c w σ hp) σ hp U g b:=by
 rcases j.blk i b h with ⟨e,_⟩|⟨l,d,k⟩;rw[f]at e;cases e;rw[f]at d;injection d with d;subst d;exact k
end Go.Am
namespace Go.Am
inductive TK where
 |none
 |scal
 |str
 |slice (e:TypeId)
 |arr (n:Nat) (e:TypeId)
 |struct (fs:List (Nat×TypeId))
 deriving Inhabited
def bU(P:Program)(t:TypeId):TK :=
 match P.underlying t with
 |Option.none=>.none
 |some (.struct fs)=>.struct (fs.toList.map fun f=>(f.offset,f.type))
 |some (.array n e)=>.arr n e
 |some (.slice e)=>.slice e
 |some .string=>.str
 |some _=>.scal
def JY:Value→AV
 | .int k n=>.d (.int k n)
 | .bool b=>.d (.bool b)
 | .string s=>.d (.str (s.data.toList.map fun c=>(c.toNat:Int)))
 | .slice Option.none 0 0=>.nil
 | .pointer Option.none=>.d .nilp
 |_=>.any
def OZ:Value→AV
 | .agg cs=>if cs.all Value.oneCell' then .agg (cs.toList.map JY)else .any
 |v=>JY v
abbrev Fr:=List (Nat×AV)
def fv(n:Nat)(fr:Fr):AV:=(lk n fr).getD .any
def ev(fr:Fr):Operand→AV
 | .tmp t=>fv t fr
 | .const v=>OZ v
 | .func f=>.fn f []
 | .global _=>.any
def AV.cells:AV→List AV
 | .agg cs=>cs
 |v=>[v]
def EA(P:Program)(t:TypeId)(b:List AV):Option AV :=
 match bU P t with
 | .none=>Option.none
 | .arr _ _ | .struct _=>if P.cellsOf t≤b.length then some (.agg (b.take (P.cellsOf t)))else Option.none
 |_=>b.head?
def bJ(id:Nat)(b:Blk):Hp→Hp
 |[]=>[]
 |(m,v)::t=>if m=id then(m,b)::t else(m,v)::bJ id b t
section
variable {w:World} {S:Nat→Prop} {σ:Nat→Option Nat} {hp:Hp} {U:Nat→Prop}
theorem zD{d:DV}{v:Value}(h:DIs w S d v):v.oneCell'=true:=by cases h<;>rfl
theorem zE(v:Value):AIs w S σ hp U (JY v) v:=by
 unfold JY;split;exact .d (.int _ _);exact .d (.bool _);exact .d (.str _);exact .nil;exact .d .nilp;exact .any _
theorem Up(v:Value):AIs w S σ hp U (OZ v) v:=by
 unfold OZ;split;rename_i f;split;rename_i h;refine .agg _ _ aw (fun i x d=>?_) (fun i c x hc d=>?_);simp only[Array.all_eq_true]at h;obtain⟨e,rfl⟩:=Array.getElem?_eq_some_iff.1 d;exact h i e;simp only[cU,Array.getElem?_toList,Option.map_eq_some_iff]at hc;obtain⟨a,b,rfl⟩:=hc;rw[d]at b;injection b with b;subst b;exact zE _;exact .any _;exact zE _
theorem x8{fr:Fr}{a:Act}(h:∀n,AIs w S σ hp U (fv n fr) (a.tmps.getD n undef))(x:Operand):AIs w S σ hp U (ev fr x) (a.eval x):=by
 cases x with
 |tmp t=>exact h t
 |const v=>exact Up v
 |func f=>exact .fn f [] #[] rfl aw
 |global g=>exact .any _
theorem Step.trans{m v:World}{r x:Nat→Prop}{t q:Nat→Option Nat}{d e:Hp}{u s:Nat→Prop}(h:Step w S σ hp U m r t d u)(k:Step m r t d u v x q e s):Step w S σ hp U v x q e s:=by
 refine⟨fun b O=>k.sub b (h.sub b O),fun p hp=>(k.cell p (h.sub _ hp)).trans (h.cell p hp),fun i C=>k.le i (h.le i C),fun id E f j=>?_⟩;obtain⟨B,G,D,L,I,Q⟩:=k.blk id E (h.le _ f) j;obtain⟨A,J,z,l,H,M⟩:=h.blk id B f G;refine⟨A,J,D.trans z,L.trans l,Nat.le_trans H I,fun X g W=>?_⟩;obtain⟨F,y⟩:=M aq g W;obtain⟨R,T⟩:=Q aq g F;refine⟨R,fun n V=>?_⟩;have:=y n V;rw[←l]at this;have:=T n this;rw[l]at this;exact this
end
def ec(U:Nat→Prop)(N:Nat)(i:Nat):Prop:=U i∨(N≤i∧i<N+32)
def Free(U:Nat→Prop)(N:Nat):Prop:=∀i,N≤i→i<N+32→¬U i
theorem Free.at{U:Nat→Prop}{N:Nat}(h:Free U N):¬U N:=h N (cL _) aq
theorem mE{U:Nat→Prop}{N:Nat}:ec U N N:=.inr ⟨cL _,aq⟩
def Good(c:Ctx)(K:AV→Hp→Prop)(hp:Hp)(U:Nat→Prop)(N:Nat)(σ:Nat→Option Nat)(w:World)(x:Value)(w':World):Prop :=
 ∃v hp' σ',K v hp'∧Rel c hp' (ec U N) σ' w'∧Step w (bD c w σ hp) σ hp U w' (bD c w' σ' hp') σ' hp' (ec U N)∧AIs w' (bD c w' σ' hp') σ' hp' (ec U N) v x
def OpOk(P:Program)(c:Ctx)(K:AV→Hp→Prop)(hp:Hp)(U:Nat→Prop)(N:Nat)(σ:Nat→Option Nat)(w:World):Result Next→Prop
 | .ok (.value x) b=>Good c K hp U N σ w x b
 | .ok .skip b=>Good c K hp U N σ w undef b
 | .ok (.enter f args) b=>b=w∧Calls P f args w fun e b=>∃x,e=.returned x∧Good c K hp U N σ w x b
 |_=>False
section
variable {P:Program} {c:Ctx} {K:AV→Hp→Prop} {hp:Hp} {U:Nat→Prop} {N:Nat} {σ:Nat→Option Nat} {w:World}
theorem Step.more{S:Nat→Prop}:Step w S σ hp U w S σ hp (ec U N):=⟨fun _ h=>h,fun _ _=>rfl,fun _ h=>.inl h,fun id b _ h=>⟨b,h,rfl,rfl,cL _,fun _ g d=>⟨d,fun _ h=>h⟩⟩⟩
theorem Rel.more(d:Rel c hp U σ w):Rel c hp (ec U N) σ w:=by
 refine⟨d.inj,fun i b h=>.inl (d.lt i b h),fun i b h=>?_,d.mine,d.os,d.tape,d.output,d.size,d.old⟩;rcases d.blk i b h with r|⟨g,m,e,n,q,l,p,t⟩;exact .inl r;exact .inr ⟨g,m,e,n,q,l,p,fun i j x y v f s k=>(t i j x y v f s k).step Step.more⟩
theorem Good.same(d:Rel c hp U σ w){v:AV}{x:Value}(b:K v hp)(h:AIs w (bD c w σ hp) σ hp U v x):Good c K hp U N σ w x w :=
 ⟨v,hp,σ,b,d.more,Step.more,h.step Step.more⟩
theorem OpOk.val{r:Result Next}{x:Value}(h:r=.ok (.value x) w)(g:Good c K hp U N σ w x w):OpOk P c K hp U N σ w r:=by
 subst h;exact g
end
def BB(c:Ctx)(hp:Hp)(U:Nat→Prop)(σ:Nat→Option Nat)(w:World):Prop:=Step c.w0 c.Sx c.σx c.hpx (fun i=>i<c.kx) w (bD c w σ hp) σ hp U
def nu(c:Ctx)(fr:Fr)(hp:Hp)(U:Nat→Prop)(a:Act)(w:World):Prop :=
 a.defers=[]∧a.tmps.size=c.n∧∃ σ,Rel c hp U σ w∧(∀n,AIs w (bD c w σ hp) σ hp U (fv n fr) (a.tmps.getD n undef))∧BB c hp U σ w
def bf(fr:Fr)(b:Option Tmp)(v:AV):Fr :=
 match b with
 |some d=>(d,v)::fr
 |none=>fr
def gq(n:Nat):Option Tmp→Prop
 |some d=>d<n
 |none=>True
theorem ju(d n:Nat)(v:AV)(fr:Fr):fv n ((d,v)::fr)=if d=n then v else fv n fr:=by
 unfold fv;simp only[lk];split<;>simp
theorem O0{c:Ctx}{fr:Fr}{hp b:Hp}{U j:Nat→Prop}{a:Act}{w w':World}{σ f:Nat→Option Nat}{e:Option Tmp}{v:AV}{x:Value}
  (r:a.defers=[]) (l:a.tmps.size=c.n) (g:gq c.n e)
  (q:∀n,AIs w (bD c w σ hp) σ hp U (fv n fr) (a.tmps.getD n undef))
  (p:BB c hp U σ w) (m:Rel c b j f w') (i:Step w (bD c w σ hp) σ hp U w' (bD c w' f b) f b j) (s:AIs w' (bD c w' f b) f b j v x) :
  nu c (bf fr e v) b j (a.put e x) w':=by
 cases e with
 |none=>exact⟨r,l,f,m,fun n=>(q n).step i,p.trans i⟩
 | some d =>
  refine⟨r,by simp[Act.put,l],f,m,fun n=>?_,p.trans i⟩;simp only[bf,Act.put,ju];have k:d<a.tmps.size:=by rw[l];exact g
  by_cases h:d=n;subst h;simp only[if_true];have:(a.tmps.setIfInBounds d x).getD d undef=x:=by simp[Array.getD,k]
  rw[this];exact s;simp only[if_neg h];have:(a.tmps.setIfInBounds d x).getD n undef=a.tmps.getD n undef:=by
   simp only[ct,Array.getElem?_setIfInBounds,if_neg h]
  rw[this];exact(q n).step i
theorem qK{P:Program}{c:Ctx}{fr:Fr}{hp:Hp}{U:Nat→Prop}{N:Nat}{a:Act}{w:World}{σ:Nat→Option Nat}{o:Oper}{K:AV→Hp→Prop}{next:Act→World→Prop}{Q:Exit→Act→World→Prop}{r:Result Next}
  (t:a.defers=[]) (u:a.tmps.size=c.n) (i:gq c.n o.dst)
  (m:∀n,AIs w (bD c w σ hp) σ hp U (fv n fr) (a.tmps.getD n undef)) (l:BB c hp U σ w)
  (h:OpOk P c K hp U N σ w r)
  (d:∀v b a' w',K v b→nu c (bf fr o.dst v) b (ec U N) a' w'→next a' w') :
  o.upon P a next Q r:=by
 have g:∀x w',Good c K hp U N σ w x w'→next (a.put o.dst x) w':=by
  rintro x w'⟨v,b,σ',j,k,q,s⟩;exact d v b _ w' j (O0 t u i m l k q s)
 cases r with
 |halt e w'=>exact h.elim
 | ok n w' =>
  cases n with
  |value x=>exact g x w' h
  |skip=>exact g undef w' h
  |enter f args =>
   obtain⟨rfl,h⟩:=h;refine h.mono fun e w' p=>?_;obtain⟨x,rfl,y⟩:=p;exact g x w' y
  |_=>exact h.elim
end Go.Am
namespace Go.Am
def kB(b:BinOp)(k:IntKind)(x y:Int)(K:AV→Hp→Prop)(hp:Hp):Prop :=
 match b with
 | .add=>K (.d (.int k (k.wrap (x+y)))) hp
 | .sub=>K (.d (.int k (k.wrap (x-y)))) hp
 | .mul=>K (.d (.int k (k.wrap (x*y)))) hp
 | .quo=>y≠0∧K (.d (.int k (k.wrap (x.tdiv y)))) hp
 | .rem=>y≠0∧K (.d (.int k (x.tmod y))) hp
 | .and=>K (.d (.int k (bits .and k x y))) hp
 | .or=>K (.d (.int k (bits .or k x y))) hp
 | .xor=>K (.d (.int k (bits .xor k x y))) hp
 | .andNot=>K (.d (.int k (bits .andNot k x y))) hp
 | .eql=>K (.d (.bool (decide (x=y)))) hp
 | .neq=>K (.d (.bool (!decide (x=y)))) hp
 | .lss=>K (.d (.bool (decide (x<y)))) hp
 | .leq=>K (.d (.bool (decide (x≤y)))) hp
 | .gtr=>K (.d (.bool (decide (y<x)))) hp
 | .geq=>K (.d (.bool (decide (y≤x)))) hp
 | .shl=>0≤y∧K (.d (.int k (k.wrap (x*2 ^ (min y.toNat k.bits))))) hp
 | .shr=>0≤y∧K (.d (.int k (x.fdiv (2 ^ (min y.toNat k.bits))))) hp
def d5:List Int→List Int→Bool
 |_,[]=>false
 |[],_::_=>true
 |a::x,b::y=>decide (a<b)||(decide (a=b)&&d5 x y)
def qL:BinOp→Bool
 | .shl=>true
 | .shr=>true
 |_=>false
def AV.nilTest:AV→Bool
 | .d (.ro _ _)=>true
 | .own ..=>true
 | .sub ..=>true
 |_=>false
def AV.slen:AV→Option Nat
 | .d (.ro _ es)=>some es.length
 | .d (.rof _ es)=>some es.length
 | .own _ _ len _=>some len
 | .sub _ _ _ _ len _ _=>some len
 | .nil=>some 0
 |_=>none
def DV.isInt:DV→Option Int
 | .int _ n=>some n
 |_=>none
def AV.int?:AV→Option (IntKind×Int)
 | .d (.int k n)=>some (k,n)
 |_=>none
def dH(P:Program)(e:BinOp)(t:TypeId)(x y:AV)(K:AV→Hp→Prop)(hp:Hp):Prop :=
 match x,y with
 | .d (.int k a),.d (.int k' b)=>(qL e=true∨k=k')∧kB e k a b K hp
 | .d (.bool a),.d (.bool b) =>
  (match e with
  | .eql=>P.underlying t=some .bool∧K (.d (.bool (a==b))) hp
  | .neq=>P.underlying t=some .bool∧K (.d (.bool (a != b))) hp
  |_=>False)
 | .d (.str a),.d (.str b) =>
  (match e with
  | .eql=>K (.d (.bool (decide (a=b)))) hp
  | .neq=>K (.d (.bool (!decide (a=b)))) hp
  | .lss=>K (.d (.bool (d5 a b))) hp
  | .leq=>K (.d (.bool (d5 a b||decide (a=b)))) hp
  | .gtr=>K (.d (.bool (!(d5 a b||decide (a=b))))) hp
  | .geq=>K (.d (.bool (!d5 a b))) hp
  | .add=>a.length+b.length≤9223372036854775807∧K (.d (.str (a++b))) hp
  |_=>False)
 | v,.nil =>
  (match e,v,bU P t with
  | .eql,.nil,.slice _=>K (.d (.bool true)) hp
  | .neq,.nil,.slice _=>K (.d (.bool false)) hp
  | .eql,v,.slice _=>(match v.slen with
   |some n=>∀b,(b=true→n=0)→K (.d (.bool b)) hp
   |none=>False)
  | .neq,v,.slice _=>(match v.slen with
   |some n=>∀b,(b=false→n=0)→K (.d (.bool b)) hp
   |none=>False)
  |_,_,_=>False)
 |_,_=>False
def GG(P:Program)(t:TypeId):Bool :=
 match P.underlying t with
 |some (.pointer _)=>true
 |_=>false
def jI(P:Program)(t:TypeId):Option IntKind :=
 match P.underlying t with
 |some (.int k)=>some k
 |_=>none
def OT(P:Program)(b:BinOp)(t:TypeId)(v:Bool)(K:AV→Hp→Prop)(hp:Hp):Prop :=
 GG P t=true∧(match b with
  | .eql=>K (.d (.bool v)) hp
  | .neq=>K (.d (.bool (!v))) hp
  |_=>False)
def cn(k:IntKind):List AV→Option (List Int)
 |[]=>some []
 | .d (.int k' n)::r=>if k'=k then(cn k r).map (n::·)else none
 |_::_=>none
def Tu(P:Program)(e:BinOp)(t:TypeId)(n:Nat)(el:TypeId)(k:Option IntKind)(a b:List AV)(K:AV→Hp→Prop)(hp:Hp):Prop :=
 match k with
 | some k=>(match cn k a,cn k b with
  |some us,some vs=>us.length=n∧vs.length=n∧P.cellsOf el=1∧P.eqGuardType P.depth t=false∧(match e with
   | .eql=>K (.d (.bool (decide (us=vs)))) hp
   | .neq=>K (.d (.bool (!decide (us=vs)))) hp
   |_=>False)
  |_,_=>False)
 |none=>False
inductive L1 where
 |i (k:IntKind) (n:Int)
 |b (v:Bool)
 deriving DecidableEq
def L1.v:L1→Value
 | .i k n=>.int k n
 | .b v=>.bool v
def L1.k:L1→Option IntKind
 | .i k _=>some k
 | .b _=>none
instance:Inhabited L1:=⟨.b false⟩
def uV(P:Program)(g:TypeId→Option (List (Option IntKind))):Nat→List Field→Option (List (Option IntKind))
 |_,[]=>some []
 | off, f :: r => if f.name ≠ "_" ∧ f.offset = off then (match g f.type with
  |some a=>if P.cellsOf f.type=a.length then(uV P g (off+a.length) r).map (a++·)else none
  |none=>none)else none
def d6(P:Program):Nat→TypeId→Option (List (Option IntKind))
 |0,_=>none
 | m+1,t=>match P.underlying t with
  |some (.int k)=>some [some k]
  |some .bool=>some [none]
  |some (.array n e)=>(match d6 P m e with
   |some a=>if P.cellsOf e=a.length then some (List.replicate n a).flatten else none
   |none=>none)
  |some (.struct fs)=>if P.stoodInHeld t=true then none else uV P (d6 P m) 0 fs.toList
  |_=>none
def eW:List AV→Option (List L1)
 |[]=>some []
 | .d (.int k n)::r=>(eW r).map (L1.i k n::·)
 | .d (.bool v)::r=>(eW r).map (L1.b v::·)
 |_::_=>none
def Tv(P:Program)(e:BinOp)(t:TypeId)(a b:List AV)(K:AV→Hp→Prop)(hp:Hp):Prop :=
 match eW a,eW b with
 |some us,some vs=>P.eqGuardType P.depth t=false∧d6 P 8 t=some (us.map L1.k)∧d6 P 8 t=some (vs.map L1.k)∧(match e with
  | .eql=>K (.d (.bool (decide (us=vs)))) hp
  | .neq=>K (.d (.bool (!decide (us=vs)))) hp
  |_=>False)
 |_,_=>False
def df(P:Program)(e:BinOp)(t:TypeId)(x y:AV)(K:AV→Hp→Prop)(hp:Hp):Prop :=
 match x,y with
 | .ptr _ _ _ _,.d .nilp=>OT P e t false K hp
 | .rop _,.d .nilp=>OT P e t false K hp
 | .d .nilp,.d .nilp=>OT P e t true K hp
 | .agg a,.agg b=>(match bU P t with
  | .arr n el=>Tu P e t n el (jI P el) a b K hp
  | .struct _=>Tv P e t a b K hp
  |_=>False)
 |x,y=>dH P e t x y K hp
def kC(P:Program)(t:TypeId)(i:Nat):Option (Nat×TypeId) :=
 match bU P t with
 | .struct fs=>fs[i]?
 |_=>none
def fP(P:Program)(g:FuncId)(args:List AV)(hp:Hp)(N:Nat)(K:AV→Hp→Prop):Prop :=
 (∃ fn, P.funcs[g]? = some fn ∧ (fn.name == "runtime.NumGoroutine") = false ∧ fn.body.isNone = false) ∧
 ∀(c:Ctx)(U:Nat→Prop)(σ:Nat→Option Nat)(w:World)(vs:List Value),Rel c hp U σ w→Free U N→vs.length=args.length →
  (∀(i:Nat)(v:AV)(x:Value),args[i]?=some v→vs[i]?=some x→AIs w (bD c w σ hp) σ hp U v x) →
  Calls P g vs.toArray w fun e w'=>∃x,e=.returned x∧Good c K hp U N σ w x w'
def qM(P:Program)(g:FuncId)(args:List AV)(r:AV):Prop :=
 ∀(w:World)(S:Nat→Prop)(σ:Nat→Option Nat)(hp:Hp)(U:Nat→Prop)(b:List Value),b.length=args.length →
  (∀(i:Nat)(v:AV)(x:Value),args[i]?=some v→b[i]?=some x→AIs w S σ hp U v x)→∃x,(callFunc g b.toArray).run P w=.ok (.value x) w∧AIs w S σ hp U r x
def JZ(P:Program)(g:FuncId)(args:List AV)(hp:Hp)(K:AV→Hp→Prop):Prop:=∃r,qM P g args r∧K r hp
def AV.num:AV→Option Int
 | .d (.int _ n)=>some n
 |_=>none
def zF(fr:Fr)(b:Int):Option Operand→Option Int
 |none=>some b
 |some x=>(ev fr x).num
def EB(fr:Fr):Option Operand→Option Int
 |none=>none
 |some x=>(ev fr x).num
def AV.cellsO:AV→Option (List AV)
 | .agg cs=>some cs
 | .any=>none
 | .tup _=>none
 |v=>some [v]
def lU(b:Nat→Option (Nat×Nat)):List AV→List (Nat×AV)→Option (List AV)
 |cells,[]=>some cells
 |cells,(i,v)::rest =>
  match b i,v.cellsO with
  |some (off,size),some vs=>if vs.length=size∧off+size≤cells.length then lU b (cells.take off++(vs++cells.drop (off+size))) rest else none
  |_,_=>none
def uW(size:Nat):List (List AV)→List (Nat×AV)→Option (List (List AV))
 |rows,[]=>some rows
 |rows,(i,v)::rest =>
  match v.cellsO with
  |some vs=>if vs.length=size∧i<rows.length then uW size (rows.set i vs) rest else none
  |none=>none
def jJ(P:Program)(b:List (Nat×TypeId))(i:Nat):Option (Nat×Nat):=(b[i]?).map fun f=>(f.1,P.cellsOf f.2)
def sH(P:Program)(k:TK)(d:List AV)(b:List (Nat×AV))(K:AV→Hp→Prop)(hp:Hp):Prop :=
 match k with
 | .struct fs=>(∀f,f∈fs→P.cellsOf f.2≠0)∧(match lU (jJ P fs) d b with
  |some cs=>K (.agg cs) hp
  |none=>False)
 | .arr _ el=>P.cellsOf el≠0∧(match lU (fun i=>some (i*P.cellsOf el,P.cellsOf el)) d b with
  |some cs=>K (.agg cs) hp
  |none=>False)
 |_=>False
def fK(P:Program)(t:TypeId):Option (List AV) :=
 match(P.info? t).bind (·.zero)with
 |some v=>if v.cells.all Value.oneCell'=true∧v.cells.size≠0∧v.cells.size=P.cellsOf t then some (v.cells.toList.map JY)else none
 |none=>none
def nF(P:Program)(k:TK)(len:Nat)(b:List (Nat×AV))(N:Nat)(K:AV→Hp→Prop)(hp:Hp):Prop :=
 match k with
 | .slice el=>(match fK P el with
  |some z=>len*P.cellsOf el≤16777216∧(match uW (P.cellsOf el) (List.replicate len z) b with
   |some rows=>K (.own N 0 len len) ((N,⟨el,P.cellsOf el,rows⟩)::hp)
   |none=>False)
  |none=>False)
 |_=>False
def dh(hp:Hp)(sz:Nat):AV→Option (List (List AV))
 | .nil=>some []
 | .d (.ro e es)=>if e=sz then some (es.map fun r=>r.map .d)else none
 | .own id i0 len tot =>
  match lk id hp with
  |some b=>if b.es.length=tot∧b.e=sz then some ((b.es.drop i0).take len)else none
  |none=>none
 | .sub id i off e len _ tot =>
  match lk id hp with
  |some b =>
   (match b.es[i]? with
   |some row=>if b.es.length=tot∧e=sz then some ((List.range len).map fun k=>(row.drop (off+k*e)).take e)else none
   |none=>none)
  |none=>none
 |_=>none
def fL (P:Program) (el:TypeId) (s:AV) (xs:Option (List (List AV))) (N:Nat) (K:AV→Hp→Prop) (hp:Hp):Prop :=
 match s,xs with
 | .nil,some xs=>(fK P el).isSome=true∧P.bytesOf el≠0∧xs.length*P.bytesOf el≤140737488355328∧K (.own N 0 xs.length xs.length) ((N,⟨el,P.cellsOf el,xs⟩)::hp)
 | .own id 0 len tot,some xs =>
  (match lk id hp with
  | some b=>b.es.length=tot∧b.ty=el∧b.e=P.cellsOf el∧(fK P el).isSome=true∧P.bytesOf el ≠ 0∧(len+xs.length)*P.bytesOf el≤140737488355328 ∧
    (len+xs.length≤tot→K (.own id 0 (len+xs.length) tot) (bJ id ⟨b.ty,b.e,b.es.take len++(xs++b.es.drop (len+xs.length))⟩ hp)) ∧
    (tot<len+xs.length→K (.own id 0 (len+xs.length) (len+xs.length)) (bJ id ⟨b.ty,b.e,b.es.take len++xs⟩ hp))
  |none=>False)
 | .d (.rof e es),some xs=>e=P.cellsOf el∧(fK P el).isSome=true∧P.bytesOf el ≠ 0∧(es.length+xs.length)*P.bytesOf el≤140737488355328 ∧
   ((∃f:List (List DV),xs=f.map (fun r=>r.map AV.d)∧K (.d (.ro e (es++f))) hp) ∨
    (xs≠[]∧K (.own N 0 (es.length+xs.length) (es.length+xs.length)) ((N,⟨el,P.cellsOf el,es.map (fun r=>r.map AV.d)++xs⟩)::hp)))
 | .sub id i off e len cap tot,some xs=>cap<len+xs.length∧(fK P el).isSome=true∧P.bytesOf el ≠ 0∧(len+xs.length)*P.bytesOf el≤140737488355328 ∧
   (match dh hp (P.cellsOf el) (.sub id i off e len cap tot)with
   |some rs=>K (.own N 0 (len+xs.length) (len+xs.length)) ((N,⟨el,P.cellsOf el,rs++xs⟩)::hp)
   |none=>False)
 |_,_=>False
def ig(P:Program)(k:TK)(v:AV)(f hi:Option Int)(K:AV→Hp→Prop)(hp:Hp):Prop :=
 match v,k,f,hi with
 | .nil,.slice el,some l,some h=>P.cellsOf el≠0∧l=0∧h=0∧K .nil hp
 | .d (.ro e es),.slice el,some l,some h=>P.cellsOf el≠0∧e=P.cellsOf el∧0≤l∧l≤h∧h≤es.length∧K (.d (.ro e ((es.take h.toNat).drop l.toNat))) hp
 | .own id i0 len tot,.slice el,some l,some h =>
  (match lk id hp with
  |some b=>P.cellsOf el≠0∧b.e=P.cellsOf el∧0≤l∧l≤h∧h≤len∧K (.own id (i0+l.toNat) (h.toNat-l.toNat) tot) hp
  |none=>False)
 | .sub id i off e len cap tot,.slice el,some l,some h=>P.cellsOf el≠0∧e=P.cellsOf el∧0≤l∧l≤h∧h≤len∧K (.sub id i (off+l.toNat*e) e (h.toNat-l.toNat) (cap-l.toNat) tot) hp
 | .ptr id i off tot,.arr n el,some l,some h =>
  (match lk id hp with
  |some b=>P.cellsOf el≠0∧off+n*P.cellsOf el≤b.e∧i<tot∧0≤l∧l≤h∧h≤n∧K (.sub id i (off+l.toNat*P.cellsOf el) (P.cellsOf el) (h.toNat-l.toNat) (n-l.toNat) tot) hp
  |none=>False)
 | .rop cs,.arr n el,some l,some h=>P.cellsOf el=1∧n≤cs.length∧0≤l∧l≤h∧h≤n∧K (.d (.ro 1 (((cs.take h.toNat).drop l.toNat).map fun c=>[c]))) hp
 | .d (.str bs),.str,some l,some h=>0≤l∧l≤h∧h≤bs.length∧K (.d (.str ((bs.take h.toNat).drop l.toNat))) hp
 |_,_,_,_=>False
def AV.topLen(k:TK):AV→Int
 | .nil=>0
 | .d (.ro _ es)=>es.length
 | .own _ _ len _=>len
 | .sub _ _ _ _ len _ _=>len
 | .d (.str bs)=>bs.length
 |_=>match k with
  | .arr n _=>n
  |_=>0
def mF(P:Program)(k:TK)(v:AV)(b hi f:Option Int)(K:AV→Hp→Prop)(hp:Hp):Prop :=
 match v,k,b,hi,f with
 | .d (.ro e es),.slice el,some l,some h,some m=>P.cellsOf el≠0∧e=P.cellsOf el∧0≤l∧l≤h∧h=m∧h≤es.length∧K (.d (.rof e ((es.take h.toNat).drop l.toNat))) hp
 | .nil,.slice el,some l,some h,some m=>P.cellsOf el≠0∧l=0∧h=0∧m=0∧K (.d (.rof (P.cellsOf el) [])) hp
 | .own _ _ _ _,.slice el,some l,some h,some m=>P.cellsOf el≠0∧l=0∧h=0∧m=0∧K (.d (.rof (P.cellsOf el) [])) hp
 |_,_,_,_,_=>False
def GH(P:Program)(k:TK)(l m:AV)(N:Nat)(K:AV→Hp→Prop)(hp:Hp):Prop :=
 match k,l,m with
 | .slice el,.d (.int _ n),.d (.int _ c)=>(match fK P el with
  |some z=>0≤n∧n≤c∧c*P.cellsOf el≤16777216∧P.bytesOf el*c≤281474976710656∧c≤9223372036854775807∧K (.own N 0 n.toNat n.toNat) ((N,⟨el,P.cellsOf el,List.replicate n.toNat z⟩)::hp)
  |none=>False)
 |_,_,_=>False
def GI (P:Program) (el:TypeId) (s:AV) (xs:Option (List (List AV))) (K:AV→Hp→Prop) (hp:Hp):Prop :=
 match s,xs with
 | .own id i0 len tot,some xs=>(match lk id hp with
  | some b=>b.es.length=tot∧b.e=1∧P.cellsOf el=1 ∧
    K (.d (.int .i64 (min len xs.length:Nat))) (bJ id ⟨b.ty,b.e,b.es.take i0++(xs.take len++b.es.drop (i0+min len xs.length))⟩ hp)
  |none=>False)
 | .sub id i off e len cap tot,some xs=>(match lk id hp with
  |some b=>(match b.es[i]? with
   | some row=>b.es.length=tot∧e=1∧P.cellsOf el=1 ∧
     K (.d (.int .i64 (min len xs.length:Nat))) (bJ id ⟨b.ty,b.e,b.es.set i (row.take off++((xs.take len).flatten++row.drop (off+(xs.take len).flatten.length)))⟩ hp)
   |none=>False)
  |none=>False)
 |_,_=>False
def It(k:TK)(v:AV)(K:AV→Hp→Prop)(hp:Hp):Prop :=
 match k,v with
 | .arr n _,.d (.ro 1 es)=>0<n∧n≤es.length∧K (.rop es.flatten) hp
 | .arr n _,.sub id i off _ len _ tot=>(match lk id hp with
  |some b=>b.es.length=tot∧0<n∧n≤len∧K (.ptr id i off tot) hp
  |none=>False)
 |_,_=>False
def xJ (P:Program) (fr:Fr) (hp:Hp) (N:Nat) (b:Builtin) (args:List Operand) (e:List TypeId) (K:AV→Hp→Prop):Prop :=
 match b,args,e with
 | .len,[x],[t] =>
  (match ev fr x,bU P t with
  | .d (.str bs),.str=>K (.d (.int .i64 bs.length)) hp
  |_,.arr n _=>K (.d (.int .i64 n)) hp
  |v,.slice _=>(match v.slen with
   |some n=>K (.d (.int .i64 n)) hp
   |none=>False)
  |_,_=>False)
 | .append,[s,x],[ts,tx] =>
  (match bU P ts,bU P tx with
  | .slice el,.slice _=>fL P el (ev fr s) (dh hp (P.cellsOf el) (ev fr x)) N K hp
  | .slice el,.scal=>(match ev fr s,ev fr x,jI P tx with
   | .own id i0 len tot,.d (.int k n),some k'=>k=k'∧0≤n∧n≤4294967296∧P.bytesOf el*n≤281474976710656∧(match fK P el with
    |some z=>fL P el (.own id i0 len tot) (some (List.replicate n.toNat z)) N K hp
    |none=>False)
   |_,_,_=>False)
  |_,_=>False)
 | .copy,[s,x],[ts,tx] =>
  (match bU P ts,bU P tx with
  | .slice el,.slice el2=>P.cellsOf el2=1∧GI P el (ev fr s) (dh hp (P.cellsOf el) (ev fr x)) K hp
  |_,_=>False)
 | .max,[x,y],[_,_] =>
  (match ev fr x,ev fr y with
  | .d (.int k m),.d (.int _ n)=>K (.d (.int k (if n>m then n else m))) hp
  |_,_=>False)
 | .min,[x,y],[_,_] =>
  (match ev fr x,ev fr y with
  | .d (.int k m),.d (.int _ n)=>K (.d (.int k (if n<m then n else m))) hp
  |_,_=>False)
 |_,_,_=>False
def Tz(P:Program)(t:TypeId)(vs:List (List (IntKind×Int))):Prop :=
 ∃k e,P.underlying t=some (.map k e)∧Go.Maps.Keyed P k∧(∀w,(zeroValue e).run P w=.ok (.bool false) w)∧∀u∈vs,∃l,keyOf P k (nE u)=some l
def luW(P:Program)(t:TypeId)(m x:AV)(K:AV→Hp→Prop)(hp:Hp):Prop :=
 match m,x with
 | .mp id,.agg cs=>∃b ks u,lk id hp=some b∧b.e=0∧b.es=pC ks∧cs=pT u∧Tz P t (u::ks)∧K (.d (.bool (decide (u∈ks)))) hp
 |_,_=>False
def muW(P:Program)(t:TypeId)(m x v:AV)(K:AV→Hp→Prop)(hp:Hp):Prop :=
 match m,x,v with
 | .mp id,.agg cs,.d (.bool true)=>∃b ks u,lk id hp=some b∧b.e=0∧b.es=pC ks∧cs=pT u∧Tz P t (u::ks)∧(∀p,p∈hp→p.2.e=0→p.1=id)∧K .any (bJ id ⟨b.ty,b.e,pC (ks++[u])⟩ hp)
 |_,_,_=>False
def bM (P:Program) (fr:Fr) (hp:Hp) (N:Nat) (q:Op) (K:AV→Hp→Prop):Prop :=
 match q with
 | .move x=>K (ev fr x) hp
 | .assign x=>K (ev fr x) hp
 | .pick c a b =>
  match ev fr c with
  | .d (.bool t) =>
   (match ev fr a,ev fr b with
   | .d (.bool x),.d (.bool y)=>K (.d (.bool (if t then x else y))) hp
   |va,vb=>(t=true→K va hp)∧(t=false→K vb hp))
  |_=>False
 | .binOp q t x y _=>df P q t (ev fr x) (ev fr y) K hp
 | .unOp .not _ x =>
  match ev fr x with
  | .d (.bool b)=>K (.d (.bool (!b))) hp
  |_=>False
 | .unOp .neg _ x =>
  match ev fr x with
  | .d (.int k n)=>K (.d (.int k (k.wrap (0-n)))) hp
  |_=>False
 | .unOp .xor _ x =>
  match ev fr x with
  | .d (.int k n)=>K (.d (.int k (bits .xor k (if k.signed then -1 else k.max) n))) hp
  |_=>False
 | .nilCheck x =>
  match ev fr x with
  | .ptr id i off tot=>K (.ptr id i off tot) hp
  | .rop cs=>K (.rop cs) hp
  | .fn f cs=>K (.fn f cs) hp
  | .mth f cs=>K (.mth f cs) hp
  |_=>False
 | .extract x i =>
  match ev fr x with
  | .tup vs=>(match vs[i]? with
   |some v=>K v hp
   |none=>False)
  |_=>False
 | .convert s t x =>
  match ev fr x with
  | .d (.ro 1 es)=>∃h:List Int,es=h.map (fun b=>[.int .u8 b])∧(∀b,b∈h→0≤b∧b<256)∧(match bU P s,bU P t with
   | .slice el,.str=>P.underlying el=some (.int .u8)∧K (.d (.str h)) hp
   |_,_=>False)
  | .d (.int _ n)=>(match P.underlying s,P.underlying t with
   |some _,some (.int k)=>K (.d (.int k (k.wrap n))) hp
   |_,_=>False)
  | .d (.str h)=>(match bU P s,bU P t with
   | .str,.slice el=>P.underlying el=some (.int .u8)∧K (.d (.ro 1 (h.map fun b=>[.int .u8 b]))) hp
   |_,_=>False)
  |v=>∃h:List Int,dh hp 1 v=some (h.map fun b=>[.d (.int .u8 b)])∧(∀b,b∈h→0≤b∧b<256)∧(match bU P s,bU P t with
   | .slice el,.str=>P.underlying el=some (.int .u8)∧K (.d (.str h)) hp
   |_,_=>False)
 | .load t x =>
  match ev fr x with
  | .ptr id i off tot=>(match lk id hp with
   | some b=>(match b.es[i]? with
    |some row=>b.es.length=tot∧(match EA P t (row.drop off)with
     |some v=>K v hp
     |none=>False)
    |none=>False)
   |none=>False)
  | .rop cs=>(match EA P t (cs.map .d)with
   |some v=>K v hp
   |none=>False)
  |_=>False
 | .fieldAddr t x i =>
  match ev fr x,kC P t i with
  | .ptr id j off tot,some (o,ft)=>P.cellsOf ft≠0∧K (.ptr id j (off+o) tot) hp
  | .rop cs,some (o,ft)=>P.cellsOf ft≠0∧K (.rop (cs.drop o)) hp
  |_,_=>False
 | .field t x i=>(match ev fr x,kC P t i with
  | .agg cs,some (o,ft)=>(match EA P ft (cs.drop o)with
   |some v=>K v hp
   |none=>False)
  |_,_=>False)
 | .indexAddr t x ix =>
  match ev fr ix with
  | .d (.int _ n) =>
   (match ev fr x,bU P t with
   | .d (.ro e es),.slice el=>0≤n∧e=P.cellsOf el∧P.cellsOf el≠0∧(match es[n.toNat]? with
    |some cs=>K (.rop cs) hp
    |none=>False)
   | .own id i0 len tot,.slice el=>0≤n∧n<len∧(match lk id hp with
    |some b=>b.es.length=tot∧b.e=P.cellsOf el∧P.cellsOf el≠0∧K (.ptr id (i0+n.toNat) 0 tot) hp
    |none=>False)
   | .sub id i off e len _ tot,.slice el=>0≤n∧n<len∧(match lk id hp with
    |some b=>b.es.length=tot∧e=P.cellsOf el∧P.cellsOf el≠0∧K (.ptr id i (off+n.toNat*e) tot) hp
    |none=>False)
   | .ptr id i off tot,.arr len el=>0≤n∧n<len∧P.cellsOf el≠0∧K (.ptr id i (off+n.toNat*P.cellsOf el) tot) hp
   | .rop cs,.arr len el=>0≤n∧n<len∧P.cellsOf el≠0∧K (.rop (cs.drop (n.toNat*P.cellsOf el))) hp
   |_,_=>False)
  |_=>False
 | .alloc t =>
  match fK P t with
  |some cs=>K (.ptr N 0 0 1) ((N,⟨t,cs.length,[cs]⟩)::hp)
  |none=>False
 | .build t parts =>
  match fK P t with
  |some z=>sH P (bU P t) z (parts.toList.map fun p=>(p.1,ev fr p.2)) K hp
  |none=>False
 | .buildSlice t len parts=>nF P (bU P t) len (parts.toList.map fun p=>(p.1,ev fr p.2)) N K hp
 | .slice t x lo hi (some m)=>mF P (bU P t) (ev fr x) (zF fr 0 lo) (EB fr hi) (ev fr m).num K hp
 | .index t x i=>(match bU P t,ev fr x,ev fr i with
  | .arr n el,.agg cs,.d (.int _ m)=>0≤m∧m<n∧(match bU P el with
   | .scal=>P.cellsOf el=1∧(match cs[m.toNat]? with
    |some v=>K v hp
    |none=>False)
   | .slice _=>P.cellsOf el=1∧(match cs[m.toNat]? with
    |some v=>K v hp
    |none=>False)
   | .arr _ _=>P.cellsOf el≠0∧(match EA P el (cs.drop (m.toNat*P.cellsOf el))with
    |some v=>K v hp
    |none=>False)
   |_=>False)
  | .str,.d (.str h),.d (.int _ m)=>0≤m∧(match h[m.toNat]? with
   |some b=>K (.d (.int .u8 b)) hp
   |none=>False)
  |_,_,_=>False)
 | .makeFunc (.func f) first caps=>if first.isEmpty then K (.fn f (caps.toList.map (ev fr))) hp else caps=#[]∧K (.mth f (first.toList.map (ev fr))) hp
 | .makeSlice t l m=>GH P (bU P t) (ev fr l) (ev fr m) N K hp
 | .sliceToArrayPointer t x=>It (bU P t) (ev fr x) K hp
 | .slice t x lo hi none=>ig P (bU P t) (ev fr x) (zF fr 0 lo) (zF fr ((ev fr x).topLen (bU P t)) hi) K hp
 | .box t x =>
  match ev fr x with
  | .agg cs=>K (.ptr N 0 0 1) ((N,⟨t,cs.length,[cs]⟩)::hp)
  | .any=>False
  | .tup _=>False
  |v=>K (.ptr N 0 0 1) ((N,⟨t,1,[[v]]⟩)::hp)
 | .store t x v =>
  match ev fr x with
  | .ptr id i off tot=>(match lk id hp with
   | some b=>(match b.es[i]? with
    |some row=>b.es.length=tot∧(match ev fr v with
     | .agg cs=>cs.length=P.cellsOf t∧P.cellsOf t ≠ 0∧off+cs.length≤row.length ∧
       K .any (bJ id ⟨b.ty,b.e,b.es.set i (row.take off++(cs++row.drop (off+cs.length)))⟩ hp)
     | .any=>False
     | .tup _=>False
     |u=>P.cellsOf t=1∧off<row.length∧K .any (bJ id ⟨b.ty,b.e,b.es.set i (row.set off u)⟩ hp))
    |none=>False)
   |none=>False)
  |_=>False
 | .call cl =>
  match cl.callee with
  | .builtin b=>xJ P fr hp N b cl.args.toList cl.argTypes.toList K
  | .value f =>
   (match ev fr f with
   | .fn g caps=>fP P g (cl.args.toList.map (ev fr)++caps) hp N K∨JZ P g (cl.args.toList.map (ev fr)++caps) hp K
   | .mth g caps=>fP P g (caps++cl.args.toList.map (ev fr)) hp N K∨JZ P g (caps++cl.args.toList.map (ev fr)) hp K
   |_=>False)
  | .invoke _ _=>False
 | .makeMap _ none=>∀g,K (.mp N) ((N,⟨g,0,pC []⟩)::hp)
 | .lookup t m x false=>luW P t (ev fr m) (ev fr x) K hp
 | .mapUpdate t m x v=>muW P t (ev fr m) (ev fr x) (ev fr v) K hp
 |_=>False
end Go.Am
namespace Go.Am
section
variable {P:Program} {c:Ctx} {K:AV→Hp→Prop} {hp:Hp} {U:Nat→Prop} {N:Nat} {σ:Nat→Option Nat} {w:World} {S:Nat→Prop}
theorem eD{k:IntKind}{n:Int}{v:Value}(h:AIs w S σ hp U (.d (.int k n)) v):v=.int k n:=by
 cases h with|d h=>cases h;rfl
theorem gi{b:Bool}{v:Value}(h:AIs w S σ hp U (.d (.bool b)) v):v=.bool b:=by
 cases h with|d h=>cases h;rfl
theorem J0(b:BinOp)(k e:IntKind)(x y:Int)(h:kB b k x y K hp)(g:qL b=true∨k=e)(t:TypeId) :
  ∃d v,K (.d d) hp∧(binOp b t (.int k x) (.int e y)).run P w=.ok v w∧DIs w S d v:=by
 cases b<;>simp only[kB]at h
 case shl=>exact⟨_,_,h.2,by simp[binOp,Op.shift];intro f;omega,.int _ _⟩
 case shr=>exact⟨_,_,h.2,by simp[binOp,Op.shift];intro f;omega,.int _ _⟩
 all_goals(obtain rfl:k=e:=by simpa[qL]using g)
 case quo=>exact⟨_,_,h.2,by simp[binOp,Op.intDiv,h.1],.int _ _⟩
 case rem=>exact⟨_,_,h.2,by simp[binOp,Op.intDiv,h.1],.int _ _⟩
 case and=>exact⟨_,_,h,by simp[binOp,intBits_and],.int _ _⟩
 case or=>exact⟨_,_,h,by simp[binOp,intBits_or],.int _ _⟩
 case xor=>exact⟨_,_,h,by simp[binOp,intBits_xor],.int _ _⟩
 case andNot=>exact⟨_,_,h,by simp[binOp,intBits_andNot],.int _ _⟩
 case add=>exact⟨_,_,h,by simp[binOp,Op.intArith],.int _ _⟩
 case sub=>exact⟨_,_,h,by simp[binOp,Op.intArith],.int _ _⟩
 case mul=>exact⟨_,_,h,by simp[binOp,Op.intArith],.int _ _⟩
 case eql=>exact⟨_,_,h,by simp[binOp,Op.intCmp];rfl,.bool _⟩
 case neq=>exact⟨_,_,h,by simp[binOp,Op.intCmp];rfl,.bool _⟩
 all_goals exact⟨_,_,h,by simp[binOp,Op.intCmp],.bool _⟩
theorem km(id j:Nat)(b':Blk):∀hp:Hp,lk j (bJ id b' hp)=if j=id then(lk id hp).map (fun _=>b')else lk j hp
 |[]=>by simp[bJ,lk]
 | (m,v) :: t=>by
  have f:=km id j b' t;simp only[bJ];by_cases d:m=id;subst d;simp only[if_true,lk];by_cases b:m=j;subst b;simp;have e:¬j=m:=fun h=>b h.symm;simp[b,e];simp only[if_neg d,lk];by_cases b:m=j;subst b;simp[d];simp only[if_neg b,f]
theorem qN(m j:Nat){α:Type}(v:α)(t:List (Nat×α)):lk j ((m,v)::t)=if m=j then some v else lk j t:=rfl
theorem gA(w:World)(o:Obj)(i:Nat)(h:i<w.heap.size):(w.alloc o).heap[i]?=w.heap[i]?:=by
 show(w.heap.push o)[i]?=_;rw[Array.getElem?_push,if_neg (Nat.ne_of_lt h)]
theorem dS{g:Nat}{b:Blk}(h:BlkOk w S σ hp U g b):g<w.heap.size:=by
 obtain⟨e,d,_⟩:=h;rcases Nat.lt_or_ge g w.heap.size with h|h;exact h;rw[Array.getElem?_eq_none h]at d;cases d
theorem BlkOk.step{w':World}{S':Nat→Prop}{k:Nat→Option Nat}{d:Hp}{f:Nat→Prop}{g:Nat}{b:Blk}(h:BlkOk w S σ hp U g b)(s:Step w S σ hp U w' S' k d f)(p:w'.heap[g]?=w.heap[g]?):BlkOk w' S' k d f g b:=by
 obtain⟨e,q,t,n,r,z⟩:=h;exact⟨e,p.trans q,t,n,r,fun i j x y v l u m=>(z i j x y v l u m).step s⟩
theorem GK(r:Rel c hp U σ w)(hN:Free U N)(z:Array Value)(b:Blk)
  (h1:∀(i:Nat)(x:Value),z[i]?=some x→x.oneCell'=true) (h2:∀x,x∈b.es→x.length=b.e) (h3:b.es.length*b.e≤z.size)
  (h4:∀(i j:Nat)(x:List AV)(y:AV)(v:Value),b.es[i]?=some x→x[j]?=some y→z[i*b.e+j]?=some v→AIs w (bD c w σ hp) σ hp U y v) :
  let w':=w.alloc (.cells z b.ty)
  let C:=fun i=>if i=N then some w.heap.size else σ i
  Rel c ((N,b)::hp) (ec U N) C w'∧Step w (bD c w σ hp) σ hp U w' (bD c w' C ((N,b)::hp)) C ((N,b)::hp) (ec U N):=by
 intro w' C;have X:lk N hp=none:=by
  cases h:lk N hp with
  |none=>rfl
  |some f=>exact absurd (r.lt _ _ h) hN.at
 have l:∀i f,lk i ((N,b)::hp)=some f→(i=N∧f=b)∨(i≠N∧lk i hp=some f):=by
  intro i f h;rw[qN]at h;split at h;rename_i e;injection h with h;exact .inl ⟨e.symm,h.symm⟩;rename_i e;exact .inr ⟨fun h'=>e h'.symm,h⟩
 have A:∀i,i≠N→C i=σ i:=fun i h=>if_neg h;have u:C N=some w.heap.size:=if_pos rfl;have s:w'.heap.size=w.heap.size+1:=World.size_alloc w _;have k:∀i,i<w.heap.size→w'.heap[i]?=w.heap[i]?:=fun i h=>gA w _ i h;have E:∀i f g,lk i hp=some f→σ i=some g→g<w.heap.size:=fun i f g h d=>dS (r.at h d);have D:Step w (bD c w σ hp) σ hp U w' (bD c w' C ((N,b)::hp)) C ((N,b)::hp) (ec U N):=by
  refine⟨fun g d=>⟨⟨by rw[s];have:=d.1.1;omega,fun id G g' B t=>?_⟩,d.2⟩,fun p O=>?_,fun _ h=>.inl h,fun id Q R B=>?_⟩;rcases l id G B with ⟨rfl,rfl⟩|⟨h,B⟩;rw[u]at t;injection t with t;have:=d.1.1;omega;rw[A id h]at t;exact d.1.2 id G g' B t;exact World.cell?_of_block (w:=w) (k _ O.1.1);rcases l id Q B with ⟨rfl,rfl⟩|⟨h,B⟩;exact absurd R hN.at
  refine⟨Q,B,rfl,rfl,cL _,fun _ g d=>⟨(A id h).trans d,fun n hn=>?_⟩⟩;obtain⟨cc,h5,h6⟩:=hn;exact⟨cc,(k _ (E id Q g B d)).trans h5,h6⟩
 refine⟨⟨fun i j W V g F hj m q=>?_,fun i f h=>?_,fun i f h=>?_,fun i f g h d=>?_,r.os,r.tape,r.output,by rw[s];have:=r.size;omega,fun g d T=>?_⟩,D⟩;rcases l i W F with ⟨Y,_⟩|⟨J,L⟩<;>rcases l j V hj with ⟨Z,_⟩|⟨I,H⟩;rw[Y,Z];rw[Y,u]at m;injection m with m;rw[A j I]at q;have:=E j V g H q;omega;rw[Z,u]at q;injection q with q;rw[A i J]at m;have:=E i W g L m;omega;rw[A i J]at m;rw[A j I]at q;exact r.inj i j W V g L H m q;rcases l i f h with ⟨rfl,rfl⟩|⟨_,h⟩;exact mE;exact .inl (r.lt i f h);rcases l i f h with ⟨rfl,rfl⟩|⟨F,h⟩;exact .inr ⟨_,u,z,heap_alloc_new w _,h1,h2,h3,fun i j x y v a1 a2 a3=>(h4 i j x y v a1 a2 a3).step D⟩;rcases r.blk i f h with ⟨M,k2⟩|⟨g,M,k2⟩;exact .inl ⟨(A i F).trans M,k2.keep fun _ _ _ T=>k _ (uU T)⟩;exact .inr ⟨g,(A i F).trans M,k2.step D (k _ (dS k2))⟩;rcases l i f h with ⟨rfl,rfl⟩|⟨F,h⟩;rw[u]at d;injection d with d;subst d;exact .inr r.size;rw[A i F]at d;exact r.mine i f g h d;rw[k g (by have:=r.size;omega)];exact r.old g d T
theorem uX(s:Rel c hp U σ w){id z:Nat}{b b':Blk}(E:lk id hp=some b)(r:σ id=some z)(O:b'.e=b.e)(ht:b'.ty=b.ty)(hl:b.es.length≤b'.es.length)(I d:Array Value)(J:b'.es.length*b.e≤d.size)(hc:w.heap[z]?=some (.cells I b.ty (0,0)))(Y:d.size=I.size)
  (B:∀(i:Nat)(x:Value),d[i]?=some x→x.oneCell'=true) (h2:∀x,x∈b'.es→x.length=b.e)
  (h4:∀(i j:Nat)(x:List AV)(y:AV)(v:Value),b'.es[i]?=some x→x[j]?=some y→d[i*b.e+j]?=some v→AIs w (bD c w σ hp) σ hp U y v) :
  let w':=w.setRow z d
  Rel c (bJ id b' hp) U σ w'∧Step w (bD c w σ hp) σ hp U w' (bD c w' σ (bJ id b' hp)) σ (bJ id b' hp) U:=by
 intro w';have G:∀i f,lk i (bJ id b' hp)=some f→(i=id∧f=b')∨(i≠id∧lk i hp=some f):=by
  intro i f h;rw[km]at h;split at h;rename_i e;rw[E]at h;simp at h;exact .inl ⟨e,h.symm⟩;rename_i e;exact .inr ⟨e,h⟩
 have m:∀i f,lk i (bJ id b' hp)=some f→∃A,lk i hp=some A:=by
  intro i f h;rcases G i f h with ⟨rfl,rfl⟩|⟨_,h⟩;exact⟨b,E⟩;exact⟨f,h⟩
 have C:w'.heap[z]?=some (.cells d b.ty (0,0)):=setRow_heap w z I d b.ty (0,0) hc;have t:w'.heap.size=w.heap.size:=by simp[w',World.setRow]
 have l:∀g,g≠z→w'.heap[g]?=w.heap[g]?:=fun g h=>setRow_other w z g d h;have F:Step w (bD c w σ hp) σ hp U w' (bD c w' σ (bJ id b' hp)) σ (bJ id b' hp) U:=by
  refine⟨fun g q=>⟨⟨by rw[t];exact q.1.1,fun i X g' H Q=>?_⟩,q.2⟩,fun p R=>?_,fun _ h=>h,fun i f ab H=>?_⟩;obtain⟨A,B⟩:=m i X H;exact q.1.2 i A g' B Q;exact World.cell?_of_block (w:=w) (l _ (R.1.2 id b z E r));rcases G i f H with ⟨rfl,rfl⟩|⟨h,L⟩;refine⟨b,E,O,ht,aq,fun _ g q=>⟨q,fun n hn=>?_⟩⟩;rw[r]at q;injection q with q;subst q;obtain⟨cc,D,Z⟩:=hn;rw[hc]at D;injection D with D;injection D with D;exact⟨d,C,by rw[Y,D];exact Z⟩;refine⟨f,L,rfl,rfl,cL _,fun _ g q=>⟨q,fun n hn=>?_⟩⟩;obtain⟨cc,D,Z⟩:=hn;exact⟨cc,(l _ (fun e=>h (by subst e;exact s.inj i id f b g L E q r))).trans D,Z⟩
 have aa:=s.at E r;refine⟨⟨fun i j bi bj g W hj T V=>?_,fun i f h=>?_,fun i f h=>?_,fun i f g h q=>?_,s.os,s.tape,s.output,by rw[t];exact s.size,fun g q M=>?_⟩,F⟩;obtain⟨A,B⟩:=m i bi W;obtain⟨b2,h2⟩:=m j bj hj;exact s.inj i j A b2 g B h2 T V;obtain⟨A,B⟩:=m i f h;exact s.lt i A B;rcases G i f h with ⟨rfl,rfl⟩|⟨W,h⟩;obtain⟨cc,u,k2,k3,k4,k5⟩:=aa;rw[hc]at u;injection u with u;injection u with u;subst u;refine .inr ⟨z,r,d,by rw[ht];exact C,B,by rw[O];exact h2,by rw[O];exact J,fun i j x y v a1 a2 a3=>?_⟩;rw[O]at a3;exact(h4 i j x y v a1 a2 a3).step F;rcases s.blk i f h with k|⟨g,u,k2⟩;exact .inl ⟨k.1,k.2.keep fun _ _ _ M=>l _ (fun e=>by subst e;rw[hc]at M;cases M)⟩
 exact .inr ⟨g,u,k2.step F (l _ (fun e=>W (by subst e;exact s.inj i id f b g h E u r)))⟩;obtain⟨A,B⟩:=m i f h;exact s.mine i A g B q;rw[l g (fun e=>?_)];exact s.old g q M;subst e;rcases s.mine id b g E r with h|h;exact M h;omega
theorem zG(m:Rel c hp U σ w){id l:Nat}{b b':Blk}(n:lk id hp=some b)(k:σ id=some l)(s:b'.e=b.e)(u:b'.ty=b.ty)(p:b'.es.length=b.es.length)(f d:Array Value)(hc:w.heap[l]?=some (.cells f b.ty (0,0)))(h:d.size=f.size)
  (q:∀(i:Nat)(x:Value),d[i]?=some x→x.oneCell'=true) (t:∀x,x∈b'.es→x.length=b.e)
  (r:∀(i j:Nat)(x:List AV)(y:AV)(v:Value),b'.es[i]?=some x→x[j]?=some y→d[i*b.e+j]?=some v→AIs w (bD c w σ hp) σ hp U y v) :
  let w':=w.setRow l d
  Rel c (bJ id b' hp) U σ w'∧Step w (bD c w σ hp) σ hp U w' (bD c w' σ (bJ id b' hp)) σ (bJ id b' hp) U:=by
 refine uX m n k s u aq f d ?_ hc h q t r;obtain⟨z,g,k2,k3,k4,k5⟩:=m.at n k;rw[hc]at g;injection g with g;injection g with g;subst g;rw[p,h];exact k4
theorem J1(r:Rel c hp U σ w){id:Nat}{b b':Blk}(W:lk id hp=some b)(O:b'.e=b.e)(ht:b'.ty=b.ty)(hl:b.es.length<b'.es.length)(z:Array Value)
  (h1:∀(i:Nat)(x:Value),z[i]?=some x→x.oneCell'=true) (h2:∀x,x∈b'.es→x.length=b.e) (h3:b'.es.length*b.e≤z.size)
  (h4:∀(i j:Nat)(x:List AV)(y:AV)(v:Value),b'.es[i]?=some x→x[j]?=some y→z[i*b.e+j]?=some v→AIs w (bD c w σ hp) σ hp U y v) :
  let w':=w.alloc (.cells z b.ty)
  let C:=fun i=>if i=id then some w.heap.size else σ i
  Rel c (bJ id b' hp) U C w'∧Step w (bD c w σ hp) σ hp U w' (bD c w' C (bJ id b' hp)) C (bJ id b' hp) U:=by
 intro w' C;have l:∀i d,lk i (bJ id b' hp)=some d→(i=id∧d=b')∨(i≠id∧lk i hp=some d):=by
  intro i d h;rw[km]at h;split at h;rename_i e;rw[W]at h;simp at h;exact .inl ⟨e,h.symm⟩;rename_i e;exact .inr ⟨e,h⟩
 have A:∀i,i≠id→C i=σ i:=fun i h=>if_neg h;have u:C id=some w.heap.size:=if_pos rfl;have s:w'.heap.size=w.heap.size+1:=World.size_alloc w _;have k:∀i,i<w.heap.size→w'.heap[i]?=w.heap[i]?:=fun i h=>gA w _ i h;have E:∀i d g,lk i hp=some d→σ i=some g→g<w.heap.size:=fun i d g h f=>dS (r.at h f);have D:Step w (bD c w σ hp) σ hp U w' (bD c w' C (bJ id b' hp)) C (bJ id b' hp) U:=by
  refine⟨fun g f=>⟨⟨by rw[s];have:=f.1.1;omega,fun i H g' F t=>?_⟩,f.2⟩,fun p R=>?_,fun _ h=>h,fun i d aa F=>?_⟩;rcases l i H F with ⟨rfl,rfl⟩|⟨h,B⟩;rw[u]at t;injection t with t;have:=f.1.1;omega;rw[A i h]at t;exact f.1.2 i H g' B t;exact World.cell?_of_block (w:=w) (k _ R.1.1);rcases l i d F with ⟨rfl,rfl⟩|⟨h,B⟩;exact⟨b,W,O,ht,aq,fun h=>aq⟩;refine⟨d,B,rfl,rfl,cL _,fun _ g f=>⟨(A i h).trans f,fun n hn=>?_⟩⟩;obtain⟨cc,h5,h6⟩:=hn;exact⟨cc,(k _ (E i d g B f)).trans h5,h6⟩
 refine⟨⟨fun i j X V g G hj m q=>?_,fun i d h=>?_,fun i d h=>?_,fun i d g h f=>?_,r.os,r.tape,r.output,by rw[s];have:=r.size;omega,fun g f T=>?_⟩,D⟩;rcases l i X G with ⟨Z,_⟩|⟨L,M⟩<;>rcases l j V hj with ⟨e2,_⟩|⟨J,I⟩;rw[Z,e2];rw[Z,u]at m;injection m with m;rw[A j J]at q;have:=E j V g I q;omega;rw[e2,u]at q;injection q with q;rw[A i L]at m;have:=E i X g M m;omega;rw[A i L]at m;rw[A j J]at q;exact r.inj i j X V g M I m q;rcases l i d h with ⟨rfl,rfl⟩|⟨_,h⟩;exact r.lt _ b W;exact r.lt i d h;rcases l i d h with ⟨rfl,rfl⟩|⟨G,h⟩;exact .inr ⟨_,u,z,by rw[ht];exact heap_alloc_new w _,h1,by rw[O];exact h2,by rw[O];exact h3,fun i j x y v a1 a2 Y=>(h4 i j x y v a1 a2 (by rw[O]at Y;exact Y)).step D⟩;rcases r.blk i d h with ⟨Q,k2⟩|⟨g,Q,k2⟩;exact .inl ⟨(A i G).trans Q,k2.keep fun _ _ _ T=>k _ (uU T)⟩;exact .inr ⟨g,(A i G).trans Q,k2.step D (k _ (dS k2))⟩;rcases l i d h with ⟨rfl,rfl⟩|⟨G,h⟩;rw[u]at f;injection f with f;subst f;exact .inr r.size;rw[A i G]at f;exact r.mine i d g h f;rw[k g (by have:=r.size;omega)];exact r.old g f T
theorem J3(s:Rel c hp U σ w)(R:Free U N)(b:Blk)(B:b.es=[]) :
  let t:=fun i=>if i=N then none else σ i
  Rel c ((N,b)::hp) (ec U N) t w∧Step w (bD c w σ hp) σ hp U w (bD c w t ((N,b)::hp)) t ((N,b)::hp) (ec U N):=by
 intro t;have d:∀i f,lk i ((N,b)::hp)=some f→(i=N∧f=b)∨(i≠N∧lk i hp=some f):=by
  intro i f h;rw[qN]at h;split at h;rename_i e;injection h with h;exact .inl ⟨e.symm,h.symm⟩;rename_i e;exact .inr ⟨fun T=>e T.symm,h⟩
 have u:∀i,i≠N→t i=σ i:=fun i h=>if_neg h;have k:t N=none:=if_pos rfl;have y:Step w (bD c w σ hp) σ hp U w (bD c w t ((N,b)::hp)) t ((N,b)::hp) (ec U N):=by
  refine⟨fun g l=>⟨⟨l.1.1,fun id z O v m=>?_⟩,l.2⟩,fun p Q=>rfl,fun _ h=>.inl h,fun id I D v=>?_⟩;rcases d id z v with ⟨rfl,rfl⟩|⟨h,v⟩;rw[k]at m;cases m;rw[u id h]at m;exact l.1.2 id z O v m;rcases d id I v with ⟨rfl,rfl⟩|⟨h,v⟩;exact absurd D R.at
  exact⟨I,v,rfl,rfl,cL _,fun _ g l=>⟨(u id h).trans l,fun n V=>V⟩⟩
 refine⟨⟨fun i j M L g x W q r=>?_,fun i f h=>?_,fun i f h=>?_,fun i f g h l=>?_,s.os,s.tape,s.output,s.size,s.old⟩,y⟩;rcases d i M x with ⟨H,_⟩|⟨F,G⟩<;>rcases d j L W with ⟨J,_⟩|⟨E,C⟩;rw[H,J];rw[H,k]at q;cases q;rw[J,k]at r;cases r;rw[u i F]at q;rw[u j E]at r;exact s.inj i j M L g G C q r;rcases d i f h with ⟨rfl,rfl⟩|⟨_,h⟩;exact mE;exact .inl (s.lt i f h);rcases d i f h with ⟨rfl,rfl⟩|⟨x,h⟩;exact .inl ⟨k,.inl B⟩;rcases s.blk i f h with ⟨A,k2⟩|⟨g,A,k2⟩;exact .inl ⟨(u i x).trans A,k2⟩;exact .inr ⟨g,(u i x).trans A,k2.step y rfl⟩;rcases d i f h with ⟨rfl,rfl⟩|⟨x,h⟩;rw[k]at l;cases l;rw[u i x]at l;exact s.mine i f g h l
theorem be{t:TypeId}(h:P.cellsOf t≠0):(sizeOf t).run P w=.ok (P.cellsOf t) w:=by
 unfold Program.cellsOf at h⊢;cases b:P.info? t with
 |none=>simp[b]at h
 |some i=>simp[sizeOf,typeInfo,b]
theorem fc{t:TypeId}{d:TypeDesc}(h:P.underlying t=some d):∃i,P.info? t=some i:=by
 unfold Program.underlying at h;cases b:P.info? t with
 |none=>simp[b]at h
 |some i=>exact⟨i,rfl⟩
theorem qO{t:TypeId}{d:TypeDesc}(h:P.underlying t=some d):(sizeOf t).run P w=.ok (P.cellsOf t) w:=by
 obtain⟨i,b⟩:=fc h;simp[sizeOf,typeInfo,b,Program.cellsOf]
def Iu:TypeDesc→Bool
 | .struct _=>true
 | .array _ _=>true
 |_=>false
theorem ep{t:TypeId}{d:TypeDesc}(h:P.underlying t=some d):(isAgg t).run P w=.ok (Iu d) w:=by
 unfold isAgg;rw[Sem.run_bind,run_underlying h w];cases d<;>rfl
theorem pU{t:TypeId}{b:List (Nat×TypeId)}(h:bU P t=.struct b):∃F,P.underlying t=some (.struct F)∧b=F.toList.map fun f=>(f.offset,f.type):=by
 unfold bU at h;split at h<;>first|cases h|skip
 exact⟨_,‹_›,rfl⟩
theorem gZ{t e:TypeId}{n:Nat}(h:bU P t=.arr n e):P.underlying t=some (.array n e):=by
 unfold bU at h;split at h<;>first|cases h|skip
 assumption
theorem bI{t e:TypeId}(h:bU P t=.slice e):P.underlying t=some (.slice e):=by
 unfold bU at h;split at h<;>first|cases h|skip
 assumption
theorem oy{t:TypeId}(h:bU P t=.str):P.underlying t=some .string:=by
 unfold bU at h;split at h<;>first|cases h|skip
 assumption
theorem ll(a:Addr)(i j:Nat):(a.add i).add j=a.add (i+j):=by
 unfold Addr.add;by_cases b:i=0<;>by_cases d:j=0<;>simp[b,d,Nat.add_assoc]
theorem gu(g o i:Nat):(⟨g,o,none⟩:Addr).add i=⟨g,o+i,none⟩:=by
 unfold Addr.add;split<;>simp_all
theorem iJ{t:TypeId}{v:AV}{ad:Addr}{b:List AV}{vs:Nat→Value}(f:EA P t b=some v)
  (D:∀(j:Nat)(y:AV),b[j]?=some y→w.cell? (ad.add j)=some (vs j)) (L:∀(j:Nat)(y:AV),b[j]?=some y→(vs j).oneCell'=true)
  (E:∀(j:Nat)(y:AV),b[j]?=some y→AIs w S σ hp U y (vs j)) :
  ∃x,(loadVar t ad).run P w=.ok x w∧AIs w S σ hp U v x:=by
 have agg:∀d,P.underlying t=some d→Iu d=true→P.cellsOf t≤b.length→v=.agg (b.take (P.cellsOf t)) →
   ∃x,(loadVar t ad).run P w=.ok x w∧AIs w S σ hp U v x:=by
  intro d g m I B;subst B;have l:∀j,j<P.cellsOf t→∃y,b[j]?=some y:=fun j G=>⟨b[j]'aq,cm aq⟩;have q:=run_loadCells (P:=P) w ad (P.cellsOf t) vs (fun j G=>by obtain⟨y,A⟩:=l j G;exact D j y A);refine⟨.agg ((List.range (P.cellsOf t)).map vs).toArray,?_,?_⟩
  unfold loadVar;rw[Sem.run_bind,ep g,m];simp[qO g,q];refine .agg _ _ (by simp;omega) (fun i x p=>?_) (fun i H x hc p=>?_);simp only[List.getElem?_toArray,cU,Option.map_eq_some_iff]at p;obtain⟨k,u,rfl⟩:=p;have s:=ci.1 u;obtain⟨h,r⟩:=s;simp at h r;subst r;obtain⟨y,A⟩:=l i h;exact L i y A;simp only[List.getElem?_toArray,cU,Option.map_eq_some_iff]at p;obtain⟨k,u,rfl⟩:=p;obtain⟨h,r⟩:=ci.1 u;simp at h r;subst r;rw[List.getElem?_take,if_pos h]at hc;exact E i H hc
 have scal:∀d,P.underlying t=some d→Iu d=false→b.head?=some v →
   ∃x,(loadVar t ad).run P w=.ok x w∧AIs w S σ hp U v x:=by
  intro d g m J;have C:b[0]?=some v:=by rw[←List.head?_eq_getElem?];exact J
  have hc:=D 0 v C;have z:ad.add 0=ad:=rfl;rw[z]at hc;refine⟨vs 0,?_,E 0 v C⟩;unfold loadVar;rw[Sem.run_bind,ep g,m];simp[hc]
 unfold EA at f;cases g:P.underlying t with
 |none=>simp[bU,g]at f
 | some d =>
  cases d with
  |struct F =>
   simp only[bU,g]at f;split at f;injection f with f;exact agg _ g rfl ‹_› f.symm;cases f
  |array n e =>
   simp only[bU,g]at f;split at f;injection f with f;exact agg _ g rfl ‹_› f.symm;cases f
  |_=>simp only[bU,g]at f;exact scal _ g rfl f
theorem oC(u:Rel c hp U σ w){id i off l:Nat}{b:Blk}{f:List AV}{x:Value}(h:AIs w S σ hp U (.ptr id i off l) x)(s:lk id hp=some b)(k:b.es[i]?=some f)(C:b.es.length=l) :
  ∃g d,σ id=some g∧x=.pointer (some ⟨g,i*b.e+off,none⟩)∧w.heap[g]?=some (.cells d b.ty (0,0))∧(∀(i:Nat)(x:Value),d[i]?=some x→x.oneCell'=true)∧f.length=b.e∧i*b.e+b.e≤d.size ∧
   ∀(j:Nat)(y:AV),f[j]?=some y→∃v,d[i*b.e+j]?=some v∧AIs w (bD c w σ hp) σ hp U y v:=by
 have E:i<b.es.length:=(ci.1 k).1;cases h with
 | ptr id i off l a hN h =>
  obtain⟨_,A⟩:=h b s;obtain⟨g,q,rfl⟩:=A C;obtain⟨d,z,B,t,F,D⟩:=u.at s q;have n:i*b.e+b.e≤d.size:=by
   have:(i+1)*b.e≤b.es.length*b.e:=d9 _ aq;rw[Nat.add_mul,Nat.one_mul]at this;omega
  have p:f.length=b.e:=t f (cr k);refine⟨g,d,q,rfl,z,B,p,n,fun j y r=>?_⟩;have G:j<f.length:=(ci.1 r).1;have m:i*b.e+j<d.size:=aq;exact⟨d[i*b.e+j],dg m,D i j f y _ k r (dg m)⟩
end
end Go.Am
namespace Go.Am
def EC(P:Program)(t:TypeId)(l:List L1):Value :=
 match P.underlying t with
 |some d=>if Iu d=true then .agg (l.map L1.v).toArray else(l.map L1.v).headD default
 |none=>default
section
variable {P:Program} {w:World}
theorem x9{m:Nat}{t:TypeId}{e:List (Option IntKind)}(h:d6 P m t=some e):∃d,P.underlying t=some d∧(Iu d=false→e.length=1):=by
 cases m with
 |zero=>simp[d6]at h
 | succ m =>
  simp only[d6]at h;cases b:P.underlying t with
  |none=>rw[b]at h;cases h
  |some d =>
   refine⟨d,rfl,fun f=>?_⟩;rw[b]at h;cases d<;>simp[Iu]at f<;>simp at h;subst h;rfl;subst h;rfl
theorem oD{m:Nat}{e:TypeId}{a:List (Option IntKind)}(f:d6 P m e=some a)(hc:P.cellsOf e=a.length)(l:List L1)(off:Nat)(h:off+a.length≤l.length) :
  (part e (l.map L1.v).toArray off).run P w=.ok (EC P e ((l.drop off).take a.length)) w:=by
 obtain⟨d,b,k⟩:=x9 f;obtain⟨i,j⟩:=fc b;unfold part EC;rw[b];simp only[Sem.run_bind,ep b,Result.andThen_ok];cases q:Iu d with
 |true =>
  simp only[if_true,Sem.run_bind,run_sizeOf w j,Result.andThen_ok,Sem.run_pure,hc];congr 2;apply Array.ext';simp[List.map_take,List.map_drop]
 |false =>
  have p:=k q;rw[p]at h⊢;have g:l[off]?=some l[off]:=cm aq;have n:(l.map L1.v).toArray[off]?=some (l[off]).v:=by simp[g]
  simp only[n,Bool.false_eq_true,if_false,Sem.run_pure];rw[List.drop_eq_getElem_cons (by omega:off<l.length)];rfl
def J4(P:Program)(m:Nat)(t:TypeId)(f:List (Option IntKind)):Prop :=
 ∀(w:World)(d:Nat)(b e:List L1),b.map L1.k=f→e.map L1.k=f→(Op.equalIn (d+m) t (EC P t b) (EC P t e)).run P w=.ok (decide (b=e)) w
theorem O4{α β:Type}{f:α→β}{l:List α}{a b c:List β}(h:l.map f=a++b++c):((l.drop a.length).take b.length).map f=b:=by
 rw[List.map_take,List.map_drop,h,cA,List.drop_left,List.take_left]
theorem ya{m:Nat}{e:TypeId}{a:List (Option IntKind)}(q:d6 P m e=some a)(hc:P.cellsOf e=a.length)(y:J4 P m e a)(d N:Nat)(b f:List L1)(p:b.map L1.k=(List.replicate N a).flatten)(u:f.map L1.k=(List.replicate N a).flatten) :
  ∀(n i:Nat),i+n≤N→(Op.eqItems (d+m) e (P.cellsOf e) (b.map L1.v).toArray (f.map L1.v).toArray (List.range' i n)).run P w=.ok (decide ((b.drop (i*a.length)).take (n*a.length)=(f.drop (i*a.length)).take (n*a.length))) w
 |0,i,_=>by simp[Op.eqItems]
 | n+1,i,h=>by
  have j:=ya q hc y d N b f p u n (i+1) aq;have C:b.length=N*a.length:=by have:=congrArg List.length p;simpa using this
  have B:f.length=N*a.length:=by have:=congrArg List.length u;simpa using this
  have E:i*a.length+a.length≤N*a.length:=by
   have:(i+1)*a.length≤N*a.length:=d9 _ aq;rw[Nat.add_mul,Nat.one_mul]at this;exact this
  have D:=oD (P:=P) (w:=w) q hc b (i*a.length) aq;have A:=oD (P:=P) (w:=w) q hc f (i*a.length) aq;have g:∀{l:List L1},l.map L1.k=(List.replicate N a).flatten→((l.drop (i*a.length)).take a.length).map L1.k=a:=by
   intro l z;have e:(List.replicate N a).flatten=(List.replicate i a).flatten++a++(List.replicate (N-i-1) a).flatten:=by
    rw[show N=i+(1+(N-i-1))by omega,←List.replicate_append_replicate,←List.replicate_append_replicate,List.flatten_append,List.flatten_append];simp
   rw[e]at z;have:=O4 z;simpa using this
  rw[List.range'_succ];simp only[Op.eqItems,Sem.run_bind,hc,D,A,Result.andThen_ok,y w d _ _ (g p) (g u)];rw[hc]at j;have x:∀l:List L1,(l.drop (i*a.length)).take ((n+1)*a.length)=(l.drop (i*a.length)).take a.length++(l.drop ((i+1)*a.length)).take (n*a.length):=by
   intro l;rw[Nat.add_mul,Nat.one_mul,Nat.add_comm (n*a.length),List.take_add,List.drop_drop,Nat.add_mul,Nat.one_mul]
  rw[x b,x f];have r:((b.drop (i*a.length)).take a.length).length=((f.drop (i*a.length)).take a.length).length:=by
   simp only[List.length_take,et];omega
  by_cases s:(b.drop (i*a.length)).take a.length=(f.drop (i*a.length)).take a.length;rw[s];simp[j];have t:¬((b.drop (i*a.length)).take a.length++(b.drop ((i+1)*a.length)).take (n*a.length)=(f.drop (i*a.length)).take a.length++(f.drop ((i+1)*a.length)).take (n*a.length)):=fun h=>s (List.append_inj_left h r);simp[s,t]
theorem uY{m:Nat}(B:∀e a,d6 P m e=some a→J4 P m e a)(d:Nat)(b g:List L1):∀(C:List Field)(off:Nat)(n:List (Option IntKind)),uV P (d6 P m) off C=some n→(b.drop off).map L1.k=n→(g.drop off).map L1.k=n→off≤b.length→off≤g.length →
  (Op.eqFields (d+m) (b.map L1.v).toArray (g.map L1.v).toArray C).run P w=.ok (decide (b.drop off=g.drop off)) w
 |[],off,n,hk,hx,hy,_,_=>by
  simp only[uV,Option.some.injEq]at hk;subst hk;simp at hx hy;have G:b.drop off=[]:=c_ hx;have H:g.drop off=[]:=c_ hy;simp[Op.eqFields,G,H]
 | f :: r,off,n,hk,hx,hy,ho1,ho2=>by
  simp only[uV]at hk;split at hk;rename_i D;split at hk;rename_i a q;split at hk;rename_i hc;simp only[Option.map_eq_some_iff]at hk;obtain⟨i,p,rfl⟩:=hk;have u:(b.drop off).length=a.length+i.length:=by have:=congrArg List.length hx;simpa using this
  have s:(g.drop off).length=a.length+i.length:=by have:=congrArg List.length hy;simpa using this
  rw[et]at u s;have J:=oD (P:=P) (w:=w) q hc b off aq;have E:=oD (P:=P) (w:=w) q hc g off aq;have F:((b.drop off).take a.length).map L1.k=a:=by rw[List.map_take,hx,List.take_left]
  have c2:((g.drop off).take a.length).map L1.k=a:=by rw[List.map_take,hy,List.take_left]
  have I:(b.drop (off+a.length)).map L1.k=i:=by rw[←List.drop_drop,List.map_drop,hx,List.drop_left]
  have L:(g.drop (off+a.length)).map L1.k=i:=by rw[←List.drop_drop,List.map_drop,hy,List.drop_left]
  have t:=uY B d b g r (off+a.length) i p I L aq aq;have j:f.offset=off:=D.2;simp only[Op.eqFields,D.1,ne_eq,not_false_eq_true,if_true,Sem.run_bind,j,J,E,Result.andThen_ok,B f.type a q w d _ _ F c2];have A:∀l:List L1,l.drop off=(l.drop off).take a.length++l.drop (off+a.length):=by
   intro l;rw[←List.drop_drop,List.take_append_drop]
  have M:decide (b.drop off=g.drop off)=decide ((b.drop off).take a.length++b.drop (off+a.length)=(g.drop off).take a.length++g.drop (off+a.length)):=by rw[←A b,←A g]
  rw[M];have y:((b.drop off).take a.length).length=((g.drop off).take a.length).length:=by simp only[List.length_take,et];omega
  generalize(b.drop off).take a.length=A1 at *;generalize(g.drop off).take a.length=A2 at *;by_cases x:A1=A2;simp[x,t];have z:¬(A1++b.drop (off+a.length)=A2++g.drop (off+a.length)):=fun h=>x (List.append_inj_left h y);simp[x,z];cases hk;cases hk;cases hk
theorem ED:∀(m:Nat)(t:TypeId)(s:List (Option IntKind)),d6 P m t=some s→J4 P m t s
 |0,t,s,h=>by simp[d6]at h
 | m+1,t,s,h=>by
  intro w d p q f g;simp only[d6]at h;cases j:P.underlying t with
  |none=>rw[j]at h;cases h
  | some td =>
   rw[j]at h;unfold EC;rw[j];cases td with
   | int k =>
    simp only[Option.some.injEq]at h;subst h
    match p,q,f,g with
    |[.i k1 a],[.i k2 b],f,g =>
     simp[L1.k]at f g;subst f;subst g;show(Op.equalIn (d+m+1) t (.int _ a) (.int _ b)).run P w=_;rw[run_equalIn_int w (d+m) t _ _ a b j];congr 1;by_cases e:a=b<;>simp[e]
   | bool =>
    simp only[Option.some.injEq]at h;subst h
    match p,q,f,g with
    |[.b a],[.b b],f,g =>
     show(Op.equalIn (d+m+1) t (.bool a) (.bool b)).run P w=_;rw[run_equalIn_bool w (d+m) t a b j];congr 1;cases a<;>cases b<;>rfl
   | array n e =>
    simp only at h;split at h;rename_i a x;split at h;rename_i hc;simp only[Option.some.injEq]at h;subst h;obtain⟨i,y⟩:=(x9 x).elim fun d h=>fc h.1;have l:=run_equalIn_array (P:=P) w (d+m) (p.map L1.v).toArray (q.map L1.v).toArray j y;have u:=ya (w:=w) x hc (ED m e a x) d n p q f g n 0 aq;rw[List.range_eq_range',u]at l;simp only[Nat.zero_mul,List.drop_zero]at l;have B:p.length=n*a.length:=by have:=congrArg List.length f;simpa using this
    have A:q.length=n*a.length:=by have:=congrArg List.length g;simpa using this
    rw[cx aq,cx aq]at l;exact l;cases h;cases h
   | struct fs =>
    simp only at h;split at h;cases h;rename_i z;have r:P.fieldsOf t=fs:=(by simp[Program.fieldsOf,j]);have l:=run_equalIn_struct (P:=P) w (d+m) t (p.map L1.v).toArray (q.map L1.v).toArray (by rw[r];exact j) (by simpa using z);have u:=uY (w:=w) (ED m) d p q fs.toList 0 s h (by simpa using f) (by simpa using g) aq aq;rw[r]at l;simp only[List.drop_zero]at u;exact l.trans u
   |_=>simp at h
end
end Go.Am
namespace Go.Am
section
variable {P:Program} {c:Ctx} {K:AV→Hp→Prop} {fr:Fr} {hp:Hp} {U:Nat→Prop} {N:Nat} {σ:Nat→Option Nat} {w:World} {a:Act} {o:Oper}
theorem J5(e:Rel c hp U σ w)(E:∀x,AIs w (bD c w σ hp) σ hp U (ev fr x) (a.eval x)){x:Operand}(b:o.op=.move x∨o.op=.assign x)(d:K (ev fr x) hp) :
  OpOk P c K hp U N σ w ((execOp a.eval o).run P w):=by
 rcases b with b|b<;>exact OpOk.val (by simp[execOp,b]) (Good.same e d (E x))
theorem Ur(g:Rel c hp U σ w)(E:∀x,AIs w (bD c w σ hp) σ hp U (ev fr x) (a.eval x)){x y z:Operand}(i:o.op=.pick x y z)(h:bM P fr hp N (.pick x y z) K) :
  OpOk P c K hp U N σ w ((execOp a.eval o).run P w):=by
 simp only[bM]at h;split at h
 ·rename_i t l;have j:=gi (l▸E x);have b:(execOp a.eval o).run P w=.ok (.value (if t then a.eval y else a.eval z)) w:=by
   simp[execOp,i,j,asBool]
  split at h;rename_i p q m k;have e:=gi (m▸E y);have f:=gi (k▸E z);refine OpOk.val b (Good.same g h ?_);rw[e,f];cases t<;>exact .d (.bool _);refine OpOk.val b ?_;cases t;exact Good.same g (h.2 rfl) (E z);exact Good.same g (h.1 rfl) (E y)
 ·exact h.elim
theorem J6{b:List Int}{v:Value}{S:Nat→Prop}(h:AIs w S σ hp U (.d (.str b)) v):∃s:ByteArray,v=.string s∧b=s.data.toList.map fun c=>(c.toNat:Int):=by
 cases h with|d h=>cases h;exact⟨_,rfl,rfl⟩
theorem oG{x y:ByteArray}:(x.toList==y.toList)=decide ((x.data.toList.map fun c=>(c.toNat:Int))=y.data.toList.map fun c=>(c.toNat:Int)):=by
 rw[ByteArray.toList_eq,ByteArray.toList_eq];rw[Bool.eq_iff_iff];simp only[beq_iff_eq,decide_eq_true_eq];constructor;intro h;rw[h];intro h;have d:∀a b:UInt8,((a.toNat:Int)=(b.toNat:Int))→a=b:=fun a b h=>UInt8.toNat_inj.1 aq;exact(List.map_inj_right d).1 h
theorem ug(d:Nat){t e:TypeId}(b:P.underlying t=some (.slice e))(A:Option Addr)(n k:Nat):(Op.equalIn (d+1) t (.slice A n k) (.slice none 0 0)).run P w=.ok A.isNone w:=by
 rw[Op.equalIn,Sem.run_bind,run_underlying b];cases A<;>rfl
theorem xK{b:BinOp}{t e:TypeId}(g:P.underlying t=some (.slice e))(A:Option Addr)(n k:Nat)(d:b=.eql∨b=.neq) :
  (binOp b t (.slice A n k) (.slice none 0 0)).run P w=.ok (.bool (if b=.eql then A.isNone else !A.isNone)) w:=by
 have f:(Op.equal t (.slice A n k) (.slice none 0 0)).run P w=.ok A.isNone w:=ug 9999 g A n k;rcases d with rfl|rfl;simp only[binOp,Sem.run_bind,f,Result.andThen_ok,Sem.run_pure,if_true];simp only[binOp,Sem.run_bind,f,Result.andThen_ok,Sem.run_pure];rfl
theorem GL{v:AV}{x:Value}{n:Nat}{S:Nat→Prop}(h:AIs w S σ hp U v x)(b:v.slen=some n):∃A k,x=.slice A n k∧(A=none→n=0):=by
 cases h<;>simp[AV.slen]at b
 case d h =>
  rename_i d;cases h<;>simp at b
  case ro e es A c vs hc he hA hv1 hd =>
   subst b;refine⟨A,c,rfl,fun f=>?_⟩;rcases es with _|⟨y,es⟩;rfl;obtain⟨ad,g,_⟩:=hA y aw;rw[f]at g;cases g
  case rof e es A vs he hA hv1 hd =>
   subst b;refine⟨A,_,rfl,fun f=>?_⟩;rcases es with _|⟨y,es⟩;rfl;obtain⟨ad,g,_⟩:=hA y aw;rw[f]at g;cases g
 case own A cap hN hl h0 h=>subst b;exact⟨A,cap,rfl,h0⟩
 case sub A hN hl h0 h=>subst b;exact⟨A,_,rfl,h0⟩
 case nil=>subst b;exact⟨none,0,rfl,fun _=>rfl⟩
theorem run_equalIn_bool(d:Nat){t:TypeId}(b:P.underlying t=some .bool)(p q:Bool):(Op.equalIn (d+1) t (.bool p) (.bool q)).run P w=.ok (p==q) w:=by
 rw[Op.equalIn,Sem.run_bind,run_underlying b];rfl
theorem nG{b:BinOp}{t:TypeId}(f:P.underlying t=some .bool)(p q:Bool)(d:b=.eql∨b=.neq) :
  (binOp b t (.bool p) (.bool q)).run P w=.ok (.bool (if b=.eql then p==q else p != q)) w:=by
 have e:(Op.equal t (.bool p) (.bool q)).run P w=.ok (p==q) w:=run_equalIn_bool 9999 f p q;rcases d with rfl|rfl;simp only[binOp,Sem.run_bind,e,Result.andThen_ok,Sem.run_pure,if_true];simp only[binOp,Sem.run_bind,e,Result.andThen_ok,Sem.run_pure];rfl
theorem BC:∀(x y:List UInt8),Op.bytesLess x y=d5 (x.map fun c=>(c.toNat:Int)) (y.map fun c=>(c.toNat:Int))
 |_,[]=>by simp[Op.bytesLess,d5]
 |[],_::_=>by simp[Op.bytesLess,d5]
 | a :: x,b :: y=>by
  have d:(a==b)=decide ((a.toNat:Int)=(b.toNat:Int)):=by
   by_cases h:a=b;subst h;simp;have:¬((a.toNat:Int)=(b.toNat:Int)):=fun e=>h (UInt8.toNat_inj.1 aq);simp[h,this]
  have f:decide (a<b)=decide ((a.toNat:Int)<(b.toNat:Int)):=by
   congr 1;rw[UInt8.lt_iff_toNat_lt];exact propext aq
  simp only[Op.bytesLess,List.map_cons,d5,BC x y,d,f]
theorem jv(x y:ByteArray):Op.bytesLess x.toList y.toList=d5 (x.data.toList.map fun c=>(c.toNat:Int)) (y.data.toList.map fun c=>(c.toNat:Int)):=by
 rw[BC,ByteArray.toList_eq,ByteArray.toList_eq]
theorem Us(j:Rel c hp U σ w)(E:∀x,AIs w (bD c w σ hp) σ hp U (ev fr x) (a.eval x)){g:BinOp}{t Y:TypeId}{x y:Operand}(b:o.op=.binOp g t x y Y)(h:dH P g t (ev fr x) (ev fr y) K hp) :
  OpOk P c K hp U N σ w ((execOp a.eval o).run P w):=by
 simp only[dH]at h;split at h;rename_i k p X q C B;have l:=eD (C▸E x);have m:=eD (B▸E y);have guard:∀v L,(binOp g t (.int k p) (.int X q)).run P w=.ok v L→(execOp a.eval o).run P w=.ok (.value v) L:=by
  intro v L I;have i:(eqGuard g t x y (.int k p) (.int X q)).run P w=.ok () w:=by
   unfold eqGuard;cases g<;>rfl
  simp only[execOp,b,l,m,Sem.run_bind,i,I,Result.andThen_ok,Sem.run_pure]
 obtain⟨hk,h⟩:=h;obtain⟨d,v,hK,I,hd⟩:=J0 (P:=P) (w:=w) (S:=bD c w σ hp) g k X p q h hk t;exact OpOk.val (guard v w I) (Good.same j hK (.d hd));rename_i p q C B;have l:=gi (C▸E x);have m:=gi (B▸E y);have i:(eqGuard g t x y (.bool p) (.bool q)).run P w=.ok () w:=by
  unfold eqGuard;cases g<;>rfl
 split at h;obtain⟨F,h⟩:=h;refine OpOk.val (x:=.bool (p==q)) ?_ (Good.same j h (.d (.bool _)));simp only[execOp,b,l,m,Sem.run_bind,i,nG F p q (.inl rfl),Result.andThen_ok,Sem.run_pure,if_true];obtain⟨F,h⟩:=h;refine OpOk.val (x:=.bool (p != q)) ?_ (Good.same j h (.d (.bool _)));simp only[execOp,b,l,m,Sem.run_bind,i,nG F p q (.inr rfl),Result.andThen_ok,Sem.run_pure];rfl;exact h.elim;rename_i p q C B;obtain⟨G,l,r⟩:=J6 (C▸E x);obtain⟨H,m,s⟩:=J6 (B▸E y);have i:(eqGuard g t x y (.string G) (.string H)).run P w=.ok () w:=by
  unfold eqGuard;cases g<;>rfl
 split at h;refine OpOk.val (x:=.bool (decide (p=q))) ?_ (Good.same j h (.d (.bool _)));simp only[execOp,b,l,m,Sem.run_bind,i,binOp,Op.stringOp,Result.andThen_ok,Sem.run_pure,oG,r,s];refine OpOk.val (x:=.bool (!decide (p=q))) ?_ (Good.same j h (.d (.bool _)));simp only[execOp,b,l,m,Sem.run_bind,i,binOp,Op.stringOp,Result.andThen_ok,Sem.run_pure,oG,r,s];refine OpOk.val (x:=.bool (d5 p q)) ?_ (Good.same j h (.d (.bool _)));simp only[execOp,b,l,m,Sem.run_bind,i,binOp,Op.stringOp,Result.andThen_ok,Sem.run_pure,jv,r,s];refine OpOk.val (x:=.bool (d5 p q||decide (p=q))) ?_ (Good.same j h (.d (.bool _)));simp only[execOp,b,l,m,Sem.run_bind,i,binOp,Op.stringOp,Result.andThen_ok,Sem.run_pure,oG,jv,r,s];refine OpOk.val (x:=.bool (!(d5 p q||decide (p=q)))) ?_ (Good.same j h (.d (.bool _)));simp only[execOp,b,l,m,Sem.run_bind,i,binOp,Op.stringOp,Result.andThen_ok,Sem.run_pure,oG,jv,r,s];refine OpOk.val (x:=.bool (!d5 p q)) ?_ (Good.same j h (.d (.bool _)));simp only[execOp,b,l,m,Sem.run_bind,i,binOp,Op.stringOp,Result.andThen_ok,Sem.run_pure,jv,r,s];obtain⟨hl,h⟩:=h;have O:¬(((G.size+H.size:Nat):Int)>IntKind.i64.max):=by
  have Z:G.size=p.length:=by rw[r,List.length_map];rfl
  have a2:H.size=q.length:=by rw[s,List.length_map];rfl
  have:IntKind.i64.max=9223372036854775807:=by decide
  rw[this,Z,a2];omega
 refine OpOk.val (x:=.string (G++H)) ?_ (Good.same j h ?_);simp only[execOp,b,l,m,Sem.run_bind,i,binOp,Op.stringOp,if_neg O,Result.andThen_ok,Sem.run_pure];have:p++q=((G++H).data.toList.map fun c=>(c.toNat:Int)):=by
  rw[r,s,←List.map_append];congr 1
 rw[this];exact .d (.str _);exact h.elim
 ·rename_i B;have z:=E y;rw[B]at z;generalize T:a.eval y=vy at z;cases z with
  | nil =>
   have f:=E x;generalize M:a.eval x=vx at f;have J:∀A n k e,vx=.slice A n k→P.underlying t=some (.slice e)→(g=.eql∨g=.neq)→(execOp a.eval o).run P w=.ok (.value (.bool (if g=.eql then A.isNone else !A.isNone))) w:=by
    intro A n k e I F D;have i:(eqGuard g t x y (.slice A n k) (.slice none 0 0)).run P w=.ok () w:=by
     unfold eqGuard;cases g<;>rfl
    simp only[execOp,b,M,T,I,Sem.run_bind,i,xK F A n k D,Result.andThen_ok,Sem.run_pure]
   split at h;rename_i e u V;rw[u]at f;cases f with
   |nil=>exact OpOk.val (J none 0 0 _ rfl (bI V) (.inl rfl)) (Good.same j h (.d (.bool _)))
   ·rename_i e u V;rw[u]at f;cases f with
    |nil=>exact OpOk.val (J none 0 0 _ rfl (bI V) (.inr rfl)) (Good.same j h (.d (.bool _)))
   ·split at h;rename_i n W;obtain⟨A,k,rfl,Q⟩:=GL f W;refine OpOk.val (J A n k _ rfl (bI ‹bU P t=.slice _›) (.inl rfl)) (Good.same j (h A.isNone fun R=>Q (by simpa using R)) (.d (.bool _)));exact h.elim
   ·split at h;rename_i n W;obtain⟨A,k,rfl,Q⟩:=GL f W;refine OpOk.val (J A n k _ rfl (bI ‹bU P t=.slice _›) (.inr rfl)) (Good.same j (h (!A.isNone) fun R=>Q (by simpa using R)) (.d (.bool _)));exact h.elim
   ·exact h.elim
 ·exact h.elim
theorem abA(i:Rel c hp U σ w)(E:∀x,AIs w (bD c w σ hp) σ hp U (ev fr x) (a.eval x)){g:UnOp}{t:TypeId}{x:Operand}(e:o.op=.unOp g t x)(h:bM P fr hp N (.unOp g t x) K) :
  OpOk P c K hp U N σ w ((execOp a.eval o).run P w):=by
 cases g
 case neg =>
  simp only[bM]at h;split at h;rename_i k n f;refine OpOk.val ?_ (Good.same i h (.d (.int _ _)));simp[execOp,e,eD (f▸E x),Op.unary,Op.intArith];exact h.elim
 case not =>
  simp only[bM]at h;split at h;rename_i b f;refine OpOk.val ?_ (Good.same i h (.d (.bool _)));simp[execOp,e,gi (f▸E x),Op.unary];exact h.elim
 case xor =>
  simp only[bM]at h;split at h;rename_i k n f;refine OpOk.val ?_ (Good.same i h (.d (.int _ _)));simp[execOp,e,eD (f▸E x),Op.unary,intBits_xor];exact h.elim
 case plus=>exact h.elim
theorem EE(k:Rel c hp U σ w)(E:∀x,AIs w (bD c w σ hp) σ hp U (ev fr x) (a.eval x)){x:Operand}(e:o.op=.nilCheck x)(h:bM P fr hp N (.nilCheck x) K) :
  OpOk P c K hp U N σ w ((execOp a.eval o).run P w):=by
 simp only[bM]at h;split at h;rename_i id i n m j;have b:=E x;rw[j]at b;generalize g:a.eval x=v at b;have d:=b;cases b with
 |ptr _ _ _ _ ad hN h' =>
  exact OpOk.val (by simp[execOp,e,g]) (Good.same k h d)
 ·rename_i l j;have b:=E x;rw[j]at b;generalize g:a.eval x=v at b;have d:=b;cases b with
  |rop _ ad vs hS h1 h2 =>
   exact OpOk.val (by simp[execOp,e,g]) (Good.same k h d)
 ·rename_i f l j;have b:=E x;rw[j]at b;generalize g:a.eval x=v at b;have d:=b;cases b with
  |fn _ _ xs hl h1 =>
   exact OpOk.val (by simp[execOp,e,g]) (Good.same k h d)
 ·rename_i f l j;have b:=E x;rw[j]at b;generalize g:a.eval x=v at b;have d:=b;cases b with
  |mth _ _ xs hl h1 =>
   exact OpOk.val (by simp[execOp,e,g]) (Good.same k h d)
 ·exact h.elim
theorem Iw(l:Rel c hp U σ w)(E:∀x,AIs w (bD c w σ hp) σ hp U (ev fr x) (a.eval x)){x:Operand}{i:Nat}(e:o.op=.extract x i)(h:bM P fr hp N (.extract x i) K) :
  OpOk P c K hp U N σ w ((execOp a.eval o).run P w):=by
 simp only[bM]at h;split at h;rename_i g k;have b:=E x;rw[k]at b;generalize j:a.eval x=v at b;split at h;rename_i u f;cases b with
 |tup _ xs hl h1 =>
  have m:i<g.length:=(ci.1 f).1;have d:xs[i]?=some (xs[i]'aq):=dg aq;refine OpOk.val (x:=xs[i]'aq) ?_ (Good.same l h (h1 i u _ f d));simp only[execOp,e,j,Instr.extract,d,Sem.run_bind,Sem.run_pure,Result.andThen_ok]
 ·exact h.elim
 ·exact h.elim
theorem yb(d:List Int)(h:∀b,b∈d→0≤b∧b<256):∀s:ByteArray,((d.foldl (fun r n=>r.push (UInt8.ofNat n.toNat)) s).data.toList.map fun c=>(c.toNat:Int))=(s.data.toList.map fun c=>(c.toNat:Int))++d:=by
 induction d with
 |nil=>intro s;simp
 | cons n r ih =>
  intro s;simp only[List.foldl_cons];rw[ih (fun b f=>h b (cS _ f))];obtain⟨i,j⟩:=h n (dz ..);have e:(s.push (UInt8.ofNat n.toNat)).data.toList=s.data.toList++[UInt8.ofNat n.toNat]:=by
   show(s.data.push _).toList=_;simp
  have g:((UInt8.ofNat n.toNat).toNat:Int)=n:=by
   rw[UInt8.toNat_ofNat'];omega
  rw[e,List.map_append,cA,List.map_cons,g];rfl
theorem yc{el:TypeId}{k:IntKind}(hz:P.cellsOf el=1)(f:P.underlying el=some (.int k))(b vs:List Int)(xs e:Array Value)(d:Nat)(g:∀(i:Nat)(m:Int),b[i]?=some m→xs[i]?=some (.int k m))(j:∀(i:Nat)(m:Int),vs[i]?=some m→e[i]?=some (.int k m)) :
  ∀(n i:Nat),i+n≤b.length→i+n≤vs.length→(Op.eqItems (d+1) el (P.cellsOf el) xs e (List.range' i n)).run P w=.ok (decide ((b.drop i).take n=(vs.drop i).take n)) w
 |0,i,_,_=>by simp[Op.eqItems]
 | n+1,i,h1,h2=>by
  have r:=yc hz f b vs xs e d g j n (i+1) aq aq;have l:b[i]?=some b[i]:=cm aq;have u:vs[i]?=some vs[i]:=cm aq;have t:(part el xs (i*P.cellsOf el)).run P w=.ok (.int k b[i]) w:=by
   simp[part,ep f,Iu,hz,g i _ l]
  have p:(part el e (i*P.cellsOf el)).run P w=.ok (.int k vs[i]) w:=by
   simp[part,ep f,Iu,hz,j i _ u]
  have q:b.drop i=b[i]::b.drop (i+1):=List.drop_eq_getElem_cons aq;have s:vs.drop i=vs[i]::vs.drop (i+1):=List.drop_eq_getElem_cons aq;rw[List.range'_succ];simp only[Op.eqItems,Sem.run_bind,t,p,Result.andThen_ok,run_equalIn_int w d el k k b[i] vs[i] f];rw[q,s];simp only[List.take_succ_cons,List.cons.injEq];by_cases h:b[i]=vs[i];simp[h,r];simp[h]
theorem zH{k:IntKind}:∀{cs:List AV}{b:List Int},cn k cs=some b→cs.length=b.length∧∀(i:Nat)(m:Int),b[i]?=some m→cs[i]?=some (.d (.int k m))
 |[],b,h=>by simp[cn]at h;subst h;simp
 | a :: r,b,h=>by
  match a,h with
  | .d (.int k' n),h =>
   simp only[cn]at h;split at h;rename_i j;subst j;cases f:cn k' r with
   |none=>rw[f]at h;simp at h
   |some vs =>
    rw[f]at h;simp only[Option.map_some,Option.some.injEq]at h;subst h;obtain⟨g,l⟩:=zH f;refine⟨by simp[g],fun i m e=>?_⟩;cases i with
    |zero=>simp at e;subst e;rfl
    |succ i=>simpa using l i m (by simpa using e)
   ·cases h
  | .any,h=>simp[cn]at h
  | .agg _,h=>simp[cn]at h
  | .tup _,h=>simp[cn]at h
  | .own ..,h=>simp[cn]at h
  | .sub ..,h=>simp[cn]at h
  | .ptr ..,h=>simp[cn]at h
  | .rop _,h=>simp[cn]at h
  | .fn ..,h=>simp[cn]at h
  | .mth ..,h=>simp[cn]at h
  | .nil,h=>simp[cn]at h
  | .d (.bool _),h=>simp[cn]at h
  | .d (.str _),h=>simp[cn]at h
  | .d (.ro ..),h=>simp[cn]at h
  | .d (.rof ..),h=>simp[cn]at h
  | .d (.box _),h=>simp[cn]at h
  | .d .nilp,h=>simp[cn]at h
theorem GM{t:TypeId}(h:GG P t=true):P.underlying t=some (.pointer (P.pointee t)):=by
 unfold GG at h;unfold Program.pointee;cases b:P.underlying t with
 |none=>simp[b]at h
 |some d=>cases d<;>simp[b]at h⊢
theorem GN{w:World}{S:Nat→Prop}{σ:Nat→Option Nat}{hp:Hp}{U:Nat→Prop}:∀{cs:List AV}{b:List L1}{xs:Array Value},eW cs=some b→cs.length=xs.size→(∀(i:Nat)(c:AV)(x:Value),cs[i]?=some c→xs[i]?=some x→AIs w S σ hp U c x)→xs=(b.map L1.v).toArray:=by
 have y:∀(cs:List AV)(b:List L1)(xs:List Value),eW cs=some b→cs.length=xs.length→(∀(i:Nat)(c:AV)(x:Value),cs[i]?=some c→xs[i]?=some x→AIs w S σ hp U c x)→xs=b.map L1.v:=by
  intro cs
  induction cs with
  |nil =>
   intro b xs h d _;simp only[eW,Option.some.injEq]at h;subst h;simpa using d.symm
  | cons c r ih =>
   intro b xs h d j
   match xs,d with
   |x::xr,d =>
    have s:=j 0 c x rfl rfl;have t:=fun(i:Nat)(c:AV)(x:Value)(m:r[i]?=some c)(q:xr[i]?=some x)=>j (i+1) c x (by simpa using m) (by simpa using q);have g:r.length=xr.length:=(by simpa using d);unfold eW at h;split at h;cases ‹_::_=[]›;rename_i k n u e;injection e with l p;subst l;subst p;simp only[Option.map_eq_some_iff]at h;obtain⟨f,h,rfl⟩:=h;rw[ih f xr h g t,eD s];rfl;rename_i v u e;injection e with l p;subst l;subst p;simp only[Option.map_eq_some_iff]at h;obtain⟨f,h,rfl⟩:=h;rw[ih f xr h g t,gi s];rfl;cases h
 intro cs b xs h d j;have:=y cs b xs.toList h (by simpa using d) (fun i c x m q=>j i c x m (by simpa using q));rw[←this]
theorem Yl (I:Rel c hp U σ w) (E:∀ x,AIs w (bD c w σ hp) σ hp U (ev fr x) (a.eval x)) {s:BinOp} {t t':TypeId} {x y:Operand} (e:o.op=.binOp s t x y t') (h:bM P fr hp N (.binOp s t x y t') K) :
  OpOk P c K hp U N σ w ((execOp a.eval o).run P w):=by
 simp only[bM]at h;unfold df at h;have ptr:∀(p:Option Addr),a.eval x=.pointer p→a.eval y=.pointer none→OT P s t p.isNone K hp→OpOk P c K hp U N σ w ((execOp a.eval o).run P w):=by
  intro p u L h;obtain⟨B,h⟩:=h;have Q:(eqGuard s t x y (.pointer p) (.pointer none)).run P w=.ok () w:=by
   unfold eqGuard;cases s<;>rfl
  split at h;refine OpOk.val (x:=.bool p.isNone) ?_ (Good.same I h (.d (.bool _)));simp only[execOp,e,u,L,Sem.run_bind,Q,run_eql_pointer_nil w t p (GM B),Result.andThen_ok,Sem.run_pure];refine OpOk.val (x:=.bool (!p.isNone)) ?_ (Good.same I h (.d (.bool _)));simp only[execOp,e,u,L,Sem.run_bind,Q,run_neq_pointer_nil w t p (GM B),Result.andThen_ok,Sem.run_pure];exact h.elim
 have nilp:∀{z:Operand},ev fr z=.d .nilp→a.eval z=.pointer none:=by
  intro z hz;have:=E z;rw[hz]at this;generalize a.eval z=v at this;cases this with
  |d h=>cases h;rfl
 split at h;rename_i G H;have b:=E x;rw[G]at b;generalize T:a.eval x=v at b;cases b with
 |ptr _ _ _ _ ad _ _=>exact ptr (some ad) T (nilp H) h
 ·rename_i G H;have b:=E x;rw[G]at b;generalize T:a.eval x=v at b;cases b with
  |rop _ ad _ _ _ _=>exact ptr (some ad) T (nilp H) h
 ·rename_i G H;exact ptr none (nilp G) (nilp H) h
 ·rename_i as bs G H;split at h;rename_i n el ht;unfold Tu at h;split at h;rename_i k O;split at h;rename_i C D J M;obtain⟨ac,aa,hz,Q,h⟩:=h;have b:=E x;have f:=E y;rw[G]at b;rw[H]at f;generalize q:a.eval x=vx at b;generalize r:a.eval y=vy at f;cases b with
  | agg _ xs hxl hx1 hxs =>
   cases f with
   | agg _ ys hyl hy1 hys =>
    have B:P.underlying el=some (.int k):=by
     unfold jI at O;split at O;rename_i k' B;injection O with O;rw[B,O];cases O
    obtain⟨i,Z⟩:=fc B;obtain⟨q1,q2⟩:=zH J;obtain⟨q3,q4⟩:=zH M;have W:∀{X:List AV}{R:Array Value}{Y:List Int},X.length=R.size→(∀(i:Nat)(c0:AV)(x:Value),X[i]?=some c0→R[i]?=some x→AIs w (bD c w σ hp) σ hp U c0 x)→(∀(i:Nat)(m:Int),Y[i]?=some m→X[i]?=some (.d (.int k m)))→∀(i:Nat)(m:Int),Y[i]?=some m→R[i]?=some (.int k m):=by
     intro X R Y hl hA hw i m Z;have u:=hw i m Z;have L:i<R.size:=by rw[←hl];exact(ci.1 u).1
     have h3:=hA i _ R[i] u (dg L);rw[dg L,eD h3]
    have j:(Op.equal t (.agg xs) (.agg ys)).run P w=.ok (decide (C=D)) w:=by
     have u:=run_equalIn_array w 9999 xs ys (gZ ht) Z;have L:=yc (P:=P) (w:=w) hz B C D xs ys 9998 (W hxl hxs q2) (W hyl hys q4) n 0 aq aq;rw[List.range_eq_range',L]at u;simp only[List.drop_zero]at u;rw[cx aq,cx aq]at u;exact u
    have g:(s=.eql∨s=.neq)→(eqGuard s t x y (.agg xs) (.agg ys)).run P w=.ok () w:=by
     rintro(rfl|rfl)<;>simp[eqGuard,Q]
    split at h;refine OpOk.val (x:=.bool (decide (C=D))) ?_ (Good.same I h (.d (.bool _)));simp only[execOp,e,q,r,Sem.run_bind,g (.inl rfl),Result.andThen_ok,binOp,j,Sem.run_pure];refine OpOk.val (x:=.bool (!decide (C=D))) ?_ (Good.same I h (.d (.bool _)));simp only[execOp,e,q,r,Sem.run_bind,g (.inr rfl),Result.andThen_ok,binOp,j,Sem.run_pure];exact h.elim
  ·exact h.elim
  ·exact h.elim
  ·rename_i ab ht;unfold Tv at h;split at h;rename_i C D J M;obtain⟨Q,V,A,h⟩:=h;have b:=E x;have f:=E y;rw[G]at b;rw[H]at f;generalize q:a.eval x=vx at b;generalize r:a.eval y=vy at f;cases b with
   | agg _ xs hxl hx1 hxs =>
    cases f with
    | agg _ ys hyl hy1 hys =>
     obtain⟨F,B,_⟩:=pU ht;have ex:=GN J hxl hxs;have ey:=GN M hyl hys;have T:∀l:List L1,EC P t l=.agg (l.map L1.v).toArray:=fun l=>by unfold EC;rw[B];rfl
     have j:(Op.equal t (.agg xs) (.agg ys)).run P w=.ok (decide (C=D)) w:=by
      have:=ED 8 t _ V w 9992 C D rfl (by rw[V]at A;injection A with A;exact A.symm);rw[T,T,←ex,←ey]at this;exact this
     have g:(s=.eql∨s=.neq)→(eqGuard s t x y (.agg xs) (.agg ys)).run P w=.ok () w:=by
      rintro(rfl|rfl)<;>simp[eqGuard,Q]
     split at h;refine OpOk.val (x:=.bool (decide (C=D))) ?_ (Good.same I h (.d (.bool _)));simp only[execOp,e,q,r,Sem.run_bind,g (.inl rfl),Result.andThen_ok,binOp,j,Sem.run_pure];refine OpOk.val (x:=.bool (!decide (C=D))) ?_ (Good.same I h (.d (.bool _)));simp only[execOp,e,q,r,Sem.run_bind,g (.inr rfl),Result.andThen_ok,binOp,j,Sem.run_pure];exact h.elim
   ·exact h.elim
  ·exact h.elim
 ·exact Us I E e h
theorem Ix (L:Rel c hp U σ w) (E:∀ x,AIs w (bD c w σ hp) σ hp U (ev fr x) (a.eval x)) {s t:TypeId} {x:Operand} (B:o.op=.convert s t x) (D:∀ e el,ev fr x=.d (.str e)→bU P s=.str→bU P t=.slice el→P.underlying el=some (.int .u8)→K (.d (.ro 1 (e.map fun b=>[.int .u8 b]))) hp→OpOk P c K hp U N σ w ((execOp a.eval o).run P w)) (F:∀ e el,dh hp 1 (ev fr x)=some (e.map fun b=>[.d (.int .u8 b)])→(∀ b,b ∈ e→0≤b∧b<256)→bU P s=.slice el→bU P t=.str→P.underlying el=some (.int .u8)→K (.d (.str e)) hp→OpOk P c K hp U N σ w ((execOp a.eval o).run P w)) (h:bM P fr hp N (.convert s t x) K) :
  OpOk P c K hp U N σ w ((execOp a.eval o).run P w):=by
 simp only[bM]at h;split at h;rename_i T y;obtain⟨e,rfl,Q,h⟩:=h;split at h;rename_i el m p;obtain⟨I,h⟩:=h;have g:=E x;rw[y]at g;generalize R:a.eval x=v at g;cases g with
 | d g =>
  cases g with
  | ro _ _ A cap vs hc he hA hv1 hd =>
   have z:(e.map fun b=>[DV.int .u8 b]).length=e.length:=(by simp);have G:∃s:ByteArray,(Conv.bytesToString (.slice A (e.map fun b=>[DV.int .u8 b]).length cap)).run P w=.ok (.string s) w∧(s.data.toList.map fun c=>(c.toNat:Int))=e:=by
    rcases e with _|⟨C,bs'⟩;cases A with
    |none=>exact⟨.empty,by simp[Conv.bytesToString],rfl⟩
    |some ad =>
     refine⟨.empty,?_,rfl⟩;exact run_bytesToString (P:=P) w ad 0 cap [] (by simp[loadCells,loadCellsFrom])
    ·obtain⟨ad,rfl,_⟩:=hA [.int .u8 C] aw;have f:=run_loadCells_list (P:=P) w ad ((C::bs').map (Value.int .u8)) (fun j u J=>by
      simp only[cU,Option.map_eq_some_iff]at J;obtain⟨b,H,rfl⟩:=J;have q:((C::bs').map fun b=>[DV.int .u8 b])[j]?=some [.int .u8 b]:=by rw[cU,H];rfl
      have r:=hv1 ad rfl j 0 _ _ q rfl;have l:=hd j 0 _ _ q rfl;rw[Nat.mul_one,Nat.add_zero]at r;rw[r];generalize vs j 0=u at l;cases l
      rfl)
     rw[List.length_map]at f;have:=run_bytesToString (P:=P) w ad (C::bs').length cap (C::bs') f;refine⟨_,by rw[z];exact this,?_⟩;rw[yb _ Q];rfl
   obtain⟨M,q,r⟩:=G;refine OpOk.val (x:=.string M) ?_ (Good.same L h (by rw[←r];exact .d (.str M)));have i:=run_convert_bytes_string (P:=P) w s t el A (e.map fun b=>[DV.int .u8 b]).length cap (bI m) I (oy p);simp only[execOp,B,R,Sem.run_bind,i,q,Result.andThen_ok,Sem.run_pure]
 ·exact h.elim
 ·rename_i k n y;split at h;rename_i V O m p;refine OpOk.val ?_ (Good.same L h (.d (.int _ _)));have:(convert s t (.int k n)).run P w=.ok (.int O (O.wrap n)) w:=by
   simp[convert,run_underlying m,run_underlying p,Conv.intToInt]
  simp[execOp,B,eD (y▸E x),this];exact h.elim
 ·rename_i e y;split at h;rename_i el m p;exact D e el y m p h.1 h.2;exact h.elim
 ·obtain⟨e,q,r,l⟩:=h;split at l;rename_i el m p;exact F e el q r m p l.1 l.2;exact l.elim
theorem Ut(H:Rel c hp U σ w)(E:∀x,AIs w (bD c w σ hp) σ hp U (ev fr x) (a.eval x)){t:TypeId}{x:Operand}(D:o.op=.load t x)(h:bM P fr hp N (.load t x) K) :
  OpOk P c K hp U N σ w ((execOp a.eval o).run P w):=by
 simp only[bM]at h;split at h;rename_i id i n T G;have l:=E x;rw[G]at l;split at h;rename_i b W;split at h;rename_i J F;obtain⟨X,h⟩:=h;split at h;rename_i v L;obtain⟨g,B,Y,I,q,C,V,Q,z⟩:=oC H l W F X;have k:∀(j:Nat)(y:AV),(J.drop n)[j]?=some y→∃u,B[i*b.e+n+j]?=some u∧AIs w (bD c w σ hp) σ hp U y u:=by
  intro j y f;rw[List.getElem?_drop]at f;obtain⟨u,m,p⟩:=z _ y f;exact⟨u,by rw[Nat.add_assoc];exact m,p⟩
 obtain⟨u,r,A⟩:=iJ (P:=P) (w:=w) (S:=bD c w σ hp) (σ:=σ) (hp:=hp) (U:=U) (ad:=⟨g,i*b.e+n,none⟩) (vs:=fun j=>B.getD (i*b.e+n+j) undef) L
  (fun j y f=>by
   obtain⟨u,m,p⟩:=k j y f;rw[gu,cell_of_row w _ _ B _ _ q,m]
   simp[ct,m])
  (fun j y f=>by
   obtain⟨u,m,p⟩:=k j y f;simp only[ct,m,Option.getD_some]
   exact C _ u m)
  (fun j y f=>by
   obtain⟨u,m,p⟩:=k j y f;simp only[ct,m,Option.getD_some]
   exact p)
 refine OpOk.val (x:=u) ?_ (Good.same H h A);simp[execOp,D,I,Instr.loadAt,Instr.sureAddr,r];exact h.elim;exact h.elim;exact h.elim;rename_i O G;have l:=E x;rw[G]at l;generalize M:a.eval x=xv at l;split at h;rename_i v L;cases l with
 | rop _ ad vs hS m p =>
  have k:∀(j:Nat)(y:AV),(O.map AV.d)[j]?=some y→∃d,y=.d d∧O[j]?=some d:=by
   intro j y f;rw[cU,Option.map_eq_some_iff]at f;obtain⟨d,s,R⟩:=f;exact⟨d,R.symm,s⟩
  obtain⟨u,r,A⟩:=iJ (P:=P) (w:=w) (S:=bD c w σ hp) (σ:=σ) (hp:=hp) (U:=U) (ad:=ad) (vs:=vs) L
   (fun j y f=>by obtain⟨d,rfl,s⟩:=k j y f;exact m j d s)
   (fun j y f=>by obtain⟨d,rfl,s⟩:=k j y f;exact zD (p j d s))
   (fun j y f=>by obtain⟨d,rfl,s⟩:=k j y f;exact .d (p j d s))
  refine OpOk.val (x:=u) ?_ (Good.same H h A);simp[execOp,D,M,Instr.loadAt,Instr.sureAddr,r]
 ·exact h.elim
 ·exact h.elim
theorem tL{t:TypeId}{i o:Nat}{d:TypeId}(h:kC P t i=some (o,d)):∃F f,P.underlying t=some (.struct F)∧F[i]?=some f∧f.offset=o∧f.type=d:=by
 unfold kC at h;split at h;rename_i m b;obtain⟨F,e,rfl⟩:=pU b;simp only[cU,Array.getElem?_toList,Option.map_eq_some_iff]at h;obtain⟨f,j,k⟩:=h;injection k with g l;exact⟨F,f,e,j,g,l⟩;cases h
theorem BD(z:Rel c hp U σ w)(E:∀x,AIs w (bD c w σ hp) σ hp U (ev fr x) (a.eval x)){t:TypeId}{x:Operand}{i:Nat}(q:o.op=.fieldAddr t x i)(h:bM P fr hp N (.fieldAddr t x i) K) :
  OpOk P c K hp U N σ w ((execOp a.eval o).run P w):=by
 simp only[bM]at h;have run:∀e k ad,kC P t i=some (e,k)→P.cellsOf k≠0→a.eval x=.pointer (some ad)→(execOp a.eval o).run P w=.ok (.value (.pointer (some (ad.add e)))) w:=by
  intro e k ad m A l;obtain⟨F,f,B,D,rfl,rfl⟩:=tL m;simp[execOp,q,l,Instr.fieldAt,run_underlying B,D,Instr.sureAddr,fieldPlace,be A,A]
 split at h;rename_i id j e G p k l m;have d:=E x;rw[l]at d;generalize u:a.eval x=v at d;cases d with
 |ptr _ _ _ _ ad hN h' =>
  refine OpOk.val (run p k ad m h.1 u) (Good.same z h.2 (.ptr _ _ _ _ _ hN fun b H=>?_));obtain⟨r,s⟩:=h' b H;refine⟨r,fun I=>?_⟩;obtain⟨g,C,rfl⟩:=s I;exact⟨g,C,by rw[gu,Nat.add_assoc]⟩
 ·rename_i J p k l m;have d:=E x;rw[l]at d;generalize u:a.eval x=v at d;cases d with
  |rop _ ad vs hS r s =>
   refine OpOk.val (run p k ad m h.1 u) (Good.same z h.2 (.rop _ _ (fun j=>vs (p+j)) (by rw[eK];exact hS) (fun j y n=>?_) (fun j y n=>?_)));rw[List.getElem?_drop]at n;rw[ll];exact r _ y n;rw[List.getElem?_drop]at n;exact s _ y n
 ·exact h.elim
end
end Go.Am
namespace Go.Am
section
variable {P:Program} {c:Ctx} {K:AV→Hp→Prop} {fr:Fr} {hp:Hp} {U:Nat→Prop} {N:Nat} {σ:Nat→Option Nat} {w:World} {a:Act} {o:Oper}
theorem kD{t e:TypeId}{ad:Addr}{len cap:Nat}{k:IntKind}{n:Int}(b:P.underlying t=some (.slice e))(hz:P.cellsOf e≠0)(f:0≤n)(d:n<len) :
  (Instr.indexAt t (.slice (some ad) len cap) (.int k n)).run P w=.ok (.pointer (some (ad.add (n.toNat*P.cellsOf e)))) w:=by
 simp[Instr.indexAt,run_underlying b,asIntOf,f,d,be hz]
theorem nj{t e:TypeId}{ad:Addr}{len:Nat}{k:IntKind}{n:Int}(b:P.underlying t=some (.array len e))(hz:P.cellsOf e≠0)(f:0≤n)(d:n<len) :
  (Instr.indexAt t (.pointer (some ad)) (.int k n)).run P w=.ok (.pointer (some (ad.add (n.toNat*P.cellsOf e)))) w:=by
 simp[Instr.indexAt,run_underlying b,asIntOf,f,d,be hz,Instr.sureAddr]
theorem BE(M:Rel c hp U σ w)(E:∀x,AIs w (bD c w σ hp) σ hp U (ev fr x) (a.eval x)){t:TypeId}{x X:Operand}(V:o.op=.indexAddr t x X)(h:bM P fr hp N (.indexAddr t x X) K) :
  OpOk P c K hp U N σ w ((execOp a.eval o).run P w):=by
 simp only[bM]at h;split at h;rename_i k n hi;have Y:=eD (hi▸E X);have run:∀v,(Instr.indexAt t (a.eval x) (.int k n)).run P w=.ok v w→(execOp a.eval o).run P w=.ok (.value v) w:=by
  intro v H;simp only[execOp,V,Y,Sem.run_bind,H,Result.andThen_ok,Sem.run_pure]
 split at h;rename_i e es I r p;obtain⟨s,R,u,h⟩:=h;have f:=E x;rw[r]at f;generalize H:a.eval x=v at f run;split at h;rename_i Z q;cases f with
 | d f =>
  cases f with
  |ro _ _ A J vs hc hel hA hv1 hd =>
   have O:=cr q;have aa:n.toNat<es.length:=(ci.1 q).1;obtain⟨ad,rfl,T⟩:=hA Z O;refine OpOk.val (run _ (kD (bI p) u s aq)) (Good.same M h (.rop Z _ (vs n.toNat) (by rw[eK];exact T) (fun j y z=>?_) (fun j y z=>hd _ _ _ _ q z)));rw[ll,←R];exact hv1 ad rfl _ _ _ _ q z
 ·exact h.elim
 ·rename_i id i0 G Q I r p;obtain⟨s,C,h⟩:=h;have f:=E x;rw[r]at f;generalize H:a.eval x=v at f run;split at h;rename_i b F;obtain⟨m,R,u,h⟩:=h;cases f with
  |own _ _ _ _ A J hN hl hA0 h' =>
   obtain⟨D,B⟩:=h' b F;obtain⟨h4,_,h5⟩:=B m;obtain⟨g,L,rfl,_⟩:=h5 aq;refine OpOk.val (run _ (kD (bI p) u s C)) (Good.same M h (.ptr _ _ _ _ _ hN fun b' l=>?_));rw[F]at l;injection l with l;subst l;exact⟨D,fun _=>⟨g,L,by rw[gu,←R,Nat.add_zero,Nat.add_mul]⟩⟩
  ·exact h.elim
 ·rename_i id i W e G J Q I r p;obtain⟨s,C,h⟩:=h;have f:=E x;rw[r]at f;generalize H:a.eval x=v at f run;split at h;rename_i b F;obtain⟨m,R,u,h⟩:=h;cases f with
  |sub _ _ _ _ _ _ _ A hN hl hA0 h' =>
   obtain⟨D,B⟩:=h' b F;obtain⟨h4,h5,h6⟩:=B m;obtain⟨g,L,rfl⟩:=h6 aq;refine OpOk.val (run _ (kD (bI p) u s C)) (Good.same M h (.ptr _ _ _ _ _ hN fun b' l=>?_));rw[F]at l;injection l with l;subst l;exact⟨D,fun _=>⟨g,L,by rw[gu,←R,Nat.add_assoc]⟩⟩
  ·exact h.elim
 ·rename_i id i W Q G I r p;obtain⟨s,C,u,h⟩:=h;have f:=E x;rw[r]at f;generalize H:a.eval x=v at f run;cases f with
  |ptr _ _ _ _ ad hN h' =>
   refine OpOk.val (run _ (nj (gZ p) u s C)) (Good.same M h (.ptr _ _ _ _ _ hN fun b F=>?_));obtain⟨D,B⟩:=h' b F;refine⟨D,fun p=>?_⟩;obtain⟨g,L,rfl⟩:=B p;exact⟨g,L,by rw[gu,Nat.add_assoc]⟩
 ·rename_i Z G I r p;obtain⟨s,C,u,h⟩:=h;have f:=E x;rw[r]at f;generalize H:a.eval x=v at f run;cases f with
  |rop _ ad vs T D B =>
   refine OpOk.val (run _ (nj (gZ p) u s C)) (Good.same M h (.rop _ _ (fun j=>vs (n.toNat*P.cellsOf I+j)) (by rw[eK];exact T) (fun j y z=>?_) (fun j y z=>?_)));rw[List.getElem?_drop]at z;rw[ll];exact D _ y z;rw[List.getElem?_drop]at z;exact B _ y z
 ·exact h.elim
 ·exact h.elim
theorem zJ(k:Rel c hp U σ w)(p:Free U N){t:TypeId}{d:Array Value}{cs:List AV}(s:cs.length=d.size)
  (m:∀(i:Nat)(x:Value),d[i]?=some x→x.oneCell'=true)
  (n:∀(i:Nat)(y:AV)(v:Value),cs[i]?=some y→d[i]?=some v→AIs w (bD c w σ hp) σ hp U y v)
  (h:K (.ptr N 0 0 1) ((N,⟨t,cs.length,[cs]⟩)::hp)) :
  Good c K hp U N σ w (.pointer (some ⟨w.heap.size,0,none⟩)) (w.alloc (.cells d t)):=by
 obtain⟨r,l⟩:=GK k p d ⟨t,cs.length,[cs]⟩ m aw (by simp;omega) (by
  intro i j x y v f q g;cases i with
  |zero =>
   simp only[List.getElem?_cons_zero,Option.some.injEq]at f;subst f;simp only[Nat.zero_mul,Nat.zero_add]at g;exact n j y v q g
  |succ i=>simp at f)
 refine⟨_,_,_,h,r,l,.ptr _ _ _ _ _ mE fun b e=>?_⟩;rw[qN,if_pos rfl]at e;injection e with e;subst e;exact⟨aw,fun _=>⟨w.heap.size,aw,aw⟩⟩
theorem EG{v:AV}{x:Value}{S:Nat→Prop}(h:AIs w S σ hp U v x)(b:v≠.any)(e:∀vs,v≠.tup vs)(h3:∀cs,v≠.agg cs):x.oneCell'=true∧x.cells=#[x]:=by
 cases h with
 |any=>exact absurd rfl b
 |tup cs xs _ _=>exact absurd rfl (e cs)
 |agg cs xs _ _ _=>exact absurd rfl (h3 cs)
 |d h=>cases h<;>exact⟨rfl,rfl⟩
 |own=>exact⟨rfl,rfl⟩
 |sub=>exact⟨rfl,rfl⟩
 |ptr=>exact⟨rfl,rfl⟩
 |rop=>exact⟨rfl,rfl⟩
 |fn=>exact⟨rfl,rfl⟩
 |mth=>exact⟨rfl,rfl⟩
 |nil=>exact⟨rfl,rfl⟩
 |mp=>exact⟨rfl,rfl⟩
theorem Ym(k:Rel c hp U σ w)(E:∀x,AIs w (bD c w σ hp) σ hp U (ev fr x) (a.eval x))(l:Free U N){t:TypeId}{x:Operand}(f:o.op=.box t x)(h:bM P fr hp N (.box t x) K) :
  OpOk P c K hp U N σ w ((execOp a.eval o).run P w):=by
 simp only[bM]at h;have e:(execOp a.eval o).run P w=.ok (.value (.pointer (some ⟨w.heap.size,0,none⟩))) (w.alloc (.cells (a.eval x).cells t)):=by
  simp[execOp,f,Instr.box,newVar,newRow]
 rw[e];split at h;rename_i cs n;have b:=E x;rw[n]at b;generalize s:a.eval x=v at b;cases b with
 |agg _ xs hl g j=>exact zJ k l hl g j h
 ·exact h.elim
 ·exact h.elim
 ·rename_i v p r q;obtain⟨g,j⟩:=EG (E x) r q p;rw[j];refine zJ (cs:=[ev fr x]) k l rfl (fun i y d=>?_) (fun i y z d m=>?_) h;cases i with
  |zero=>simp at d;subst d;exact g
  |succ i=>simp at d
  ·cases i with
   |zero=>simp at d m;subst d;subst m;exact E x
   |succ i=>simp at d
theorem O5 (hr:Rel c hp U σ w) (E:∀ x,AIs w (bD c w σ hp) σ hp U (ev fr x) (a.eval x)) {t:TypeId} {x v:Operand} (hop:o.op=.store t x v) (h:bM P fr hp N (.store t x v) K) :
  OpOk P c K hp U N σ w ((execOp a.eval o).run P w):=by
 simp only[bM]at h;split at h
 ·rename_i id i off tot hx;have hx':=E x;rw[hx]at hx';split at h
  ·rename_i b hb;split at h
   ·rename_i row hrow;obtain⟨ht,h⟩:=h;obtain⟨g,ccs,hg,hxv,hheap,hone,hrl,hle,hcell⟩:=oC hr hx' hb hrow ht;have hilt:i<b.es.length:=(ci.1 hrow).1
    -- what storing cells does
    have go:∀ (us:List Value) (cs:List AV),(a.eval v).cells=us.toArray→cs.length=us.length→us.length=P.cellsOf t→P.cellsOf t ≠ 0→off+us.length≤row.length →
      (∀u∈us,u.oneCell'=true)→(∀(j:Nat)(y:AV)(u:Value),cs[j]?=some y→us[j]?=some u→AIs w (bD c w σ hp) σ hp U y u) →
      K .any (bJ id ⟨b.ty,b.e,b.es.set i (row.take off++(cs++row.drop (off+cs.length)))⟩ hp)→OpOk P c K hp U N σ w ((execOp a.eval o).run P w):=by
     intro us cs hcells hcl hul hz hfit h1 h2 hK;have hsto:=run_storeCells_at P g (i*b.e+off) b.ty us 0 ccs w hheap aq h1;have hrun:(execOp a.eval o).run P w=.ok .skip (w.setRow g (ccs.toList.take (i*b.e+off)++us++ccs.toList.drop (i*b.e+off+us.length)).toArray):=by
      simp only[Nat.add_zero]at hsto;simp[execOp,hop,hxv,Instr.storeAt,Instr.sureAddr,storeVar,hcells,be hz,hul,hsto]
     rw[hrun];have hnl:(row.take off++(cs++row.drop (off+cs.length))).length=b.e:=by simp;omega
     have hnth:∀m,(ccs.toList.take (i*b.e+off)++us++ccs.toList.drop (i*b.e+off+us.length)).toArray[m]? =
       if m<i*b.e+off then ccs[m]? else if m<i*b.e+off+us.length then us[m-(i*b.e+off)]? else ccs[m]?:=by
      intro m;simp only[List.getElem?_toArray,cA];rw[List.getElem?_append];have hlt:(ccs.toList.take (i*b.e+off)).length=i*b.e+off:=by simp;omega
      rw[hlt];by_cases hm:m<i*b.e+off;simp[hm];rw[if_neg hm,if_neg hm,List.getElem?_append];by_cases hm2:m<i*b.e+off+us.length;rw[if_pos aq,if_pos hm2];rw[if_neg aq,if_neg hm2,List.getElem?_drop,Array.getElem?_toList];congr 1;omega
     have hrowth:∀m,(row.take off++(cs++row.drop (off+cs.length)))[m]?=if m<off then row[m]? else if m<off+cs.length then cs[m-off]? else row[m]?:=by
      intro m;rw[List.getElem?_append];have hlt:(row.take off).length=off:=by simp;omega
      rw[hlt];by_cases hm:m<off;simp[hm];rw[if_neg hm,if_neg hm,List.getElem?_append];by_cases hm2:m<off+cs.length;rw[if_pos aq,if_pos hm2];rw[if_neg aq,if_neg hm2,List.getElem?_drop];congr 1;omega
     obtain⟨r1,r2⟩:=zG hr (b':=⟨b.ty,b.e,b.es.set i (row.take off++(cs++row.drop (off+cs.length)))⟩) hb hg rfl rfl aw ccs (ccs.toList.take (i*b.e+off)++us++ccs.toList.drop (i*b.e+off+us.length)).toArray hheap (by simp;omega)
      (fun m y hy=>by
       rw[hnth]at hy;split at hy;exact hone m y hy;split at hy;exact h1 y (cr hy)
       exact hone m y hy)
      (fun y hy=>by
       rcases List.mem_or_eq_of_mem_set hy with h'|rfl;obtain⟨_,_,_,h3,_⟩:=hr.at hb hg;exact h3 y h'
       exact hnl)
      (fun k j r y u a1 a2 a3=>by
       obtain⟨cc,k1,_,k3,k4,k5⟩:=hr.at hb hg;rw[hheap]at k1;injection k1 with k1;injection k1 with k1;subst k1;rw[hnth]at a3;simp only[List.getElem?_set]at a1;by_cases hk:i=k;subst hk;simp only[if_true,hilt]at a1;injection a1 with a1;subst a1;rw[hrowth]at a2;by_cases q1:j<off;rw[if_pos q1]at a2;rw[if_pos aq]at a3;exact k5 i j row y u hrow a2 a3;rw[if_neg q1]at a2;rw[if_neg aq]at a3;by_cases q2:j<off+cs.length;rw[if_pos q2]at a2;rw[if_pos aq]at a3;rw[show i*b.e+j-(i*b.e+off)=j-off by omega]at a3;exact h2 _ y u a2 a3;rw[if_neg q2]at a2;rw[if_neg aq]at a3;exact k5 i j row y u hrow a2 a3;rw[if_neg hk]at a1;have hj:j<b.e:=by
        have:=(ci.1 a2).1;rw[k3 r (cr a1)]at this;exact this
       have hout:¬(i*b.e≤k*b.e+j∧k*b.e+j<i*b.e+b.e):=by
        rintro⟨p1,p2⟩;rcases Nat.lt_or_gt_of_ne hk with h'|h';have:(i+1)*b.e≤k*b.e:=d9 _ aq;rw[Nat.add_mul,Nat.one_mul]at this;omega;have:(k+1)*b.e≤i*b.e:=d9 _ aq;rw[Nat.add_mul,Nat.one_mul]at this;omega
       have a3':ccs[k*b.e+j]?=some u:=by
        by_cases q1:k*b.e+j<i*b.e+off
        ·rwa [if_pos q1]at a3
        ·rw[if_neg q1,if_neg aq]at a3;exact a3
       exact k5 k j r y u a1 a2 a3')
     exact⟨.any,_,σ,hK,r1.more,r2.trans Step.more,.any _⟩
    split at h;rename_i cs hv;obtain⟨h1,hz,h2,h3⟩:=h;have hv':=E v;rw[hv]at hv';generalize hvv:a.eval v=vv at hv' go;cases hv' with
    |agg _ xs hl h4 h5 =>
     exact go xs.toList cs (by simp[Value.cells]) (by simpa using hl) (by simp;omega) hz (by simp;omega) (fun u hu=>by
       obtain⟨j,hj⟩:=List.getElem?_of_mem hu
       exact h4 j u (by simpa using hj)) (fun j y u hy hu=>h5 j y u hy (by simpa using hu)) h3
    ·exact h.elim
    ·exact h.elim
    ·rename_i u n1 n2 n3;obtain⟨h1,h2,h3⟩:=h;obtain⟨h4,h5⟩:=EG (E v) n2 n3 n1;refine go [a.eval v] [ev fr v] h5 rfl (by simp[h1]) aq (by simp;omega) (by simpa using h4) (fun j y u hy hu=>?_) ?_;cases j with
     |zero=>simp at hy hu;subst hy;subst hu;exact E v
     |succ j=>simp at hy
     ·have:row.take off++([ev fr v]++row.drop (off+[ev fr v].length))=row.set off (ev fr v):=by
       rw[List.set_eq_take_append_cons_drop,if_pos h2];rfl
      rw[this];exact h3
   ·exact h.elim
  ·exact h.elim
 ·exact h.elim
theorem Yn(m:Rel c hp U σ w)(E:∀x,AIs w (bD c w σ hp) σ hp U (ev fr x) (a.eval x)){t:TypeId}{x:Operand}{cl:Call}(j:o.op=.call cl)(hc:cl.callee=.builtin .len)(z:cl.args.toList=[x])(q:cl.argTypes.toList=[t])
  (h:xJ P fr hp N .len [x] [t] K):OpOk P c K hp U N σ w ((execOp a.eval o).run P w):=by
 simp only[xJ]at h;have l:cl.args=#[x]:=by rw[←Array.toArray_toList (xs:=cl.args),z]
 have k:cl.argTypes=#[t]:=by rw[←Array.toArray_toList (xs:=cl.argTypes),q]
 have run:∀n:Nat,(Builtin.len_ #[t] o.type #[a.eval x]).run P w=.ok (goInt n) w→(execOp a.eval o).run P w=.ok (.value (.int .i64 n)) w:=by
  intro n f;simp[execOp,j,resolve,hc,l,k,invoke,builtin,f,goInt]
 split at h;rename_i C y q;have b:=E x;rw[y]at b;generalize B:a.eval x=v at b run;cases b with
 | d b =>
  cases b with
  |str s =>
   refine OpOk.val (run s.size ?_) (Good.same m h (by simpa using .d (.int _ _)));simp[Builtin.len_,run_underlying (oy q)]
 ·refine OpOk.val (run _ ?_) (Good.same m h (.d (.int _ _)));simp[Builtin.len_,run_underlying (gZ ‹bU P t=.arr _ _›)]
 ·have p:=bI ‹bU P t=.slice _›;split at h
  ·rename_i n f;have b:=E x;generalize B:a.eval x=v at b run;generalize ev fr x=u at b f;have tQ:∀A e g,v=.slice A e g→e=n→OpOk P c K hp U N σ w ((execOp a.eval o).run P w):=by
    intro A e g r i;subst i;refine OpOk.val (run e ?_) (Good.same m h (.d (.int _ _)));rw[r];simp[Builtin.len_,run_underlying p]
   cases u<;>simp[AV.slen]at f
   case d dv =>
    cases b with
    |d b=>cases dv<;>simp at f<;>cases b<;>exact tQ _ _ _ rfl f
   case own=>cases b with|own=>exact tQ _ _ _ rfl f
   case nil=>cases b with|nil=>exact tQ _ _ _ rfl f
   case sub=>cases b with|sub=>exact tQ _ _ _ rfl f
  ·exact h.elim
 ·exact h.elim
theorem qP {g : FuncId} {fn : Func} (h1 : P.funcs[g]? = some fn) (h2 : (fn.name == "runtime.NumGoroutine") = false) (h3 : fn.body.isNone = false) (args : Array Value) : (callFunc g args).run P w = .ok (.enter g args) w := by
 unfold callFunc;simp only[Sem.run_bind,run_program,Result.andThen_ok,h1,h2,h3,Bool.false_eq_true,if_false,Sem.run_pure]
theorem Uu(B:Rel c hp U σ w)(E:∀x,AIs w (bD c w σ hp) σ hp U (ev fr x) (a.eval x))(G:Free U N){cl:Call}{f:Operand}(l:o.op=.call cl)(hc:cl.callee=.value f){g:FuncId}{d:List AV}(F:ev fr f=.fn g d)
  (h:fP P g (cl.args.toList.map (ev fr)++d) hp N K∨JZ P g (cl.args.toList.map (ev fr)++d) hp K):OpOk P c K hp U N σ w ((execOp a.eval o).run P w):=by
 have j:=E f;rw[F]at j;generalize C:a.eval f=v at j;cases j with
 | fn _ _ xs hl hx =>
  have e:∀(i:Nat)(u:AV)(x:Value),(cl.args.toList.map (ev fr)++d)[i]?=some u→((cl.args.map a.eval).toList++xs.toList)[i]?=some x→AIs w (bD c w σ hp) σ hp U u x:=?_;rcases h with h|h;obtain⟨⟨fn,t,A,D⟩,h⟩:=h;have m:(execOp a.eval o).run P w=.ok (.enter g ((cl.args.map a.eval).toList++xs.toList).toArray) w:=by
   simp[execOp,l,resolve,hc,C,Deferred.ofValue,invoke,qP t A D]
  rw[m];exact⟨rfl,h c U σ w _ B G (by simp[hl]) e⟩;obtain⟨r,t,A⟩:=h;obtain⟨y,p,q⟩:=t w (bD c w σ hp) σ hp U _ (by simp[hl]) e;refine OpOk.val (x:=y) ?_ (Good.same B A q);simp[execOp,l,resolve,hc,C,Deferred.ofValue,invoke];rw[←p];congr 2;simp;intro i u x k b;rw[List.getElem?_append]at k b;simp only[List.length_map,Array.length_toList,Array.size_map]at k b;split at k;rename_i s;rw[if_pos s]at b;simp only[cU,Option.map_eq_some_iff]at k;obtain⟨y,p,rfl⟩:=k;simp only[Array.getElem?_toList,Array.getElem?_map,Option.map_eq_some_iff]at b p;obtain⟨z,n,rfl⟩:=b;rw[p]at n;injection n with n;subst n;exact E y;rename_i s;rw[if_neg s]at b;exact hx _ u x k (by simpa using b)
theorem O6(B:Rel c hp U σ w)(E:∀x,AIs w (bD c w σ hp) σ hp U (ev fr x) (a.eval x))(G:Free U N){cl:Call}{f:Operand}(l:o.op=.call cl)(hc:cl.callee=.value f){g:FuncId}{d:List AV}(F:ev fr f=.mth g d)
  (h:fP P g (d++cl.args.toList.map (ev fr)) hp N K∨JZ P g (d++cl.args.toList.map (ev fr)) hp K):OpOk P c K hp U N σ w ((execOp a.eval o).run P w):=by
 have j:=E f;rw[F]at j;generalize C:a.eval f=v at j;cases j with
 | mth _ _ xs hl hx =>
  have e:∀(i:Nat)(u:AV)(x:Value),(d++cl.args.toList.map (ev fr))[i]?=some u→(xs.toList++(cl.args.map a.eval).toList)[i]?=some x→AIs w (bD c w σ hp) σ hp U u x:=?_;rcases h with h|h;obtain⟨⟨fn,t,A,D⟩,h⟩:=h;have m:(execOp a.eval o).run P w=.ok (.enter g (xs.toList++(cl.args.map a.eval).toList).toArray) w:=by
   simp[execOp,l,resolve,hc,C,Deferred.ofValue,invoke,qP t A D]
  rw[m];exact⟨rfl,h c U σ w _ B G (by simp[hl]) e⟩;obtain⟨r,t,A⟩:=h;obtain⟨y,p,q⟩:=t w (bD c w σ hp) σ hp U _ (by simp[hl]) e;refine OpOk.val (x:=y) ?_ (Good.same B A q);simp[execOp,l,resolve,hc,C,Deferred.ofValue,invoke];rw[←p];congr 2;simp;intro i u x k b;rw[List.getElem?_append]at k b;simp only[Array.length_toList,hl]at k b;split at k;rename_i s;rw[if_pos s]at b;exact hx _ u x k (by simpa using b);rename_i s;rw[if_neg s]at b;simp only[cU,Option.map_eq_some_iff]at k;obtain⟨y,p,rfl⟩:=k;simp only[Array.getElem?_toList,Array.getElem?_map,Option.map_eq_some_iff]at b p;obtain⟨z,n,rfl⟩:=b;rw[p]at n;injection n with n;subst n;exact E y
end
end Go.Am
namespace Go.Am
section
variable {P:Program} {c:Ctx} {K:AV→Hp→Prop} {fr:Fr} {hp:Hp} {U:Nat→Prop} {N:Nat} {σ:Nat→Option Nat} {w:World} {a:Act} {o:Oper} {S:Nat→Prop}
structure LIs(w:World)(S:Nat→Prop)(σ:Nat→Option Nat)(hp:Hp)(U:Nat→Prop)(cs:List AV)(xs:Array Value):Prop where
 len:cs.length=xs.size
 one:∀(i:Nat)(x:Value),xs[i]?=some x→x.oneCell'=true
 is:∀(i:Nat)(c:AV)(x:Value),cs[i]?=some c→xs[i]?=some x→AIs w S σ hp U c x
theorem BF{v:AV}{x:Value}{vs:List AV}(h:AIs w S σ hp U v x)(b:v.cellsO=some vs):LIs w S σ hp U vs x.cells:=by
 have one:∀(v:AV)(x:Value),AIs w S σ hp U v x→v≠.any→(∀vs,v≠.tup vs)→(∀f,v≠.agg f)→LIs w S σ hp U [v] x.cells:=by
  intro v x h e k j;obtain⟨g,k2⟩:=EG h e k j;rw[k2];refine⟨rfl,fun i y d=>?_,fun i c y hc d=>?_⟩;cases i with
  |zero=>simp at d;subst d;exact g
  |succ i=>simp at d
  ·cases i with
   |zero=>simp at hc d;subst hc;subst d;exact h
   |succ i=>simp at hc
 cases v with
 |agg f =>
  simp only[AV.cellsO]at b;injection b with b;subst b;cases h with
  |agg _ xs hl e h=>exact⟨hl,e,h⟩
 |any=>cases b
 |tup _=>cases b
 |_ =>
  simp only[AV.cellsO]at b;injection b with b;subst b;exact one _ _ h (by intro h;cases h) (by intro vs h;cases h) (by intro f h;cases h)
theorem nH:∀(vs:List Value)(k off:Nat)(b:Array Value)(j:Nat),
  ((vs.zipIdx k).foldl (fun cs(p:Value×Nat)=>cs.setIfInBounds (off+p.2) p.1) b)[j]? =
   if off+k≤j∧j<off+k+vs.length∧j<b.size then vs[j-(off+k)]? else b[j]?
 |[],k,off,b,j=>by
  simp only[List.zipIdx_nil,List.foldl_nil,List.length_nil,Nat.add_zero];rw[if_neg aq]
 | v :: r,k,off,b,j=>by
  simp only[List.zipIdx_cons,List.foldl_cons];rw[nH r (k+1) off (b.setIfInBounds (off+k) v) j];simp only[Array.size_setIfInBounds,List.length_cons];by_cases e:j=off+k;subst e;rw[if_neg aq];by_cases d:off+k<b.size;rw[if_pos aq];simp[d];rw[if_neg aq];simp[Nat.le_of_not_lt d];by_cases d:off+(k+1)≤j∧j<off+(k+1)+r.length∧j<b.size;rw[if_pos d,if_pos aq,show j-(off+k)=(j-(off+(k+1)))+1 by omega,List.getElem?_cons_succ];rw[if_neg d,if_neg aq,Array.getElem?_setIfInBounds,if_neg aq]
theorem sJ:∀(vs:List (Value×Nat))(off:Nat)(b:Array Value),(vs.foldl (fun cs(p:Value×Nat)=>cs.setIfInBounds (off+p.2) p.1) b).size=b.size
 |[],_,_=>rfl
 |p::r,off,b=>by simp only[List.foldl_cons];rw[sJ r off];simp
theorem Iy{cs vs:List AV}{b f:Array Value}{off:Nat}(h:LIs w S σ hp U cs b)(l:LIs w S σ hp U vs f)(q:off+vs.length≤cs.length) :
  LIs w S σ hp U (cs.take off++(vs++cs.drop (off+vs.length))) (f.zipIdx.foldl (fun cs(p:Value×Nat)=>cs.setIfInBounds (off+p.2) p.1) b):=by
 have e:f.zipIdx.foldl (fun cs(p:Value×Nat)=>cs.setIfInBounds (off+p.2) p.1) b=(f.toList.zipIdx 0).foldl (fun cs(p:Value×Nat)=>cs.setIfInBounds (off+p.2) p.1) b:=by
  rw[←Array.foldl_toList,Array.toList_zipIdx]
 rw[e];have n:=nH f.toList 0 off b;have m:=sJ (f.toList.zipIdx 0) off b;have k:f.toList.length=vs.length:=by simp[l.len]
 have s:=h.len;simp only[Nat.add_zero,k]at n;have r:∀j,(cs.take off++(vs++cs.drop (off+vs.length)))[j]?=if off≤j∧j<off+vs.length then vs[j-off]? else cs[j]?:=by
  intro j;rw[List.getElem?_append];have t:(cs.take off).length=off:=by simp;omega
  rw[t];by_cases g:j<off;rw[if_pos g,if_neg aq,List.getElem?_take,if_pos g];rw[if_neg g,List.getElem?_append];by_cases u:j<off+vs.length;rw[if_pos aq,if_pos aq];rw[if_neg aq,if_neg aq,List.getElem?_drop];congr 1;omega
 refine⟨by rw[m];simp;omega,fun i x d=>?_,fun i c x hc d=>?_⟩;rw[n]at d;split at d;exact l.one _ x (by simpa using d);exact h.one i x d;rw[r]at hc;rw[n]at d;by_cases g:off≤i∧i<off+vs.length;rw[if_pos g]at hc;rw[if_pos aq]at d;exact l.is _ c x hc (by simpa using d);rw[if_neg g]at hc;rw[if_neg aq]at d;exact h.is i c x hc d
theorem zK{g placeC:Nat→Option (Nat×Nat)}(m:∀i p,g i=some p→placeC i=some p) :
  ∀(n:List (Nat×AV))(r:List (Nat×Value))(cs:List AV)(d:Array Value)(f:List AV),n.length=r.length →
   (∀(i:Nat)(p:Nat×AV)(q:Nat×Value),n[i]?=some p→r[i]?=some q→p.1=q.1∧AIs w S σ hp U p.2 q.2)→LIs w S σ hp U cs d→lU g cs n=some f →
   ∃b,Instr.fill placeC d r=some b∧LIs w S σ hp U f b
 |[],[],cs,d,f,_,_,hc,h=>by
  simp only[lU]at h;injection h with h;subst h;exact⟨d,rfl,hc⟩
 |[],_::_,_,_,_,hl,_,_,_=>by simp at hl
 |_::_,[],_,_,_,hl,_,_,_=>by simp at hl
 | (i,v) :: n,(k,x) :: r,cs,d,f,hl,hpq,hc,h=>by
  obtain⟨e,C⟩:=hpq 0 (i,v) (k,x) rfl rfl;simp only at e C;subst e;simp only[lU]at h;split at h;rename_i off A F u y;split at h;rename_i l;have z:=BF C y;have B:=Iy (off:=off) hc z aq;rw[l.1]at B;obtain⟨b,s,t⟩:=zK m n r _ _ f (by simpa using hl) (fun j p q s t=>hpq (j+1) p q (by simpa using s) (by simpa using t)) B h;refine⟨b,?_,t⟩;have D:=z.len;have E:=hc.len;simp only[Instr.fill,m _ _ u];rw[if_neg (by simp;omega)];exact s;cases h;cases h
theorem ye{t:TypeId}{z:List AV}(h:fK P t=some z):∃v i,P.info? t=some i∧i.zero=some v∧v.cells.size=P.cellsOf t∧P.cellsOf t≠0∧z.length=P.cellsOf t∧LIs w S σ hp U z v.cells:=by
 unfold fK at h;split at h;rename_i v e;split at h;rename_i hc;injection h with h;subst h;cases f:P.info? t with
 |none=>simp[f]at e
 |some i =>
  refine⟨v,i,rfl,by simpa[f]using e,hc.2.2,aq,by simp[hc.2.2],aw,fun k x d=>?_,fun k c x b d=>?_⟩;obtain⟨g,rfl⟩:=Array.getElem?_eq_some_iff.1 d;exact(Array.all_eq_true.1 hc.1) k g;simp only[cU,Array.getElem?_toList,d,Option.map_some,Option.some.injEq]at b;subst b;exact zE x
 ·cases h
 ·cases h
theorem nI{t:TypeId}{v:Value}{i:TypeInfo}(hi:P.info? t=some i)(hz:i.zero=some v):(zeroValue t).run P w=.ok v w:=by
 simp[zeroValue,typeInfo,hi,hz]
theorem O7(l:Rel c hp U σ w)(g:Free U N){t:TypeId}(d:o.op=.alloc t)(h:bM P fr hp N (.alloc t) K) :
  OpOk P c K hp U N σ w ((execOp a.eval o).run P w):=by
 simp only[bM]at h;split at h;rename_i m e;obtain⟨v,i,j,k,_,_,_,f⟩:=ye (w:=w) (S:=bD c w σ hp) (σ:=σ) (hp:=hp) (U:=U) e;have b:(execOp a.eval o).run P w=.ok (.value (.pointer (some ⟨w.heap.size,0,none⟩))) (w.alloc (.cells v.cells t)):=by
  simp[execOp,d,Instr.alloc,nI j k,newVar,newRow]
 rw[b];exact zJ l g f.len f.one f.is h;exact h.elim
theorem uZ(E:∀x,AIs w S σ hp U (ev fr x) (a.eval x))(b:Array (Nat×Operand)):∀(i:Nat)(p:Nat×AV)(q:Nat×Value),(b.toList.map fun p=>(p.1,ev fr p.2))[i]?=some p→(b.toList.map fun p=>(p.1,a.eval p.2))[i]?=some q→p.1=q.1∧AIs w S σ hp U p.2 q.2:=by
 intro i p q d f;simp only[cU,Option.map_eq_some_iff]at d f;obtain⟨y,g,rfl⟩:=d;obtain⟨z,e,rfl⟩:=f;rw[g]at e;injection e with e;subst e;exact⟨rfl,E y.2⟩
theorem EH(F:Array Field)(h:∀f∈F.toList,P.cellsOf f.type≠0):(F.mapM fun f=>(do pure (f.offset,←sizeOf f.type):Sem (Nat×Nat))).run P w=.ok (F.map fun f=>(f.offset,P.cellsOf f.type)) w:=by
 have d:∀(l:List Field)(b:List (Nat×Nat)),(∀f∈l,P.cellsOf f.type≠0)→((l.mapM fun f=>(do pure (f.offset,←sizeOf f.type):Sem (Nat×Nat)))).run P w=.ok (l.map fun f=>(f.offset,P.cellsOf f.type)) w:=by
  intro l
  induction l with
  |nil=>intro b _;rfl
  |cons f r ih =>
   intro b e;have i:=be (P:=P) (w:=w) (e f (dz ..));have j:=ih [] (fun g k=>e g (cS _ k));simp only[List.mapM_cons,Sem.run_bind,i,Result.andThen_ok,Sem.run_pure,j,List.map_cons]
 have:=d F.toList [] h;rw[Array.mapM_eq_mapM_toList];simp only[Sem.run_map,this,Result.andThen_ok];congr 1;apply Array.ext';simp
theorem O8(J:Rel c hp U σ w)(E:∀x,AIs w (bD c w σ hp) σ hp U (ev fr x) (a.eval x)){t:TypeId}{b:Array (Nat×Operand)}(q:o.op=.build t b)(h:bM P fr hp N (.build t b) K) :
  OpOk P c K hp U N σ w ((execOp a.eval o).run P w):=by
 simp only[bM]at h;split at h;rename_i z O;obtain⟨v,i,I,r,_,_,_,L⟩:=ye (w:=w) (S:=bD c w σ hp) (σ:=σ) (hp:=hp) (U:=U) O;have g:(b.toList.map fun p=>(p.1,ev fr p.2)).length=(b.toList.map fun p=>(p.1,a.eval p.2)).length:=by simp
 have u:∀x:Array (Nat×Operand),(x.map fun p=>(p.1,a.eval p.2)).toList=x.toList.map fun p=>(p.1,a.eval p.2):=by intro x;simp
 unfold sH at h;split at h;rename_i Q y;obtain⟨m,h⟩:=h;obtain⟨F,A,s⟩:=pU y;split at h;rename_i G j;obtain⟨d,B,l⟩:=zK (placeC:=fun k=>(F.map fun f=>(f.offset,P.cellsOf f.type))[k]?) (fun k p hp=>by
  unfold jJ at hp;rw[s]at hp;simp only[cU,Array.getElem?_toList,Option.map_map,Option.map_eq_some_iff]at hp;obtain⟨f,C,rfl⟩:=hp
  simp[C]) _ _ _ _ G g (uZ E b) L j
 refine OpOk.val (x:=.agg d) ?_ (Good.same J h (.agg _ _ l.len l.one l.is));have M:=EH (P:=P) (w:=w) F (fun f C=>m (f.offset,f.type) (by rw[s];simp only[List.mem_map];exact⟨f,C,rfl⟩));have D:(Instr.build t (b.map fun p=>(p.1,a.eval p.2))).run P w=.ok (.agg d) w:=by
  unfold Instr.build;simp only[Sem.run_bind,nI I r,Result.andThen_ok,run_underlying A,M,u,B];rfl
 have e:(execOp a.eval o)=(do pure (.value (←Instr.build t (b.map fun p=>(p.1,a.eval p.2)))):Sem Next):=by
  unfold execOp;rw[q]
 rw[e];simp only[Sem.run_bind,D,Result.andThen_ok,Sem.run_pure];exact h.elim;rename_i n H y;obtain⟨m,h⟩:=h;have A:=gZ y;split at h;rename_i G j;obtain⟨d,B,l⟩:=zK (placeC:=fun k=>some (k*P.cellsOf H,P.cellsOf H)) (fun k p hp=>hp) _ _ _ _ G g (uZ E b) L j;refine OpOk.val (x:=.agg d) ?_ (Good.same J h (.agg _ _ l.len l.one l.is));have D:(Instr.build t (b.map fun p=>(p.1,a.eval p.2))).run P w=.ok (.agg d) w:=by
  unfold Instr.build;simp only[Sem.run_bind,nI I r,Result.andThen_ok,run_underlying A,be m,u,B];rfl
 have e:(execOp a.eval o)=(do pure (.value (←Instr.build t (b.map fun p=>(p.1,a.eval p.2)))):Sem Next):=by
  unfold execOp;rw[q]
 rw[e];simp only[Sem.run_bind,D,Result.andThen_ok,Sem.run_pure];exact h.elim;exact h.elim;exact h.elim
end
end Go.Am
namespace Go.Am
section
variable {P:Program} {c:Ctx} {K:AV→Hp→Prop} {fr:Fr} {hp:Hp} {U:Nat→Prop} {N:Nat} {σ:Nat→Option Nat} {w:World} {a:Act} {o:Oper} {S:Nat→Prop}
structure RIs(w:World)(S:Nat→Prop)(σ:Nat→Option Nat)(hp:Hp)(U:Nat→Prop)(sz:Nat)(rows:List (List AV))(xs:Array Value):Prop where
 len:rows.length*sz≤xs.size
 row:∀r,r∈rows→r.length=sz
 one:∀(i:Nat)(x:Value),xs[i]?=some x→x.oneCell'=true
 is:∀(i j:Nat)(r:List AV)(c:AV)(x:Value),rows[i]?=some r→r[j]?=some c→xs[i*sz+j]?=some x→AIs w S σ hp U c x
theorem Uw{sz i k j:Nat}(hj:j<sz)(h:i*sz≤k*sz+j∧k*sz+j<i*sz+sz):i=k:=by
 rcases Nat.lt_trichotomy i k with b|b|b;have:(i+1)*sz≤k*sz:=d9 _ aq;rw[Nat.add_mul,Nat.one_mul]at this;omega;exact b;have:(k+1)*sz≤i*sz:=d9 _ aq;rw[Nat.add_mul,Nat.one_mul]at this;omega
theorem BG {sz:Nat} (hz:sz ≠ 0):∀ (s:List (Nat × AV)) (z:List (Nat × Value)) (rows:List (List AV)) (b:Array Value) (f:List (List AV)),s.length=z.length →
   (∀(i:Nat)(p:Nat×AV)(q:Nat×Value),s[i]?=some p→z[i]?=some q→p.1=q.1∧AIs w S σ hp U p.2 q.2)→RIs w S σ hp U sz rows b→uW sz rows s=some f →
   ∃d,Instr.fill (fun i=>some (i*sz,sz)) b z=some d∧RIs w S σ hp U sz f d∧d.size=b.size∧f.length=rows.length
 |[],[],rows,b,f,_,_,hc,h=>by
  simp only[uW]at h;injection h with h;subst h;exact⟨b,rfl,hc,rfl,rfl⟩
 |[],_::_,_,_,_,hl,_,_,_=>by simp at hl
 |_::_,[],_,_,_,hl,_,_,_=>by simp at hl
 | (i,v) :: s,(k,x) :: z,rows,b,f,hl,hpq,hc,h=>by
  obtain⟨e,Q⟩:=hpq 0 (i,v) (k,x) rfl rfl;simp only at e Q;subst e;simp only[uW]at h;split at h;rename_i O J;split at h;rename_i n;obtain⟨C,V⟩:=n;have D:=BF Q J;have R:=D.len;have H:i*sz+sz≤b.size:=by
   have:(i+1)*sz≤rows.length*sz:=d9 _ aq;rw[Nat.add_mul,Nat.one_mul]at this;have:=hc.len;omega
  have M:x.cells.zipIdx.foldl (fun A(p:Value×Nat)=>A.setIfInBounds (i*sz+p.2) p.1) b=(x.cells.toList.zipIdx 0).foldl (fun A(p:Value×Nat)=>A.setIfInBounds (i*sz+p.2) p.1) b:=by
   rw[←Array.foldl_toList,Array.toList_zipIdx]
  have E:=nH x.cells.toList 0 (i*sz) b;have t:=sJ (x.cells.toList.zipIdx 0) (i*sz) b;simp only[Nat.add_zero,Array.length_toList]at E;have X:RIs w S σ hp U sz (rows.set i O) (x.cells.zipIdx.foldl (fun A(p:Value×Nat)=>A.setIfInBounds (i*sz+p.2) p.1) b):=by
   rw[M];refine⟨by rw[t];simpa using hc.len,fun r g=>?_,fun m y l=>?_,fun m j r c y g B l=>?_⟩;rcases List.mem_or_eq_of_mem_set g with L|rfl;exact hc.row r L;exact C;rw[E]at l;split at l;exact D.one _ y (by simpa using l);exact hc.one m y l;rw[E]at l;rw[List.getElem?_set]at g;by_cases G:i=m;subst G;simp only[if_true,V]at g;injection g with g;subst g;have u:j<O.length:=(ci.1 B).1;rw[if_pos aq,show i*sz+j-i*sz=j by omega]at l;exact D.is j c y B (by simpa using l);rw[if_neg G]at g;have u:j<sz:=by
    have:=(ci.1 B).1;rw[hc.row r (cr g)]at this;exact this
   rw[if_neg (fun L=>G (Uw u ⟨L.1,aq⟩))]at l;exact hc.is m j r c y g B l
  obtain⟨d,F,I,T,W⟩:=BG hz s z _ _ f (by simpa using hl) (fun j p q F I=>hpq (j+1) p q (by simpa using F) (by simpa using I)) X h;refine⟨d,?_,I,by rw[T,M,t],by simpa using W⟩;simp only[Instr.fill];rw[if_neg (by simp;omega)];exact F;cases h;cases h
theorem oH{el:TypeId}{z:List AV}{v:Value}(k:LIs w S σ hp U z v.cells)(q:v.cells.size=P.cellsOf el)(hz:P.cellsOf el≠0)(n:Nat) :
  RIs w S σ hp U (P.cellsOf el) (List.replicate n z) ((Array.range (n*P.cellsOf el)).map (v.cells[·%v.cells.size]!)):=by
 have t:=k.len;have d:∀m,m<n*P.cellsOf el→((Array.range (n*P.cellsOf el)).map (v.cells[·%v.cells.size]!))[m]?=some (v.cells[m%P.cellsOf el]!):=by
  intro m y;simp[y,q]
 have h:∀m,m%P.cellsOf el<v.cells.size:=fun m=>by rw[q];exact Nat.mod_lt _ aq
 refine⟨aw,fun r f=>?_,fun i x b=>?_,fun i j r c x f s b=>?_⟩;have:=List.eq_of_mem_replicate f;subst this;omega;have g:i<n*P.cellsOf el:=by
  have:=(Array.getElem?_eq_some_iff.1 b).1;simpa using this
 rw[d i g]at b;injection b with b;subst b;exact k.one (i%P.cellsOf el) _ (by simp[h i]);have u:i<n:=by
  have:=(ci.1 f).1;simpa using this
 have p:r=z:=List.eq_of_mem_replicate (cr f);subst p;have l:j<P.cellsOf el:=by
  have:=(ci.1 s).1;omega
 have g:i*P.cellsOf el+j<n*P.cellsOf el:=by
  have:(i+1)*P.cellsOf el≤n*P.cellsOf el:=d9 _ aq;rw[Nat.add_mul,Nat.one_mul]at this;omega
 rw[d _ g]at b;have e:(i*P.cellsOf el+j)%P.cellsOf el=j:=by
  rw[Nat.add_comm,Nat.add_mul_mod_self_right];exact Nat.mod_eq_of_lt l
 rw[e]at b;injection b with b;subst b;exact k.is j c _ s (by simp[show j<v.cells.size by omega])
theorem qQ(l:Rel c hp U σ w)(i:Free U N){el:TypeId}{sz:Nat}{d:Array Value}{rows:List (List AV)}{cap:Nat}(h:RIs w (bD c w σ hp) σ hp U sz rows d)(f:rows.length≤cap)(e:cap*sz≤d.size)
  (k:K (.own N 0 rows.length rows.length) ((N,⟨el,sz,rows⟩)::hp)) :
  Good c K hp U N σ w (.slice (some ⟨w.heap.size,0,none⟩) rows.length cap) (w.alloc (.cells d el)):=by
 obtain⟨j,m⟩:=GK l i d ⟨el,sz,rows⟩ h.one h.row h.len h.is;refine⟨_,_,_,k,j,m,.own _ _ _ _ _ _ mE f (fun h=>by cases h) fun b g=>?_⟩;rw[qN,if_pos rfl]at g;injection g with g;subst g;exact⟨cL _,fun _=>⟨aq,aq,fun _=>⟨w.heap.size,aw,aw,_,⟨d,heap_alloc_new w _,rfl⟩,by simpa using e⟩⟩⟩
theorem zL(O:Rel c hp U σ w)(E:∀x,AIs w (bD c w σ hp) σ hp U (ev fr x) (a.eval x))(X:Free U N){t:TypeId}{len:Nat}{b:Array (Nat×Operand)}(A:o.op=.buildSlice t len b)(h:bM P fr hp N (.buildSlice t len b) K) :
  OpOk P c K hp U N σ w ((execOp a.eval o).run P w):=by
 simp only[bM]at h;unfold nF at h;split at h
 ·rename_i d L;split at h
  ·rename_i z Y;obtain⟨I,h⟩:=h;obtain⟨v,i,G,r,T,m,J,Q⟩:=ye (w:=w) (S:=bD c w σ hp) (σ:=σ) (hp:=hp) (U:=U) Y;split at h
   ·rename_i k l;have n:(b.toList.map fun p=>(p.1,ev fr p.2)).length=(b.toList.map fun p=>(p.1,a.eval p.2)).length:=(by simp);obtain⟨j,B,V,M,R⟩:=BG m _ _ _ _ k n (uZ E b) (oH Q T m len) l;have s:k.length=len:=(by simpa using R);have C:j.size=len*P.cellsOf d:=by rw[M];simp
    have y:∀x:Array (Nat×Operand),(x.map fun p=>(p.1,a.eval p.2)).toList=x.toList.map fun p=>(p.1,a.eval p.2):=by intro x;simp
    have D:(if len*P.cellsOf d=0 then pure #[]else(do pure (←zeroValue d).cells):Sem (Array Value)).run P w=.ok (if len*P.cellsOf d=0 then #[]else v.cells) w:=by
     split;rfl;simp[nI G r]
    have F:((Array.range (len*P.cellsOf d)).map ((if len*P.cellsOf d=0 then #[]else v.cells)[·%(if len*P.cellsOf d=0 then #[]else v.cells).size]!))=(Array.range (len*P.cellsOf d)).map (v.cells[·%v.cells.size]!):=by
     split;rename_i u;simp[u];rfl
    have W:(Instr.buildSlice t len (b.map fun p=>(p.1,a.eval p.2))).run P w=.ok (.slice (some ⟨w.heap.size,0,none⟩) len len) (w.alloc (.cells j d)):=by
     unfold Instr.buildSlice;have e:¬(len*P.cellsOf d>2 ^ 24):=aq;simp only[Sem.run_bind,run_underlying (bI L),Result.andThen_ok,be m];by_cases u:len*P.cellsOf d=0;have H:∀f g:Nat→Value,(Array.range (len*P.cellsOf d)).map f=(Array.range (len*P.cellsOf d)).map g:=by intro f g;rw[u];simp
     rw[H _ (fun _=>default)]at B;rw[if_neg e];simp only[Sem.run_bind,if_pos u,Sem.run_pure,Result.andThen_ok,y];rw[H _ (fun _=>default),B];simp[newRow];simp only[if_neg e,Sem.run_bind,Sem.run_pure,Result.andThen_ok,if_neg u,nI G r,y,B];simp[newRow]
    have q:(execOp a.eval o)=(do pure (.value (←Instr.buildSlice t len (b.map fun p=>(p.1,a.eval p.2)))):Sem Next):=by
     unfold execOp;rw[A]
    rw[q];simp only[Sem.run_bind,W,Result.andThen_ok,Sem.run_pure];rw[←s]at h⊢;exact qQ O X V (cL _) (by rw[C,s];exact cL _) h
   ·exact h.elim
  ·exact h.elim
 ·exact h.elim
theorem fe (hr:Rel c hp U σ w) {sz:Nat} {v:AV} {x:Value} {xs:List (List AV)} (h:AIs w (bD c w σ hp) σ hp U v x) (hx:dh hp sz v=some xs) :
  ∃A k,x=.slice A xs.length k∧∃us:Array Value,(Builtin.firstCells sz xs.length x).run P w=.ok us w∧us.size=xs.length*sz∧RIs w (bD c w σ hp) σ hp U sz xs us∧(0<xs.length→∃ad,A=some ad∧∀(m:Nat)(v:Value),us[m]?=some v→w.cell? (ad.add m)=some v):=by
 -- from cells one by one
 have go:∀A k(hpos:0<xs.length→∃ad,A=some ad∧∀(i j:Nat)(r:List AV)(y:AV),xs[i]?=some r→r[j]?=some y→∃u,w.cell? (ad.add (i*sz+j))=some u∧u.oneCell'=true∧AIs w (bD c w σ hp) σ hp U y u),
   (∀r,r∈xs→r.length=sz)→∃us:Array Value,(Builtin.firstCells sz xs.length (.slice A xs.length k)).run P w=.ok us w∧us.size=xs.length*sz∧RIs w (bD c w σ hp) σ hp U sz xs us∧(0<xs.length→∃ad,A=some ad∧∀(m:Nat)(v:Value),us[m]?=some v→w.cell? (ad.add m)=some v):=by
  intro A k hpos hrow;rcases Nat.eq_zero_or_pos xs.length with h0|h0;have hx0:xs=[]:=List.eq_nil_of_length_eq_zero h0;subst hx0;refine⟨#[],?_,aw,⟨aw,aw,aw,aw⟩,aw⟩;cases A<;>simp[Builtin.firstCells,loadCells,loadCellsFrom];obtain⟨ad,rfl,hc⟩:=hpos h0;have hall:∀m,m<xs.length*sz→∃u,w.cell? (ad.add m)=some u∧u.oneCell'=true:=by
   intro m hm;have hsz:0<sz:=by
    rcases Nat.eq_zero_or_pos sz with h|h;rw[h]at hm;omega;exact h
   have hi:m/sz<xs.length:=Nat.div_lt_of_lt_mul (by rw[Nat.mul_comm];exact hm);have hj:m%sz<sz:=Nat.mod_lt _ hsz;have h1:xs[m/sz]?=some xs[m/sz]:=cm hi;have h2:m%sz<(xs[m/sz]).length:=by rw[hrow _ (List.getElem_mem hi)];exact hj
   obtain⟨u,h3,h4,_⟩:=hc (m/sz) (m%sz) _ _ h1 (cm h2);refine⟨u,?_,h4⟩;rw[show m/sz*sz+m%sz=m by rw[Nat.mul_comm];exact Nat.div_add_mod m sz]at h3;exact h3
  let f:Nat→Value:=fun m=>(w.cell? (ad.add m)).getD undef
  have hrun:=run_loadCells (P:=P) w ad (xs.length*sz) f (fun m hm=>by
   obtain⟨u,hu,_⟩:=hall m hm
   simp[f,hu])
  have hget:∀m,m<xs.length*sz→(((List.range (xs.length*sz)).map f).toArray)[m]?=some (f m):=by
   intro m hm;simp[hm]
  refine⟨_,hrun,aw,⟨aw,hrow,fun m y hy=>?_,fun i j r y u hi hj hu=>?_⟩,fun _=>⟨ad,rfl,fun m v hv=>?_⟩⟩;have hm:m<xs.length*sz:=by
   have:=(Array.getElem?_eq_some_iff.1 hy).1;simpa using this
  rw[hget m hm]at hy;injection hy with hy;subst hy;obtain⟨u,h1,h2⟩:=hall m hm;simp[f,h1,h2];obtain⟨u',h1,_,h3⟩:=hc i j r y hi hj;have hm:i*sz+j<xs.length*sz:=by
   have:=(Array.getElem?_eq_some_iff.1 hu).1;simpa using this
  rw[hget _ hm]at hu;injection hu with hu;subst hu;simp only[f,h1,Option.getD_some];exact h3;have hm:m<xs.length*sz:=by
   have:=(Array.getElem?_eq_some_iff.1 hv).1;simpa using this
  rw[hget m hm]at hv;injection hv with hv;subst hv;obtain⟨u,h1,h2⟩:=hall m hm;simp[f,h1]
 cases v with
 | nil =>
  simp only[dh]at hx;injection hx with hx;subst hx;cases h with
  |nil =>
   refine⟨none,0,rfl,?_⟩;exact go none 0 (fun h=>by simp at h) aw
 | d dv =>
  cases dv with
  | ro e es =>
   simp only[dh]at hx;split at hx;rename_i he;injection hx with hx;subst hx;subst he;cases h with
   | d h =>
    cases h with
    | ro _ _ A cap vs hc hel hA hv1 hd =>
     have hl:(es.map fun r=>r.map AV.d).length=es.length:=(by simp);refine⟨A,cap,by rw[hl],?_⟩;have:=go A cap (fun hpos=>by
      rw[hl]at hpos;obtain⟨ad,hA',_⟩:=hA (es[0]'hpos) (List.getElem_mem hpos);refine⟨ad,hA',fun i j r y hi hj=>?_⟩;simp only[cU,Option.map_eq_some_iff]at hi;obtain⟨r',hr',rfl⟩:=hi;simp only[cU,Option.map_eq_some_iff]at hj;obtain⟨y',hy',rfl⟩:=hj
      exact⟨vs i j,hv1 ad hA' i j r' y' hr' hy',zD (hd i j r' y' hr' hy'),.d (hd i j r' y' hr' hy')⟩) (fun r hr'=>by
      simp only[List.mem_map]at hr';obtain⟨r',h1,rfl⟩:=hr'
      simpa using hel r' h1)
     rw[hl]at this⊢;exact this
   ·cases hx
  |_=>cases hx
 | own id i0 len tot =>
  simp only[dh]at hx;split at hx;rename_i b hb;split at hx;rename_i hc0;obtain⟨ht,he⟩:=hc0;injection hx with hx;subst hx;cases h with
  | own _ _ _ _ A cap hU hl hA0 h' =>
   obtain⟨h1,h2⟩:=h' b hb;obtain⟨h3,h4,h5⟩:=h2 ht;have hlen:((b.es.drop i0).take len).length=len:=by simp;omega
   have hel:∀i r,((b.es.drop i0).take len)[i]?=some r→b.es[i0+i]?=some r:=by
    intro i r h;rw[List.getElem?_take]at h;split at h
    ·rwa [List.getElem?_drop]at h
    ·cases h
   refine⟨A,cap,by rw[hlen],?_⟩;have:=go A cap (fun hpos=>by
    rw[hlen]at hpos;obtain⟨g,hg,hA',_⟩:=h5 aq;obtain⟨ccs,k1,k2,k3,k4,k5⟩:=hr.at hb hg;refine⟨_,hA',fun i j r y hi hj=>?_⟩;have hi':=hel i r hi;have hrl:=k3 r (cr hi');have hjl:=(ci.1 hj).1;have hil:=(ci.1 hi').1;have hlt:(i0+i)*b.e+j<ccs.size:=by
     have:(i0+i+1)*b.e≤b.es.length*b.e:=d9 _ aq;rw[Nat.add_mul,Nat.one_mul]at this;omega
    refine⟨ccs[(i0+i)*b.e+j],?_,k2 _ _ (dg hlt),k5 (i0+i) j r y _ hi' hj (dg hlt)⟩;rw[gu,cell_of_row w _ _ ccs _ _ k1,←he,show i0*b.e+(i*b.e+j)=(i0+i)*b.e+j by rw[Nat.add_mul];omega]
    exact dg hlt) (fun r hr'=>by
    obtain⟨i,hi⟩:=List.getElem?_of_mem hr';rw[←he];have hpos:0<len:=by
     have:=(ci.1 hi).1;omega
    obtain⟨g,hg,hA',_⟩:=h5 aq;obtain⟨ccs,k1,k2,k3,k4,k5⟩:=hr.at hb hg
    exact k3 r (cr (hel i r hi)))
   rw[hlen]at this⊢;exact this
  ·cases hx
  ·cases hx
 | sub id i off e len cap tot =>
  simp only[dh]at hx;split at hx;rename_i b hb;split at hx;rename_i row hrow;split at hx;rename_i hc0;obtain⟨ht,he⟩:=hc0;injection hx with hx;subst hx;subst he;cases h with
  | sub _ _ _ _ _ _ _ A hU hl hA0 h' =>
   obtain⟨h1,h2⟩:=h' b hb;obtain⟨h3,h4,h5⟩:=h2 ht;have hrl:0<len→row.length=b.e:=fun hp=>by
    obtain⟨g,hg,_⟩:=h5 aq;obtain⟨ccs,k1,k2,k3,k4,k5⟩:=hr.at hb hg;exact k3 _ (cr hrow)
   have hke:∀k,k<len→off+k*e+e≤b.e:=by
    intro k hk;have h6:(k+1)*e≤len*e:=d9 _ aq;have h7:len*e≤cap*e:=d9 _ hl;rw[Nat.add_mul,Nat.one_mul]at h6;omega
   have hlen:((List.range len).map fun k=>(row.drop (off+k*e)).take e).length=len:=(by simp);have hel:∀k r,((List.range len).map fun k=>(row.drop (off+k*e)).take e)[k]?=some r→k<len∧r=(row.drop (off+k*e)).take e:=by
    intro k r h;have hk:=(ci.1 h).1;rw[hlen]at hk;simp[hk]at h;exact⟨hk,h.symm⟩
   refine⟨A,cap,by rw[hlen],?_⟩;have:=go A cap (fun hpos=>by
    rw[hlen]at hpos;obtain⟨g,hg,hA'⟩:=h5 aq;obtain⟨ccs,k1,k2,k3,k4,k5⟩:=hr.at hb hg;have hrl:=hrl hpos;refine⟨_,hA',fun k j r y hk hj=>?_⟩;obtain⟨hk1,rfl⟩:=hel k r hk;have hke':=hke k hk1;have hje:j<e:=by
     have:=(ci.1 hj).1;simp at this;omega
    rw[List.getElem?_take,if_pos hje,List.getElem?_drop]at hj;have hlt:i*b.e+(off+k*e+j)<ccs.size:=by
     have:(i+1)*b.e≤b.es.length*b.e:=d9 _ aq;rw[Nat.add_mul,Nat.one_mul]at this;omega
    refine⟨ccs[i*b.e+(off+k*e+j)],?_,k2 _ _ (dg hlt),k5 i (off+k*e+j) row y _ hrow hj (dg hlt)⟩;rw[gu,cell_of_row w _ _ ccs _ _ k1,show i*b.e+off+(k*e+j)=i*b.e+(off+k*e+j)by omega]
    exact dg hlt) (fun r hr'=>by
    obtain⟨k,hk⟩:=List.getElem?_of_mem hr';obtain⟨hk1,rfl⟩:=hel k r hk;have:=hke k hk1;have hrl:=hrl aq;simp
    omega)
   rw[hlen]at this⊢;exact this
  ·cases hx
  ·cases hx
  ·cases hx
 |_=>cases hx
theorem dj{isS:Bool}{len cap:Nat}{b hi:Option Value}{l h:Int}(d:b=none∧l=0∨∃k,b=some (.int k l))(e:hi=none∧h=len∨∃k,hi=some (.int k h))(f:0≤l)(g:l≤h)(i:h≤cap) :
  (Instr.sliceBounds isS len cap b hi none).run P w=.ok (l.toNat,h.toNat,cap) w:=by
 unfold Instr.sliceBounds;rcases d with ⟨rfl,rfl⟩|⟨k,rfl⟩<;>rcases e with ⟨rfl,rfl⟩|⟨j,rfl⟩;simp;simp[Instr.sliceBound,asIntOf,show 0≤h∧h≤cap by omega];simp[Instr.sliceBound,asIntOf,show 0≤l∧l≤(len:Int)by omega];have:l≤max h 0:=aq;simp[Instr.sliceBound,asIntOf,show 0≤h∧h≤cap by omega,f,this]
theorem fQ{U:Nat→Prop}(E:∀x,AIs w S σ hp U (ev fr x) (a.eval x)){d l:Int}{x:Option Operand}(h:zF fr d x=some l):x.map a.eval=none∧l=d∨∃k,x.map a.eval=some (.int k l):=by
 cases x with
 |none=>simp only[zF,Option.some.injEq]at h;exact .inl ⟨rfl,h.symm⟩
 |some x =>
  simp only[zF]at h;have b:=E x;unfold AV.num at h;split at h;rename_i k n e;injection h with h;subst h;rw[e]at b;exact .inr ⟨k,by simp[eD b]⟩;cases h
theorem O9(hr:Rel c hp U σ w)(E:∀x,AIs w (bD c w σ hp) σ hp U (ev fr x) (a.eval x)){t:TypeId}{x:Operand}{lo hi:Option Operand}(hop:o.op=.slice t x lo hi none)(h:bM P fr hp N (.slice t x lo hi none) K) :
  OpOk P c K hp U N σ w ((execOp a.eval o).run P w):=by
 simp only[bM]at h;have run:∀v,(Instr.sliceAt t (a.eval x) (lo.map a.eval) (hi.map a.eval) none).run P w=.ok v w→(execOp a.eval o).run P w=.ok (.value v) w:=by
  intro v hv;simp[execOp,hop,hv]
 have hx:=E x;generalize hxv:a.eval x=xv at hx run;generalize hxa:ev fr x=xa at hx h;generalize hlo:zF fr 0 lo=blo at h;generalize hhi:zF fr (xa.topLen (bU P t)) hi=bhi at h;generalize hk:bU P t=k at h hhi;unfold ig at h;split at h
 ·
  rename_i el l hh;obtain⟨hz,rfl,rfl,h⟩:=h;have hb:=dj (P:=P) (w:=w) (isS:=true) (len:=0) (cap:=0) (fQ E hlo) (fQ E hhi) aq aq aq;cases hx with
  |nil =>
   refine OpOk.val (run (.slice none 0 0) ?_) (Good.same hr h .nil);simp[Instr.sliceAt,Instr.slice,run_underlying (bI hk),hb,be hz]
 ·
  rename_i e es el l hh;obtain⟨hz,he,h0,h1,h2,h⟩:=h;cases hx with
  | d hx =>
   cases hx with
   | ro _ _ A cap vs hc hel hA hv1 hd =>
    have hb:=dj (P:=P) (w:=w) (isS:=true) (len:=es.length) (cap:=cap) (fQ E hlo) (fQ E hhi) h0 h1 aq;refine OpOk.val (run (.slice (if cap=l.toNat then A else A.map (·.add (l.toNat*P.cellsOf el))) (hh.toNat-l.toNat) (cap-l.toNat)) ?_) (Good.same hr h (.d ?_))
    simp[Instr.sliceAt,Instr.slice,run_underlying (bI hk),hb,be hz];have hlen:((es.take hh.toNat).drop l.toNat).length=hh.toNat-l.toNat:=by simp;omega
    have hel':∀(i:Nat)(r:List DV),((es.take hh.toNat).drop l.toNat)[i]?=some r→es[l.toNat+i]?=some r:=by
     intro i r hi;rw[List.getElem?_drop,List.getElem?_take]at hi;split at hi;exact hi;cases hi
    have hne:∀(i:Nat)(r:List DV),((es.take hh.toNat).drop l.toNat)[i]?=some r→cap≠l.toNat:=by
     intro i r hi;have:=(ci.1 hi).1;omega
    rw[←hlen];refine .ro e _ _ _ (fun i j=>vs (l.toNat+i) j) aq (fun r hr'=>?_) (fun r hr'=>?_) (fun ad hAd i j r y hi hj=>?_) (fun i j r y(hi:((es.take hh.toNat).drop l.toNat)[i]?=some r)hj=>hd _ j r y (hel' i r hi) hj);obtain⟨i,hi⟩:=List.getElem?_of_mem hr';exact hel r (cr (hel' i r hi));obtain⟨i,hi⟩:=List.getElem?_of_mem hr';obtain⟨ad,k1,k2⟩:=hA r (cr (hel' i r hi));rw[if_neg (hne i r hi),k1];exact⟨_,rfl,by rw[eK];exact k2⟩;rw[if_neg (hne i r hi)]at hAd;obtain⟨ad',k1,rfl⟩:=Option.map_eq_some_iff.1 hAd;rw[ll,←he,show l.toNat*e+(i*e+j)=(l.toNat+i)*e+j by rw[Nat.add_mul];omega];exact hv1 ad' k1 _ j r y (hel' i r hi) hj
 ·
  rename_i id i0 len tot el l hh;split at h
  ·rename_i b hb';obtain⟨hz,he,h0,h1,h2,h⟩:=h;cases hx with
   | own _ _ _ _ A cap hU hl hA0 h' =>
    have hb:=dj (P:=P) (w:=w) (isS:=true) (len:=len) (cap:=cap) (fQ E hlo) (fQ E hhi) h0 h1 aq;refine OpOk.val (run (.slice (if cap=l.toNat then A else A.map (·.add (l.toNat*P.cellsOf el))) (hh.toNat-l.toNat) (cap-l.toNat)) ?_) (Good.same hr h ?_)
    simp[Instr.sliceAt,Instr.slice,run_underlying (bI hk),hb,be hz];refine .own _ _ _ _ _ _ hU aq (fun hA=>?_) fun b1 hb1=>?_;split at hA;have:=hA0 hA;omega;rw[Option.map_eq_none_iff]at hA;have:=hA0 hA;omega;rw[hb']at hb1;injection hb1 with hb1;subst hb1;obtain⟨k1,k2⟩:=h' b hb';refine⟨k1,fun ht=>?_⟩;obtain⟨k3,k4,k5⟩:=k2 ht;refine⟨aq,aq,fun hc=>?_⟩;obtain⟨g,hg,hA',n,k6,k7⟩:=k5 aq;refine⟨g,hg,?_,n,k6,by rw[show i0+l.toNat+(cap-l.toNat)=i0+cap by omega];exact k7⟩;rw[if_neg aq,hA',Option.map_some,gu,←he,Nat.add_mul]
  ·exact h.elim
 ·
  rename_i id i off e len cap tot el l hh;obtain⟨hz,he,h0,h1,h2,h⟩:=h;cases hx with
  | sub _ _ _ _ _ _ _ A hU hl hA0 h' =>
   have hb:=dj (P:=P) (w:=w) (isS:=true) (len:=len) (cap:=cap) (fQ E hlo) (fQ E hhi) h0 h1 aq;refine OpOk.val (run (.slice (if cap=l.toNat then A else A.map (·.add (l.toNat*P.cellsOf el))) (hh.toNat-l.toNat) (cap-l.toNat)) ?_) (Good.same hr h ?_)
   simp[Instr.sliceAt,Instr.slice,run_underlying (bI hk),hb,be hz];refine .sub _ _ _ _ _ _ _ _ hU aq (fun hA=>?_) fun b1 hb1=>?_;split at hA;have:=hA0 hA;omega;rw[Option.map_eq_none_iff]at hA;have:=hA0 hA;omega;obtain⟨k1,k2⟩:=h' b1 hb1;refine⟨k1,fun ht=>?_⟩;obtain⟨k3,k4,k5⟩:=k2 ht;have hle:off+l.toNat*e+(cap-l.toNat)*e=off+cap*e:=by
    rw[Nat.add_assoc,←Nat.add_mul,show l.toNat+(cap-l.toNat)=cap by omega]
   refine⟨k3,aq,fun hc=>?_⟩;obtain⟨g,hg,hA'⟩:=k5 aq;refine⟨g,hg,?_⟩;rw[if_neg aq,hA',Option.map_some,gu,←he,Nat.add_assoc]
 ·
  rename_i id i off tot n el l hh;split at h
  ·rename_i b hb';obtain⟨hz,hfit,hi',h0,h1,h2,h⟩:=h;cases hx with
   | ptr _ _ _ _ ad hU h' =>
    have hb:=dj (P:=P) (w:=w) (isS:=false) (len:=n) (cap:=n) (fQ E hlo) (fQ E hhi) h0 h1 aq;refine OpOk.val (run (.slice (some (if n=l.toNat then ad else ad.add (l.toNat*P.cellsOf el))) (hh.toNat-l.toNat) (n-l.toNat)) ?_) (Good.same hr h ?_)
    simp[Instr.sliceAt,Instr.sureAddr,run_underlying (gZ hk),hb,be hz];refine .sub _ _ _ _ _ _ _ _ hU aq (fun hA=>by cases hA) fun b1 hb1=>?_;rw[hb']at hb1;injection hb1 with hb1;subst hb1;obtain⟨k1,k2⟩:=h' b hb';refine⟨k1,fun ht=>?_⟩;obtain⟨g,hg,hA'⟩:=k2 ht
    have hle:off+l.toNat*P.cellsOf el+(n-l.toNat)*P.cellsOf el=off+n*P.cellsOf el:=by
     rw[Nat.add_assoc,←Nat.add_mul,show l.toNat+(n-l.toNat)=n by omega]
    refine⟨aq,aq,fun hc=>⟨g,hg,?_⟩⟩;rw[if_neg aq,hA',gu,Nat.add_assoc]
  ·exact h.elim
 ·
  rename_i cs n el l hh;obtain⟨hz,hfit,h0,h1,h2,h⟩:=h;cases hx with
  | rop _ ad vs hS hv hd =>
   have hb:=dj (P:=P) (w:=w) (isS:=false) (len:=n) (cap:=n) (fQ E hlo) (fQ E hhi) h0 h1 aq;refine OpOk.val (run (.slice (some (if n=l.toNat then ad else ad.add (l.toNat*P.cellsOf el))) (hh.toNat-l.toNat) (n-l.toNat)) ?_) (Good.same hr h (.d ?_))
   simp[Instr.sliceAt,Instr.sureAddr,run_underlying (gZ hk),hb,be (by omega:P.cellsOf el≠0)];have hlen:(((cs.take hh.toNat).drop l.toNat).map fun c=>[c]).length=hh.toNat-l.toNat:=by simp;omega
   have hel':∀(i:Nat)(r:List DV),(((cs.take hh.toNat).drop l.toNat).map fun c=>[c])[i]?=some r→i<hh.toNat-l.toNat∧∃c,cs[l.toNat+i]?=some c∧r=[c]:=by
    intro i r hi;have hi2:=(ci.1 hi).1;rw[hlen]at hi2;rw[cU,List.getElem?_drop,List.getElem?_take]at hi;split at hi;cases hc:cs[l.toNat+i]? with
    |none=>rw[hc]at hi;cases hi
    |some c =>
     rw[hc]at hi;simp only[Option.map_some,Option.some.injEq]at hi;exact⟨hi2,c,rfl,hi.symm⟩
    ·cases hi
   rw[←hlen];refine .ro 1 _ _ _ (fun i _=>vs (l.toNat+i)) aq (fun r hr'=>?_) (fun r hr'=>?_) (fun ad' hAd i j r y hi hj=>?_) (fun i j r y hi hj=>?_);obtain⟨i,hi⟩:=List.getElem?_of_mem hr';obtain⟨_,c,_,rfl⟩:=hel' i r hi;rfl;obtain⟨i,hi⟩:=List.getElem?_of_mem hr';obtain⟨h3,_⟩:=hel' i r hi;rw[if_neg aq];exact⟨_,rfl,by rw[eK];exact hS⟩;obtain⟨h3,c,h4,rfl⟩:=hel' i r hi;rw[if_neg aq]at hAd;injection hAd with hAd;subst hAd;cases j with
   |succ j=>simp at hj
   |zero =>
    simp only[List.getElem?_cons_zero,Option.some.injEq]at hj;subst hj;rw[ll,hz,show l.toNat*1+(i*1+0)=l.toNat+i by omega];exact hv _ _ h4
   ·obtain⟨h3,c,h4,rfl⟩:=hel' i r hi;cases j with
    |succ j=>simp at hj
    |zero =>
     simp only[List.getElem?_cons_zero,Option.some.injEq]at hj;subst hj;exact hd _ _ h4
 ·
  rename_i bs l hh;obtain⟨h0,h1,h2,h⟩:=h;cases hx with
  | d hx =>
   cases hx with
   | str s =>
    have hl:(s.data.toList.map fun c=>(c.toNat:Int)).length=s.size:=(by simp);rw[hl]at h2;have hhi':=fQ E hhi;simp only[AV.topLen,hl]at hhi';have hb:=dj (P:=P) (w:=w) (isS:=false) (len:=s.size) (cap:=s.size) (fQ E hlo) hhi' h0 h1 aq;refine OpOk.val (run (.string (s.extract l.toNat hh.toNat)) ?_) (Good.same hr h (.d ?_));simp[Instr.sliceAt,Instr.slice,run_underlying (oy hk),hb];have e:((s.data.toList.map fun c=>(c.toNat:Int)).take hh.toNat).drop l.toNat=(s.extract l.toNat hh.toNat).data.toList.map fun c=>(c.toNat:Int):=by
     rw[ByteArray.data_extract,Array.toList_extract,List.extract_eq_take_drop,←List.map_take,←List.map_drop,List.drop_take]
    rw[e];exact .str _
 ·exact h.elim
end
end Go.Am
