/-
 Part 7 of what the claim rests on.
-/
import Derived.Test.YtmfnimjnneflnaaGreatY3
import Derived.Test.YtmfnimjnneflnaaGreatY5
set_option linter.unusedVariables false
set_option linter.unusedSimpArgs false
set_option maxRecDepth 100000
set_option maxHeartbeats 16000000
namespace Go.Proofs.YtmfnimjnneflnaaGreat
open Go.Am Go.Sha
abbrev mh:=List Nat
def IQ:List Nat→Nat
 |[]=>0
 |b::r=>b+256*IQ r
structure Mc where
 main:List mh
 alt:List mh
 e:Int
def J7(main alt:List mh):Int:=if(main.all fun x=>decide (x.length≤520))&&(alt.all fun x=>decide (x.length≤520))then(if main.length+alt.length≤100 then 0 else 13)else 14
end Go.Proofs.YtmfnimjnneflnaaGreat
namespace Go.Am
def ub(hp:Hp)(ids:List Nat)(v v':AV):Prop:=v'=v∨∃d,v'=.d d∧SnapD hp (fun id=>id∈ids) v d
theorem nt{st:St}{L:Nat}{b:Blk}{es':List (List AV)}(ids:List Nat)(hL:L ∉ ids)(hb:lk L st.hp=some b)(hz:b.e≠0)(hl:es'.length=b.es.length)
  (hc:∀(i:Nat)(x x':List AV),b.es[i]?=some x→es'[i]?=some x'→x'.length=x.length∧∀(j:Nat)(v v':AV),x[j]?=some v→x'[j]?=some v'→ub st.hp ids v v'):Wk st ⟨st.fr,aW L ⟨b.ty,b.e,es'⟩ (aO ids st.hp),st.nx⟩:=by
 intro c a w hs;obtain⟨h1,h2,σ,hr,hf,hist⟩:=hs;obtain⟨d1,d2⟩:=kH ids hr;have hb1:lk L (aO ids st.hp)=some b:=by rw[gk,if_neg (by simpa using hL)];exact hb
 have hlk:∀i b',lk i (aW L ⟨b.ty,b.e,es'⟩ (aO ids st.hp))=some b'→∃b0,lk i (aO ids st.hp)=some b0∧b'.ty=b0.ty∧b'.e=b0.e∧b'.es.length=b0.es.length∧(i≠L→b'=b0)∧(i=L→b'=⟨b.ty,b.e,es'⟩∧b0=b):=by
  intro i b' h;rw[gz]at h;by_cases hi:i=L
  ·subst hi;rw[if_pos rfl,hb1]at h;simp only[Option.map_some,Option.some.injEq]at h;subst h;exact⟨b,hb1,rfl,rfl,hl,fun e=>absurd rfl e,fun _=>⟨rfl,rfl⟩⟩
  ·rw[if_neg hi]at h;exact⟨b',h,rfl,rfl,rfl,fun _=>rfl,fun e=>absurd e hi⟩
 have hS:∀b0,aQ c w σ (aO ids st.hp) b0→aQ c w σ (aW L ⟨b.ty,b.e,es'⟩ (aO ids st.hp)) b0:=fun b0 hb0=>⟨⟨hb0.1.1,fun id blk g h hg=>by
  obtain⟨b1,h3,_⟩:=hlk id blk h
  exact hb0.1.2 id b1 g h3 hg⟩,hb0.2⟩
 have step:Step w (aQ c w σ (aO ids st.hp)) σ (aO ids st.hp) (fun i=>i<st.nx) w (aQ c w σ (aW L ⟨b.ty,b.e,es'⟩ (aO ids st.hp))) σ (aW L ⟨b.ty,b.e,es'⟩ (aO ids st.hp)) (fun i=>i<st.nx) :=
  ⟨hS,fun _ _=>rfl,fun _ h=>h,fun id b' _ h=>by
   obtain⟨b1,h3,h4,h5,h6,_⟩:=hlk id b' h
   exact⟨b1,h3,h5,h4,aq,fun _ g hg=>⟨hg,fun _ h=>h⟩⟩⟩
 have read:∀(v:AV)(d:DV)(x:Value),SnapD st.hp (fun id=>id∈ids) v d→AIs w (aQ c w σ st.hp) σ st.hp (fun i=>i<st.nx) v x→DIs w (aQ c w σ (aW L ⟨b.ty,b.e,es'⟩ (aO ids st.hp))) d x:=by
  intro v d x hsn hx;refine mV (fun b0 hb0=>hS _ (d2.sub b0 hb0)) (fun id blk g hid hk hg=>hS _ ⟨⟨bQ (hr.at hk hg),fun id' blk' g' hk' hg' e=>?_⟩,?_⟩) hr hsn hx
  ·subst e;rw[gk]at hk'
   split at hk'
   ·cases hk'
   ·rename_i hn;have:=hr.inj id id' blk blk' g hk hk' hg hg';subst this;exact hn (by simpa using hid)
  ·rcases hr.mine id blk g hk hg with h|h
   ·exact .inl (c.hM g h)
   ·exact .inr h
 refine⟨h1,h2,σ,⟨fun i j bi bj g hi hj hgi hgj=>?_,fun i b' h=>?_,fun i b' h=>?_,fun i b' g h hg=>?_,hr.os,hr.tape,hr.output,hr.size,hr.old⟩,fun n=>((hf n).step d2).step step,(hist.trans d2).trans step⟩
 ·obtain⟨b1,h3,_⟩:=hlk i bi hi;obtain⟨b2,h4,_⟩:=hlk j bj hj;exact d1.inj i j b1 b2 g h3 h4 hgi hgj
 ·obtain⟨b1,h3,_⟩:=hlk i b' h;exact d1.lt i b1 h3
 ·obtain⟨b1,h3,h4,h5,h6,h7,h8⟩:=hlk i b' h;by_cases hi:i=L
  ·obtain⟨rfl,rfl⟩:=h8 hi;subst hi;rcases hr.blk i b1 hb with ⟨k1,k2⟩|⟨g,k1,ccs,k2,k3,k4,k5,k6⟩
   ·have:=k2.none hz;exact .inl ⟨k1,.inl (List.length_eq_zero_iff.1 (by rw[h6,this];rfl))⟩
   ·refine .inr ⟨g,k1,ccs,k2,k3,?_,by rw[h6];exact k5,?_⟩
    ·intro x hx;obtain⟨n,hn,rfl⟩:=List.mem_iff_getElem.1 hx;have hn':n<b1.es.length:=by simp only at hn;omega
     obtain⟨q1,_⟩:=hc n b1.es[n] _ (cm hn') (cm hn);rw[q1];exact k4 _ (List.getElem_mem _)
    ·intro i' j x y v a1 a2 a3;have hn':i'<b1.es.length:=by have:=(ci.1 a1).1;simp only at this;omega
     obtain⟨q1,q2⟩:=hc i' b1.es[i'] x (cm hn') a1;have hj:j<b1.es[i'].length:=by have:=(ci.1 a2).1;omega
     have hv:=k6 i' j b1.es[i'] b1.es[i'][j] v (cm hn') (cm hj) a3;rcases q2 j _ y (cm hj) a2 with rfl|⟨d,rfl,hsn⟩
     ·exact(hv.step d2).step step
     ·exact .d (read _ _ _ hsn hv)
  ·rw[h7 hi];rcases d1.blk i b1 h3 with k|⟨g,k1,k2⟩
   ·exact .inl k
   ·exact .inr ⟨g,k1,k2.step step rfl⟩
 ·obtain⟨b1,h3,_⟩:=hlk i b' h;exact d1.mine i b1 g h3 hg
end Go.Am
namespace Go.Am
section
variable {P:Program}
def IQ(n:Nat)(v v':AV):Prop:=v'=v∨v'=.any∨((v=.nil∨∃e,v=.d (.rof e []))∧((∃id,id<n∧v'=.own id 0 0 0)∨∃e,v'=.d (.ro e [])))
theorem Hn{n:Nat}{v v':AV}(h:IQ n v v'){w:World}{S:Nat→Prop}{σ:Nat→Option Nat}{hp:Hp}{x:Value}(hx:AIs w S σ hp (fun i=>i<n) v x):AIs w S σ hp (fun i=>i<n) v' x:=by
 rcases h with rfl|rfl|⟨h,h2⟩
 ·exact hx
 ·exact .any _
 ·have own:∀A,AIs w S σ hp (fun i=>i<n) v' (.slice A 0 0):=fun A=>by
   rcases h2 with ⟨id,hid,rfl⟩|⟨e,rfl⟩
   ·exact .own id 0 0 0 A 0 hid (cL _) (fun _=>rfl) fun b2 hb2=>⟨Nat.zero_le _,fun _=>⟨cL _,cL _,fun h=>aq⟩⟩
   ·exact .d (.ro e [] A 0 (fun _ _=>undef) aw aw aw aw aw)
  rcases h with rfl|⟨e,rfl⟩
  ·cases hx with
   |nil=>exact own none
  ·cases hx with
   |d hx =>
    cases hx with
    |rof _ _ A vs h1 h2 h3 h4=>exact own A
theorem J8{st:St}{L:Nat}{b:Blk}{es':List (List AV)}(hb:lk L st.hp=some b)(hz:b.e≠0)(hl:es'.length=b.es.length)
  (hc:∀(i:Nat)(x x':List AV),b.es[i]?=some x→es'[i]?=some x'→x'.length=x.length∧∀(j:Nat)(v v':AV),x[j]?=some v→x'[j]?=some v'→IQ st.nx v v'):Wk st ⟨st.fr,aW L ⟨b.ty,b.e,es'⟩ st.hp,st.nx⟩:=by
 intro c a w hs;obtain⟨h1,h2,σ,hr,hf,hist⟩:=hs
 have hlk:∀i b',lk i (aW L ⟨b.ty,b.e,es'⟩ st.hp)=some b'→∃b0,lk i st.hp=some b0∧b'.ty=b0.ty∧b'.e=b0.e∧b'.es.length=b0.es.length∧(i≠L→b'=b0)∧(i=L→b'=⟨b.ty,b.e,es'⟩∧b0=b):=by
  intro i b' h;rw[gz]at h;by_cases hi:i=L
  ·subst hi;rw[if_pos rfl,hb]at h;simp only[Option.map_some,Option.some.injEq]at h;subst h;exact⟨b,hb,rfl,rfl,hl,fun e=>absurd rfl e,fun _=>⟨rfl,rfl⟩⟩
  ·rw[if_neg hi]at h;exact⟨b',h,rfl,rfl,rfl,fun _=>rfl,fun e=>absurd e hi⟩
 have hS:∀b0,aQ c w σ st.hp b0→aQ c w σ (aW L ⟨b.ty,b.e,es'⟩ st.hp) b0:=fun b0 hb0=>⟨⟨hb0.1.1,fun id blk g h hg=>by
  obtain⟨b1,h3,_⟩:=hlk id blk h
  exact hb0.1.2 id b1 g h3 hg⟩,hb0.2⟩
 have step:Step w (aQ c w σ st.hp) σ st.hp (fun i=>i<st.nx) w (aQ c w σ (aW L ⟨b.ty,b.e,es'⟩ st.hp)) σ (aW L ⟨b.ty,b.e,es'⟩ st.hp) (fun i=>i<st.nx) :=
  ⟨hS,fun _ _=>rfl,fun _ h=>h,fun id b' _ h=>by
   obtain⟨b1,h3,h4,h5,h6,_⟩:=hlk id b' h
   exact⟨b1,h3,h5,h4,aq,fun _ g hg=>⟨hg,fun _ h=>h⟩⟩⟩
 refine⟨h1,h2,σ,⟨fun i j bi bj g hi hj hgi hgj=>?_,fun i b' h=>?_,fun i b' h=>?_,fun i b' g h hg=>?_,hr.os,hr.tape,hr.output,hr.size,hr.old⟩,fun n=>(hf n).step step,hist.trans step⟩
 ·obtain⟨b1,h3,_⟩:=hlk i bi hi;obtain⟨b2,h4,_⟩:=hlk j bj hj;exact hr.inj i j b1 b2 g h3 h4 hgi hgj
 ·obtain⟨b1,h3,_⟩:=hlk i b' h;exact hr.lt i b1 h3
 ·obtain⟨b1,h3,h4,h5,h6,h7,h8⟩:=hlk i b' h;rcases hr.blk i b1 h3 with ⟨k1,k2⟩|⟨g,k1,ccs,k2,k3,k4,k5,k6⟩
  ·refine .inl ⟨k1,?_⟩;by_cases hi:i=L
   ·obtain⟨rfl,rfl⟩:=h8 hi;have:=k2.none hz;exact .inl (List.length_eq_zero_iff.1 (by rw[h6,this];rfl))
   ·rw[h7 hi];exact k2
  ·refine .inr ⟨g,k1,ccs,by rw[h4];exact k2,k3,?_,by rw[h6,h5];exact k5,?_⟩
   ·by_cases hi:i=L
    ·obtain⟨rfl,rfl⟩:=h8 hi;intro x hx;obtain⟨n,hn,rfl⟩:=List.mem_iff_getElem.1 hx;have hn':n<b1.es.length:=by simp only at hn;omega
     obtain⟨q1,_⟩:=hc n b1.es[n] _ (cm hn') (cm hn);rw[q1];exact k4 _ (List.getElem_mem _)
    ·rw[h7 hi];exact k4
   ·intro i' j x y v a1 a2 a3;rw[h5]at a3;by_cases hi:i=L
    ·obtain⟨rfl,rfl⟩:=h8 hi;have hn':i'<b1.es.length:=by have:=(ci.1 a1).1;simp only at this;omega
     obtain⟨q1,q2⟩:=hc i' b1.es[i'] x (cm hn') a1;have hj:j<b1.es[i'].length:=by have:=(ci.1 a2).1;omega
     have hv:=k6 i' j b1.es[i'] b1.es[i'][j] v (cm hn') (cm hj) a3;exact(Hn (q2 j _ y (cm hj) a2) hv).step step
    ·rw[h7 hi]at a1;exact(k6 i' j x y v a1 a2 a3).step step
 ·obtain⟨b1,h3,_⟩:=hlk i b' h;exact hr.mine i b1 g h3 hg
def As(n:Nat)(x x':List AV):Prop:=x'.length=x.length∧∀(j:Nat)(v v':AV),x[j]?=some v→x'[j]?=some v'→IQ n v v'
theorem xP{n:Nat}(l r:List AV){a a':AV}(h:IQ n a a'):As n (l++a::r) (l++a'::r):=by
 refine⟨aw,fun j v v' h1 h2=>?_⟩;rcases Nat.lt_or_ge j l.length with hj|hj
 ·rw[List.getElem?_append_left hj]at h1 h2;rw[h1]at h2;exact .inl (Option.some.inj h2).symm
 ·rw[dn hj]at h1 h2
  cases hk:j-l.length with
  |zero =>
   rw[hk]at h1 h2;simp at h1 h2;subst h1;subst h2;exact h
  |succ k =>
   rw[hk]at h1 h2;simp at h1 h2;rw[h1]at h2;exact .inl (Option.some.inj h2).symm
theorem Ho{st:St}{L:Nat}{ty:TypeId}{e:Nat}{x x':List AV}(hb:lk L st.hp=some ⟨ty,e,[x]⟩)(he:e≠0)(h:As st.nx x x'):Wk st ⟨st.fr,aW L ⟨ty,e,[x']⟩ st.hp,st.nx⟩ :=
 J8 hb he rfl fun i y y' h1 h2=>by
  cases i with
  |zero=>simp at h1 h2;subst h1;subst h2;exact h
  |succ i=>simp at h1
end
end Go.Am
namespace Go.Am
section
variable {P:Program} {n:Nat} {f:Nat→Nat} {news:List (Nat × Nat)} {N:Nat} {hp hp':Hp}
end
end Go.Am
namespace Go.Am
section
variable {P:Program}
end
end Go.Am
namespace Go.Sha
inductive Jk where
 |n
 |a
 |i (x:List Nat)
end Go.Sha
namespace Go.Proofs.YtmfnimjnneflnaaGreat
open Go.Am Go.Sha
structure McS where
 m:Mc
 J:List Jk
 H:List Jk
theorem eE{α β:Type}{f:α→β}{l:List α}{k:Nat}{x:α}(h:l[k]?=some x):(l.take k).map f++[f x]=(l.take (k+1)).map f:=by
 rw[List.take_add_one,h];simp
end Go.Proofs.YtmfnimjnneflnaaGreat
namespace Go.Sha
def se(a b:List Nat):Nat→Int
 |0=>0
 |k+1=>if a.getD k 0<b.getD k 0 then -1 else if b.getD k 0<a.getD k 0 then 1 else se a b k
def dY(l:List Nat):Nat:=l.foldl (fun a x=>a*256+x) 0
theorem Au(l:List Nat)(x:Nat):dY (l++[x])=dY l*256+x:=by simp[dY]
def part(b:List Nat)(i j:Nat):List Nat:=((b.take i).drop (8*(3-j))).take 8
theorem kR(b:List Nat)(i j k:Nat):(part b i j)[k]?=if k<8∧8*(3-j)+k<i then b[8*(3-j)+k]? else none:=by
 unfold part;rw[List.getElem?_take];by_cases h1:k<8
 ·rw[if_pos h1,List.getElem?_drop,List.getElem?_take];by_cases h2:8*(3-j)+k<i
  ·rw[if_pos h2,if_pos ⟨h1,h2⟩]
  ·rw[if_neg h2,if_neg (fun h=>h2 h.2)]
 ·rw[if_neg h1,if_neg (fun h=>h1 h.1)]
theorem nu{b:List Nat}(hb:b.length=32){i j:Nat}(hi:i≤32)(hj:j≤3):(part b i j).length=min 8 (i-8*(3-j)):=by
 unfold part;rw[List.length_take,et,List.length_take,hb];omega
theorem xQ{b:List Nat}{i j:Nat}(hi:i<32)(hj:j≤3)(h:j≠3-i/8):part b (i+1) j=part b i j:=by
 refine List.ext_getElem? fun k=>?_;rw[kR,kR];by_cases h1:k<8∧8*(3-j)+k<i
 ·rw[if_pos h1,if_pos ⟨h1.1,aq⟩]
 ·rw[if_neg h1];by_cases h2:k<8∧8*(3-j)+k<i+1
  ·omega
  ·rw[if_neg h2]
theorem xR{b:List Nat}(hb:b.length=32){i c:Nat}(hc:b[i]?=some c):part b (i+1) (3-i/8)=part b i (3-i/8)++[c]:=by
 have hi:i<32:=by have:=(ci.1 hc).1;omega
 have hl:(part b i (3-i/8)).length=i%8:=by rw[nu hb aq aq];omega
 refine List.ext_getElem? fun k=>?_;rw[List.getElem?_append,hl,kR,kR];by_cases h1:k<i%8
 ·rw[if_pos h1,if_pos ⟨aq,aq⟩,if_pos ⟨aq,aq⟩]
 ·rw[if_neg h1];by_cases h2:k=i%8
  ·subst h2;rw[if_pos ⟨aq,aq⟩,show 8*(3-(3-i/8))+i%8=i by omega,hc];simp
  ·rw[if_neg aq];rw[List.getElem?_eq_none (by simp;omega)]
theorem xT(b:List Nat)(j:Nat):part b 0 j=[]:=by simp[part]
def qV(b:List Nat)(i:Nat):List Nat:=(List.range 4).map fun j=>dY (part b i j)*256 ^ (8-(part b i j).length)
def oG(b:List Nat)(i:Nat):List Nat:=(List.range 4).map fun j=>dY (part b i j)
theorem DY{b:List Nat}(hb:b.length=32):qV b 32=oG b 32:=by
 unfold qV oG;refine List.map_congr_left fun j hj=>?_;rw[List.mem_range]at hj;rw[nu hb aq aq,show 8-min 8 (32-8*(3-j))=0 by omega];simp
theorem sf(b:List Nat):qV b 0=[0,0,0,0]:=by simp[qV,xT,dY,List.range,List.range.loop]
theorem uc:∀(l:List Nat),(∀x,x∈l→x<256)→dY l<256 ^ l.length:=by
 intro l
 have key:∀(l:List Nat)(a n:Nat),(∀x,x∈l→x<256)→a<256 ^ n→l.foldl (fun a x=>a*256+x) a<256 ^ (n+l.length):=by
  intro l
  induction l with
  |nil=>intro a n _ h;simpa using h
  |cons x l ih =>
   intro a n hl h;have hx:=hl x aw;rw[List.foldl_cons,List.length_cons,show n+(l.length+1)=(n+1)+l.length by omega];exact ih _ (n+1) (fun y hy=>hl y (by simp[hy])) (by rw[Nat.pow_succ];omega)
 intro h;have:=key l 0 0 h aw
 simpa[dY]using this
theorem Hq(a b:Nat)(ha:a<18446744073709551616)(hb:b<18446744073709551616):Go.bits .or .u64 (a:Int) (b:Int)=((a ||| b:Nat):Int):=by
 show IntKind.u64.wrap (((BitVec.ofInt 64 (a:Int)) ||| (BitVec.ofInt 64 (b:Int))).toNat:Int)=_;rw[BitVec.toNat_or,ec,ec,←Nat.or_mod_two_pow,fE];have:a ||| b<2 ^ 64:=Nat.or_lt_two_pow aq aq;omega
theorem Av{b:List Nat}(hb:b.length=32)(hby:∀x,x∈b→x<256){i c:Nat}(hc:b[i]?=some c) :
  ∃a,(qV b i)[3-i/8]?=some a∧a<18446744073709551616∧c*2 ^ (8*((31-i)%8))<18446744073709551616∧(qV b i).set (3-i/8) (a ||| c*2 ^ (8*((31-i)%8)))=qV b (i+1):=by
 have hi:i<32:=by have:=(ci.1 hc).1;omega
 have hc8:c<256:=hby c (cr hc);have hl:(part b i (3-i/8)).length=i%8:=by rw[nu hb aq aq];omega
 have hpn:=xR hb hc;have hlt:=uc (part b i (3-i/8)) (fun x hx=>hby x (List.mem_of_mem_take (List.mem_of_mem_drop (List.mem_of_mem_take hx))));rw[hl]at hlt;have hm:(31-i)%8=7-i%8:=aq;have hpow:∀n,(256:Nat) ^ n=2 ^ (8*n):=fun n=>by rw[Nat.pow_mul]
 generalize hA:dY (part b i (3-i/8))=A at hlt;have hr:i%8<8:=aq;generalize hr':i%8=r at *;have e1:(256:Nat) ^ (8-r)=256*256 ^ (7-r):=by rw[show 8-r=(7-r)+1 by omega,Nat.pow_succ,Nat.mul_comm]
 have e2:(256:Nat) ^ r*256 ^ (8-r)=18446744073709551616:=by rw[←Nat.pow_add,show r+(8-r)=8 by omega]
 have hcl:c*2 ^ (8*(7-r))<2 ^ (8*(8-r)):=by
  rw[←hpow,←hpow,e1];exact Nat.mul_lt_mul_of_pos_right hc8 (Nat.pow_pos aq)
 have hle:(2:Nat) ^ (8*(8-r))≤18446744073709551616:=by
  rw[←hpow]
  calc (256:Nat) ^ (8-r)≤256 ^ 8:=Nat.pow_le_pow_right aq aq
   _=18446744073709551616:=by decide
 have hAlt:A*256 ^ (8-r)<18446744073709551616:=by
  rw[←e2];exact Nat.mul_lt_mul_of_pos_right hlt (Nat.pow_pos aq)
 refine⟨A*256 ^ (8-r),?_,hAlt,by rw[hm];omega,?_⟩
 ·unfold qV;rw[cU,List.getElem?_range aq];simp[hA,hl]
 ·rw[hm];refine List.ext_getElem? fun j=>?_;rw[List.getElem?_set];have hlen:(qV b i).length=4:=by simp[qV]
  by_cases hj:3-i/8=j
  ·subst hj;rw[if_pos rfl,if_pos aq];unfold qV;rw[cU,List.getElem?_range aq,Option.map_some,hpn,Au,b_,hl,hA];congr 1;have:=Nat.two_pow_add_eq_or_of_lt hcl A;rw[←hpow,Nat.mul_comm]at this;rw[←this,List.length_singleton,show 8-(r+1)=7-r by omega,e1,←hpow,Nat.add_mul,Nat.mul_assoc]
  ·rw[if_neg hj];unfold qV;rw[cU,cU];by_cases h4:j<4
   ·rw[List.getElem?_range h4,Option.map_some,Option.map_some,xQ hi aq aq]
   ·rw[List.getElem?_eq_none (by simp;omega)];rfl
end Go.Sha
namespace Go.Proofs.YtmfnimjnneflnaaGreat
open Go.Am Go.Sha
def cW(l:List Nat):List AV:=l.map fun(x:Nat)=>AV.d (.int .u64 (x:Int))
theorem j9(l:List Nat):(cW l).length=l.length:=by simp[cW]
theorem ud(l:List Nat)(i:Nat):(cW l)[i]?=(l[i]?).map fun(x:Nat)=>AV.d (.int .u64 (x:Int)):=by simp[cW]
theorem Hr(l:List Nat)(i x:Nat):(cW l).set i (.d (.int .u64 (x:Int)))=cW (l.set i x):=by simp[cW,List.map_set]
theorem vM(l:List Nat):(AV.agg (cW l)).deep:=by
 intro c hc;simp only[cW,List.mem_map]at hc;obtain⟨x,_,rfl⟩:=hc
 trivial
theorem ke(n:Nat)(l:List Nat):∀v,v∈cW l→v.low1 n:=by
 intro c hc;simp only[cW,List.mem_map]at hc;obtain⟨x,_,rfl⟩:=hc
 trivial
def en:List Int:=(List.range 256).map fun y=>if y=0 then 0 else((Nat.log2 y+1:Nat):Int)
theorem ee{L:List Int}(hL:L=en){y:Nat}{b:Int}(h:L[y]?=some b):∃n:Nat,b=(n:Int)∧(if y=0 then n=0 else 1≤n∧n≤8):=by
 subst hL;unfold en at h;rw[cU]at h;by_cases hy:y<256
 ·rw[List.getElem?_range hy,Option.map_some,Option.some.injEq]at h;by_cases h0:y=0
  ·rw[if_pos h0]at h;exact⟨0,h.symm,by rw[if_pos h0]⟩
  ·rw[if_neg h0]at h;refine⟨_,h.symm,?_⟩;rw[if_neg h0];have:=Nat.log2_lt (n:=y) (k:=8) h0;omega
 ·rw[List.getElem?_eq_none (by simp;omega)]at h
  cases h
theorem ef{L:List Int}(hL:L=en){y:Nat}(hy:y<256)(h:L[y]?=none):False:=by
 subst hL;unfold en at h;rw[cU,List.getElem?_range hy]at h
 cases h
def DZ:Nat→Int
 |0=>-1
 |k+1=>k
theorem Fj:DZ 0=-1:=rfl
theorem Aw(k:Nat):DZ (k+1)=(k:Int):=rfl
theorem Ax(k:Nat)(h:k<1000):IntKind.i64.wrap ((k:Int)-1)=DZ k:=by
 cases k with
 |zero=>rfl
 |succ k=>rw[IntWalk.i64_in _ aq];show((k+1:Nat):Int)-1=(k:Int);omega
theorem Ht(a b:List Nat)(ha:a.length=4)(hb:b.length=4):au Tryz.prog 206 [.agg (cW a),.agg (cW b)] (fun r=>r=.d (.int .i64 (se a b 4))):=by
 refine bu Tryz.func206 Tryz.ntmps206 (rs:=[.tmp 4]) (by intro v hv;simp at hv;rcases hv with rfl|rfl<;>exact vM _) ?_;generalize hF:se a b 4=F;simp[go_sem]
 refine am (fun k:Nat=>⟨[(2,.ptr 0 0 0 1),(3,.ptr 32 0 0 1),(5,.d (.int .i64 (DZ k)))],[(32,⟨96,4,[cW b]⟩),(0,⟨96,4,[cW a]⟩)],500⟩)
  (fun k=>k≤4∧se a b k=F) (fun k=>k) 4 ⟨aq,hF⟩ (by
   simp[ak,ah,fv,lk,AV.low,AV.low1,j9,ha,hb,DZ]
   exact⟨ke _ _,ke _ _⟩) ?_
 rintro k⟨hk,hq⟩
 cases k with
 |zero =>
  simp only[se]at hq;subst hq;simp[go_sem,Fj,ar];exact ag a9 rfl
 | succ k =>
  obtain⟨x,hx,_⟩:=aL (l:=a) (k:=k) aq;obtain⟨y,hy,_⟩:=aL (l:=b) (k:=k) aq;have ex:a.getD k 0=x:=by rw[cR,hx];rfl
  have ey:b.getD k 0=y:=by rw[cR,hy];rfl
  simp only[se,ex,ey]at hq;have hw:=Ax k aq;simp[go_sem,Aw];refine cQ [0,1,2,3,4,5,6,7] [] 0 (k:=8) ?_;intro G hG;simp[go_sem,ud,hx,hy];refine⟨aq,hG _ _ ?_⟩;by_cases h1:x<y
  ·rw[if_pos h1]at hq;subst hq;simp[go_sem,h1,ar];exact ag a9 rfl
  ·rw[if_neg h1]at hq;simp[go_sem,h1];refine cQ [0,1,2,3,4,5,6,7] [] 0 (k:=8) ?_;intro G hG;simp[go_sem,ud,hx,hy];refine⟨aq,hG _ _ ?_⟩;by_cases h2:y<x
   ·rw[if_pos h2]at hq;subst hq;simp[go_sem,h2,ar];exact ag a9 rfl
   ·rw[if_neg h2]at hq;simp[go_sem,h2,hw];refine aj k ⟨aq,hq⟩ aq ?_;simp[ak,ah,fv,lk,AV.low,AV.low1,j9,ha,hb];exact⟨ke _ _,ke _ _⟩
theorem qg(b:List Nat)(i:Nat):(qV b i).length=4:=by simp[qV]
theorem D1(b:List Nat)(hb:b.length=32)(hby:∀x,x∈b→x<256):au Tryz.prog 164 [.agg (cb b)] (fun r=>r=.agg (cW (oG b 32))):=by
 refine bu Tryz.func164 Tryz.ntmps164 (rs:=[.cell 2 96]) (by intro v hv;simp at hv;subst hv;exact eD _) ?_;rw[←DY hb];have hcl:(cb b).length=32:=by rw[ap];exact hb
 have htk:(cb b).take 32=cb b:=cx aq;have hz:[AV.d (DV.int .u64 0),AV.d (DV.int .u64 0),AV.d (DV.int .u64 0),AV.d (DV.int .u64 0)]=cW (qV b 0):=by rw[sf];rfl
 simp[go_sem,hcl,htk]
 refine am (fun i:Nat=>⟨[(2,.ptr 32 0 0 1),(3,.ptr 64 0 0 1),(7,.agg (cb b)),(8,.d (.int .i64 (i:Int)))],[(32,⟨96,4,[cW [0,0,0,0]]⟩),(64,⟨96,4,[cW (qV b i)]⟩)],500⟩)
  (fun i=>i≤32) (fun i=>32-i) 0 aq (by
   simp[ak,ah,fv,lk,AV.low,AV.low1,j9,sf]
   exact⟨aC _ _,rfl,ke _ _⟩) ?_
 intro i hi;simp only[go_sem,Nat.reduceEqDiff,Nat.reduceAdd,Nat.reduceLT,↓reduceIte,Nat.reduceMul];refine⟨fun h=>?_,fun h=>?_⟩
 ·obtain⟨c,hc,_⟩:=aL (l:=b) (k:=i) aq;obtain⟨w,hw1,hw2,hw3,hw4⟩:=Av hb hby hc;have e1:IntKind.i64.wrap (31-(i:Int))=((31-i:Nat):Int):=by rw[IntWalk.i64_in _ aq];omega
  have w3:=al (k:=i) aq;have hc8:=hby c (cr hc);obtain⟨m,hm⟩:∃m,m=31-i:=⟨_,rfl⟩;rw[←hm]at e1 hw3 hw4;have hj:m/8=3-i/8:=aq;rw[←hj]at hw1 hw4;have q3:IntKind.i64.wrap ((m:Int)/8)=((m/8:Nat):Int):=by rw[IntWalk.i64_in _ aq];omega
  have q4:IntKind.i64.wrap (8*Int.tmod (m:Int) 8)=((8*(m%8):Nat):Int):=by rw[show Int.tmod (m:Int) 8=((m%8:Nat):Int)from rfl,IntWalk.i64_in _ aq];omega
  have q5:IntKind.u64.wrap (c:Int)=(c:Int):=by rw[fE];omega
  have hj4:m/8<4:=aq;have hs64:8*(m%8)≤64:=aq;generalize m/8=j at *;generalize 8*(m%8)=s at *;have q6:min s 64=s:=aq
  have q7:IntKind.u64.wrap ((c:Int)*2 ^ s)=((c*2 ^ s:Nat):Int):=by
   rw[fE,show(2:Int) ^ s=((2 ^ s:Nat):Int)by rw[Int.natCast_pow];rfl,←Int.natCast_mul];omega
  have q8:=Hq w (c*2 ^ s) hw2 hw3;generalize c*2 ^ s=y at *;generalize w ||| y=z at *;simp[go_sem,tP,hc,e1];refine⟨aq,?_⟩;refine cQ [0,1,2,3,4,5,6,7,8,9,10,11] [(12,[])] 0 (k:=13) ?_;intro G hG;simp[go_sem,q3,q4,q5,ud,hw1,q6,q7,q8,IntKind.bits,j9,qg,Hr,hw4];refine⟨aq,hj4,hG _ _ ?_⟩;simp[go_sem,w3];refine aj (i+1) aq aq ?_;simp[ak,ah,fv,lk,AV.low,AV.low1,j9];exact⟨aC _ _,ke _ _,ke _ _⟩
 ·have h32:i=32:=aq;subst h32;have htk4:(cW (qV b 32)).take 4=cW (qV b 32):=cx (by rw[j9,qg];omega);simp[go_sem,ar,j9,qg,htk4];exact ag (vM _) rfl
end Go.Proofs.YtmfnimjnneflnaaGreat
