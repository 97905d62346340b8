/-
 Part 15 of what the claim rests on.
-/
import Derived.Test.YtldccnbokbieiaaGreatM10
import Derived.Test.YtldccnbokbieiaaGreatM12
import Derived.Test.YtldccnbokbieiaaGreatM13
set_option linter.unusedVariables false
set_option linter.unusedSimpArgs false
set_option maxRecDepth 100000
set_option maxHeartbeats 16000000
namespace Go.Proofs.YtldccnbokbieiaaGreat
open Go.Am Go.Sha Go.Ec
def L6 (f:eF):Prop:=∀ j p,p ∈ f j→bytes p
theorem AL {first k:Nat} {h:List Nat} {f:eF} (hf:L6 f) (hh:bytes h):L6 (aU first k h f):=by
 intro j p hp
 unfold aU at hp
 split at hp
 ·rcases List.mem_append.1 hp with q | q
  ·exact hf j p q
  ·simp at q;subst q;exact hh
 ·exact hf j p hp
theorem xA:∀ (n:Nat) (q:Row) (g:eF),(∀ p,p ∈ q→bytes p.1)→L6 g→L6 (cx n q g).2
 | 0,q,g,_,h=>h
 | n+1,q,g,hq,h=>by
  rw [cx]
  split
  ·refine xA n _ _ (mF q hq) ?_
   have key:∀ (r:Row) (s:Nat) (f:eF),(∀ p,p ∈ r→bytes p.1)→L6 f→L6 (cU s r f):=by
    intro r
    induction r using bF.induct with
    | case1 a b r ih =>
     intro s f hr hf
     exact ih _ _ (fun p hp=>hr p (by simp [hp])) (AL (AL hf (hr b (by simp))) (hr a (by simp)))
    | case2 r hr =>
     intro s f _ hf
     match r,hr with
     | [],_=>exact hf
     | [a],_=>exact hf
     | a :: b :: r,hr=>exact absurd rfl (hr a b r)
   exact key q 0 g hq h
  ·exact h
theorem DG {f:eF} {xs:List (List Nat)} {l:Lf} (h:l ∈ gK f xs):∃ j:Nat,l.1=f j∧l.2 ∈ xs:=by
 simp only [gK,List.mem_mapIdx] at h
 obtain ⟨j,hj,rfl⟩:=h
 exact ⟨j,rfl,List.getElem_mem _⟩
theorem uA {xs:List (List Nat)} {l:Lf} (h:l ∈ gK (bc xs) xs):(∀ p,p ∈ l.1→p.length=32∧bytes p)∧l.1.length≤7∧l.2 ∈ xs:=by
 obtain ⟨j,h1,h2⟩:=DG h
 refine ⟨?_,?_,h2⟩
 ·rw [h1]
  exact fun p hp=>⟨xu 7 (dk xs) (fun _=>[]) (nk xs) (fun j p hp=>by simp at hp) j p hp,xA 7 (dk xs) (fun _=>[]) (by
   intro p hp
   obtain ⟨x,_,rfl⟩:=List.mem_map.1 hp
   exact cQ _) (fun j p hp=>by simp at hp) j p hp⟩
 ·rw [h1]
  have:=sV 7 (dk xs) (fun _=>[]) 0 (fun _=>by simp) j
  show ((cx 7 (dk xs) fun _=>[]).2 j).length≤7
  omega
theorem B5 (inner:List Nat) (ps:List (List Nat)) (x:List Nat) (hi:inner.length=32) (hib:bytes inner) (hp:∀ p,p ∈ ps→p.length=32∧bytes p) (hps:ps.length≤1000) (hx:x.length≤100000) (hxb:bytes x) :
  ∃ (a:List Nat) (e:Int),(e=0 ∨ e=1)∧aq Tryz.prog 18 [dy inner ps x] (fun r=>r=.tup [.d (nb a),.d (.int .i64 e)])∧aq Tryz.prog 19 [dy inner ps x] (fun r=>r=.tup [.d (nb a),.d (.int .i64 e)]):=by
 obtain ⟨k,o,e,hk,hkb,he,f1,_,t1⟩:=tL inner ps x hi hib (fun p h=>(hp p h).1) hps hx
 obtain ⟨k',o',e',hk',hkb',_,f2,_,t2⟩:=GH inner ps x hi hib hp hxb hps hx
 obtain ⟨rfl,rfl,rfl⟩:=sn hk hkb hk' hkb' t1 t2
 rcases he with rfl | rfl
 ·exact ⟨81 :: 32 :: k,0,.inl rfl,tO hi hk f1,zg hi hk f2⟩
 ·exact ⟨[],1,.inr rfl,CM hi hk f1,zf hi hk f2⟩
theorem qW (inner:List Nat) (xs:List (List Nat)) (hi:inner.length=32) (hib:bytes inner) (hxb:∀ x,x ∈ xs→bytes x) (hx:∀ x,x ∈ xs→x.length≤100000) :
  ∃ (O:Lf→List Nat) (E:Lf→Int),∀ l,l ∈ gK (bc xs) xs→(E l=0 ∨ E l=1)∧aq Tryz.prog 18 [.agg (aB inner (.d (cF l.1)) (.d (nb l.2)))] (fun r=>r=.tup [.d (nb (O l)),.d (.int .i64 (E l))]) ∧
   aq Tryz.prog 19 [.agg (aB inner (.d (cF l.1)) (.d (nb l.2)))] (fun r=>r=.tup [.d (nb (O l)),.d (.int .i64 (E l))]):=by
 obtain ⟨F,hF⟩:=Classical.axiomOfChoice (r:=fun (l:Lf) (p:List Nat × Int)=>l ∈ gK (bc xs) xs→(p.2=0 ∨ p.2=1)∧aq Tryz.prog 18 [.agg (aB inner (.d (cF l.1)) (.d (nb l.2)))] (fun r=>r=.tup [.d (nb p.1),.d (.int .i64 p.2)]) ∧
   aq Tryz.prog 19 [.agg (aB inner (.d (cF l.1)) (.d (nb l.2)))] (fun r=>r=.tup [.d (nb p.1),.d (.int .i64 p.2)])) (fun l=>by
  by_cases h:l ∈ gK (bc xs) xs
  ·obtain ⟨h1,h2,h3⟩:=uA h
   obtain ⟨a,e,he,g1,g2⟩:=B5 inner l.1 l.2 hi hib h1 (by omega) (hx _ h3) (hxb _ h3)
   exact ⟨(a,e),fun _=>⟨he,g1,g2⟩⟩
  ·exact ⟨([],0),fun h'=>absurd h' h⟩)
 exact ⟨fun l=>(F l).1,fun l=>(F l).2,hF⟩
end Go.Proofs.YtldccnbokbieiaaGreat
