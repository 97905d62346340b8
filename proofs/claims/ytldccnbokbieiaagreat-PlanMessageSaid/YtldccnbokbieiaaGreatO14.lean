/-
 Part 15 of what the claim rests on.
-/
import Derived.Test.YtldccnbokbieiaaGreatO10
import Derived.Test.YtldccnbokbieiaaGreatO12
import Derived.Test.YtldccnbokbieiaaGreatO13
set_option linter.unusedVariables false
set_option linter.unusedSimpArgs false
set_option maxRecDepth 100000
set_option maxHeartbeats 16000000
namespace Go.Proofs.YtldccnbokbieiaaGreat
open Go.Am Go.Sha Go.Ec
def Pby (f:Q4):Prop:=∀ j p,p ∈ f j→bytes p
theorem aiA {first k:Nat} {h:List Nat} {f:Q4} (hf:Pby f) (hh:bytes h):Pby (x9 first k h f):=by
 intro j p hp;unfold x9 at hp
 split at hp
 ·rcases au.1 hp with q | q
  ·exact hf j p q
  ·simp at q;subst q;exact hh
 ·exact hf j p hp
theorem afC:∀ (n:Nat) (q:Row) (g:Q4),(∀ p,p ∈ q→bytes p.1)→Pby g→Pby (G7 n q g).2
 | 0,q,g,_,h=>h
 | n+1,q,g,hq,h=>by
  rw [G7]
  split
  ·refine afC n _ _ (Xx q hq) ?_
   have key:∀ (r:Row) (s:Nat) (f:Q4),(∀ p,p ∈ r→bytes p.1)→Pby f→Pby (I9 s r f):=by
    intro r
    induction r using D0.induct with
    | case1 a b r ih =>
     intro s f hr hf;exact ih _ _ (fun p hp=>hr p (by simp [hp])) (aiA (aiA hf (hr b ab)) (hr a ab))
    | case2 r hr =>
     intro s f _ hf
     match r,hr with
     | [],_=>exact hf
     | [a],_=>exact hf
     | a :: b :: r,hr=>exact absurd rfl (hr a b r)
   exact key q 0 g hq h
  ·exact h
theorem ani {f:Q4} {xs:List (List Nat)} {l:Lf} (h:l ∈ Uo f xs):∃ j:Nat,l.1=f j∧l.2 ∈ xs:=by
 simp only [Uo,List.mem_mapIdx] at h;obtain ⟨j,hj,rfl⟩:=h;exact ⟨j,rfl,List.getElem_mem _⟩
theorem aiB {xs:List (List Nat)} {l:Lf} (h:l ∈ Uo (D1 xs) xs):(∀ p,p ∈ l.1→p.length=32∧bytes p)∧l.1.length≤7∧l.2 ∈ xs:=by
 obtain ⟨j,h1,h2⟩:=ani h;refine ⟨?_,?_,h2⟩
 ·rw [h1]
  exact fun p hp=>⟨afA 7 (K2 xs) (fun _=>[]) (Ym xs) (fun j p hp=>by simp at hp) j p hp,afC 7 (K2 xs) (fun _=>[]) (by
   intro p hp;obtain ⟨x,_,rfl⟩:=List.mem_map.1 hp
   exact D3 _) (fun j p hp=>by simp at hp) j p hp⟩
 ·rw [h1];have:=acw 7 (K2 xs) (fun _=>[]) 0 (fun _=>by simp) j;show ((G7 7 (K2 xs) fun _=>[]).2 j).length≤7;omega
theorem ajH (inner:List Nat) (ps:List (List Nat)) (x:List Nat) (hi:inner.length=32) (hib:bytes inner) (hp:∀ p,p ∈ ps→p.length=32∧bytes p) (hps:ps.length≤1000) (hx:x.length≤100000) (hxb:bytes x) :
  ∃ (a:List Nat) (e:Int),(e=0 ∨ e=1)∧m6 Tryz.prog 18 [M7 inner ps x] (fun r=>r=.tup [.d (nb a),.d (.int .i64 e)])∧m6 Tryz.prog 19 [M7 inner ps x] (fun r=>r=.tup [.d (nb a),.d (.int .i64 e)]):=by
 obtain ⟨k,o,e,hk,hkb,he,f1,_,t1⟩:=acf inner ps x hi hib (fun p h=>(hp p h).1) hps hx;obtain ⟨k',o',e',hk',hkb',_,f2,_,t2⟩:=apN inner ps x hi hib hp hxb hps hx;obtain ⟨rfl,rfl,rfl⟩:=aby hk hkb hk' hkb' t1 t2;rcases he with rfl | rfl
 ·exact ⟨81 :: 32 :: k,0,.inl rfl,aci hi hk f1,agX hi hk f2⟩
 ·exact ⟨[],1,.inr rfl,ajA hi hk f1,agV hi hk f2⟩
theorem afD (inner:List Nat) (xs:List (List Nat)) (hi:inner.length=32) (hib:bytes inner) (hxb:∀ x,x ∈ xs→bytes x) (hx:∀ x,x ∈ xs→x.length≤100000) :
  ∃ (O:Lf→List Nat) (E:Lf→Int),∀ l,l ∈ Uo (D1 xs) xs→(E l=0 ∨ E l=1)∧m6 Tryz.prog 18 [.agg (s5 inner (.d (J1 l.1)) (.d (nb l.2)))] (fun r=>r=.tup [.d (nb (O l)),.d (.int .i64 (E l))]) ∧
   m6 Tryz.prog 19 [.agg (s5 inner (.d (J1 l.1)) (.d (nb l.2)))] (fun r=>r=.tup [.d (nb (O l)),.d (.int .i64 (E l))]):=by
 obtain ⟨F,hF⟩:=Classical.axiomOfChoice (r:=fun (l:Lf) (p:List Nat × Int)=>l ∈ Uo (D1 xs) xs→(p.2=0 ∨ p.2=1)∧m6 Tryz.prog 18 [.agg (s5 inner (.d (J1 l.1)) (.d (nb l.2)))] (fun r=>r=.tup [.d (nb p.1),.d (.int .i64 p.2)]) ∧
   m6 Tryz.prog 19 [.agg (s5 inner (.d (J1 l.1)) (.d (nb l.2)))] (fun r=>r=.tup [.d (nb p.1),.d (.int .i64 p.2)])) (fun l=>by
  by_cases h:l ∈ Uo (D1 xs) xs
  ·obtain ⟨h1,h2,h3⟩:=aiB h;obtain ⟨a,e,he,g1,g2⟩:=ajH inner l.1 l.2 hi hib h1 aa (hx _ h3) (hxb _ h3);exact ⟨(a,e),fun _=>⟨he,g1,g2⟩⟩
  ·exact ⟨([],0),fun h'=>absurd h' h⟩)
 exact ⟨fun l=>(F l).1,fun l=>(F l).2,hF⟩
end Go.Proofs.YtldccnbokbieiaaGreat
