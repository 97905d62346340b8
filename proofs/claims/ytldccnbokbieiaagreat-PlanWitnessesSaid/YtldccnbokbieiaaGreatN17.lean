/-
 Part 18 of what the claim rests on.
-/
import Derived.Test.YtldccnbokbieiaaGreatN14
import Derived.Test.YtldccnbokbieiaaGreatN15
import Derived.Test.YtldccnbokbieiaaGreatN16
set_option linter.unusedVariables false
set_option linter.unusedSimpArgs false
set_option maxRecDepth 100000
set_option maxHeartbeats 16000000
namespace Go.Proofs.YtldccnbokbieiaaGreat
open Go.Am Go.Sha Go.Ec
theorem aaJ (inner:List Nat) (ps:List (List Nat)) (x:List Nat) (hi:inner.length=32) (hib:bytes inner) (hp:∀ p,p ∈ ps→p.length=32∧bytes p) (hps:ps.length≤1000) (hx:x.length≤100000) (hxb:bytes x) :
  ∃ (c:List Nat) (e:Int),(e=0 ∨ e=1)∧bytes c∧d9 Tryz.prog 20 [r9 inner ps x] (fun r=>r=.tup [.d (nb c),.d (.int .i64 e)])∧d9 Tryz.prog 21 [r9 inner ps x] (fun r=>r=.tup [.d (nb c),.d (.int .i64 e)]):=by
 have hp32:∀ p,p ∈ ps→p.length=32:=fun p h=>(hp p h).1;obtain ⟨k,o,e,hk,hkb,he,f1,_,t1⟩:=Yp inner ps x hi hib hp32 hps hx;obtain ⟨k',o',e',hk',hkb',_,f2,_,t2⟩:=ahL inner ps x hi hib hp hxb hps hx;obtain ⟨rfl,rfl,rfl⟩:=Wx hk hkb hk' hkb' t1 t2;rcases he with rfl | rfl
 ·exact ⟨RI o inner ps,0,.inl rfl,aiO hib (fun p h=>(hp p h).2),af6 hi hp32 hps hk f1,aeD hi hp32 hps hk f2⟩
 ·exact ⟨[],1,.inr rfl,by simp [bytes],af5 hi hk f1,aeC hi hk f2⟩
def F6 (things:List (List Nat)) (x c:List Nat) (e:Int):AV:=if e=0 then .tup [.d (.ro 1 ((things ++ [x,c]).map L8)),.d (.int .i64 0)] else .tup [.nil,.d (.int .i64 1)]
def Vh (things:List (List Nat)):List (List AV):=things.map fun y=>[.d (nb y)]
theorem aoX (n:Nat) (things:List (List Nat)):∀ r,r ∈ Vh things→∀ v,v ∈ r→v.low1 n:=by
 intro r hr v hv;obtain ⟨y,_,rfl⟩:=List.mem_map.1 hr;simp at hv;subst hv
 trivial
theorem aaK (inner:List Nat) (a b:DV) (n:Nat):∀ v,v ∈ n7 inner (.d a) (.d b)→v.low1 n:=by
 intro v hv;unfold n7 at hv;rcases List.mem_append.1 hv with h | h
 ·exact p9 _ _ _ h
 ·simp at h;rcases h with rfl | rfl <;> trivial
theorem aoY (things:List (List Nat)):Vh things=(things.map L8).map fun r=>r.map AV.d:=by simp [Vh,L8]
theorem Zt {Q:AV→Prop} {st:St} {id n:Nat} {L:List (List Nat)} (hn:L.length=n) (hb:lk id st.hp=some ⟨22,1,Vh L⟩) (hq:Q (.tup [.d (.ro 1 (L.map L8)),.d (.int .i64 0)])):K9 Q (.tup [.own id 0 n n,.d (.int .i64 0)]) st :=
 Tk (o9 (m8 (C4 (es:=L.map L8) (by rw [hb,aoY]) trivial (by simp [hn]) (by simp [L8]))) (o9 (C7 trivial) E8)) rfl ae hq
theorem WX (inner:List Nat) (ps:List (List Nat)) (x c:List Nat) (e:Int) (things:List (List Nat)) (hi:inner.length=32) (hx:x.length≤100000) (he:e=0 ∨ e=1) (hc:d9 Tryz.prog 20 [r9 inner ps x] (fun r=>r=.tup [.d (nb c),.d (.int .i64 e)]))
  (hn:things.length≤1000) (hl:∀ y,y ∈ things→y.length≤100000) :
  d9 Tryz.prog 80 [r9 inner ps x,.d (.ro 1 (things.map L8))] (fun r=>r=F6 things x c e):=by
 refine s8 Tryz.func80 Tryz.ntmps80 (rs:=[.tmp 4,.tmp 5]) (by
  intro v hv;simp at hv;rcases hv with rfl | rfl
  ·exact O5 _ _ _
  ·trivial) ?_
 have hll:(n7 inner (.d (r6 ps)) (.d (nb x))).length=34:=D6 hi _ _;have hlt:=C9 hi (.d (r6 ps)) (.d (nb x));unfold r9 at *;unfold F6;rcases he with rfl | rfl
 ·rw [if_pos rfl];simp [go_sem,hll,hlt];refine a9 hc (Sv _ _ _) ?_;simp [go_sem]
  refine j6 (fun k:Nat=>⟨[(2,.ptr 0 0 0 1),(6,.d (nb c)),(8,.own 1000 0 k k),(19,.d (.ro 1 (things.map L8))),(20,.d (.int .i64 (things.length:Int))),(21,.d (.int .i64 (k:Int)))],[(0,⟨27,34,[n7 inner (.d (r6 ps)) (.d (nb x))]⟩),(1000,⟨22,1,Vh (things.take k)⟩)],1001⟩)
   (fun k=>k≤things.length) (fun k=>things.length - k) 0 aa (by
    simp [m6,c6,fv,lk,AV.low,AV.low1,Vh]
    exact aaK _ _ _ _) ?_
  intro k hk;simp [go_sem];refine ⟨fun h=>?_,fun h=>?_⟩
  ·obtain ⟨y,hy⟩:∃ y,things[k]?=some y:=⟨_,List.getElem?_eq_getElem h⟩;have w3:=m9 (k:=k) aa;have hkl:(Vh (things.take k)).length=k:=by simp [Vh];omega
   simp [go_sem,hy,L8];refine a9 (Sc y (by have:=hl y (List.mem_of_getElem? hy);omega)) ae ?_;simp [go_sem,hkl,w3];refine ⟨aa,?_⟩;refine c8 (k+1) aa aa ?_;have hrow:Vh (things.take (k+1))=Vh (things.take k) ++ [[.d (nb y)]]:=by rw [List.take_add_one,hy];simp [Vh]
   simp [m6,c6,fv,lk,AV.low,AV.low1,hrow];refine ⟨aaK _ _ _ _,fun r hr=>?_⟩;rcases hr with hr | rfl
   ·exact aoX _ _ r hr
   ·intro v hv;simp at hv;subst hv
    trivial
  ·have hkl:k=things.length:=aa;subst hkl;have hkl:(Vh things).length=things.length:=by simp [Vh]
   have e33:(n7 inner (.d (r6 ps)) (.d (nb x)))[33]?=some (.d (nb x)):=H5 hi _ _;simp [go_sem,e33];refine a9 (Sc x aa) ae ?_;simp [go_sem,hkl,d6];refine ⟨aa,?_⟩;exact Zt (L:=things ++ [x,c]) ab (by simp [lk,Vh]) ab
 ·rw [if_neg aa];simp [go_sem,hll,hlt];refine a9 hc (Sv _ _ _) ?_;simp [go_sem,d6];exact b7 ae rfl
theorem agv (inner:List Nat) (ps:List (List Nat)) (x c:List Nat) (things:List (List Nat)) (hi:inner.length=32) (hc:d9 Tryz.prog 21 [r9 inner ps x] (fun r=>r=.tup [.d (nb c),.d (.int .i64 0)])) (hn:things.length≤1000) :
  J9 Tryz.prog 82 1 [(0,⟨22,1,Vh things⟩)] [.own 0 0 things.length things.length,r9 inner ps x] (fun r hp'=>r=.tup [.own 0 0 (things.length+2) (things.length+2),.d (.int .i64 0)]∧lk 0 hp'=some ⟨22,1,Vh (things ++ [x,c])⟩):=by
 refine B9 Tryz.func82 (by kernel_rfl) rfl Tryz.ntmps82 (rs:=[.tmp 4,.tmp 5]) rfl (TG rfl) (by decide) ?_;have hll:(n7 inner (.d (r6 ps)) (.d (nb x))).length=34:=D6 hi _ _;have hlt:=C9 hi (.d (r6 ps)) (.d (nb x));have hkl:(Vh things).length=things.length:=by simp [Vh]
 unfold r9 at *;have e33:(n7 inner (.d (r6 ps)) (.d (nb x)))[33]?=some (.d (nb x)):=H5 hi _ _;simp [go_sem,hll,hlt];refine a9 hc (Sv _ _ _) ?_;simp [go_sem,e33,hkl,d6];exact ⟨aa,by simp [Vh]⟩
theorem agw (inner:List Nat) (ps:List (List Nat)) (x c:List Nat) (things:List (List Nat)) (hi:inner.length=32) (hc:d9 Tryz.prog 21 [r9 inner ps x] (fun r=>r=.tup [.d (nb c),.d (.int .i64 1)])) (hn:things.length≤1000) :
  J9 Tryz.prog 82 1 [(0,⟨22,1,Vh things⟩)] [.own 0 0 things.length things.length,r9 inner ps x] (fun r hp'=>r=.tup [.nil,.d (.int .i64 1)]∧lk 0 hp'=some ⟨22,1,Vh things⟩):=by
 refine B9 Tryz.func82 (by kernel_rfl) rfl Tryz.ntmps82 (rs:=[.tmp 4,.tmp 5]) rfl (TG rfl) (by decide) ?_;have hll:(n7 inner (.d (r6 ps)) (.d (nb x))).length=34:=D6 hi _ _;have hlt:=C9 hi (.d (r6 ps)) (.d (nb x));unfold r9 at *;simp [go_sem,hll,hlt];refine a9 hc (Sv _ _ _) ?_;simp [go_sem,d6]
theorem afd (inner:List Nat) (ps:List (List Nat)) (x c:List Nat) (e:Int) (hi:inner.length=32) (he:e=0 ∨ e=1) (hc:d9 Tryz.prog 21 [r9 inner ps x] (fun r=>r=.tup [.d (nb c),.d (.int .i64 e)])) :
  d9 Tryz.prog 82 [.nil,r9 inner ps x] (fun r=>r=F6 [] x c e):=by
 refine s8 Tryz.func82 Tryz.ntmps82 (rs:=[.tmp 4,.tmp 5]) (by
  intro v hv;simp at hv;rcases hv with rfl | rfl
  ·trivial
  ·exact O5 _ _ _) ?_
 have hll:(n7 inner (.d (r6 ps)) (.d (nb x))).length=34:=D6 hi _ _;have hlt:=C9 hi (.d (r6 ps)) (.d (nb x));unfold r9 at *;unfold F6;have e33:(n7 inner (.d (r6 ps)) (.d (nb x)))[33]?=some (.d (nb x)):=H5 hi _ _;rcases he with rfl | rfl
 ·rw [if_pos rfl];simp [go_sem,hll,hlt];refine a9 hc (Sv _ _ _) ?_;simp [go_sem,e33,d6];exact Zt (L:=[x,c]) rfl (by simp [lk,Vh]) rfl
 ·rw [if_neg aa];simp [go_sem,hll,hlt];refine a9 hc (Sv _ _ _) ?_;simp [go_sem,d6];exact b7 ae rfl
theorem Q5 (things:List (List Nat)) (x c:List Nat) (e:Int):F6 things x c e=.tup [.nil,.d (.int .i64 1)] ∨ F6 things x c e=.tup [.d (.ro 1 ((things ++ [x,c]).map L8)),.d (.int .i64 0)]:=by
 unfold F6
 split
 ·exact .inr rfl
 ·exact .inl rfl
theorem adj (inner:List Nat) (ps:List (List Nat)) (x:List Nat) (d:DV):∀ v,v ∈ [r9 inner ps x,AV.d d]→v.deep:=by
 intro v hv;simp at hv;rcases hv with rfl | rfl
 ·exact O5 _ _ _
 ·trivial
theorem afe (inner:List Nat) (ps:List (List Nat)) (x c:List Nat) (e:Int) (out:Int) (hi:inner.length=32) (hx:x.length≤100000) (he:e=0 ∨ e=1) (hc:d9 Tryz.prog 20 [r9 inner ps x] (fun r=>r=.tup [.d (nb c),.d (.int .i64 e)]))
  (h1:-9223372036854775808≤out) (h2:out<9223372036854775808) :
  d9 Tryz.prog 41 [r9 inner ps x,.d (.int .i64 out)] (fun r=>r=F6 [H2 out] x c e):=by
 refine s8 Tryz.func41 Tryz.ntmps41 (rs:=[.tmp 4,.tmp 5]) (adj _ _ _ _) ?_;have hlen:=M3 out;have hcl:=WX inner ps x c e [H2 out] hi hx he hc ab (by intro y hy;simp at hy;subst hy;omega);have hV:=Q5 [H2 out] x c e;generalize F6 [H2 out] x c e=V at *;have hll:(n7 inner (.d (r6 ps)) (.d (nb x))).length=34:=D6 hi _ _;have hlt:=C9 hi (.d (r6 ps)) (.d (nb x));have hld:(AV.agg (n7 inner (.d (r6 ps)) (.d (nb x)))).deep:=O5 _ _ _;unfold r9 at *;have he:=aaA out h1 h2;generalize H2 out=y at *;simp [go_sem,hll,hlt];refine z6 [0,1] [(2,[]),(3,[]),(4,[5,6,7,8])] 3 (k:=9) ?_;intro G hG;simp [go_sem,hll,hlt];refine a9 he ae ?_;simp [go_sem];refine B2 [192] hcl rfl (m7 (.deep hld) (m7 (.one (m8 (C4 (ty:=22) (e:=1) (es:=[y].map L8) (by simp [lk,L8,nb]) ab rfl (by simp [L8])))) t4)) ?_;rcases hV with rfl | rfl
 ·simp [go_sem,s7];refine hG _ _ ?_;clear hG G;simp [go_sem,d6];exact b7 ae rfl
 ·simp [go_sem,s7];refine hG _ _ ?_;clear hG G;simp [go_sem,d6];exact b7 ae rfl
theorem VK (inner rec:List Nat) (d:Int) (trig:List Nat) (sg t:List Nat) (o0 o1 back:Int):∀ v,v ∈ [AV.agg (t5 inner rec d trig),.d (nb sg),.agg (cb t),.agg [.d (.int .i64 o0),.d (.int .i64 o1)],.d (.int .i64 back)]→v.deep:=by
 intro v hv;simp at hv;rcases hv with rfl | rfl | rfl | rfl | rfl
 ·exact Rt _ _ _ _
 ·trivial
 ·exact s6 _
 ·simp [AV.deep,AV.deep1]
 ·trivial
theorem adk (inner rec:List Nat) (d:Int) (trig sg t:List Nat) (o0 o1 back:Int) (hi:inner.length=32) (ht:trig.length=32) (htl:t.length=32)
  (hp:d9 Tryz.prog 27 [.agg (t5 inner rec d trig)] (fun r=>r=.tup [.nil,.d (.int .i64 1)])) :
  d9 Tryz.prog 43 [.agg (t5 inner rec d trig),.d (nb sg),.agg (cb t),.agg [.d (.int .i64 o0),.d (.int .i64 o1)],.d (.int .i64 back)] (fun r=>r=.tup [.nil,.d (.int .i64 1)]):=by
 refine s8 Tryz.func43 Tryz.ntmps43 (rs:=[.tmp 10,.tmp 11]) (VK _ _ _ _ _ _ _ _ _) ?_;have hl:=x9 hi ht rec d;simp [go_sem,hl,i9 hi ht,d0,htl,d5 htl];refine a9 hp (x4 _ _ _ _) ?_;simp [go_sem,d6];exact b7 ae rfl
theorem adl (inner rec:List Nat) (d:Int) (trig sg t:List Nat) (o0 o1 back:Int) (hi:inner.length=32) (ht:trig.length=32) (htl:t.length=32) (hsl:sg.length≤100000)
  (hb:(-9223372036854775808≤back∧back<9223372036854775808)∧(-9223372036854775808≤o0∧o0<9223372036854775808)∧(-9223372036854775808≤o1∧o1<9223372036854775808)) (l0 l1:Lf)
  (hp:d9 Tryz.prog 27 [.agg (t5 inner rec d trig)] (fun r=>r=.tup [.d (.ro 34 [I3 inner l0,I3 inner l1]),.d (.int .i64 0)]))
  (c:List Nat) (e:Int) (hx:l1.2.length≤100000) (he:e=0 ∨ e=1) (hc:d9 Tryz.prog 20 [r9 inner l1.1 l1.2] (fun r=>r=.tup [.d (nb c),.d (.int .i64 e)])) :
  d9 Tryz.prog 43 [.agg (t5 inner rec d trig),.d (nb sg),.agg (cb t),.agg [.d (.int .i64 o0),.d (.int .i64 o1)],.d (.int .i64 back)] (fun r=>r=F6 [H2 back,H2 o1,H2 o0,t,sg] l1.2 c e):=by
 refine S6 Tryz.func43 (by kernel_rfl) rfl Tryz.ntmps43 (rs:=[.tmp 10,.tmp 11]) rfl (TG rfl) (VK _ _ _ _ _ _ _ _ _) ?_;have hl:=x9 hi ht rec d;have n0:=M3 back;have n1:=M3 o1;have n2:=M3 o0
 have hcl:=WX inner l1.1 l1.2 c e [H2 back,H2 o1,H2 o0,t,sg] hi hx he hc ab (by
  intro y hy;simp at hy
  rcases hy with rfl | rfl | rfl | rfl | rfl <;> omega)
 have hV:=Q5 [H2 back,H2 o1,H2 o0,t,sg] l1.2 c e;generalize F6 [H2 back,H2 o1,H2 o0,t,sg] l1.2 c e=V at *;have e0:=aaA back hb.1.1 hb.1.2;have e1:=aaA o1 hb.2.2.1 hb.2.2.2;have e2:=aaA o0 hb.2.1.1 hb.2.1.2;generalize H2 back=y0 at *;generalize H2 o1=y1 at *;generalize H2 o0=y2 at *;refine VW (G7 ?_);simp [go_sem,hl,i9 hi ht,d0,htl,d5 htl];simp only [X4];refine Ya (st':=⟨[(1,.d (nb sg)),(4,.d (.int .i64 back)),(5,.ptr 0 0 0 1),(7,.rop (cd t)),(8,.ptr 64 0 0 1)],[(0,⟨47,66,[t5 inner rec d trig]⟩),(64,⟨60,2,[[.d (.int .i64 o0),.d (.int .i64 o1)]]⟩)],9000⟩) (SD [32] [(7,.rop (cd t))] ?_ ?_) ?_
 ·intro p hp;simp only [List.mem_cons,List.mem_nil_iff,or_false] at hp;subst hp;exact .ptr ab rfl rfl rfl (by rw [List.drop_zero,← K4];exact O7 _)
 ·simp [m6,c6,fv,lk,s7,AV.low,AV.low1];exact Wq _ _ _ _ _
 refine G7 ?_
 have hts:List.map (fun c=>[c]) (List.take 32 (cd t))=t.map fun (b:Nat)=>[DV.int .u8 (b:Int)]:=by
  rw [List.take_of_length_le (by simp [C8,htl])];simp [cd]
 have hrow:=RG hi l1;simp [go_sem,hl,i9 hi ht];refine a9 hp (x4 _ _ _ _) ?_;simp [go_sem];refine z6 [0,1,2,3,5,6,8,9,11,12] [(4,[]),(7,[]),(10,[]),(13,[]),(14,[15,16,17,18])] 5 (k:=19) ?_;intro G hG;simp [go_sem,hrow,Sf,D6 hi,C9 hi,C8,htl,hts];refine a9 e0 ae ?_;simp [go_sem];refine a9 e1 ae ?_;simp [go_sem];refine a9 e2 ae ?_;simp [go_sem];refine B2 [9704] hcl rfl (m7 (.deep (O5 _ _ _)) (m7 (.one (m8 (C4 (ty:=22) (e:=1) (es:=[y0,y1,y2,t,sg].map L8) (by simp [lk,L8,nb]) ab rfl (by simp [L8])))) t4)) ?_;rcases hV with rfl | rfl
 ·simp [go_sem,s7];refine hG _ _ ?_;clear hG G;simp [go_sem,d6];exact b7 ae rfl
 ·simp [go_sem,s7];refine hG _ _ ?_;clear hG G;simp [go_sem,d6];exact b7 ae rfl
theorem WA (inner rec:List Nat) (d:Int) (trig t:List Nat) (hi:inner.length=32) (ht:trig.length=32) (htl:t.length=32)
  (hp:d9 Tryz.prog 29 [.agg (t5 inner rec d trig),.agg (cb t)] (fun r=>r=.tup [.nil,.d (.int .i64 1)])) :
  d9 Tryz.prog 45 [.agg (t5 inner rec d trig),.agg (cb t)] (fun r=>r=.tup [.nil,.d (.int .i64 1)]):=by
 refine s8 Tryz.func45 Tryz.ntmps45 (rs:=[.tmp 4,.tmp 5]) (H3 _ _ _ _ _) ?_;have hl:=x9 hi ht rec d;simp [go_sem,hl,i9 hi ht,d0,htl,d5 htl];refine a9 hp (H3 _ _ _ _ _) ?_;simp [go_sem,d6];exact b7 ae rfl
theorem aa0 (inner rec:List Nat) (d:Int) (trig t:List Nat) (hi:inner.length=32) (ht:trig.length=32) (htl:t.length=32) (l0 l1:Lf)
  (hp:d9 Tryz.prog 29 [.agg (t5 inner rec d trig),.agg (cb t)] (fun r=>r=.tup [.d (.ro 34 [I3 inner l0,I3 inner l1]),.d (.int .i64 0)]))
  (c:List Nat) (e:Int) (hx:l1.2.length≤100000) (he:e=0 ∨ e=1) (hc:d9 Tryz.prog 20 [r9 inner l1.1 l1.2] (fun r=>r=.tup [.d (nb c),.d (.int .i64 e)])) :
  d9 Tryz.prog 45 [.agg (t5 inner rec d trig),.agg (cb t)] (fun r=>r=F6 [] l1.2 c e):=by
 refine s8 Tryz.func45 Tryz.ntmps45 (rs:=[.tmp 4,.tmp 5]) (H3 _ _ _ _ _) ?_;have hl:=x9 hi ht rec d;have hcl:=WX inner l1.1 l1.2 c e [] hi hx he hc ab ab;have hV:=Q5 [] l1.2 c e;generalize F6 [] l1.2 c e=V at *;have hrow:=RG hi l1;simp [go_sem,hl,i9 hi ht,d0,htl,d5 htl];refine a9 hp (H3 _ _ _ _ _) ?_;simp [go_sem,hrow,Sf,D6 hi,C9 hi];refine B2 [] hcl rfl (m7 (.deep (O5 _ _ _)) (m7 (.one (m8 (.nil 1))) t4)) ?_;rcases hV with rfl | rfl
 ·simp [go_sem,d6];exact b7 ae rfl
 ·simp [go_sem,d6];exact b7 ae rfl
theorem aff (ρ:Nat→Nat) (inner:List Nat) (a b:DV):(AV.agg (n7 inner (.d a) (.d b))).ren ρ=.agg (n7 inner (.d a) (.d b)):=by
 rw [AV.ren,SJ,n7,List.map_append,aar];rfl
theorem Zu (ρ:Nat→Nat) (things:List (List Nat)):H1 ρ (Vh things)=Vh things:=by
 simp [H1,Vh,SJ,AV.ren]
theorem XT {N id:Nat} {K:AV→Hp→Prop} {pre:Hp} (inner:List Nat) (ps:List (List Nat)) (x c:List Nat) (things:List (List Nat)) (hi:inner.length=32) (hc:d9 Tryz.prog 21 [r9 inner ps x] (fun r=>r=.tup [.d (nb c),.d (.int .i64 0)])) (hn:things.length≤1000)
  (hpre:(pre.filter fun p=>!([id].contains p.1))=pre)
  (hK:K (.tup [.own id 0 (things.length+2) (things.length+2),.d (.int .i64 0)]) ((id,⟨22,1,Vh (things ++ [x,c])⟩) :: pre)) :
  ClW Tryz.prog 82 [.own id 0 things.length things.length,.agg (n7 inner (.d (r6 ps)) (.d (nb x)))] ((id,⟨22,1,Vh things⟩) :: pre) N K:=by
 refine G6 [(0,id)] (agv inner ps x c things hi hc hn) (by simp [X7]) ab (by simp [lk]) ?_ ?_ ?_
 ·intro p hp;simp only [List.mem_cons,List.mem_nil_iff,or_false] at hp;subst hp;exact ⟨id,⟨22,1,Vh things⟩,by simp [lk],by simp [lk],by simp [Blk.ren,Zu]⟩
 ·have e:=aff (J6 (TP [(0,id)]) 1) inner (r6 ps) (nb x);simp only [AV.renL,e,r9];simp [AV.ren,J6,TP,lk]
 ·rintro r hp' ⟨rfl,h0⟩;refine ⟨[],rfl,?_⟩
  have e:O0 [(0,id)] [] N hp' ((id,⟨22,1,Vh things⟩) :: pre)=(id,⟨22,1,Vh (things ++ [x,c])⟩) :: pre:=by
   simp [O0,L6,h0,Blk.ren,Zu]
   simpa using hpre
  rw [e]
  simpa [AV.ren,AV.renL,J6,L6,lk] using hK
theorem XU {N id:Nat} {K:AV→Hp→Prop} {pre:Hp} (inner:List Nat) (ps:List (List Nat)) (x c:List Nat) (things:List (List Nat)) (hi:inner.length=32) (hc:d9 Tryz.prog 21 [r9 inner ps x] (fun r=>r=.tup [.d (nb c),.d (.int .i64 1)])) (hn:things.length≤1000)
  (hpre:(pre.filter fun p=>!([id].contains p.1))=pre)
  (hK:K (.tup [.nil,.d (.int .i64 1)]) ((id,⟨22,1,Vh things⟩) :: pre)) :
  ClW Tryz.prog 82 [.own id 0 things.length things.length,.agg (n7 inner (.d (r6 ps)) (.d (nb x)))] ((id,⟨22,1,Vh things⟩) :: pre) N K:=by
 refine G6 [(0,id)] (agw inner ps x c things hi hc hn) (by simp [X7]) ab (by simp [lk]) ?_ ?_ ?_
 ·intro p hp;simp only [List.mem_cons,List.mem_nil_iff,or_false] at hp;subst hp;exact ⟨id,⟨22,1,Vh things⟩,by simp [lk],by simp [lk],by simp [Blk.ren,Zu]⟩
 ·have e:=aff (J6 (TP [(0,id)]) 1) inner (r6 ps) (nb x);simp only [AV.renL,e,r9];simp [AV.ren,J6,TP,lk]
 ·rintro r hp' ⟨rfl,h0⟩;refine ⟨[],rfl,?_⟩
  have e:O0 [(0,id)] [] N hp' ((id,⟨22,1,Vh things⟩) :: pre)=(id,⟨22,1,Vh things⟩) :: pre:=by
   simp [O0,L6,h0,Blk.ren,Zu]
   simpa using hpre
  rw [e]
  simpa [AV.ren,AV.renL] using hK
theorem adm (inner:List Nat) (ps:List (List Nat)) (x c:List Nat) (e:Int) (out:Int) (hi:inner.length=32) (he:e=0 ∨ e=1) (hc:d9 Tryz.prog 21 [r9 inner ps x] (fun r=>r=.tup [.d (nb c),.d (.int .i64 e)]))
  (h1:-9223372036854775808≤out) (h2:out<9223372036854775808) :
  d9 Tryz.prog 42 [r9 inner ps x,.d (.int .i64 out)] (fun r=>r=F6 [H2 out] x c e):=by
 refine s8 Tryz.func42 Tryz.ntmps42 (rs:=[.tmp 4,.tmp 5]) (adj _ _ _ _) ?_;have hll:(n7 inner (.d (r6 ps)) (.d (nb x))).length=34:=D6 hi _ _;have hlt:=C9 hi (.d (r6 ps)) (.d (nb x));have hen:=XQ out h1 h2;generalize H2 out=y at *;unfold F6;rcases he with rfl | rfl
 ·have hcl:=fun N K pre=>XT (N:=N) (id:=160) (K:=K) (pre:=pre) inner ps x c [y] hi hc ab;rw [if_pos rfl];unfold r9 at *;simp [go_sem,hll,hlt];refine z6 [0,3] [(1,[]),(2,[]),(4,[5,6,7,8])] 3 (k:=9) ?_;intro G hG;simp [go_sem,hll,hlt];refine a9 hen ae ?_;simp [go_sem,hll,hlt];refine hcl _ _ _ ab ?_;simp [go_sem];refine hG _ _ ?_;clear hG G;simp [go_sem,d6];exact Zt (L:=[y,x,c]) rfl (by simp [lk,Vh]) ab
 ·have hcl:=fun N K pre=>XU (N:=N) (id:=160) (K:=K) (pre:=pre) inner ps x c [y] hi hc ab;rw [if_neg aa];unfold r9 at *;simp [go_sem,hll,hlt];refine z6 [0,3] [(1,[]),(2,[]),(4,[5,6,7,8])] 3 (k:=9) ?_;intro G hG;simp [go_sem,hll,hlt];refine a9 hen ae ?_;simp [go_sem,hll,hlt];refine hcl _ _ _ ab ?_;simp [go_sem];refine hG _ _ ?_;clear hG G;simp [go_sem,d6];exact b7 ae rfl
theorem adn (inner rec:List Nat) (d:Int) (trig sg t:List Nat) (o0 o1 back:Int) (hi:inner.length=32) (ht:trig.length=32) (htl:t.length=32)
  (hp:d9 Tryz.prog 28 [.agg (t5 inner rec d trig)] (fun r=>r=.tup [.nil,.d (.int .i64 1)])) :
  d9 Tryz.prog 44 [.agg (t5 inner rec d trig),.d (nb sg),.agg (cb t),.agg [.d (.int .i64 o0),.d (.int .i64 o1)],.d (.int .i64 back)] (fun r=>r=.tup [.nil,.d (.int .i64 1)]):=by
 refine s8 Tryz.func44 Tryz.ntmps44 (rs:=[.tmp 10,.tmp 11]) (VK _ _ _ _ _ _ _ _ _) ?_;have hl:=x9 hi ht rec d;simp [go_sem,hl,i9 hi ht,d0,htl,d5 htl];refine a9 hp (x4 _ _ _ _) ?_;simp [go_sem,d6];exact b7 ae rfl
theorem ado (inner rec:List Nat) (d:Int) (trig sg t:List Nat) (o0 o1 back:Int) (hi:inner.length=32) (ht:trig.length=32) (htl:t.length=32) (hsl:sg.length≤100000)
  (hb:(-9223372036854775808≤back∧back<9223372036854775808)∧(-9223372036854775808≤o0∧o0<9223372036854775808)∧(-9223372036854775808≤o1∧o1<9223372036854775808)) (l0 l1:Lf)
  (hp:d9 Tryz.prog 28 [.agg (t5 inner rec d trig)] (fun r=>r=.tup [.d (.ro 34 [I3 inner l0,I3 inner l1]),.d (.int .i64 0)]))
  (c:List Nat) (e:Int) (he:e=0 ∨ e=1) (hc:d9 Tryz.prog 21 [r9 inner l1.1 l1.2] (fun r=>r=.tup [.d (nb c),.d (.int .i64 e)])) :
  d9 Tryz.prog 44 [.agg (t5 inner rec d trig),.d (nb sg),.agg (cb t),.agg [.d (.int .i64 o0),.d (.int .i64 o1)],.d (.int .i64 back)] (fun r=>r=F6 [H2 back,H2 o1,H2 o0,t,sg] l1.2 c e):=by
 refine S6 Tryz.func44 (by kernel_rfl) rfl Tryz.ntmps44 (rs:=[.tmp 10,.tmp 11]) rfl (TG rfl) (VK _ _ _ _ _ _ _ _ _) ?_;have hl:=x9 hi ht rec d;have n0:=M3 back;have n1:=M3 o1;have n2:=M3 o0;unfold F6;have e0:=XQ back hb.1.1 hb.1.2;have e1:=XQ o1 hb.2.2.1 hb.2.2.2;have e2:=XQ o0 hb.2.1.1 hb.2.1.2;generalize H2 back=y0 at *;generalize H2 o1=y1 at *;generalize H2 o0=y2 at *;refine VW (G7 ?_);simp [go_sem,hl,i9 hi ht,d0,htl,d5 htl];simp only [X4];refine Ya (st':=⟨[(1,.d (nb sg)),(4,.d (.int .i64 back)),(5,.ptr 0 0 0 1),(7,.rop (cd t)),(8,.ptr 64 0 0 1)],[(0,⟨47,66,[t5 inner rec d trig]⟩),(64,⟨60,2,[[.d (.int .i64 o0),.d (.int .i64 o1)]]⟩)],9000⟩) (SD [32] [(7,.rop (cd t))] ?_ ?_) ?_
 ·intro p hp;simp only [List.mem_cons,List.mem_nil_iff,or_false] at hp;subst hp;exact .ptr ab rfl rfl rfl (by rw [List.drop_zero,← K4];exact O7 _)
 ·simp [m6,c6,fv,lk,s7,AV.low,AV.low1];exact Wq _ _ _ _ _
 refine G7 ?_
 have hts:List.map (fun c=>[c]) (List.take 32 (cd t))=t.map fun (b:Nat)=>[DV.int .u8 (b:Int)]:=by
  rw [List.take_of_length_le (by simp [C8,htl])];simp [cd]
 have hrow:=RG hi l1;simp [go_sem,hl,i9 hi ht];refine a9 hp (x4 _ _ _ _) ?_;simp [go_sem];refine z6 [0,2,3,5,6,8,9,11,12,13] [(1,[]),(4,[]),(7,[]),(10,[]),(14,[15,16,17,18])] 5 (k:=19) ?_;intro G hG;simp [go_sem,hrow,Sf,D6 hi,C9 hi,C8,htl,hts];refine a9 e0 ae ?_;simp [go_sem];refine a9 e1 ae ?_;simp [go_sem];refine a9 e2 ae ?_;simp [go_sem,hrow,Sf,D6 hi,C9 hi];rcases he with rfl | rfl
 ·have hcl:=fun N K pre=>XT (N:=N) (id:=9608) (K:=K) (pre:=pre) inner l1.1 l1.2 c [y0,y1,y2,t,sg] hi hc ab;refine hcl _ _ _ ab ?_;simp [go_sem];refine hG _ _ ?_;clear hG G;rw [if_pos rfl];simp [go_sem,d6];exact Zt (L:=[y0,y1,y2,t,sg,l1.2,c]) rfl (by simp [lk,Vh]) ab
 ·have hcl:=fun N K pre=>XU (N:=N) (id:=9608) (K:=K) (pre:=pre) inner l1.1 l1.2 c [y0,y1,y2,t,sg] hi hc ab;refine hcl _ _ _ ab ?_;simp [go_sem];refine hG _ _ ?_;clear hG G;rw [if_neg aa];simp [go_sem,d6];exact b7 ae rfl
theorem WB (inner rec:List Nat) (d:Int) (trig t:List Nat) (hi:inner.length=32) (ht:trig.length=32) (htl:t.length=32)
  (hp:d9 Tryz.prog 30 [.agg (t5 inner rec d trig),.agg (cb t)] (fun r=>r=.tup [.nil,.d (.int .i64 1)])) :
  d9 Tryz.prog 46 [.agg (t5 inner rec d trig),.agg (cb t)] (fun r=>r=.tup [.nil,.d (.int .i64 1)]):=by
 refine s8 Tryz.func46 Tryz.ntmps46 (rs:=[.tmp 4,.tmp 5]) (H3 _ _ _ _ _) ?_;have hl:=x9 hi ht rec d;simp [go_sem,hl,i9 hi ht,d0,htl,d5 htl];refine a9 hp (H3 _ _ _ _ _) ?_;simp [go_sem,d6];exact b7 ae rfl
theorem aa1 (inner rec:List Nat) (d:Int) (trig t:List Nat) (hi:inner.length=32) (ht:trig.length=32) (htl:t.length=32) (l0 l1:Lf)
  (hp:d9 Tryz.prog 30 [.agg (t5 inner rec d trig),.agg (cb t)] (fun r=>r=.tup [.d (.ro 34 [I3 inner l0,I3 inner l1]),.d (.int .i64 0)]))
  (c:List Nat) (e:Int) (he:e=0 ∨ e=1) (hc:d9 Tryz.prog 21 [r9 inner l1.1 l1.2] (fun r=>r=.tup [.d (nb c),.d (.int .i64 e)])) :
  d9 Tryz.prog 46 [.agg (t5 inner rec d trig),.agg (cb t)] (fun r=>r=F6 [] l1.2 c e):=by
 refine s8 Tryz.func46 Tryz.ntmps46 (rs:=[.tmp 4,.tmp 5]) (H3 _ _ _ _ _) ?_;have hl:=x9 hi ht rec d;have hcl:=afd inner l1.1 l1.2 c e hi he hc;have hV:=Q5 [] l1.2 c e;generalize F6 [] l1.2 c e=V at *;have hrow:=RG hi l1;simp [go_sem,hl,i9 hi ht,d0,htl,d5 htl];refine a9 hp (H3 _ _ _ _ _) ?_;simp [go_sem,hrow,Sf,D6 hi,C9 hi]
 refine a9 hcl (by
  intro v hv;simp at hv;rcases hv with rfl | rfl
  ·trivial
  ·exact O5 _ _ _) ?_
 rcases hV with rfl | rfl
 ·simp [go_sem,d6];exact b7 ae rfl
 ·simp [go_sem,d6];exact b7 ae rfl
theorem agx:d9 Tryz.prog 47 [.nil,.nil] (fun r=>r=.d (.bool true)):=by
 refine s8 Tryz.func47 Tryz.ntmps47 (rs:=[.tmp 4]) ae ?_;simp [go_sem];refine j6 (fun k:Nat=>⟨[(0,.nil),(5,.d (.int .i64 0))],[],3000⟩) (fun k=>True) (fun k=>0) 0 trivial (by simp [m6,c6,fv,lk,AV.low,AV.low1]) ?_;intro k _;simp [go_sem,d6];exact b7 ae rfl
theorem ai0 (ls:List (List Nat)) (hn:ls.length≤1000) (hls:∀ l,l ∈ ls→bytes l) :
  d9 Tryz.prog 47 [.d (.ro 1 (ls.map L8)),.d (.ro 1 (ls.map L8))] (fun r=>r=.d (.bool true)):=by
 refine s8 Tryz.func47 Tryz.ntmps47 (rs:=[.tmp 4]) ae ?_;simp [go_sem]
 refine j6 (fun k:Nat=>⟨[(0,.d (.ro 1 (ls.map L8))),(1,.d (.ro 1 (ls.map L8))),(5,.d (.int .i64 (k:Int)))],[],3000⟩)
  (fun k=>k≤ls.length) (fun k=>ls.length - k) 0 aa (by simp [m6,c6,fv,lk,AV.low,AV.low1]) ?_
 intro k hk;simp [go_sem];refine ⟨fun h=>?_,fun h=>?_⟩
 ·have hkn:k<ls.length:=aa;obtain ⟨l,hl⟩:∃ l,ls[k]?=some l:=⟨_,List.getElem?_eq_getElem aa⟩;have hb:=hls l (List.mem_of_getElem? hl);have w3:=m9 (k:=k) aa;refine z6 [0,1,2,3,4,5,6,7,8,9,10] [] 0 (k:=11) ?_;intro G hG;simp [go_sem,hl,L8,nb];refine af7 l 5 hb (by simp [go_sem]) (by simp [go_sem]) Tryz.underlying5 ?_;simp [go_sem,hl,L8,nb];refine af7 l 5 hb (by simp [go_sem]) (by simp [go_sem]) Tryz.underlying5 ?_;simp [go_sem];refine hG _ _ ?_;clear hG G;simp [go_sem,w3];refine c8 (k+1) aa aa ?_;simp [m6,c6,fv,lk,AV.low,AV.low1,L8,nb]
 ·exact b7 ae rfl
def okW (V:AV):Prop:=∃ (a:AV) (b:Int),V=.tup [a,.d (.int .i64 b)]∧∀ (hp:Hp) (N:Nat) (K:AV→Hp→Prop),K (.d (.bool true)) hp→ClW Tryz.prog 47 [a,a] hp N K
theorem Zv:okW (.tup [.nil,.d (.int .i64 1)]):=⟨_,_,rfl,fun hp N K h=>by
 refine a9 agx ae ?_
 exact h⟩
theorem agy {things:List (List Nat)} {x c:List Nat} (e:Int) (hn:things.length≤900) (ht:∀ y,y ∈ things→bytes y) (hx:bytes x) (hc:bytes c):okW (F6 things x c e):=by
 rcases Q5 things x c e with h | h
 ·rw [h];exact Zv
 ·rw [h];refine ⟨_,_,rfl,fun hp N K hK=>?_⟩;refine a9 (ai0 (things ++ [x,c]) (by simp;omega) (fun l hl=>?_)) ae hK;simp at hl;rcases hl with hl | rfl | rfl
  ·exact ht l hl
  ·exact hx
  ·exact hc
def Vi (sg t:List Nat) (o0 o1 back:Int):List AV:=.d (nb sg) :: (cb t ++ [.d (.int .i64 o0),.d (.int .i64 o1),.d (.int .i64 back)])
theorem aoZ (inner:List Nat) (ps:List (List Nat)) (x:List Nat) (out:Int) (hi:inner.length=32) (hib:bytes inner) (hp:∀ p,p ∈ ps→p.length=32∧bytes p) (hps:ps.length≤1000) (hx:x.length≤100000) (hxb:bytes x) (h1:-9223372036854775808≤out) (h2:out<9223372036854775808) :
  ∃ V,okW V∧d9 Tryz.prog 41 [r9 inner ps x,.d (.int .i64 out)] (fun r=>r=V)∧d9 Tryz.prog 42 [r9 inner ps x,.d (.int .i64 out)] (fun r=>r=V):=by
 obtain ⟨c,e,he,hcb,g1,g2⟩:=aaJ inner ps x hi hib hp hps hx hxb;exact ⟨F6 [H2 out] x c e,agy e ab (by intro y hy;simp at hy;subst hy;exact L9 out) hxb hcb,afe inner ps x c e out hi hx he g1 h1 h2,adm inner ps x c e out hi he g2 h1 h2⟩
theorem amr (inner rec:List Nat) (d:Int) (trig sg t:List Nat) (o0 o1 back:Int) (hi:inner.length=32) (hib:bytes inner) (hrb:bytes rec) (hrl:rec.length≤100000) (ht:trig.length=32) (htb:bytes trig) (htl:t.length=32) (httb:bytes t) (hsl:sg.length≤100000) (hsb:bytes sg)
  (h1:-9223372036854775808≤d) (h2:d<9223372036854775808)
  (hb:(-9223372036854775808≤back∧back<9223372036854775808)∧(-9223372036854775808≤o0∧o0<9223372036854775808)∧(-9223372036854775808≤o1∧o1<9223372036854775808)) :
  ∃ V,okW V∧d9 Tryz.prog 43 [.agg (t5 inner rec d trig),.d (nb sg),.agg (cb t),.agg [.d (.int .i64 o0),.d (.int .i64 o1)],.d (.int .i64 back)] (fun r=>r=V) ∧
   d9 Tryz.prog 44 [.agg (t5 inner rec d trig),.d (nb sg),.agg (cb t),.agg [.d (.int .i64 o0),.d (.int .i64 o1)],.d (.int .i64 back)] (fun r=>r=V):=by
 have bX:=U4 rec;have bY:=TW d ht htb;have lX:=Uw rec;have lY:=Ux d ht
 obtain ⟨O1,E1,hOE1⟩:=XP inner [o4 (D0 rec),o4 (D8 trig d)] hi hib (by
  intro x hx;simp at hx;rcases hx with rfl | rfl
  ·exact bX
  ·exact bY) (by
  intro x hx;simp at hx
  rcases hx with rfl | rfl <;> omega)
 have pL:=U0 inner rec d trig hi ht htb h1 h2 O1 E1 (fun l hl=>(hOE1 l hl).2.1);have rL:=aaH inner rec d trig hi hib ht htb hrb hrl h1 h2 O1 E1 (fun l hl=>(hOE1 l hl).1) (fun l hl=>(hOE1 l hl).2.2);rcases T9 inner rec d trig E1 with h | ⟨_,_,_,h⟩
 ·rw [h] at pL rL;exact ⟨_,Zv,adk inner rec d trig sg t o0 o1 back hi ht htl pL,adn inner rec d trig sg t o0 o1 back hi ht htl rL⟩
 ·rw [h] at pL rL;obtain ⟨q1,q2,q3⟩:=Zr (xs:=[o4 (D0 rec),o4 (D8 trig d)]) (l:=(A7 [o4 (D0 rec),o4 (D8 trig d)] 1,o4 (D8 trig d))) (by simp [Tc]);obtain ⟨c,e,he,hcb,g1,g2⟩:=aaJ inner _ _ hi hib q1 aa (by omega:(o4 (D8 trig d)).length≤100000) bY
  exact ⟨_,agy e ab (by
   intro y hy;simp at hy;rcases hy with rfl | rfl | rfl | rfl | rfl
   ·exact L9 _
   ·exact L9 _
   ·exact L9 _
   ·exact httb
   ·exact hsb) bY hcb,adl inner rec d trig sg t o0 o1 back hi ht htl hsl hb _ _ pL c e (by omega:(o4 (D8 trig d)).length≤100000) he g1,ado inner rec d trig sg t o0 o1 back hi ht htl hsl hb _ _ rL c e he g2⟩
theorem ams (inner rec:List Nat) (d:Int) (trig t:List Nat) (hi:inner.length=32) (hib:bytes inner) (hrb:bytes rec) (hrl:rec.length≤100000) (ht:trig.length=32) (htb:bytes trig) (htl:t.length=32) (httb:bytes t)
  (h1:-9223372036854775808≤d) (h2:d<9223372036854775808) :
  ∃ V,okW V∧d9 Tryz.prog 45 [.agg (t5 inner rec d trig),.agg (cb t)] (fun r=>r=V)∧d9 Tryz.prog 46 [.agg (t5 inner rec d trig),.agg (cb t)] (fun r=>r=V):=by
 have bX:=U4 rec;have bY1:=TW d ht htb;have bY2:=YU d htl httb;have lX:=Uw rec;have lY1:=Ux d ht;have lY2:=Yz d htl
 obtain ⟨O1,E1,hOE1⟩:=XP inner [o4 (D0 rec),o4 (D8 trig d)] hi hib (by
  intro x hx;simp at hx;rcases hx with rfl | rfl
  ·exact bX
  ·exact bY1) (by
  intro x hx;simp at hx
  rcases hx with rfl | rfl <;> omega)
 obtain ⟨O2,E2,hOE2⟩:=XP inner [o4 (D0 rec),o4 (D2 t d)] hi hib (by
  intro x hx;simp at hx;rcases hx with rfl | rfl
  ·exact bX
  ·exact bY2) (by
  intro x hx;simp at hx
  rcases hx with rfl | rfl <;> omega)
 have pL:=U0 inner rec d trig hi ht htb h1 h2 O1 E1 (fun l hl=>(hOE1 l hl).2.1);have rL:=aaH inner rec d trig hi hib ht htb hrb hrl h1 h2 O1 E1 (fun l hl=>(hOE1 l hl).1) (fun l hl=>(hOE1 l hl).2.2);rcases T9 inner rec d trig E1 with h | ⟨a1,a2,a3,h⟩
 ·rw [h] at pL rL;have pP:=VJ inner rec d trig t hi ht htl httb h1 h2 _ (.inl rfl) pL O2 E2 (fun l hl=>(hOE2 l hl).2.1);have rP:=YW inner rec d trig t hi hib ht htl httb hrb hrl h1 h2 _ (.inl rfl) rL O2 E2 (fun l hl=>(hOE2 l hl).1) (fun l hl=>(hOE2 l hl).2.2);simp only [okV,Bool.false_eq_true,↓reduceIte] at pP rP;exact ⟨_,Zv,WA inner rec d trig t hi ht htl pP,WB inner rec d trig t hi ht htl rP⟩
 ·rw [h] at pL rL;have pP:=VJ inner rec d trig t hi ht htl httb h1 h2 _ (.inr ⟨a3,_,rfl⟩) pL O2 E2 (fun l hl=>(hOE2 l hl).2.1);have rP:=YW inner rec d trig t hi hib ht htl httb hrb hrl h1 h2 _ (.inr ⟨⟨a1,a2,a3⟩,_,rfl⟩) rL O2 E2 (fun l hl=>(hOE2 l hl).1) (fun l hl=>(hOE2 l hl).2.2);simp only [okV,↓reduceIte] at pP rP;unfold C6 at pP rP
  split at pP
  ·rename_i hbad;rw [if_pos hbad] at rP;exact ⟨_,Zv,WA inner rec d trig t hi ht htl pP,WB inner rec d trig t hi ht htl rP⟩
  ·rename_i hbad;rw [if_neg hbad] at rP;obtain ⟨q1,q2,q3⟩:=Zr (xs:=[o4 (D0 rec),o4 (D2 t d)]) (l:=(A7 [o4 (D0 rec),o4 (D2 t d)] 1,o4 (D2 t d))) (by simp [Tc]);obtain ⟨c,e,he,hcb,g1,g2⟩:=aaJ inner _ _ hi hib q1 aa (by omega:(o4 (D2 t d)).length≤100000) bY2;exact ⟨_,agy e ab ab bY2 hcb,aa0 inner rec d trig t hi ht htl _ _ pP c e (by omega:(o4 (D2 t d)).length≤100000) he g1,aa1 inner rec d trig t hi ht htl _ _ rP c e he g2⟩
theorem ahZ {t:List Nat} (ht:t.length=32) (sg:List Nat) (o0 o1 back:Int):(Vi sg t o0 o1 back).length=36:=by simp [Vi,d0,ht]
theorem amt {t:List Nat} (ht:t.length=32) (sg:List Nat) (o0 o1 back:Int):List.take 36 (Vi sg t o0 o1 back)=Vi sg t o0 o1 back:=List.take_of_length_le (by rw [ahZ ht];exact Nat.le_refl _)
theorem auK {t:List Nat} (ht:t.length=32) (sg:List Nat) (o0 o1 back:Int):List.take 32 (List.drop 1 (Vi sg t o0 o1 back))=cb t:=by
 have hl:(cb t).length=32:=by rw [d0,ht]
 simp [Vi,List.take_append,hl]
theorem auL {t:List Nat} (ht:t.length=32) (sg:List Nat) (o0 o1 back:Int):List.take 2 (List.drop 33 (Vi sg t o0 o1 back))=[.d (.int .i64 o0),.d (.int .i64 o1)]:=by
 have hl:(cb t).length=32:=by rw [d0,ht]
 simp [Vi,List.drop_append,hl]
theorem auM {t:List Nat} (ht:t.length=32) (sg:List Nat) (o0 o1 back:Int):(Vi sg t o0 o1 back)[35]?=some (.d (.int .i64 back)):=by
 have hl:(cb t).length=32:=by rw [d0,ht]
 simp [Vi,List.getElem?_append_right,hl]
theorem adp {l:List AV} {n:Nat} {v:AV} (h:l[n]?=some v) (hl:n<l.length):l[n]=v:=by
 rw [List.getElem?_eq_getElem hl] at h;exact Option.some.inj h
theorem amu (sg t:List Nat) (o0 o1 back:Int):(AV.agg (Vi sg t o0 o1 back)).deep:=by
 intro c hc;simp only [Vi,List.mem_cons,List.mem_append] at hc;rcases hc with rfl | hc | rfl | rfl | rfl | hc
 ·trivial
 ·exact s6 _ _ hc
 ·trivial
 ·trivial
 ·trivial
 ·simp at hc
theorem ao0 (inner rec:List Nat) (d:Int) (trig:List Nat) (inn:List Nat) (ps:List (List Nat)) (x:List Nat) (sg t:List Nat) (o0 o1 back:Int) (hi:inner.length=32) (hib:bytes inner) (hrb:bytes rec) (ht:trig.length=32) (htb:bytes trig) (h1:-9223372036854775808≤d) (h2:d<9223372036854775808)
  (hj:inn.length=32) (hjb:bytes inn) (hp:∀ p,p ∈ ps→p.length=32∧bytes p) (hxb:bytes x) (hsb:bytes sg) (htl:t.length=32) (httb:bytes t)
  (hb:(-9223372036854775808≤back∧back<9223372036854775808)∧(-9223372036854775808≤o0∧o0<9223372036854775808)∧(-9223372036854775808≤o1∧o1<9223372036854775808)) :
  d9 Tryz.prog 9 [.agg (t5 inner rec d trig),r9 inn ps x,.agg (Vi sg t o0 o1 back)] (fun r=>r=.d (.bool true)):=by
 refine s8 Tryz.func9 Tryz.ntmps9 (rs:=[.tmp 6]) (by
  intro v hv;simp at hv;rcases hv with rfl | rfl | rfl
  ·exact Rt _ _ _ _
  ·exact O5 _ _ _
  ·exact amu _ _ _ _ _) ?_
 have hl:=x9 hi ht rec d;have g32:=Ut hi rec d trig;have e32:=Ur hi rec d trig;have hll:(n7 inn (.d (r6 ps)) (.d (nb x))).length=34:=D6 hj _ _;have hlt:=C9 hj (.d (r6 ps)) (.d (nb x));have e33:(n7 inn (.d (r6 ps)) (.d (nb x)))[33]?=some (.d (nb x)):=H5 hj _ _;have f32:(n7 inn (.d (r6 ps)) (.d (nb x)))[32]?=some (.d (r6 ps)):=D4 hj _ _;have sl:=ahZ htl sg o0 o1 back;have st:=amt htl sg o0 o1 back;have s1:=auK htl sg o0 o1 back;have s1t:List.take 32 (Vi sg t o0 o1 back).tail=cb t:=by rw [← List.drop_one];exact s1
 have s2:=auL htl sg o0 o1 back;have s3:=auM htl sg o0 o1 back;have s0:(Vi sg t o0 o1 back)[0]?=some (.d (nb sg)):=rfl;have s0h:(Vi sg t o0 o1 back).head?=some (.d (nb sg)):=rfl;simp only [nb,r6] at s0h;simp only [nb,r6] at hll hlt e33 f32 s0;have h33:=adp e33;have h32:=adp f32;have z0:=adp s0;have z3:=adp s3;by_cases c1:600<rec.length
 ·have i1:(600:Int)<(rec.length:Int):=aa;unfold r9;simp [go_sem,hl,i9 hi ht,hll,hlt,sl,st,e32,g32,nb,r6,i1,c1];refine a9 TD ab ?_;simp [go_sem,d6];exact b7 ae rfl
 have i1:¬ (600:Int)<(rec.length:Int):=aa;by_cases c2:600<x.length
 ·have i2:(600:Int)<(x.length:Int):=aa;unfold r9;simp [go_sem,hl,i9 hi ht,hll,hlt,sl,st,e32,g32,e33,h33,nb,r6,i1,c1,i2,c2];refine a9 TD ab ?_;simp [go_sem,d6];exact b7 ae rfl
 have i2:¬ (600:Int)<(x.length:Int):=aa;by_cases c3:12<ps.length
 ·have i3:(12:Int)<(ps.length:Int):=aa;unfold r9;simp [go_sem,hl,i9 hi ht,hll,hlt,sl,st,e32,g32,e33,h33,f32,h32,nb,r6,i1,c1,i2,c2,i3,c3];refine a9 TD ab ?_;simp [go_sem,d6];exact b7 ae rfl
 have i3:¬ (12:Int)<(ps.length:Int):=aa;by_cases c4:600<sg.length
 ·have i4:(600:Int)<(sg.length:Int):=aa;unfold r9;simp [go_sem,hl,i9 hi ht,hll,hlt,sl,st,e32,g32,e33,h33,f32,h32,s0,z0,s0h,nb,r6,i1,c1,i2,c2,i3,c3,i4,c4];refine a9 TD ab ?_;simp [go_sem,d6];exact b7 ae rfl
 have i4:¬ (600:Int)<(sg.length:Int):=aa;obtain ⟨V1,⟨a1,b1,rfl,k1⟩,p1,r1⟩:=aoZ inn ps x back hj hjb hp aa aa hxb hb.1.1 hb.1.2;obtain ⟨V2,⟨a2,b2,rfl,k2⟩,p2,r2⟩:=amr inner rec d trig sg t o0 o1 back hi hib hrb aa ht htb htl httb aa hsb h1 h2 hb;obtain ⟨V3,⟨a3,b3,rfl,k3⟩,p3,r3⟩:=ams inner rec d trig t hi hib hrb aa ht htb htl httb h1 h2;unfold r9 at *;simp only [nb,r6] at p1 r1 p2 r2;have d1:=adj inn ps x (.int .i64 back);have d2:=VK inner rec d trig sg t o0 o1 back;unfold r9 at d1;simp only [nb,r6] at d1 d2;simp [go_sem,hl,i9 hi ht,hll,hlt,sl,st,e32,g32,e33,h33,f32,h32,s0,z0,s0h,nb,r6,i1,c1,i2,c2,i3,c3,i4,c4,s3,z3];refine a9 p1 d1 ?_;simp [go_sem,hl,i9 hi ht,hll,hlt,sl,st,e32,g32,e33,h33,f32,h32,s0,z0,s0h,nb,r6,s1,s1t,s2,s3,z3,d0,htl];refine a9 r1 d1 ?_;simp [go_sem,hl,i9 hi ht,hll,hlt,sl,st,e32,g32,e33,h33,f32,h32,s0,z0,s0h,nb,r6,s1,s1t,s2,s3,z3,d0,htl];refine a9 p2 d2 ?_;simp [go_sem,hl,i9 hi ht,hll,hlt,sl,st,e32,g32,e33,h33,f32,h32,s0,z0,s0h,nb,r6,s1,s1t,s2,s3,z3,d0,htl];refine a9 r2 d2 ?_;simp [go_sem,hl,i9 hi ht,hll,hlt,sl,st,e32,g32,e33,h33,f32,h32,s0,z0,s0h,nb,r6,s1,s1t,s2,s3,z3,d0,htl];refine a9 p3 (H3 _ _ _ _ _) ?_;simp [go_sem,hl,i9 hi ht,hll,hlt,sl,st,e32,g32,e33,h33,f32,h32,s0,z0,s0h,nb,r6,s1,s1t,s2,s3,z3,d0,htl];refine a9 r3 (H3 _ _ _ _ _) ?_;simp [go_sem,hl,i9 hi ht,hll,hlt,sl,st,e32,g32,e33,h33,f32,h32,s0,z0,s0h,nb,r6,s1,s1t,s2,s3,z3,d0,htl];refine a9 TD ab ?_;simp [go_sem];refine k1 _ _ _ ?_;simp [go_sem];refine k2 _ _ _ ?_;simp [go_sem];refine k3 _ _ _ ?_;simp [go_sem,d6];exact b7 ae rfl
theorem Zw {n:Nat} {ds:List DV} (h:UF Tryz.prog (n+1) 2 ds):∃ x:Int,ds=[.int .i64 x]∧-9223372036854775808≤x∧x<9223372036854775808:=by
 rw [UF] at h;simp only [Tryz.underlying2] at h;obtain ⟨x,rfl,hx⟩:=h;have hx':-9223372036854775808≤x∧x<9223372036854775808:=by simp [IntKind.has,IntKind.min,IntKind.max,IntKind.signed,IntKind.bits] at hx;omega
 exact ⟨x,rfl,hx'⟩
theorem amv {n:Nat} {a:AV} (h:Xk Tryz.prog (n+4) 47 a):∃ (inner rec:List Nat) (d:Int) (trig:List Nat),a=.agg (t5 inner rec d trig)∧inner.length=32∧bytes inner∧bytes rec∧(-9223372036854775808≤d∧d<9223372036854775808)∧trig.length=32∧bytes trig:=by
 unfold Xk at h;simp only [Tryz.underlying47] at h;obtain ⟨ds,rfl,h⟩:=h;rw [UF] at h;simp only [Tryz.underlying47,List.map_cons,List.map_nil] at h;obtain ⟨a,b,rfl,ha,ha2,a',b',rfl,hb,hb2,a3,b3,rfl,hc,hc2,a4,b4,rfl,hd,hd2,rfl⟩:=h;obtain ⟨inner,rfl,h1,h2⟩:=ZX ha2;rw [show Tryz.prog.cellsOf 22=1 by kernel_rfl] at hb;obtain ⟨d,rfl,h3⟩:=Zw hc2;obtain ⟨trig,rfl,h5,h6⟩:=ZX hd2
 match a',hb,hb2 with
 | [y],_,hb2 =>
  obtain ⟨rec,rfl,_,h4⟩:=ZY hb2;exact ⟨inner,rec,d,trig,by simp [t5,K4],h1,h2,h4,h3,h5,h6⟩
theorem ao1 {n:Nat} {ds:List DV} (h:UF Tryz.prog (n+2) 60 ds):∃ x y:Int,ds=[.int .i64 x,.int .i64 y]∧(-9223372036854775808≤x∧x<9223372036854775808)∧(-9223372036854775808≤y∧y<9223372036854775808):=by
 rw [UF] at h;simp only [Tryz.underlying60,List.replicate] at h;obtain ⟨a,b,rfl,_,h2,a',b',rfl,_,h3,rfl⟩:=h;obtain ⟨x,rfl,hx⟩:=Zw h2;obtain ⟨y,rfl,hy⟩:=Zw h3;exact ⟨x,y,rfl,hx,hy⟩
theorem ao2 {n:Nat} {a:AV} (h:Xk Tryz.prog (n+4) 79 a):∃ (sg t:List Nat) (o0 o1 back:Int),a=.agg (Vi sg t o0 o1 back)∧bytes sg∧t.length=32∧bytes t∧(-9223372036854775808≤back∧back<9223372036854775808)∧(-9223372036854775808≤o0∧o0<9223372036854775808)∧(-9223372036854775808≤o1∧o1<9223372036854775808):=by
 unfold Xk at h;simp only [Tryz.underlying79] at h;obtain ⟨ds,rfl,h⟩:=h;rw [UF] at h;simp only [Tryz.underlying79,List.map_cons,List.map_nil] at h;obtain ⟨a,b,rfl,ha,ha2,a',b',rfl,hb,hb2,a3,b3,rfl,hc,hc2,a4,b4,rfl,hd,hd2,rfl⟩:=h;rw [show Tryz.prog.cellsOf 22=1 by kernel_rfl] at ha;obtain ⟨t,rfl,h1,h2⟩:=ZX hb2;obtain ⟨o0,o1,rfl,h3,h4⟩:=ao1 hc2;obtain ⟨back,rfl,h6⟩:=Zw hd2
 match a,ha,ha2 with
 | [y],_,ha2 =>
  obtain ⟨s,rfl,_,h5⟩:=ZY ha2;exact ⟨s,t,o0,o1,back,by simp [Vi,K4],h5,h1,h2,h6,h3,h4⟩
theorem amw (l:List AV) (h:ack Tryz.prog 6 [47,27,79] l):d9 Tryz.prog 9 l (fun r=>r=.d (.bool true)):=by
 obtain ⟨a0,r0,rfl,h0,a1,r1,rfl,h1,a2,r2,rfl,h2,rfl⟩:=h;obtain ⟨inner,rec,d,trig,rfl,q1,q2,q3,q4,q5,q6⟩:=amv h0;obtain ⟨inn,ps,x,rfl,p1,p2,p3,p4,p5⟩:=akv h1;obtain ⟨sg,t,o0,o1,back,rfl,s1,s2,s3,s4⟩:=ao2 h2;exact ao0 inner rec d trig inn ps x sg t o0 o1 back q1 q2 q3 q5 q6 q4.1 q4.2 p1 p2 p3 p5 s1 s2 s3 s4
end Go.Proofs.YtldccnbokbieiaaGreat
