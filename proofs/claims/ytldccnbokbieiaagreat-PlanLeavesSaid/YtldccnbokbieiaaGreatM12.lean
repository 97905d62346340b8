/-
 Part 13 of what the claim rests on.
-/
import Derived.Test.YtldccnbokbieiaaGreatM2
import Derived.Test.YtldccnbokbieiaaGreatM3
set_option linter.unusedVariables false
set_option linter.unusedSimpArgs false
set_option maxRecDepth 100000
set_option maxHeartbeats 16000000
namespace Go.Proofs.YtldccnbokbieiaaGreat
open Go.Am Go.Sha
abbrev eF:=Nat→List (List Nat)
def pB (q:List (List Nat)):Blk:=⟨23,32,q.map cb⟩
def fi (P:Nat):Nat→eF→Hp
 | 0,_=>[]
 | n+1,f=>(P,pB (f 0)) :: fi (P+1) n (fun j=>f (j+1))
def GL (f:eF) (j:Nat) (q:List (List Nat)):eF:=fun i=>if i=j then q else f i
def oh (j:Nat):Nat:=1+j
theorem iY {j:Nat} (h:j<8) (c:Nat) (hc:9≤c):(c=oh j)=False:=by unfold oh;simp;omega
theorem mi (j:Nat):(0=oh j)=False:=by unfold oh;simp;omega
theorem gL:∀ (n P:Nat) (f:eF) (j:Nat),j<n→lk (P+j) (fi P n f)=some (pB (f j))
 | n+1,P,f,0,_=>by simp [fi,lk]
 | n+1,P,f,j+1,h=>by
  have:=gL n (P+1) (fun j=>f (j+1)) j (by omega)
  rw [fi,lk,if_neg (by omega),show P+(j+1)=P+1+j by omega,this]
theorem qM:∀ (n P:Nat) (f:eF) (j:Nat) (q:List (List Nat)),j<n→bn (P+j) (pB q) (fi P n f)=fi P n (GL f j q)
 | n+1,P,f,0,q,_=>by
  simp only [fi,bn,Nat.add_zero,if_true]
  congr 1
 | n+1,P,f,j+1,q,h=>by
  have:=qM n (P+1) (fun j=>f (j+1)) j q (by omega)
  rw [fi,bn,if_neg (by omega),show P+(j+1)=P+1+j by omega,this,fi]
  simp [GL]
  congr 1
theorem d6:∀ (n P:Nat) (f:eF) (p:Nat × Blk),p ∈ fi P n f→∃ j,j<n∧p=(P+j,pB (f j))
 | 0,_,_,p,h=>by simp [fi] at h
 | n+1,P,f,p,h=>by
  rw [fi] at h
  rcases List.mem_cons.1 h with rfl | h
  ·exact ⟨0,by omega,rfl⟩
  ·obtain ⟨j,hj,rfl⟩:=d6 n (P+1) _ p h
   exact ⟨j+1,by omega,by rw [show P+1+j=P+(j+1) by omega]⟩
theorem iZ {f:eF} {j:Nat} (h:j<8):lk (oh j) (fi 1 8 f)=some (pB (f j)):=gL 8 1 f j h
theorem xe {f:eF} {j:Nat} (q:List (List Nat)) (h:j<8):bn (oh j) (pB q) (fi 1 8 f)=fi 1 8 (GL f j q):=qM 8 1 f j q h
theorem AG (q:List (List Nat)):(pB q).ty=23:=rfl
theorem GM (q:List (List Nat)):(pB q).e=32:=rfl
theorem AH (q:List (List Nat)):(pB q).es=q.map cb:=rfl
theorem jO {inner:List Nat} (hi:inner.length=32) (a b c:AV):(cb inner ++ [a,b]).set 32 c=cb inner ++ [c,b]:=by
 have hl:(cb inner).length=32:=by rw [am,hi]
 rw [List.set_append_right _ _ (by omega),hl]
 rfl
def ga (inner:List Nat) (idf:Nat→Nat) (f:eF) (xs:List (List Nat)):List (List AV):=xs.mapIdx fun j x=>aB inner (.own (idf j) 0 (f j).length (f j).length) (.d (nb x))
theorem d7 {inner:List Nat} {idf:Nat→Nat} {f:eF} {xs:List (List Nat)}:(ga inner idf f xs).length=xs.length:=by simp [ga]
theorem oj {inner:List Nat} {idf:Nat→Nat} {f:eF} {xs:List (List Nat)} {j:Nat} {x:List Nat} (h:xs[j]?=some x):(ga inner idf f xs)[j]?=some (aB inner (.own (idf j) 0 (f j).length (f j).length) (.d (nb x))):=by
 simp [ga,h]
theorem pK {inner:List Nat} {idf:Nat→Nat} {f:eF} {xs:List (List Nat)} {j:Nat} {x:List Nat} (q:List (List Nat)) (h:xs[j]?=some x):(ga inner idf f xs).set j (aB inner (.own (idf j) 0 q.length q.length) (.d (nb x)))=ga inner idf (GL f j q) xs:=by
 have hj:=(List.getElem?_eq_some_iff.1 h).1
 apply List.ext_getElem?
 intro i
 rw [List.getElem?_set]
 by_cases hi:j=i
 ·subst hi
  rw [if_pos rfl,if_pos (by rw [d7];exact hj),oj h]
  simp [GL]
 ·rw [if_neg hi]
  simp only [ga,List.getElem?_mapIdx,GL]
  rw [if_neg (fun e=>hi e.symm)]
theorem ip (n:Nat) (inner:List Nat) (a b:AV) (ha:a.low1 n) (hb:b.low1 n):∀ v,v ∈ aB inner a b→v.low1 n:=by
 intro v hv
 unfold aB at hv
 rcases List.mem_append.1 hv with h | h
 ·exact aF _ _ v h
 ·simp at h
  rcases h with rfl | rfl
  ·exact ha
  ·exact hb
theorem AI {n:Nat} {inner:List Nat} {idf:Nat→Nat} {f:eF} {xs:List (List Nat)} (h:∀ j,j<xs.length→idf j<n):∀ r,r ∈ ga inner idf f xs→∀ v,v ∈ r→v.low1 n:=by
 intro r hr
 simp only [ga,List.mem_mapIdx] at hr
 obtain ⟨j,hj,rfl⟩:=hr
 exact ip _ _ _ _ (h j hj) trivial
theorem uk (n:Nat) (q:List (List Nat)):∀ r,r ∈ (pB q).es→∀ v,v ∈ r→v.low1 n:=by
 intro r hr
 simp only [pB,List.mem_map] at hr
 obtain ⟨p,_,rfl⟩:=hr
 exact aF _ _
def a9 (h:List Nat) (first many:Nat):List AV:=cb h ++ [.d (.int .i64 (first:Int)),.d (.int .i64 (many:Int))]
theorem iq {h:List Nat} (hh:h.length=32) (a b:Nat):(a9 h a b).length=34:=by simp [a9,am,hh]
theorem cL {h:List Nat} (hh:h.length=32) (a b:Nat):List.take 34 (a9 h a b)=a9 h a b:=List.take_of_length_le (by rw [iq hh];exact Nat.le_refl _)
theorem mC {h:List Nat} (hh:h.length=32) (a b:Nat):(a9 h a b)[32]?=some (.d (.int .i64 (a:Int))):=da hh _ _
theorem qN {h:List Nat} (hh:h.length=32) (a b:Nat):(a9 h a b)[33]?=some (.d (.int .i64 (b:Int))):=dV hh _ _
theorem gn {h:List Nat} (hh:h.length=32) (a b:Nat) (hl:32<(a9 h a b).length):(a9 h a b)[32]=.d (.int .i64 (a:Int)):=by
 have:=mC hh a b
 rw [List.getElem?_eq_getElem hl] at this
 exact Option.some.inj this
theorem gp {h:List Nat} (hh:h.length=32) (a b:Nat) (hl:33<(a9 h a b).length):(a9 h a b)[33]=.d (.int .i64 (b:Int)):=by
 have:=qN hh a b
 rw [List.getElem?_eq_getElem hl] at this
 exact Option.some.inj this
theorem pM {h:List Nat} (hh:h.length=32) (a b:Nat):List.take 32 (a9 h a b)=cb h:=by
 unfold a9;rw [List.take_append_of_le_length (by rw [am,hh];exact Nat.le_refl _),List.take_of_length_le (by rw [am,hh];exact Nat.le_refl _)]
theorem AJ {h:List Nat} (hh:h.length=32) (a b:AV):List.drop 33 (cb h ++ [a,b])=[b]:=by
 rw [List.drop_append,am,hh,List.drop_eq_nil_of_le (by rw [am];omega)];rfl
theorem pN {h:List Nat} (hh:h.length=32) (a b:AV):List.take 33 (cb h ++ [a,b])=cb h ++ [a]:=by
 rw [List.take_append,am,hh,List.take_of_length_le (by rw [am];omega)];rfl
theorem pO {h:List Nat} (hh:h.length=32) (a b:AV):List.drop 34 (cb h ++ [a,b])=[]:=List.drop_eq_nil_of_le (by simp [am,hh])
theorem bZ (n:Nat) (h:List Nat) (a b:Nat):∀ v,v ∈ a9 h a b→v.low1 n:=by
 intro v hv
 rcases List.mem_append.1 hv with q | q
 ·exact aF _ _ v q
 ·simp at q;rcases q with rfl | rfl <;> trivial
theorem Ml:eH Tryz.prog 96=some (a9 z32 0 0):=by kernel_rfl
attribute [go_sem] Ml
def aU (first k:Nat) (h:List Nat) (f:eF):eF:=fun j=>if first≤j∧j<first+k then f j ++ [h] else f j
theorem lA (first:Nat) (h:List Nat) (f:eF):aU first 0 h f=f:=by
 funext j;unfold aU;rw [if_neg (by omega)]
theorem iR (first k:Nat) (h:List Nat) (f:eF):aU first k h f (first+k)=f (first+k):=by unfold aU;rw [if_neg (by omega)]
theorem lB (first k:Nat) (h:List Nat) (f:eF):GL (aU first k h f) (first+k) (f (first+k) ++ [h])=aU first (k+1) h f:=by
 funext j
 unfold GL aU
 by_cases h1:j=first+k
 ·subst h1;rw [if_pos rfl,if_pos (by omega)]
 ·rw [if_neg h1]
  by_cases h2:first≤j∧j<first+k
  ·rw [if_pos h2,if_pos (by omega)]
  ·rw [if_neg h2,if_neg (by omega)]
def CS (inner:List Nat) (xs:List (List Nat)) (za zb zc:List AV) (f:eF):Hp :=
 (74,⟨96,34,[za]⟩) :: (42,⟨96,34,[zb]⟩) :: (10,⟨96,34,[zc]⟩) :: (0,⟨27,34,ga inner oh f xs⟩) :: fi 1 8 f
theorem ir {inner:List Nat} {xs:List (List Nat)} {za zb zc:List AV} {f:eF} {hp:Hp} {nx N:Nat} (hN:100≤N) (hn:xs.length≤8) (ha:∀ v,v ∈ za→v.low1 N) (hb:∀ v,v ∈ zb→v.low1 N) (hc:∀ v,v ∈ zc→v.low1 N)
  (h1:lk 74 hp=some ⟨96,34,[za]⟩) (h2:lk 42 hp=some ⟨96,34,[zb]⟩) (h3:lk 10 hp=some ⟨96,34,[zc]⟩) (h4:lk 0 hp=some ⟨27,34,ga inner oh f xs⟩) (h5:∀ j,j<8→lk (oh j) hp=some (pB (f j))) :
  ∀ p,p ∈ CS inner xs za zb zc f→(lk p.1 hp=some p.2 ∨ (nx≤p.1∧p.2.es=[]))∧p.1<N∧∀ r,r ∈ p.2.es→∀ v,v ∈ r→v.low1 N:=by
 intro p hp'
 unfold CS at hp'
 simp only [List.mem_cons] at hp'
 rcases hp' with rfl | rfl | rfl | rfl | hp'
 ·exact ⟨.inl h1,by show 74<N;omega,by intro r hr;simp at hr;subst hr;exact ha⟩
 ·exact ⟨.inl h2,by show 42<N;omega,by intro r hr;simp at hr;subst hr;exact hb⟩
 ·exact ⟨.inl h3,by show 10<N;omega,by intro r hr;simp at hr;subst hr;exact hc⟩
 ·exact ⟨.inl h4,by show 0<N;omega,AI (fun j hj=>by show 1+j<N;omega)⟩
 ·obtain ⟨j,hj,rfl⟩:=d6 8 1 f p hp'
  exact ⟨.inl (h5 j hj),by show 1+j<N;omega,uk _ _⟩
theorem Dy (inner a b:List Nat) (xs:List (List Nat)) (f:eF) (fa ma fb mb:Nat) (hi:inner.length=32) (ha:a.length=32) (hb:b.length=32) (hn:xs.length≤8) (h1:fa+ma≤xs.length) (h2:fb+mb≤xs.length) (hf:∀ j,(f j).length≤100) :
  dO Tryz.prog 56 9 ((0,⟨27,34,ga inner oh f xs⟩) :: fi 1 8 f) [.own 0 0 xs.length xs.length,.agg (a9 a fa ma),.agg (a9 b fb mb)]
   (fun r hp'=>r=.agg (a9 (aO a b) fa (ma+mb))∧lk 0 hp'=some ⟨27,34,ga inner oh (aU fb mb a (aU fa ma b f)) xs⟩∧∀ j,j<8→lk (oh j) hp'=some (pB (aU fb mb a (aU fa ma b f) j))):=by
 refine b7 Tryz.func56 (by kernel_rfl) rfl Tryz.ntmps56 (rs:=[.cell 6 96]) rfl (jy rfl) (jy rfl) ?_
 have sa:=iq ha fa ma
 have sb:=iq hb fb mb
 have w1:IntKind.i64.wrap ((fa:Int)+ma)=((fa+ma:Nat):Int):=by rw [IntWalk.i64_in _ (by omega)];omega
 have w2:IntKind.i64.wrap ((fb:Int)+mb)=((fb+mb:Nat):Int):=by rw [IntWalk.i64_in _ (by omega)];omega
 have zs:(a9 z32 0 0).length=34:=rfl
 simp [go_sem,sa,sb,zs,cL ha,cL hb,gn ha,gp ha,gn hb,gp hb,d7,w1,-Int.natCast_add]
 refine ⟨by omega,?_⟩
 refine au (fun k:Nat=>⟨[(0,.own 0 0 xs.length xs.length),(4,.ptr 10 0 0 1),(5,.ptr 42 0 0 1),(6,.ptr 74 0 0 1),(20,.d (.int .i64 (ma:Int))),(21,.d (.int .i64 (k:Int)))],
   CS inner xs (a9 z32 0 0) (a9 b fb mb) (a9 a fa ma) (aU fa k b f),10000⟩)
  (fun k=>k≤ma) (fun k=>ma - k) 0 (by omega) (by
   rw [lA]
   refine ⟨?_,?_,by simp⟩
   ·simp [ag,fv,lk,AV.low,AV.low1]
   ·exact ir (jy rfl) hn (bZ _ _ _ _) (bZ _ _ _ _) (bZ _ _ _ _) rfl rfl rfl rfl (fun j hj=>by simp [lk,iY hj,mi,iZ hj])) ?_
 intro k hk
 simp only [CS]
 simp only [go_sem,Nat.reduceEqDiff,Nat.reduceAdd,Nat.reduceLT,↓reduceIte,Nat.reduceMul]
 refine ⟨fun h=>?_,fun h=>?_⟩
 ·have hj:fa+k<xs.length:=by omega
  obtain ⟨x,hx⟩:∃ x,xs[fa+k]?=some x:=⟨_,List.getElem?_eq_getElem hj⟩
  have w3:=ax (k:=k) (by omega)
  have w4:IntKind.i64.wrap ((fa:Int)+k)=((fa+k:Nat):Int):=by rw [IntWalk.i64_in _ (by omega)];omega
  have hla:=oj (inner:=inner) (idf:=oh) (f:=aU fa k b f) hx
  have hls:=fun q=>pK (inner:=inner) (idf:=oh) (f:=aU fa k b f) q hx
  have hp8:fa+k<8:=by omega
  have hne:=iY hp8
  have h0:=mi (fa+k)
  rw [iR] at hla
  simp [go_sem,sa,sb,zs,cL ha,cL hb,gn ha,gp ha,gn hb,gp hb,mC ha,d7,w4,-Int.natCast_add]
  refine ⟨by omega,?_⟩
  have far:∀ (f:eF) (c:Nat),9≤c→∀ (a:Nat) (b:Blk),(a,b) ∈ fi 1 8 f→¬ c=a:=by
   intro f c hc a b hm e
   obtain ⟨j,hj,e2⟩:=d6 8 1 f _ hm
   simp only [Prod.mk.injEq] at e2
   omega
  refine bD [1,2,3,4,5,6] [0,7,8,9,10,11] [1,2,3,4,5,6] (.alt (.step 0 [] true (.step 7 [] true (.step 8 [] false (.step 9 [] false (.step 10 [] false (.step 11 [] false .done)))))) (.step 7 [] true (.alt (.step 0 [] true (.step 8 [] false (.step 9 [] false (.step 10 [] false (.step 11 [] false .done))))) (.step 8 [] false (.step 0 [] false (.step 9 [] false (.step 10 [] false (.step 11 [] false .done)))))))) ⟨[(0,.own 0 0 xs.length xs.length),(4,.ptr 10 0 0 1),(5,.ptr 42 0 0 1),(6,.ptr 74 0 0 1),(20,.d (.int .i64 (ma:Int))),(21,.d (.int .i64 (k:Int)))],CS inner xs (a9 z32 0 0) (a9 b fb mb) (a9 a fa ma) (aU fa (k+1) b f),20000⟩ (k:=12) ?h3 ?hq
  case h3 =>
   intro G hG
   have hW:∀ (fr:Fr) (hp:Hp),(fv 0 fr=.own 0 0 xs.length xs.length∧fv 4 fr=.ptr 10 0 0 1∧fv 5 fr=.ptr 42 0 0 1∧fv 6 fr=.ptr 74 0 0 1∧fv 20 fr=.d (.int .i64 (ma:Int))∧fv 21 fr=.d (.int .i64 (k:Int)) ∧
     hp=(10544,⟨23,32,[cb b]⟩) :: (74,⟨96,34,[a9 z32 0 0]⟩) :: (42,⟨96,34,[a9 b fb mb]⟩) :: (10,⟨96,34,[a9 a fa ma]⟩) :: (0,⟨27,34,ga inner oh (aU fa (k+1) b f) xs⟩) :: fi 1 8 (aU fa (k+1) b f))→G fr hp:=by
    rintro fr hp ⟨q0,q1,q2,q3,q4,q5,rfl⟩
    refine hG _ _ (cK ⟨?_,?_,by simp⟩)
    ·simp [ag,AV.low,AV.low1,q0,q1,q2,q3,q4,q5]
    ·exact ir (jy rfl) hn (bZ _ _ _ _) (bZ _ _ _ _) (bZ _ _ _ _) rfl rfl rfl rfl (fun j hj=>by simp [lk,iY hj,mi,iZ hj])
   have hset:=hls (f (fa+k) ++ [b])
   have hsetH:=xe (f:=aU fa k b f) (f (fa+k) ++ [b]) hp8
   rw [lB] at hset hsetH
   simp [aB,pB] at hset hsetH
   have hfk:=hf (fa+k)
   simp [go_sem,sb,hla,hb,hi,aB,da hi,pM hb,iZ hp8,d7,hne,h0,iR,AG,GM,AH,jO hi,hset,hsetH]
   repeat' apply And.intro
   all_goals first | exact hW _ _ (by simp [fv,lk]) | omega | exact fun a c hm e=>absurd e (far _ _ (by omega) _ _ hm)
  case hq =>
   simp [go_sem,w3]
   refine ai (k+1) (by omega) (by omega) ⟨?_,?_,by simp⟩
   ·simp [ag,fv,lk,AV.low,AV.low1]
   ·exact ir (jy rfl) hn (bZ _ _ _ _) (bZ _ _ _ _) (bZ _ _ _ _) rfl rfl rfl rfl (fun j hj=>by simp [CS,lk,iY hj,mi,iZ hj])
 ·have hk2:k=ma:=by omega
  subst hk2
  simp [go_sem,sa,sb,zs,cL ha,cL hb,gn ha,gp ha,gn hb,gp hb,mC ha,qN ha,mC hb,qN hb,d7,w2,-Int.natCast_add]
  refine ⟨by omega,?_⟩
  have hg:∀ j,(aU fa k b f j).length≤101:=by
   intro j
   have:=hf j
   unfold aU
   split
   ·simp;omega
   ·omega
  have hna:fa+k≤8:=by omega
  generalize aU fa k b f=g at *
  clear hk h w1
  revert sa
  revert h1
  generalize k=ka
  intro h1 sa
  refine au (fun k:Nat=>⟨[(0,.own 0 0 xs.length xs.length),(4,.ptr 10 0 0 1),(5,.ptr 42 0 0 1),(6,.ptr 74 0 0 1),(51,.d (.int .i64 (mb:Int))),(52,.d (.int .i64 (k:Int)))],
    CS inner xs (a9 z32 0 0) (a9 b fb mb) (a9 a fa ka) (aU fb k a g),10000⟩)
   (fun k=>k≤mb) (fun k=>mb - k) 0 (by omega) (by
    rw [lA]
    refine ⟨?_,?_,by simp⟩
    ·simp [ag,fv,lk,AV.low,AV.low1]
    ·exact ir (jy rfl) hn (bZ _ _ _ _) (bZ _ _ _ _) (bZ _ _ _ _) rfl rfl rfl rfl (fun j hj=>by simp [lk,iY hj,mi,iZ hj])) ?_
  intro k hk
  simp only [CS]
  simp only [go_sem,Nat.reduceEqDiff,Nat.reduceAdd,Nat.reduceLT,↓reduceIte,Nat.reduceMul]
  refine ⟨fun h=>?_,fun h=>?_⟩
  ·have hj:fb+k<xs.length:=by omega
   obtain ⟨x,hx⟩:∃ x,xs[fb+k]?=some x:=⟨_,List.getElem?_eq_getElem hj⟩
   have w3:=ax (k:=k) (by omega)
   have w4:IntKind.i64.wrap ((fb:Int)+k)=((fb+k:Nat):Int):=by rw [IntWalk.i64_in _ (by omega)];omega
   have hla:=oj (inner:=inner) (idf:=oh) (f:=aU fb k a g) hx
   have hls:=fun q=>pK (inner:=inner) (idf:=oh) (f:=aU fb k a g) q hx
   have hp8:fb+k<8:=by omega
   have hne:=iY hp8
   have h0:=mi (fb+k)
   rw [iR] at hla
   simp [go_sem,sa,sb,zs,cL ha,cL hb,gn ha,gp ha,gn hb,gp hb,mC hb,d7,w4,-Int.natCast_add]
   refine ⟨by omega,?_⟩
   have far:∀ (f:eF) (c:Nat),9≤c→∀ (u:Nat) (v:Blk),(u,v) ∈ fi 1 8 f→¬ c=u:=by
    intro f c hc u v hm e
    obtain ⟨j,hj,e2⟩:=d6 8 1 f _ hm
    simp only [Prod.mk.injEq] at e2
    omega
   refine bD [1,2,3,4,5,6] [0,7,8,9,10,11] [1,2,3,4,5,6] (.alt (.step 0 [] true (.step 7 [] true (.step 8 [] false (.step 9 [] false (.step 10 [] false (.step 11 [] false .done)))))) (.step 7 [] true (.alt (.step 0 [] true (.step 8 [] false (.step 9 [] false (.step 10 [] false (.step 11 [] false .done))))) (.step 8 [] false (.step 0 [] false (.step 9 [] false (.step 10 [] false (.step 11 [] false .done)))))))) ⟨[(0,.own 0 0 xs.length xs.length),(4,.ptr 10 0 0 1),(5,.ptr 42 0 0 1),(6,.ptr 74 0 0 1),(51,.d (.int .i64 (mb:Int))),(52,.d (.int .i64 (k:Int)))],CS inner xs (a9 z32 0 0) (a9 b fb mb) (a9 a fa ka) (aU fb (k+1) a g),20000⟩ (k:=12) ?h3 ?hq
   case h3 =>
    intro G hG
    have hW:∀ (fr:Fr) (hp:Hp),(fv 0 fr=.own 0 0 xs.length xs.length∧fv 4 fr=.ptr 10 0 0 1∧fv 5 fr=.ptr 42 0 0 1∧fv 6 fr=.ptr 74 0 0 1∧fv 51 fr=.d (.int .i64 (mb:Int))∧fv 52 fr=.d (.int .i64 (k:Int)) ∧
      hp=(10544,⟨23,32,[cb a]⟩) :: (74,⟨96,34,[a9 z32 0 0]⟩) :: (42,⟨96,34,[a9 b fb mb]⟩) :: (10,⟨96,34,[a9 a fa ka]⟩) :: (0,⟨27,34,ga inner oh (aU fb (k+1) a g) xs⟩) :: fi 1 8 (aU fb (k+1) a g))→G fr hp:=by
     rintro fr hp ⟨q0,q1,q2,q3,q4,q5,rfl⟩
     refine hG _ _ (cK ⟨?_,?_,by simp⟩)
     ·simp [ag,AV.low,AV.low1,q0,q1,q2,q3,q4,q5]
     ·exact ir (jy rfl) hn (bZ _ _ _ _) (bZ _ _ _ _) (bZ _ _ _ _) rfl rfl rfl rfl (fun j hj=>by simp [lk,iY hj,mi,iZ hj])
    have hset:=hls (g (fb+k) ++ [a])
    have hsetH:=xe (f:=aU fb k a g) (g (fb+k) ++ [a]) hp8
    rw [lB] at hset hsetH
    simp [aB,pB] at hset hsetH
    have hfk:=hg (fb+k)
    simp [go_sem,sa,hla,ha,hi,aB,da hi,pM ha,iZ hp8,d7,hne,h0,iR,AG,GM,AH,jO hi,hset,hsetH]
    repeat' apply And.intro
    all_goals first | exact hW _ _ (by simp [fv,lk]) | omega | exact fun a c hm e=>absurd e (far _ _ (by omega) _ _ hm)
   case hq =>
    simp [go_sem,w3]
    refine ai (k+1) (by omega) (by omega) ⟨?_,?_,by simp⟩
    ·simp [ag,fv,lk,AV.low,AV.low1]
    ·exact ir (jy rfl) hn (bZ _ _ _ _) (bZ _ _ _ _) (bZ _ _ _ _) rfl rfl rfl rfl (fun j hj=>by simp [CS,lk,iY hj,mi,iZ hj])
  ·have hk2:k=mb:=by omega
   subst hk2
   have w5:IntKind.i64.wrap ((ka:Int)+k)=((ka+k:Nat):Int):=by rw [IntWalk.i64_in _ (by omega)];omega
   have hL:=dQ a b
   skip
   refine bD [0,1,2,3,5,6,7,8,9,10,11] [4,13] [0,1,2,3,5,6,7,8,9,10,11,12] (.step 4 [12] true (.step 13 [] false .done)) ⟨[(6,.ptr 74 0 0 1)],CS inner xs (a9 (aO a b) fa (ka+k)) (a9 b fb k) (a9 a fa ka) (aU fb k a g),30000⟩ (k:=14) ?h3 ?hq
   case h3 =>
    intro G hG
    simp [go_sem,sa,sb,zs,pM ha,pM hb,ha,hb,cL ha,cL hb,gn ha,gp ha,gn hb,gp hb,mC ha,qN ha,mC hb,qN hb,w5,-Int.natCast_add]
    refine ab (tp a b ha hb) (by intro v hv;simp at hv;rcases hv with rfl | rfl <;> exact aL _) ?_
    have hz:List.drop 32 (a9 z32 0 0)=[.d (.int .i64 0),.d (.int .i64 0)]:=rfl
    have hz2:List.drop 34 (a9 z32 0 0)=[]:=rfl
    have e1:=AJ hL
    have e2:=pN hL
    have e3:=pO hL
    simp [go_sem,hL,aj hL,am,zs,hz,hz2,e1,e2,e3]
    refine hG _ _ (cK ⟨?_,?_,by simp⟩)
    ·simp [ag,fv,lk,AV.low,AV.low1]
    ·exact ir (jy rfl) hn (bZ _ _ _ _) (bZ _ _ _ _) (bZ _ _ _ _) (by simp [lk,a9]) rfl rfl rfl (fun j hj=>by simp [lk,iY hj,mi,iZ hj])
   case hq =>
    simp [go_sem,CS,cL hL,iq hL]
    intro j hj
    simp [iY hj,mi,iZ hj]
def dI (j:Nat):Nat:=20000+j
def kL:List (Nat × Nat):=[(0,10000),(1,20000),(2,20001),(3,20002),(4,20003),(5,20004),(6,20005),(7,20006),(8,20007)]
theorem jl (ρ:Nat→Nat):∀ l:List AV,AV.renL ρ l=l.map (AV.ren ρ)
 | []=>rfl
 | a :: r=>by rw [AV.renL,List.map_cons,jl ρ r]
theorem um (ρ:Nat→Nat) (l:List Nat):(cb l).map (AV.ren ρ)=cb l:=by simp [cb,AV.ren]
theorem xf {ρ:Nat→Nat} {inner:List Nat} {idf idf':Nat→Nat} {f:eF} {xs:List (List Nat)} (h:∀ j,j<xs.length→ρ (idf j)=idf' j):cZ ρ (ga inner idf f xs)=ga inner idf' f xs:=by
 apply List.ext_getElem?
 intro i
 simp only [cZ,ga,List.getElem?_map,List.getElem?_mapIdx,Option.map_map]
 cases hx:xs[i]? with
 | none=>rfl
 | some x =>
  have hi:=(List.getElem?_eq_some_iff.1 hx).1
  simp [aB,jl,um,AV.ren,h i hi]
theorem Dz (ρ:Nat→Nat) (q:List (List Nat)):(pB q).ren ρ=pB q:=by
 unfold Blk.ren pB
 simp only [cZ,List.map_map,Blk.mk.injEq,true_and]
 apply List.map_congr_left
 intro l _
 simp only [Function.comp_apply,jl,um]
theorem xg (ρ:Nat→Nat) (h:List Nat) (a b:Nat):(AV.agg (a9 h a b)).ren ρ=.agg (a9 h a b):=by
 rw [AV.ren,jl,a9,List.map_append,um]
 rfl
theorem O8:∀ j,j<8→dL (jG kL) 9 (dI j)=oh j:=by decide
theorem O9 (N:Nat):∀ j,j<8→dL (et kL [] N) (N+31) (oh j)=dI j:=by
 have h:∀ j,j<8→lk (oh j) kL=some (dI j):=by decide
 intro j hj
 unfold dL et
 rw [List.map_nil,List.append_nil,h j hj]
 rfl
theorem DA {f:eF} {i:Nat} (h:i<20000 ∨ 20008≤i):lk i (fi 20000 8 f)=none:=by
 cases hl:lk i (fi 20000 8 f) with
 | none=>rfl
 | some b =>
  obtain ⟨j,hj,e⟩:=d6 8 20000 f _ (bQ hl)
  simp only [Prod.mk.injEq] at e
  omega
theorem xh {f:eF} {i:Nat} {r:Hp} (h:i<20000 ∨ 20008≤i):lk i (fi 20000 8 f ++ r)=lk i r:=by
 rw [oC,DA h]
theorem sQ {i:Nat} {b:Blk}:∀ {a r:Hp},(∀ p,p ∈ a→p.1 ≠ i)→bn i b (a ++ r)=a ++ bn i b r
 | [],r,_=>rfl
 | (m,v) :: t,r,h=>by
  rw [List.cons_append,bn,if_neg (h _ (List.mem_cons_self ..)),sQ (fun p hp=>h p (List.mem_cons_of_mem _ hp))]
  rfl
theorem zr {f:eF} {i:Nat} {b:Blk} {r:Hp} (h:i<20000 ∨ 20008≤i):bn i b (fi 20000 8 f ++ r)=fi 20000 8 f ++ bn i b r :=
 sQ (fun p hp=>by
  obtain ⟨j,hj,rfl⟩:=d6 8 20000 f p hp
  show 20000+j ≠ i
  omega)
theorem JK {f:eF} {j:Nat} {r:Hp} (h:j<8):lk (dI j) (fi 20000 8 f ++ r)=some (pB (f j)):=by
 rw [oC,show lk (dI j) (fi 20000 8 f)=some (pB (f j)) from gL 8 20000 f j h]
theorem DB {P:Program} {N:Nat} {K:AV→Hp→Prop} {pre:Hp} (inner a b:List Nat) (xs:List (List Nat)) (f:eF) (fa ma fb mb:Nat) (hn:xs.length≤8)
  (hg:dO P 56 9 ((0,⟨27,34,ga inner oh f xs⟩) :: fi 1 8 f) [.own 0 0 xs.length xs.length,.agg (a9 a fa ma),.agg (a9 b fb mb)]
   (fun r hp'=>r=.agg (a9 (aO a b) fa (ma+mb))∧lk 0 hp'=some ⟨27,34,ga inner oh (aU fb mb a (aU fa ma b f)) xs⟩∧∀ j,j<8→lk (oh j) hp'=some (pB (aU fb mb a (aU fa ma b f) j))))
  (hpre:∀ p,p ∈ pre→p.1 ≠ 10000∧(p.1<20000 ∨ 20008≤p.1))
  (hK:K (.agg (a9 (aO a b) fa (ma+mb))) ((10000,⟨27,34,ga inner dI (aU fb mb a (aU fa ma b f)) xs⟩) :: (fi 20000 8 (aU fb mb a (aU fa ma b f)) ++ pre))) :
  Cc P 56 [.own 10000 0 xs.length xs.length,.agg (a9 a fa ma),.agg (a9 b fb mb)] (pre ++ (10000,⟨27,34,ga inner dI f xs⟩) :: fi 20000 8 f) N K:=by
 have pnone:∀ i,(i=10000 ∨ (20000≤i∧i<20008))→lk i pre=none:=by
  intro i hi
  cases hl:lk i pre with
  | none=>rfl
  | some b =>
   have:=hpre _ (bQ hl)
   simp only at this
   omega
 have lL0:lk 10000 (pre ++ (10000,⟨27,34,ga inner dI f xs⟩) :: fi 20000 8 f)=some ⟨27,34,ga inner dI f xs⟩:=by
  rw [oC,pnone 10000 (.inl rfl)];rfl
 have lP:∀ j,j<8→lk (dI j) (pre ++ (10000,⟨27,34,ga inner dI f xs⟩) :: fi 20000 8 f)=some (pB (f j)):=by
  intro j hj
  rw [oC,pnone (dI j) (.inr ⟨by unfold dI;omega,by unfold dI;omega⟩)]
  show lk (dI j) ((10000,_) :: fi 20000 8 f)=_
  rw [lk,if_neg (by unfold dI;omega)]
  exact gL 8 20000 f j hj
 have mem9:∀ p,p ∈ kL→p=(0,10000) ∨ ∃ j,j<8∧p=(oh j,dI j):=by decide
 refine c8 kL hg rfl ?_ ?_ ?_ ?_ ?_
 ·decide
 ·intro p hp
  rcases mem9 p hp with rfl | ⟨j,hj,rfl⟩
  ·exact ⟨_,lL0,by simp⟩
  ·exact ⟨_,lP j hj,by simp [pB]⟩
 ·intro p hp
  rcases List.mem_cons.1 hp with rfl | hp
  ·refine ⟨10000,_,rfl,lL0,?_⟩
   simp only [Blk.ren,Blk.mk.injEq,true_and]
   exact (xf (fun j hj=>O8 j (by omega))).symm
  ·obtain ⟨j,hj,rfl⟩:=d6 8 1 f p hp
   have hlk:∀ j,j<8→lk (1+j) kL=some (dI j):=by decide
   exact ⟨dI j,_,hlk j hj,lP j hj,(Dz _ _).symm⟩
 ·simp only [jl,List.map_cons,List.map_nil,xg]
  rfl
 ·rintro r hp' ⟨rfl,h0,h1⟩
  refine ⟨[],rfl,?_⟩
  rw [xg]
  have e1:fj kL [] N hp' (pre ++ (10000,⟨27,34,ga inner dI f xs⟩) :: fi 20000 8 f)=(10000,⟨27,34,ga inner dI (aU fb mb a (aU fa ma b f)) xs⟩) :: (fi 20000 8 (aU fb mb a (aU fa ma b f)) ++ pre):=by
   unfold fj
   have hfil:((pre ++ (10000,⟨27,34,ga inner dI f xs⟩) :: fi 20000 8 f).filter fun p=>!(kL.map (·.2)).contains p.1)=pre:=by
    rw [List.filter_append]
    have f1:pre.filter (fun p=>!(kL.map (·.2)).contains p.1)=pre:=by
     rw [List.filter_eq_self]
     intro p hp
     have:=hpre p hp
     simp [kL]
     omega
    have f2:((10000,(⟨27,34,ga inner dI f xs⟩:Blk)) :: fi 20000 8 f).filter (fun p=>!(kL.map (·.2)).contains p.1)=[]:=by
     rw [List.filter_eq_nil_iff]
     intro p hp
     rcases List.mem_cons.1 hp with rfl | hp
     ·simp [kL]
     ·obtain ⟨j,hj,rfl⟩:=d6 8 20000 f p hp
      simp [kL]
      omega
    rw [f1,f2,List.append_nil]
   rw [hfil,← List.cons_append]
   congr 1
   have g0:=h1 0 (by omega)
   have g1:=h1 1 (by omega)
   have g2:=h1 2 (by omega)
   have g3:=h1 3 (by omega)
   have g4:=h1 4 (by omega)
   have g5:=h1 5 (by omega)
   have g6:=h1 6 (by omega)
   have g7:=h1 7 (by omega)
   simp only [oh,Nat.reduceAdd] at g0 g1 g2 g3 g4 g5 g6 g7
   have hL:(⟨27,34,ga inner oh (aU fb mb a (aU fa ma b f)) xs⟩:Blk).ren (dL (et kL [] N) (N+31))=⟨27,34,ga inner dI (aU fb mb a (aU fa ma b f)) xs⟩:=by
    simp only [Blk.ren,Blk.mk.injEq,true_and]
    exact xf (fun j hj=>O9 N j (by omega))
   have hprs:et kL [] N=kL:=by simp [et]
   rw [hprs] at hL ⊢
   simp only [kL] at hL ⊢
   simp [h0,g0,g1,g2,g3,g4,g5,g6,g7,Dz,fi,hL]
  rw [e1]
  exact hK
abbrev Row:=List (List Nat × Nat)
def xi (h:List Nat) (s m:Nat):List DV:=cd h ++ [.int .i64 (s:Int),.int .i64 (m:Int)]
def i9:Nat→Row→List (List DV)
 | _,[]=>[]
 | s,p :: r=>xi p.1 s p.2 :: i9 (s+p.2) r
theorem xj (h:List Nat) (s m:Nat):(xi h s m).map AV.d=a9 h s m:=by simp [xi,a9,fP]
theorem qO {h:List Nat} (hh:h.length=32) (s m:Nat):(xi h s m).length=34:=by simp [xi,dJ,hh]
theorem jP:∀ (s:Nat) (r:Row),(i9 s r).length=r.length
 | _,[]=>rfl
 | s,p :: r=>by rw [i9,List.length_cons,List.length_cons,jP]
def bM (r:Row):Nat:=(r.map (·.2)).sum
theorem pQ:∀ (s:Nat) (a b:Row),i9 s (a ++ b)=i9 s a ++ i9 (s+bM a) b
 | s,[],b=>by simp [i9,bM]
 | s,p :: a,b=>by
  rw [List.cons_append,i9,i9,pQ (s+p.2) a b,List.cons_append]
  congr 2
  simp [bM,Nat.add_assoc]
theorem qP:∀ (s:Nat) (r:Row),(∀ p,p ∈ r→p.1.length=32)→∀ x,x ∈ i9 s r→x.length=34
 | _,[],_,x,h=>by simp [i9] at h
 | s,p :: r,hp,x,h=>by
  rcases List.mem_cons.1 h with rfl | h
  ·exact qO (hp p (List.mem_cons_self ..)) _ _
  ·exact qP _ r (fun q hq=>hp q (List.mem_cons_of_mem _ hq)) x h
theorem uo (n s:Nat) (r:Row):∀ x,x ∈ (i9 s r).map (fun q=>q.map AV.d)→∀ v,v ∈ x→v.low1 n:=by
 intro x hx v hv
 obtain ⟨q,_,rfl⟩:=List.mem_map.1 hx
 obtain ⟨d,_,rfl⟩:=List.mem_map.1 hv
 trivial
def bF:Row→Row
 | a :: b :: r=>(aO a.1 b.1,a.2+b.2) :: bF r
 | r=>r
def cU:Nat→Row→eF→eF
 | s,a :: b :: r,f=>cU (s+a.2+b.2) r (aU (s+a.2) b.2 a.1 (aU s a.2 b.1 f))
 | _,_,f=>f
theorem gF:∀ r:Row,2*(bF r).length≤r.length+1
 | []=>by simp [bF]
 | [a]=>by simp [bF]
 | a :: b :: r=>by
  have:=gF r
  simp only [bF,List.length_cons]
  omega
theorem iu:∀ r:Row,bM (bF r)=bM r
 | []=>rfl
 | [a]=>rfl
 | a :: b :: r=>by
  have:=iu r
  simp only [bF,bM,List.map_cons,List.sum_cons] at this ⊢
  omega
theorem lC:∀ r:Row,(∀ p,p ∈ r→p.1.length=32)→∀ p,p ∈ bF r→p.1.length=32
 | [],h=>h
 | [a],h=>h
 | a :: b :: r,h=>by
  intro p hp
  rcases List.mem_cons.1 hp with rfl | hp
  ·exact dQ _ _
  ·exact lC r (fun q hq=>h q (by simp [hq])) p hp
def cx:Nat→Row→eF→Row × eF
 | 0,r,f=>(r,f)
 | n+1,r,f=>if 1<r.length then cx n (bF r) (cU 0 r f) else (r,f)
theorem qQ {n:Nat} {r:Row} {f:eF} (h:r.length≤1):cx n r f=(r,f):=by
 cases n with
 | zero=>rfl
 | succ n=>rw [cx,if_neg (by omega)]
def dk (xs:List (List Nat)):Row:=xs.map fun x=>(ct x,1)
theorem iv (xs:List (List Nat)):bM (dk xs)=xs.length:=by
 induction xs with
 | nil=>rfl
 | cons a r ih=>simp only [dk,bM,List.map_cons,List.sum_cons,List.length_cons] at ih ⊢;omega
theorem nk (xs:List (List Nat)):∀ p,p ∈ dk xs→p.1.length=32:=by
 intro p hp
 obtain ⟨x,_,rfl⟩:=List.mem_map.1 hp
 exact ie x
theorem xk (a b:List (List Nat)):dk (a ++ b)=dk a ++ dk b:=by simp [dk]
def bc (xs:List (List Nat)):eF:=(cx 7 (dk xs) fun _=>[]).2
theorem jm {first k:Nat} {h:List Nat} {f:eF} {B s:Nat} (hf:∀ j,(f j).length≤if j<s then B+1 else B) (h1:s≤first):∀ j,((aU first k h f) j).length≤if j<first+k then B+1 else B:=by
 intro j
 have:=hf j
 unfold aU
 by_cases h2:first≤j∧j<first+k
 ·rw [if_pos h2,if_pos h2.2]
  rw [if_neg (by omega)] at this
  simp;omega
 ·rw [if_neg h2]
  split at this
  ·rw [if_pos (by omega)];omega
  ·split <;> omega
def cS (inner:List Nat) (l:List (List Nat) × List Nat):List DV:=cd inner ++ [cF l.1,nb l.2]
theorem jn {inner:List Nat} (hi:inner.length=32) (l:List (List Nat) × List Nat):(cS inner l).length=34:=by simp [cS,dJ,hi]
theorem om (inner:List Nat) (l:List (List Nat) × List Nat):(cS inner l).map AV.d=aB inner (.d (cF l.1)) (.d (nb l.2)):=by simp [cS,aB,fP]
theorem qR (inner:List Nat) (a b:DV):(AV.agg (aB inner (.d a) (.d b))).deep:=by
 intro c hc
 unfold aB at hc
 rcases List.mem_append.1 hc with h | h
 ·exact aL _ _ h
 ·simp at h;rcases h with rfl | rfl <;> trivial
theorem jo {inner:List Nat} (hi:inner.length=32) (a b:AV):(aB inner a b).length=34:=by simp [aB,am,hi]
theorem jQ {inner:List Nat} (hi:inner.length=32) (a b:AV):List.take 34 (aB inner a b)=aB inner a b:=List.take_of_length_le (by rw [jo hi];exact Nat.le_refl _)
theorem pR (inner:List Nat) (a b:DV):∀ v,v ∈ [AV.agg (aB inner (.d a) (.d b))]→v.deep:=by
 intro v hv;simp at hv;subst hv;exact qR _ _ _
theorem DC (inner:List Nat) (l:List (List Nat) × List Nat) (O:List Nat) (e:Int) (hi:inner.length=32)
  (g:aq Tryz.prog 18 [.agg (aB inner (.d (cF l.1)) (.d (nb l.2)))] (fun r=>r=.tup [.d (nb O),.d (.int .i64 e)])) :
  aq Tryz.prog 57 [.agg (aB inner (.d (cF l.1)) (.d (nb l.2)))] (fun r=>r=.d (.bool (!decide (e=0)))):=by
 refine aS Tryz.func57 Tryz.ntmps57 (rs:=[.tmp 2]) (pR _ _ _) ?_
 simp [go_sem,jo hi,jQ hi]
 refine ab g (pR _ _ _) ?_
 simp [go_sem,ak]
 exact ae (by simp [AV.deep,AV.deep1]) rfl
abbrev Lf:=List (List Nat) × List Nat
def nl (E:Lf→Int) (ls:List Lf):Bool:=ls.any fun l=>!decide (E l=0)
theorem xm {E:Lf→Int} {l:List Lf} {k:Nat} {x:Lf} {b:Bool} (hd:l.drop k=x :: l.drop (k+1)) (h:nl E (l.drop k)=b) (hx:E x=0):nl E (l.drop (k+1))=b:=by
 rw [hd] at h;rw [← h];simp [nl,hx]
theorem xn {E:Lf→Int} {l:List Lf} {k:Nat} {x:Lf} {b:Bool} (hd:l.drop k=x :: l.drop (k+1)) (h:nl E (l.drop k)=b) (hx:¬ E x=0):b=true:=by
 rw [hd] at h;rw [← h];simp [nl,hx]
theorem B2 (inner:List Nat) (ls:List Lf) (O:Lf→List Nat) (E:Lf→Int) (hi:inner.length=32) (hl:ls.length≤1000000000)
  (g:∀ l,l ∈ ls→aq Tryz.prog 18 [.agg (aB inner (.d (cF l.1)) (.d (nb l.2)))] (fun r=>r=.tup [.d (nb (O l)),.d (.int .i64 (E l))])) :
  aq Tryz.prog 92 [.d (.ro 34 (ls.map (cS inner))),.fn 57 []] (fun r=>∃ n:Int,r=.d (.int .i64 n)∧decide (0≤n)=nl E ls):=by
 refine aS Tryz.func92 Tryz.ntmps92 (rs:=[.tmp 4]) (by simp [AV.deep,AV.deep1]) ?_
 simp [go_sem]
 refine au (fun k:Nat=>⟨[(0,.d (.ro 34 (ls.map (cS inner)))),(1,.fn 57 []),(7,.d (.int .i64 (ls.length:Int))),(8,.d (.int .i64 (k:Int)))],[],1000⟩)
  (fun k=>k≤ls.length∧nl E (ls.drop k)=nl E ls) (fun k=>ls.length - k) 0 ⟨by omega,rfl⟩ (by
   simp [av,ag,fv,lk,AV.low,AV.low1]) ?_
 rintro k ⟨hk,ho⟩
 simp only [go_sem,Nat.reduceEqDiff,Nat.reduceAdd,Nat.reduceLT,↓reduceIte,Nat.reduceMul]
 refine ⟨fun h=>?_,fun h=>?_⟩
 ·obtain ⟨x,hx1,hd⟩:=cN (l:=ls) (k:=k) (by omega)
  have w3:=ax (k:=k) (by omega)
  have hrow:=jn hi x
  simp [go_sem,hx1,hrow,om,jQ hi,jo hi]
  refine ab (DC inner x (O x) (E x) hi (g x (List.mem_of_getElem? hx1))) (pR _ _ _) ?_
  by_cases hx:E x=0
  ·simp [go_sem,hx,w3]
   refine ai (k+1) ⟨by omega,xm hd ho hx⟩ (by omega) ?_
   simp [av,ag,fv,lk,AV.low,AV.low1]
  ·have:=xn hd ho hx
   simp [go_sem,hx]
   exact ae (by simp [AV.deep,AV.deep1]) ⟨_,rfl,by rw [this];simp⟩
 ·have hkl:k=ls.length:=by omega
  subst hkl
  rw [List.drop_length] at ho
  simp [go_sem]
  exact ae (by simp [AV.deep,AV.deep1]) ⟨_,rfl,by rw [← ho];rfl⟩
theorem uq (inner:List Nat) (ls:List Lf) (O:Lf→List Nat) (E:Lf→Int) (hi:inner.length=32) (hl:ls.length≤1000000000)
  (g:∀ l,l ∈ ls→aq Tryz.prog 18 [.agg (aB inner (.d (cF l.1)) (.d (nb l.2)))] (fun r=>r=.tup [.d (nb (O l)),.d (.int .i64 (E l))])) :
  aq Tryz.prog 58 [.d (.ro 34 (ls.map (cS inner))),.fn 57 []] (fun r=>r=.d (.bool (nl E ls))):=by
 refine aS Tryz.func58 Tryz.ntmps58 (rs:=[.tmp 4]) (by simp [AV.deep,AV.deep1]) ?_
 simp [go_sem]
 refine Na (B2 inner ls O E hi hl g) (by simp [AV.deep,AV.deep1]) ?_
 rintro r ⟨n,rfl,hn⟩
 rw [← hn]
 simp [go_sem]
 exact ae (by simp [AV.deep,AV.deep1]) rfl
def gK (f:eF) (xs:List (List Nat)):List Lf:=xs.mapIdx fun j x=>(f j,x)
theorem ur {hp:Hp} {I:Nat→Prop} {a c:List AV} {b d:List DV} (h:CellsR hp I a b) (h2:CellsR hp I c d):CellsR hp I (a ++ c) (b ++ d):=by
 induction h with
 | nil=>exact h2
 | cons h t ih=>exact .cons h ih
theorem oZ {hp:Hp} {I:Nat→Prop}:∀ (rows:List (List AV)) (es:List (List DV)),rows.length=es.length→(∀ (i:Nat) (x:List AV) (y:List DV),rows[i]?=some x→es[i]?=some y→CellsR hp I x y)→RowsR hp I rows es
 | [],[],_,_=>.nil
 | [],_ :: _,h,_=>by simp at h
 | _ :: _,[],h,_=>by simp at h
 | x :: rows,y :: es,h,hg=>.cons (hg 0 x y rfl rfl) (oZ rows es (by simpa using h) (fun i a b h1 h2=>hg (i+1) a b (by simpa using h1) (by simpa using h2)))
theorem nn (f:eF) (xs:List (List Nat)):(gK f xs).length=xs.length:=by simp [gK]
theorem o4 {hp:Hp} {I:Nat→Prop} {inner:List Nat} {idf:Nat→Nat} {f:eF} {xs:List (List Nat)} {id:Nat} (hi:inner.length=32) (hb:lk id hp=some ⟨27,34,ga inner idf f xs⟩) (hI:I id) (hI2:∀ j,j<xs.length→I (idf j))
  (hp32:∀ j p,p ∈ f j→p.length=32) (h5:∀ j,j<xs.length→lk (idf j) hp=some (pB (f j))):SnapD hp I (.own id 0 xs.length xs.length) (.ro 34 ((gK f xs).map (cS inner))):=by
 refine qI hb hI d7 ?_ (by rw [List.length_map,nn]) (fun r hr=>?_)
 ·rw [List.drop_zero,List.take_of_length_le (by rw [d7];exact Nat.le_refl _)]
  refine oZ _ _ (by simp [d7,nn]) (fun i x y h1 h2=>?_)
  simp only [ga,gK,List.getElem?_map,List.getElem?_mapIdx,Option.map_map,Option.map_eq_some_iff] at h1 h2
  obtain ⟨u,hu,rfl⟩:=h1
  obtain ⟨v,hv,rfl⟩:=h2
  rw [hu] at hv
  cases hv
  unfold aB
  simp only [Function.comp_apply,cS]
  rw [← fP]
  refine ur (fZ _) (.cons ?_ (.cons (.d _) .nil))
  have hiu:=(List.getElem?_eq_some_iff.1 hu).1
  refine cq (ty:=23) (e:=32) (es:=(f i).map cd) ?_ (hI2 i hiu) (by simp) (fun r hr=>?_)
  ·rw [h5 i hiu]
   simp [pB,fP]
  ·obtain ⟨p,hp,rfl⟩:=List.mem_map.1 hr
   rw [dJ];exact hp32 i p hp
 ·obtain ⟨l,_,rfl⟩:=List.mem_map.1 hr
  exact jn hi l
def me (x:List Nat):List DV:=[nb x]
def uv (inner:List Nat) (xs:List (List Nat)):List (List AV):=xs.map fun x=>aB inner .nil (.d (nb x))
theorem lD {α:Type} {l:List α} {k:Nat} {x:α} (h:l[k]?=some x):l.take (k+1)=l.take k ++ [x]:=by
 rw [List.take_add_one,h];rfl
theorem sR {fr:Fr} {inner:List Nat} (xs:List (List Nat)) (hn:xs.length≤8):Wk ⟨fr,(10000,⟨27,34,uv inner xs⟩) :: fi 20000 8 (fun _=>[]),30000⟩ ⟨fr,(10000,⟨27,34,ga inner dI (fun _=>[]) xs⟩) :: fi 20000 8 (fun _=>[]),30000⟩:=by
 refine Ez (st:=⟨fr,(10000,⟨27,34,uv inner xs⟩) :: fi 20000 8 (fun _=>[]),30000⟩) (L:=10000) (b:=⟨27,34,uv inner xs⟩) (es':=ga inner dI (fun _=>[]) xs) rfl (by simp) (by simp [ga,uv]) ?_
 intro i x x' h1 h2
 simp only [uv,List.getElem?_map,Option.map_eq_some_iff] at h1
 obtain ⟨y,hy,rfl⟩:=h1
 rw [oj hy] at h2
 simp only [Option.some.injEq] at h2
 subst h2
 refine ⟨by simp [aB],fun j v v' a1 a2=>?_⟩
 unfold aB at a1 a2
 by_cases hj:j<(cb inner).length
 ·rw [List.getElem?_append_left hj] at a1 a2
  rw [a1] at a2
  exact .inl (Option.some.inj a2).symm
 ·rw [List.getElem?_append_right (by omega)] at a1 a2
  have hi:=(List.getElem?_eq_some_iff.1 hy).1
  match hj2:j - (cb inner).length,a1,a2 with
  | 0,a1,a2 =>
   simp only [List.getElem?_cons_zero,Option.some.injEq] at a1 a2
   subst a1 a2
   exact .inr ⟨rfl,dI i,by unfold dI;show 20000+i<30000;omega,rfl⟩
  | 1,a1,a2 =>
   simp only [List.getElem?_cons_succ,List.getElem?_cons_zero,Option.some.injEq] at a1 a2
   subst a1 a2
   exact .inl rfl
  | m+2,a1,a2=>simp at a1
theorem gq {inner:List Nat} {xs:List (List Nat)} {f:eF} {hp:Hp} {nx N:Nat} (hN:20008≤N) (hn:xs.length≤8) (h4:lk 10000 hp=some ⟨27,34,ga inner dI f xs⟩) (h5:∀ j,j<8→lk (dI j) hp=some (pB (f j))) :
  ∀ p,p ∈ (10000,(⟨27,34,ga inner dI f xs⟩:Blk)) :: fi 20000 8 f→(lk p.1 hp=some p.2 ∨ (nx≤p.1∧p.2.es=[]))∧p.1<N∧∀ r,r ∈ p.2.es→∀ v,v ∈ r→v.low1 N:=by
 intro p hp'
 rcases List.mem_cons.1 hp' with rfl | hp'
 ·exact ⟨.inl h4,by show 10000<N;omega,AI (fun j hj=>by show 20000+j<N;omega)⟩
 ·obtain ⟨j,hj,rfl⟩:=d6 8 20000 f p hp'
  exact ⟨.inl (h5 j hj),by show 20000+j<N;omega,uk _ _⟩
def CT (f:eF):Prop:=∀ j p,p ∈ f j→p.length=32
theorem lE {first k:Nat} {h:List Nat} {f:eF} (hf:CT f) (hh:h.length=32):CT (aU first k h f):=by
 intro j p hp
 unfold aU at hp
 split at hp
 ·rcases List.mem_append.1 hp with q | q
  ·exact hf j p q
  ·simp at q;subst q;exact hh
 ·exact hf j p hp
theorem zu:∀ {q:Row},q.length≤1→bF q=q
 | [],_=>rfl
 | [a],_=>rfl
 | a :: b :: r,h=>by simp at h
theorem xo:∀ {q:Row} {s:Nat} {g:eF},q.length≤1→cU s q g=g
 | [],_,_,_=>rfl
 | [a],_,_,_=>rfl
 | a :: b :: r,_,_,h=>by simp at h
def bN (inner:List Nat) (xs:List (List Nat)) (E:Lf→Int):AV :=
 if xs.length=0 ∨ 8<xs.length ∨ nl E (gK (bc xs) xs)=true then .tup [.nil,.d (.int .i64 1)] else .tup [.d (.ro 34 ((gK (bc xs) xs).map (cS inner))),.d (.int .i64 0)]
theorem xp (inner:List Nat) (xs:List (List Nat)) (hi:inner.length=32) (hx:∀ x,x ∈ xs→x.length≤100000)
    (hcl:∀ b:List Nat,b.length≤100000000000→aq Tryz.prog 52 [.d (nb b)] (fun r=>r=.d (nb b))) (O:Lf→List Nat) (E:Lf→Int)
    (hout:∀ l,l ∈ gK (bc xs) xs→aq Tryz.prog 18 [.agg (aB inner (.d (cF l.1)) (.d (nb l.2)))] (fun r=>r=.tup [.d (nb (O l)),.d (.int .i64 (E l))])) :
    aq Tryz.prog 24 [.agg (cb inner),.d (.ro 1 (xs.map me))] (fun r=>r=bN inner xs E):=by
  refine aS Tryz.func24 Tryz.ntmps24 (rs:=[.tmp 4,.tmp 5]) (by
    intro v hv;simp at hv;rcases hv with rfl | rfl
    · exact aL _
    · trivial) ?_
  by_cases h0:xs.length=0
  · have hV:bN inner xs E=.tup [.nil,.d (.int .i64 1)]:=by unfold bN;rw [if_pos (.inl h0)]
    rw [hV]
    have hxs:xs=[]:=List.eq_nil_of_length_eq_zero h0
    subst hxs
    simp [go_sem,am,hi,aj hi,ak]
    exact ae (by simp [AV.deep,AV.deep1]) rfl
  by_cases h8:8<xs.length
  · have hV:bN inner xs E=.tup [.nil,.d (.int .i64 1)]:=by unfold bN;rw [if_pos (.inr (.inl h8))]
    rw [hV]
    have i0:¬ (xs.length:Int)=0:=by omega
    have i8:(8:Int)<(xs.length:Int):=by omega
    simp [go_sem,am,hi,aj hi,i0,i8,h0,h8,ak]
    exact ae (by simp [AV.deep,AV.deep1]) rfl
  have hn:xs.length≤8:=by omega
  have i0:¬ (xs.length:Int)=0:=by omega
  have i8:¬ (8:Int)<(xs.length:Int):=by omega
  simp [go_sem,am,hi,aj hi,i0,i8,h0,h8]
  refine au (fun k:Nat=>⟨[(2,.ptr 0 0 0 1),(6,.own 10000 0 k k),(7,.own 10001 0 k k),(20,.d (.ro 1 (xs.map me))),(21,.d (.int .i64 (xs.length:Int))),(22,.d (.int .i64 (k:Int)))],
      [(10001,⟨96,34,(i9 0 (dk (xs.take k))).map (fun q=>q.map AV.d)⟩),(10000,⟨27,34,uv inner (xs.take k)⟩),(0,⟨23,32,[cb inner]⟩)],11000⟩)
    (fun k=>k≤xs.length) (fun k=>xs.length - k) 0 (by omega) (by
      simp [av,ag,fv,lk,AV.low,AV.low1,i9,dk,uv]
      exact aF _ _) ?_
  intro k hk
  simp only [go_sem,Nat.reduceEqDiff,Nat.reduceAdd,Nat.reduceLT,↓reduceIte,Nat.reduceMul]
  refine ⟨fun h=>?_,fun h=>?_⟩
  · obtain ⟨x,hxk,hd⟩:=cN (l:=xs) (k:=k) (by omega)
    have w3:=ax (k:=k) (by omega)
    have hxl:=hx x (List.mem_of_getElem? hxk)
    have zl:(aB z32 .nil .nil).length=34:=rfl
    have hst:(i9 0 (dk (xs.take k))).length=k:=by rw [jP,dk,List.length_map,List.length_take];omega
    have hlv:(uv inner (xs.take k)).length=k:=by rw [uv,List.length_map,List.length_take];omega
    have hlB:=ie x
    simp [go_sem,hxk,me]
    refine bk [0,1,2] [(3,[4]),(5,[]),(6,[]),(7,[])] 2 (k:=8) ?_
    intro G hG
    simp [go_sem,am,hi,aj hi]
    refine ab (hcl x (by omega)) (by simp [AV.deep,AV.deep1]) ?_
    have zd:List.drop 32 (aB z32 .nil .nil)=[.nil,.nil]:=rfl
    have b2:=pN hi .nil .nil
    have b3:=pO hi .nil .nil
    simp [go_sem,am,hi,aj hi,zl,hlv,zd,b2,b3]
    refine ⟨by omega,hG _ _ ?_⟩
    clear hG G
    have hash1:aq Tryz.prog 51 [.d (nb x)] (fun r=>r=.agg (cb (ct x))):=pq x (by omega)
    simp [go_sem]
    refine ab hash1 (by simp [AV.deep,AV.deep1]) ?_
    have zs:(a9 z32 0 0).length=34:=rfl
    have hz:List.drop 32 (a9 z32 0 0)=[.d (.int .i64 0),.d (.int .i64 0)]:=rfl
    have hz2:List.drop 34 (a9 z32 0 0)=[]:=rfl
    have e1:=AJ hlB
    have e2:=pN hlB
    have e3:=pO hlB
    simp [go_sem,hlB,aj hlB,am,zs,hz,hz2,e1,e2,e3,hst,w3]
    refine ⟨by omega,?_⟩
    have E1:uv inner (xs.take (k+1))=uv inner (xs.take k) ++ [cb inner ++ [.nil,.d (nb x)]]:=by rw [lD hxk];simp [uv,aB]
    have E2:(i9 0 (dk (xs.take (k+1)))).map (fun q=>q.map AV.d)=(i9 0 (dk (xs.take k))).map (fun q=>q.map AV.d) ++ [cb (ct x) ++ [.d (.int .i64 (k:Int)),.d (.int .i64 1)]]:=by
      rw [lD hxk,xk,pQ,List.map_append,iv,List.length_take,Nat.min_eq_left (by omega)]
      simp [dk,i9,xi,fP]
    refine ai (k+1) (by omega) (by omega) ⟨?_,?_,by simp⟩
    · simp [ag,fv,lk,AV.low,AV.low1]
    · intro p hp
      simp only [List.mem_cons,List.mem_nil_iff,or_false] at hp
      rcases hp with rfl | rfl | rfl
      · exact ⟨.inl (by simp [lk,E2]),by show 10001<11000;omega,uo _ _ _⟩
      · exact ⟨.inl (by simp [lk,E1]),by show 10000<11000;omega,fun r hr=>by
          obtain ⟨y,_,rfl⟩:=List.mem_map.1 hr
          exact ip _ _ _ _ trivial trivial⟩
      · exact ⟨.inl rfl,by show 0<11000;omega,by intro r hr;simp at hr;subst hr;exact aF _ _⟩
  · have hkn:k=xs.length:=by omega
    subst hkn
    simp [go_sem]
    obtain ⟨R,F,hRF⟩:∃ R F,cx 7 (dk xs) (fun _=>[])=(R,F):=⟨_,_,rfl⟩
    have hr0:(dk xs).length=xs.length:=by simp [dk]
    refine kS (fun t:Nat × Row × eF=>⟨[(6,.own 10000 0 xs.length xs.length),(7,.d (.ro 34 (i9 0 t.2.1)))],(10000,⟨27,34,ga inner dI t.2.2 xs⟩) :: fi 20000 8 t.2.2,30000⟩)
      (fun t=>cx t.1 t.2.1 t.2.2=(R,F)∧t.2.1.length≤t.1+1∧t.1≤7∧bM t.2.1=xs.length∧(∀ p,p ∈ t.2.1→p.1.length=32)∧CT t.2.2∧∀ j,(t.2.2 j).length+t.1≤7) (fun t=>t.1) (7,dk xs,fun _=>[])
      ⟨hRF,by simp only [hr0];omega,Nat.le_refl _,iv xs,nk xs,(fun j p hp=>by simp at hp),fun j=>by simp⟩ ?_ ?_
    · refine (ud [10001] [(7,.d (.ro 34 (i9 0 (dk xs))))] (fun p hp=>?_)).trans ((cK ?_).trans (sR xs hn))
      · simp at hp
        subst hp
        exact .one (aw (cq rfl (by simp) (by rw [jP,hr0]) (qP _ _ (nk xs))))
      · refine ⟨?_,?_,by simp⟩
        · simp [ag,fv,lk,AV.low,AV.low1]
        · intro p hp
          rcases List.mem_cons.1 hp with rfl | hp
          · exact ⟨.inl rfl,by show 10000<30000;omega,fun r hr=>by
              obtain ⟨y,_,rfl⟩:=List.mem_map.1 hr
              exact ip _ _ _ _ trivial trivial⟩
          · obtain ⟨j,hj,rfl⟩:=d6 8 20000 _ p hp
            exact ⟨.inr ⟨by show 11032≤20000+j;omega,rfl⟩,by show 20000+j<30000;omega,uk _ _⟩
    · rintro ⟨n,row,f⟩ ⟨q1,q2,q3,q4,q5,q7,q6⟩
      simp only at q1 q2 q3 q4 q5 q6 q7
      simp only
      simp [go_sem,jP]
      refine ⟨fun h=>?_,fun h=>?_⟩
      · have h':1<row.length:=by omega
        obtain ⟨m,rfl⟩:∃ m,n=m+1:=⟨n - 1,by omega⟩
        rw [cx,if_pos h'] at q1
        refine au (fun t:Nat × Row × Row × eF=>⟨[(6,.own 10000 0 xs.length xs.length),(7,.d (.ro 34 (i9 t.1 t.2.1))),(10,.own 40000 0 t.2.2.1.length t.2.2.1.length)],
            (40000,⟨96,34,(i9 0 t.2.2.1).map (fun q=>q.map AV.d)⟩) :: (10000,⟨27,34,ga inner dI t.2.2.2 xs⟩) :: fi 20000 8 t.2.2.2,50000⟩)
          (fun t=>t.2.2.1 ++ bF t.2.1=bF row∧cU t.1 t.2.1 t.2.2.2=cU 0 row f∧bM t.2.2.1=t.1∧t.1+bM t.2.1=xs.length∧(∀ p,p ∈ t.2.1→p.1.length=32)∧(∀ p,p ∈ t.2.2.1→p.1.length=32)∧CT t.2.2.2∧∀ j,(t.2.2.2 j).length≤if j<t.1 then (6 - m)+1 else 6 - m)
          (fun t=>t.2.1.length) (0,row,[],f) ⟨rfl,rfl,rfl,by simp only;omega,q5,by simp,q7,fun j=>by have:=q6 j;simp only [Nat.not_lt_zero,if_false];omega⟩ ⟨?_,?_,by simp⟩ ?_
        · simp [ag,fv,lk,AV.low,AV.low1,i9]
        · intro p hp
          rcases List.mem_cons.1 hp with rfl | hp
          · exact ⟨.inr ⟨by show 30128≤40000;omega,rfl⟩,by show 40000<50000;omega,by intro r hr;simp [i9] at hr⟩
          · exact gq (by simp) hn rfl (fun j hj=>by
              show lk (dI j) ((10000,_) :: fi 20000 8 f)=_
              rw [lk,if_neg (by unfold dI;omega)]
              exact gL 8 20000 f j hj) p hp
        · rintro ⟨s,q,up,g⟩ ⟨p1,p2,p3,p4,p5,p6,p8,p7⟩
          simp only at p1 p2 p3 p4 p5 p6 p7 p8
          simp only
          simp [go_sem,jP]
          refine ⟨fun hh=>?_,fun hh=>?_⟩
          · match q,p1,p2,p4,p5,hh with
            | a :: b :: r,p1,p2,p4,p5,_ =>
              have ha:=p5 a (by simp)
              have hb:=p5 b (by simp)
              have hla:=qO ha s a.2
              have hlb:=qO hb (s+a.2) b.2
              simp only [i9]
              skip
              refine bD [1,2,3,4,5,6,7] [0,8,9,10,11] [1,2,3,4,5,6,7] (.alt (.step 0 [] true (.step 8 [] false (.step 9 [] false (.step 10 [] false (.step 11 [] false .done))))) (.step 8 [] false (.alt (.step 0 [] false (.step 9 [] false (.step 10 [] false (.step 11 [] false .done)))) (.step 9 [] false (.step 0 [] false (.step 10 [] false (.step 11 [] false .done))))))) ⟨[(6,.own 10000 0 xs.length xs.length),(7,.d (.ro 34 (i9 s (a :: b :: r)))),(10,.own 40000 0 (up.length+1) (up.length+1))],(40000,⟨96,34,(i9 0 (up ++ [(aO a.1 b.1,a.2+b.2)])).map (fun q=>q.map AV.d)⟩) :: (10000,⟨27,34,ga inner dI (aU (s+a.2) b.2 a.1 (aU s a.2 b.1 g)) xs⟩) :: fi 20000 8 (aU (s+a.2) b.2 a.1 (aU s a.2 b.1 g)),60000⟩ (k:=12) ?h3 ?hq
              case h3 =>
                intro G hG
                simp [go_sem,hla,hlb,xj,iq ha,iq hb,cL ha,cL hb,i9]
                have tot:s+(a.2+(b.2+bM r))=xs.length:=by
                  have:=p4
                  simp only [bM,List.map_cons,List.sum_cons] at this ⊢
                  exact this
                have hgg:∀ j,(g j).length≤100:=fun j=>by
                  have:=p7 j
                  split at this <;> omega
                have hgr:=Dy inner a.1 b.1 xs g s a.2 (s+a.2) b.2 hi ha hb hn (by omega) (by omega) hgg
                have hcg:∀ (N:Nat) (K:AV→Hp→Prop),K (.agg (a9 (aO a.1 b.1) s (a.2+b.2))) ((10000,⟨27,34,ga inner dI (aU (s+a.2) b.2 a.1 (aU s a.2 b.1 g)) xs⟩) :: (fi 20000 8 (aU (s+a.2) b.2 a.1 (aU s a.2 b.1 g)) ++ [(40000,⟨96,34,(i9 0 up).map (fun q=>q.map AV.d)⟩)])) →
                    Cc Tryz.prog 56 [.own 10000 0 xs.length xs.length,.agg (a9 a.1 s a.2),.agg (a9 b.1 (s+a.2) b.2)] ((40000,⟨96,34,(i9 0 up).map (fun q=>q.map AV.d)⟩) :: (10000,⟨27,34,ga inner dI g xs⟩) :: fi 20000 8 g) N K:=by
                  intro N K hK
                  exact DB (pre:=[(40000,⟨96,34,(i9 0 up).map (fun q=>q.map AV.d)⟩)]) inner a.1 b.1 xs g s a.2 (s+a.2) b.2 hn hgr (by intro p hp;simp at hp;subst hp;exact ⟨by simp,.inr (by simp)⟩) hK
                have hBl:=dQ a.1 b.1
                have hul:up.length≤10:=by
                  have e1:=congrArg List.length p1
                  have e2:=gF row
                  simp only [List.length_append] at e1
                  omega
                have hW:∀ (fr:Fr) (hp:Hp),fv 6 fr=.own 10000 0 xs.length xs.length→fv 7 fr=.d (.ro 34 (i9 s (a :: b :: r)))→fv 10 fr=.own 40000 0 (up.length+1) (up.length+1) →
                    lk 40000 hp=some ⟨96,34,(i9 0 up).map (fun q=>q.map AV.d) ++ [a9 (aO a.1 b.1) s (a.2+b.2)]⟩→lk 10000 hp=some ⟨27,34,ga inner dI (aU (s+a.2) b.2 a.1 (aU s a.2 b.1 g)) xs⟩→(∀ j,j<8→lk (dI j) hp=some (pB (aU (s+a.2) b.2 a.1 (aU s a.2 b.1 g) j)))→G fr hp:=by
                  intro fr hp v1 v2 v3 v4 v5 v6
                  refine hG _ _ (cK ⟨?_,?_,by simp⟩)
                  · simp [ag,AV.low,AV.low1,v1,v2,v3]
                  · intro p hp'
                    rcases List.mem_cons.1 hp' with rfl | hp'
                    · refine ⟨.inl ?_,by show 40000<60000;omega,uo _ _ _⟩
                      show lk 40000 hp=_
                      rw [v4,pQ,Nat.zero_add,p3,List.map_append]
                      simp [i9,xj]
                    · exact gq (by simp) hn v5 v6 p hp'
                refine ⟨hcg _ _ ?_,hcg _ _ ?_⟩
                all_goals
                  simp [go_sem,iq hBl,cL hBl,xh,zr,jP]
                  repeat' apply And.intro
                all_goals first
                  | omega
                  | (refine hW _ _ rfl rfl rfl (by simp [lk,xh]) (by simp [lk]) (fun j hj=>?_)
                     have hne:∀ c,(c<20000 ∨ 20008≤c)→¬ c=dI j:=fun c hc=>by unfold dI;omega
                     simp [lk,hne,JK hj])
              case hq =>
                have hdr:List.drop 2 (List.take ((((i9 (s+a.2+b.2) r).length:Int)+1+1).toNat) (xi a.1 s a.2 :: xi b.1 (s+a.2) b.2 :: i9 (s+a.2+b.2) r))=i9 (s+a.2+b.2) r:=by
                  rw [List.take_of_length_le (by simp only [List.length_cons];omega)]
                  rfl
                simp only [i9]
                simp [go_sem,hdr,-List.drop_succ_cons]
                refine ⟨by omega,?_⟩
                have l1:=jm (first:=s) (k:=a.2) (h:=b.1) p7 (Nat.le_refl _)
                have l2:=jm (first:=s+a.2) (k:=b.2) (h:=a.1) l1 (Nat.le_refl _)
                have tu:bM (up ++ [(aO a.1 b.1,a.2+b.2)])=s+a.2+b.2:=by
                  have:=p3
                  simp only [bM,List.map_append,List.sum_append,List.map_cons,List.map_nil,List.sum_cons,List.sum_nil] at this ⊢
                  omega
                refine ai (s+a.2+b.2,r,up ++ [(aO a.1 b.1,a.2+b.2)],aU (s+a.2) b.2 a.1 (aU s a.2 b.1 g)) ⟨by rw [← p1];simp [bF],p2,tu,?_,fun u v hp=>p5 (u,v) (by simp [hp]),?_,lE (lE p8 hb) ha,l2⟩ (by simp only [List.length_cons];omega) ⟨?_,?_,by simp⟩
                · have:=p4
                  simp only [bM,List.map_cons,List.sum_cons] at this ⊢
                  omega
                · intro u v hp
                  rcases List.mem_append.1 hp with hp | hp
                  · exact p6 (u,v) hp
                  · simp at hp;obtain ⟨rfl,_⟩:=hp;exact dQ _ _
                · simp [ag,fv,lk,AV.low,AV.low1]
                · intro p hp
                  rcases List.mem_cons.1 hp with rfl | hp
                  · exact ⟨.inl rfl,by show 40000<50000;omega,uo _ _ _⟩
                  · exact gq (by simp) hn rfl (fun j hj=>by
                      have hne:∀ c,(c<20000 ∨ 20008≤c)→¬ c=dI j:=fun c hc=>by unfold dI;omega
                      have:=gL 8 20000 (aU (s+a.2) b.2 a.1 (aU s a.2 b.1 g)) j hj
                      simp [lk,hne]
                      exact this) p hp
          · have hql:q.length≤1:=by omega
            rw [zu hql] at p1
            rw [xo hql] at p2
            subst p2
            have hul:up.length+q.length≤10:=by
              have e1:=congrArg List.length p1
              have e2:=gF row
              simp only [List.length_append] at e1
              omega
            have hrows:(i9 0 up).map (fun q=>q.map AV.d) ++ (i9 s q).map (fun q=>q.map AV.d)=(i9 0 (bF row)).map (fun q=>q.map AV.d):=by
              rw [← p1,pQ,List.map_append,Nat.zero_add,p3]
            have hlen:up.length+q.length=(i9 0 (bF row)).length:=by rw [jP,← p1,List.length_append]
            refine ⟨by omega,?_⟩
            refine xT (m,bF row,cU 0 row f) ⟨q1,?_,by show m≤7;omega,?_,?_,p8,?_⟩ (by show m<m+1;omega) [40000] [(7,.d (.ro 34 (i9 0 (bF row))))] (fun p hp=>?_) ⟨?_,?_,by simp⟩
            · have:=gF row
              show (bF row).length≤m+1
              omega
            · show bM (bF row)=xs.length
              rw [iu];exact q4
            · intro u v hp
              exact lC row q5 (u,v) hp
            · intro j
              have:=p7 j
              show (cU 0 row f j).length+m≤7
              split at this <;> omega
            · simp at hp
              subst hp
              refine .one (aw ?_)
              show SnapD _ _ (.own 40000 0 (up.length+q.length) (up.length+q.length)) _
              rw [hlen]
              exact cq (ty:=96) (by show some _=some _;rw [hrows]) (by simp) rfl (qP _ _ (lC row q5))
            · simp [ag,fv,lk,AV.low,AV.low1]
            · intro p hp
              exact gq (by simp) hn rfl (fun j hj=>by
                have hne:∀ c,(c<20000 ∨ 20008≤c)→¬ c=dI j:=fun c hc=>by unfold dI;omega
                have:=gL 8 20000 (cU 0 row f) j hj
                simp [aQ,lk,hne]
                rw [eT,if_neg (by simp;exact fun e=>hne 40000 (.inr (by omega)) e.symm)]
                exact this) p hp
      · have hrl:row.length≤1:=by omega
        rw [qQ hrl] at q1
        obtain ⟨rfl,rfl⟩:row=R∧f=F:=by simpa using q1
        have hF:bc xs=f:=by unfold bc;rw [hRF]
        rw [hF] at hout
        have g:=uq inner (gK f xs) O E hi (by rw [nn];omega) hout
        have hsn:SnapD ((10000,(⟨27,34,ga inner dI f xs⟩:Blk)) :: fi 20000 8 f) (fun _=>True) (.own 10000 0 xs.length xs.length) (.ro 34 ((gK f xs).map (cS inner))):=by
          refine o4 (idf:=dI) hi rfl trivial (fun _ _=>trivial) q7 (fun j hj=>?_)
          have hne:∀ c,(c<20000 ∨ 20008≤c)→¬ c=dI j:=fun c hc=>by unfold dI;omega
          have:=gL 8 20000 f j (by omega)
          rw [lk,if_neg (hne _ (by omega))]
          exact this
        refine nA g rfl (ay (.one (aw hsn)) (ay (.deep (by simp [AV.deep,AV.deep1])) aT)) trivial ?_
        unfold bN
        rw [hF]
        cases hbd:nl E (gK f xs)
        · rw [if_neg (by simp [h0,h8])]
          simp [go_sem,ak]
          refine ji (cs':=[.d (.ro 34 ((gK f xs).map (cS inner))),.d (.int .i64 0)]) (fun i c c' h1 h2=>?_) rfl (by simp [AV.deep,AV.deep1]) rfl
          match i,h1,h2 with
          | 0,h1,h2=>simp at h1 h2;subst h1 h2;exact aw hsn
          | 1,h1,h2=>simp at h1 h2;subst h1 h2;exact cf trivial
          | k+2,h1,_=>simp at h1
        · rw [if_pos (.inr (.inr rfl))]
          simp [go_sem,ak]
          exact ae (by simp [AV.deep,AV.deep1]) rfl
def o5:Nat→Row→eF→List (List Nat)→Prop
 | _,[],_,_=>True
 | s,p :: r,f,xs=>bytes p.1∧(∀ j x,s≤j→j<s+p.2→xs[j]?=some x→dP (f j) (ct x)=p.1)∧o5 (s+p.2) r f xs
theorem sS:∀ (r:Row) (s:Nat) (f g:eF) (xs:List (List Nat)),(∀ j,s≤j→f j=g j)→o5 s r f xs→o5 s r g xs
 | [],_,_,_,_,_,_=>trivial
 | p :: r,s,f,g,xs,h,hg=>⟨hg.1,fun j x h1 h2 h3=>by rw [← h j h1];exact hg.2.1 j x h1 h2 h3,sS r (s+p.2) f g xs (fun j hj=>h j (by omega)) hg.2.2⟩
theorem jp {first k:Nat} {h:List Nat} {f:eF} {j:Nat} (hj:j<first ∨ first+k≤j):aU first k h f j=f j:=by
 unfold aU;rw [if_neg (by omega)]
theorem AK {first k:Nat} {h:List Nat} {f:eF} {j:Nat} (h1:first≤j) (h2:j<first+k):aU first k h f j=f j ++ [h]:=by
 unfold aU;rw [if_pos ⟨h1,h2⟩]
theorem qS:∀ (q:Row) (s:Nat) (g:eF) (j:Nat),j<s→cU s q g j=g j
 | [],_,_,_,_=>rfl
 | [a],_,_,_,_=>rfl
 | a :: b :: r,s,g,j,h=>by
  rw [cU,qS r _ _ _ (by omega),jp (by omega),jp (by omega)]
theorem sT (q:List (List Nat)) (p h:List Nat):dP (q ++ [p]) h=aO (dP q h) p:=by simp [dP]
theorem so (a b:List Nat):bytes (aO a b):=cQ _
theorem xq (x:List Nat):bytes (ct x):=cQ _
theorem qT:∀ (q:Row) (s:Nat) (g:eF) (xs:List (List Nat)),o5 s q g xs→o5 s (bF q) (cU s q g) xs
 | [],_,_,_,h=>h
 | [a],_,_,_,h=>h
 | a :: b :: r,s,g,xs,h=>by
  obtain ⟨ba,ha,bb,hb,hr⟩:=h
  rw [bF,cU]
  refine ⟨so _ _,fun j x h1 h2 h3=>?_,?_⟩
  ·simp only at h2
   rw [qS _ _ _ _ (by omega)]
   by_cases hj:j<s+a.2
   ·rw [jp (.inl hj),AK h1 hj,sT,ha j x h1 hj h3]
   ·rw [AK (by omega) (by omega),jp (.inr (by omega)),sT,hb j x (by omega) (by omega) h3]
    exact uV bb ba
  ·simp only
   rw [← Nat.add_assoc]
   exact qT r _ _ xs (sS r _ g _ xs (fun j hj=>by rw [jp (.inr hj),jp (.inr (by omega))]) hr)
theorem o6:∀ (n:Nat) (q:Row) (g:eF) (xs:List (List Nat)),o5 0 q g xs→o5 0 (cx n q g).1 (cx n q g).2 xs
 | 0,q,g,xs,h=>h
 | n+1,q,g,xs,h=>by
  rw [cx]
  split
  ·exact o6 n _ _ xs (qT q 0 g xs h)
  ·exact h
theorem o9:∀ (n:Nat) (q:Row) (g:eF),bM (cx n q g).1=bM q
 | 0,q,g=>rfl
 | n+1,q,g=>by
  rw [cx]
  split
  ·rw [o9 n,iu]
  ·rfl
theorem pa:∀ (n:Nat) (q:Row) (g:eF),q.length≤n+1→(cx n q g).1.length≤1
 | 0,q,g,h=>h
 | n+1,q,g,h=>by
  rw [cx]
  split
  ·refine pa n _ _ ?_
   have:=gF q
   omega
  ·rename_i h'
   show q.length≤1
   omega
theorem sU:∀ (pre xs:List (List Nat)),o5 pre.length (dk xs) (fun _=>[]) (pre ++ xs)
 | pre,[]=>trivial
 | pre,x :: r=>by
  refine ⟨xq x,fun j y h1 h2 h3=>?_,?_⟩
  ·have:j=pre.length:=by simp only at h2;omega
   subst this
   rw [List.getElem?_append_right (Nat.le_refl _),Nat.sub_self] at h3
   simp only [List.getElem?_cons_zero,Option.some.injEq] at h3
   subst h3
   rfl
  ·have:=sU (pre ++ [x]) r
   simpa [dk] using this
theorem DD (xs:List (List Nat)) (h8:xs.length≤8):∃ h,∀ l,l ∈ gK (bc xs) xs→dP l.1 (ct l.2)=h:=by
 have g:=o6 7 (dk xs) (fun _=>[]) xs (by simpa using sU [] xs)
 have t:=o9 7 (dk xs) (fun _=>[])
 have s:=pa 7 (dk xs) (fun _=>[]) (by simp [dk];omega)
 rw [iv] at t
 have hF:bc xs=(cx 7 (dk xs) fun _=>[]).2:=rfl
 rw [hF]
 generalize cx 7 (dk xs) (fun _=>[])=RF at *
 obtain ⟨R,F⟩:=RF
 simp only at g t s ⊢
 match R,s,t,g with
 | [],_,t,_ =>
  refine ⟨[],fun l hl=>?_⟩
  have:xs=[]:=List.eq_nil_of_length_eq_zero (by simpa [bM] using t.symm)
  subst this
  simp [gK] at hl
 | [p],_,t,g =>
  refine ⟨p.1,fun l hl=>?_⟩
  simp only [gK,List.mem_mapIdx] at hl
  obtain ⟨j,hj,rfl⟩:=hl
  exact g.2.1 j _ (Nat.zero_le _) (by simp [bM] at t;omega) (List.getElem?_eq_getElem hj)
 | a :: b :: r,s,_,_=>simp at s
theorem sV:∀ (n:Nat) (q:Row) (g:eF) (B:Nat),(∀ j,(g j).length≤B)→∀ j,((cx n q g).2 j).length≤B+n
 | 0,q,g,B,h=>h
 | n+1,q,g,B,h=>by
  rw [cx]
  split
  ·intro j
   have key:∀ (r:Row) (s:Nat) (f:eF),(∀ j,(f j).length≤if j<s then B+1 else B)→∀ j,(cU s r f j).length≤B+1:=by
    intro r
    induction r using bF.induct with
    | case1 a b r ih =>
     intro s f hf
     exact ih _ _ (jm (jm hf (Nat.le_refl _)) (Nat.le_refl _))
    | case2 r hr =>
     intro s f hf j
     have:=hf j
     have hg:cU s r f=f:=by
      match r,hr with
      | [],_=>rfl
      | [a],_=>rfl
      | a :: b :: r,hr=>exact absurd rfl (hr a b r)
     rw [hg]
     split at this <;> omega
   have:=sV n (bF q) (cU 0 q g) (B+1) (key q 0 g (fun j=>by have:=h j;simp;exact this)) j
   omega
  ·intro j
   have:=h j
   show (g j).length≤_
   omega
theorem xu:∀ (n:Nat) (q:Row) (g:eF),(∀ p,p ∈ q→p.1.length=32)→CT g→CT (cx n q g).2
 | 0,q,g,_,h=>h
 | n+1,q,g,hq,h=>by
  rw [cx]
  split
  ·refine xu n _ _ (lC q hq) ?_
   have key:∀ (r:Row) (s:Nat) (f:eF),(∀ p,p ∈ r→p.1.length=32)→CT f→CT (cU s r f):=by
    intro r
    induction r using bF.induct with
    | case1 a b r ih =>
     intro s f hr hf
     exact ih _ _ (fun p hp=>hr p (by simp [hp])) (lE (lE hf (hr b (by simp))) (hr a (by simp)))
    | case2 r hr =>
     intro s f _ hf
     match r,hr with
     | [],_=>exact hf
     | [a],_=>exact hf
     | a :: b :: r,hr=>exact absurd rfl (hr a b r)
   exact key q 0 g hq h
  ·exact h
end Go.Proofs.YtldccnbokbieiaaGreat
