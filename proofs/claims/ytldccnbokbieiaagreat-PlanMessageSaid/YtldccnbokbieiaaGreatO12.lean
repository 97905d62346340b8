/-
 Part 13 of what the claim rests on.
-/
import Derived.Test.YtldccnbokbieiaaGreatO2
import Derived.Test.YtldccnbokbieiaaGreatO3
set_option linter.unusedVariables false
set_option linter.unusedSimpArgs false
set_option maxRecDepth 100000
set_option maxHeartbeats 16000000
namespace Go.Proofs.YtldccnbokbieiaaGreat
open Go.Am Go.Sha
abbrev Q4:=Nat→List (List Nat)
def pB (q:List (List Nat)):Blk:=⟨23,32,q.map cb⟩
def RN (P:Nat):Nat→Q4→Hp
 | 0,_=>[]
 | n+1,f=>(P,pB (f 0)) :: RN (P+1) n (fun j=>f (j+1))
def upd (f:Q4) (j:Nat) (q:List (List Nat)):Q4:=fun i=>if i=j then q else f i
def YZ (j:Nat):Nat:=1+j
theorem Uw {j:Nat} (h:j<8) (c:Nat) (hc:9≤c):(c=YZ j)=False:=by unfold YZ;simp;omega
theorem W9 (j:Nat):(0=YZ j)=False:=by unfold YZ;simp;omega
theorem Tp:∀ (n P:Nat) (f:Q4) (j:Nat),j<n→lk (P+j) (RN P n f)=some (pB (f j))
 | n+1,P,f,0,_=>by simp [RN,lk]
 | n+1,P,f,j+1,h=>by
  have:=Tp n (P+1) (fun j=>f (j+1)) j aa;rw [RN,lk,if_neg aa,show P+(j+1)=P+1+j by omega,this]
theorem aaX:∀ (n P:Nat) (f:Q4) (j:Nat) (q:List (List Nat)),j<n→y5 (P+j) (pB q) (RN P n f)=RN P n (upd f j q)
 | n+1,P,f,0,q,_=>by
  simp only [RN,y5,Nat.add_zero,if_true];congr 1
 | n+1,P,f,j+1,q,h=>by
  have:=aaX n (P+1) (fun j=>f (j+1)) j q aa;rw [RN,y5,if_neg aa,show P+(j+1)=P+1+j by omega,this,RN];simp [upd];congr 1
theorem P2:∀ (n P:Nat) (f:Q4) (p:Nat × Blk),p ∈ RN P n f→∃ j,j<n∧p=(P+j,pB (f j))
 | 0,_,_,p,h=>by simp [RN] at h
 | n+1,P,f,p,h=>by
  rw [RN] at h;rcases aF.1 h with rfl | h
  ·exact ⟨0,aa,rfl⟩
  ·obtain ⟨j,hj,rfl⟩:=P2 n (P+1) _ p h;exact ⟨j+1,aa,by rw [show P+1+j=P+(j+1) by omega]⟩
theorem Ux {f:Q4} {j:Nat} (h:j<8):lk (YZ j) (RN 1 8 f)=some (pB (f j)):=Tp 8 1 f j h
theorem afp {f:Q4} {j:Nat} (q:List (List Nat)) (h:j<8):y5 (YZ j) (pB q) (RN 1 8 f)=RN 1 8 (upd f j q):=aaX 8 1 f j q h
theorem aiv (q:List (List Nat)):(pB q).ty=23:=rfl
theorem apT (q:List (List Nat)):(pB q).e=32:=rfl
theorem aiw (q:List (List Nat)):(pB q).es=q.map cb:=rfl
theorem Vq {inner:List Nat} (hi:inner.length=32) (a b c:AV):(cb inner ++ [a,b]).set 32 c=cb inner ++ [c,b]:=by
 have hl:(cb inner).length=32:=by rw [d0,hi]
 rw [List.set_append_right _ _ aa,hl];rfl
def SH (inner:List Nat) (idf:Nat→Nat) (f:Q4) (xs:List (List Nat)):List (List AV):=xs.mapIdx fun j x=>s5 inner (.own (idf j) 0 (f j).length (f j).length) (.d (nb x))
theorem P3 {inner:List Nat} {idf:Nat→Nat} {f:Q4} {xs:List (List Nat)}:(SH inner idf f xs).length=xs.length:=by simp [SH]
theorem Y0 {inner:List Nat} {idf:Nat→Nat} {f:Q4} {xs:List (List Nat)} {j:Nat} {x:List Nat} (h:xs[j]?=some x):(SH inner idf f xs)[j]?=some (s5 inner (.own (idf j) 0 (f j).length (f j).length) (.d (nb x))):=by
 simp [SH,h]
theorem ZT {inner:List Nat} {idf:Nat→Nat} {f:Q4} {xs:List (List Nat)} {j:Nat} {x:List Nat} (q:List (List Nat)) (h:xs[j]?=some x):(SH inner idf f xs).set j (s5 inner (.own (idf j) 0 q.length q.length) (.d (nb x)))=SH inner idf (upd f j q) xs:=by
 have hj:=(ak.1 h).1;apply List.ext_getElem?;intro i;rw [List.getElem?_set];by_cases hi:j=i
 ·subst hi;rw [if_pos rfl,if_pos (by rw [P3];exact hj),Y0 h];simp [upd]
 ·rw [if_neg hi];simp only [SH,List.getElem?_mapIdx,upd];rw [if_neg (fun e=>hi e.symm)]
theorem T5 (n:Nat) (inner:List Nat) (a b:AV) (ha:a.low1 n) (hb:b.low1 n):∀ v,v ∈ s5 inner a b→v.low1 n:=by
 intro v hv;unfold s5 at hv;rcases au.1 hv with h | h
 ·exact o5 _ _ v h
 ·simp at h;rcases h with rfl | rfl
  ·exact ha
  ·exact hb
theorem aix {n:Nat} {inner:List Nat} {idf:Nat→Nat} {f:Q4} {xs:List (List Nat)} (h:∀ j,j<xs.length→idf j<n):∀ r,r ∈ SH inner idf f xs→∀ v,v ∈ r→v.low1 n:=by
 intro r hr;simp only [SH,List.mem_mapIdx] at hr;obtain ⟨j,hj,rfl⟩:=hr;exact T5 _ _ _ _ (h j hj) trivial
theorem adL (n:Nat) (q:List (List Nat)):∀ r,r ∈ (pB q).es→∀ v,v ∈ r→v.low1 n:=by
 intro r hr;simp only [pB,List.mem_map] at hr;obtain ⟨p,_,rfl⟩:=hr;exact o5 _ _
def z8 (h:List Nat) (first many:Nat):List AV:=cb h ++ [.d (.int .i64 (first:Int)),.d (.int .i64 (many:Int))]
theorem T6 {h:List Nat} (hh:h.length=32) (a b:Nat):(z8 h a b).length=34:=by simp [z8,d0,hh]
theorem H9 {h:List Nat} (hh:h.length=32) (a b:Nat):List.take 34 (z8 h a b)=z8 h a b:=aq (by rw [T6 hh];exact av _)
theorem Xt {h:List Nat} (hh:h.length=32) (a b:Nat):(z8 h a b)[32]?=some (.d (.int .i64 (a:Int))):=K0 hh _ _
theorem aaY {h:List Nat} (hh:h.length=32) (a b:Nat):(z8 h a b)[33]?=some (.d (.int .i64 (b:Int))):=P9 hh _ _
theorem SV {h:List Nat} (hh:h.length=32) (a b:Nat) (hl:32<(z8 h a b).length):(z8 h a b)[32]=.d (.int .i64 (a:Int)):=by
 have:=Xt hh a b;rw [am hl] at this;exact Option.some.inj this
theorem SX {h:List Nat} (hh:h.length=32) (a b:Nat) (hl:33<(z8 h a b).length):(z8 h a b)[33]=.d (.int .i64 (b:Int)):=by
 have:=aaY hh a b;rw [am hl] at this;exact Option.some.inj this
theorem ZU {h:List Nat} (hh:h.length=32) (a b:Nat):List.take 32 (z8 h a b)=cb h:=by
 unfold z8;rw [List.take_append_of_le_length (by rw [d0,hh];exact av _),aq (by rw [d0,hh];exact av _)]
theorem aiy {h:List Nat} (hh:h.length=32) (a b:AV):List.drop 33 (cb h ++ [a,b])=[b]:=by
 rw [List.drop_append,d0,hh,az (by rw [d0];omega)];rfl
theorem ZV {h:List Nat} (hh:h.length=32) (a b:AV):List.take 33 (cb h ++ [a,b])=cb h ++ [a]:=by
 rw [List.take_append,d0,hh,aq (by rw [d0];omega)];rfl
theorem ZW {h:List Nat} (hh:h.length=32) (a b:AV):List.drop 34 (cb h ++ [a,b])=[]:=az (by simp [d0,hh])
theorem F0 (n:Nat) (h:List Nat) (a b:Nat):∀ v,v ∈ z8 h a b→v.low1 n:=by
 intro v hv;rcases au.1 hv with q | q
 ·exact o5 _ _ v q
 ·simp at q;rcases q with rfl | rfl <;> trivial
theorem avX:O6 Tryz.prog 96=some (z8 z32 0 0):=by kernel_rfl
attribute [go_sem] avX
def x9 (first k:Nat) (h:List Nat) (f:Q4):Q4:=fun j=>if first≤j∧j<first+k then f j ++ [h] else f j
theorem WM (first:Nat) (h:List Nat) (f:Q4):x9 first 0 h f=f:=by
 funext j;unfold x9;rw [if_neg aa]
theorem Un (first k:Nat) (h:List Nat) (f:Q4):x9 first k h f (first+k)=f (first+k):=by unfold x9;rw [if_neg aa]
theorem WN (first k:Nat) (h:List Nat) (f:Q4):upd (x9 first k h f) (first+k) (f (first+k) ++ [h])=x9 first (k+1) h f:=by
 funext j;unfold upd x9;by_cases h1:j=first+k
 ·subst h1;rw [if_pos rfl,if_pos aa]
 ·rw [if_neg h1];by_cases h2:first≤j∧j<first+k
  ·rw [if_pos h2,if_pos aa]
  ·rw [if_neg h2,if_neg aa]
def grH (inner:List Nat) (xs:List (List Nat)) (za zb zc:List AV) (f:Q4):Hp :=
 (74,⟨96,34,[za]⟩) :: (42,⟨96,34,[zb]⟩) :: (10,⟨96,34,[zc]⟩) :: (0,⟨27,34,SH inner YZ f xs⟩) :: RN 1 8 f
theorem T7 {inner:List Nat} {xs:List (List Nat)} {za zb zc:List AV} {f:Q4} {hp:Hp} {nx N:Nat} (hN:100≤N) (hn:xs.length≤8) (ha:∀ v,v ∈ za→v.low1 N) (hb:∀ v,v ∈ zb→v.low1 N) (hc:∀ v,v ∈ zc→v.low1 N)
  (h1:lk 74 hp=some ⟨96,34,[za]⟩) (h2:lk 42 hp=some ⟨96,34,[zb]⟩) (h3:lk 10 hp=some ⟨96,34,[zc]⟩) (h4:lk 0 hp=some ⟨27,34,SH inner YZ f xs⟩) (h5:∀ j,j<8→lk (YZ j) hp=some (pB (f j))) :
  ∀ p,p ∈ grH inner xs za zb zc f→(lk p.1 hp=some p.2 ∨ (nx≤p.1∧p.2.es=[]))∧p.1<N∧∀ r,r ∈ p.2.es→∀ v,v ∈ r→v.low1 N:=by
 intro p hp';unfold grH at hp';simp only [aF] at hp';rcases hp' with rfl | rfl | rfl | rfl | hp'
 ·exact ⟨.inl h1,by show 74<N;omega,by intro r hr;simp at hr;subst hr;exact ha⟩
 ·exact ⟨.inl h2,by show 42<N;omega,by intro r hr;simp at hr;subst hr;exact hb⟩
 ·exact ⟨.inl h3,by show 10<N;omega,by intro r hr;simp at hr;subst hr;exact hc⟩
 ·exact ⟨.inl h4,by show 0<N;omega,aix (fun j hj=>by show 1+j<N;omega)⟩
 ·obtain ⟨j,hj,rfl⟩:=P2 8 1 f p hp';exact ⟨.inl (h5 j hj),by show 1+j<N;omega,adL _ _⟩
theorem am9 (inner a b:List Nat) (xs:List (List Nat)) (f:Q4) (fa ma fb mb:Nat) (hi:inner.length=32) (ha:a.length=32) (hb:b.length=32) (hn:xs.length≤8) (h1:fa+ma≤xs.length) (h2:fb+mb≤xs.length) (hf:∀ j,(f j).length≤100) :
  I1 Tryz.prog 56 9 ((0,⟨27,34,SH inner YZ f xs⟩) :: RN 1 8 f) [.own 0 0 xs.length xs.length,.agg (z8 a fa ma),.agg (z8 b fb mb)]
   (fun r hp'=>r=.agg (z8 (w9 a b) fa (ma+mb))∧lk 0 hp'=some ⟨27,34,SH inner YZ (x9 fb mb a (x9 fa ma b f)) xs⟩∧∀ j,j<8→lk (YZ j) hp'=some (pB (x9 fb mb a (x9 fa ma b f) j))):=by
 refine C6 Tryz.func56 (by kernel_rfl) rfl Tryz.ntmps56 (rs:=[.cell 6 96]) rfl (Ut rfl) (Ut rfl) ?_;have sa:=T6 ha fa ma;have sb:=T6 hb fb mb;have w1:IntKind.i64.wrap ((fa:Int)+ma)=((fa+ma:Nat):Int):=by rw [IntWalk.i64_in _ aa];omega
 have w2:IntKind.i64.wrap ((fb:Int)+mb)=((fb+mb:Nat):Int):=by rw [IntWalk.i64_in _ aa];omega
 have zs:(z8 z32 0 0).length=34:=rfl;simp [go_sem,sa,sb,zs,H9 ha,H9 hb,SV ha,SX ha,SV hb,SX hb,P3,w1,-Int.natCast_add];refine ⟨aa,?_⟩
 refine j9 (fun k:Nat=>⟨[(0,.own 0 0 xs.length xs.length),(4,.ptr 10 0 0 1),(5,.ptr 42 0 0 1),(6,.ptr 74 0 0 1),(20,.d (.int .i64 (ma:Int))),(21,.d (.int .i64 (k:Int)))],
   grH inner xs (z8 z32 0 0) (z8 b fb mb) (z8 a fa ma) (x9 fa k b f),10000⟩)
  (fun k=>k≤ma) (fun k=>ma - k) 0 aa (by
   rw [WM];refine ⟨?_,?_,ab⟩
   ·simp [c6,fv,lk,AV.low,AV.low1]
   ·exact T7 (Ut rfl) hn (F0 _ _ _ _) (F0 _ _ _ _) (F0 _ _ _ _) rfl rfl rfl rfl (fun j hj=>by simp [lk,Uw hj,W9,Ux hj])) ?_
 intro k hk;simp only [grH];simp only [go_sem,Nat.reduceEqDiff,Nat.reduceAdd,Nat.reduceLT,↓reduceIte,Nat.reduceMul];refine ⟨fun h=>?_,fun h=>?_⟩
 ·have hj:fa+k<xs.length:=aa;obtain ⟨x,hx⟩:∃ x,xs[fa+k]?=some x:=⟨_,am hj⟩;have w3:=j6 (k:=k) aa;have w4:IntKind.i64.wrap ((fa:Int)+k)=((fa+k:Nat):Int):=by rw [IntWalk.i64_in _ aa];omega
  have hla:=Y0 (inner:=inner) (idf:=YZ) (f:=x9 fa k b f) hx;have hls:=fun q=>ZT (inner:=inner) (idf:=YZ) (f:=x9 fa k b f) q hx;have hp8:fa+k<8:=aa;have hne:=Uw hp8;have h0:=W9 (fa+k);rw [Un] at hla;simp [go_sem,sa,sb,zs,H9 ha,H9 hb,SV ha,SX ha,SV hb,SX hb,Xt ha,P3,w4,-Int.natCast_add];refine ⟨aa,?_⟩
  have far:∀ (f:Q4) (c:Nat),9≤c→∀ (a:Nat) (b:Blk),(a,b) ∈ RN 1 8 f→¬ c=a:=by
   intro f c hc a b hm e;obtain ⟨j,hj,e2⟩:=P2 8 1 f _ hm;simp only [Prod.mk.injEq] at e2;omega
  refine C4 [1,2,3,4,5,6] [0,7,8,9,10,11] [1,2,3,4,5,6] (.alt (ah 0 (ah 7 (ag [8,9,10,11]))) (ah 7 (.alt (ah 0 (ag [8,9,10,11])) (ag [8,0,9,10,11])))) ⟨[(0,.own 0 0 xs.length xs.length),(4,.ptr 10 0 0 1),(5,.ptr 42 0 0 1),(6,.ptr 74 0 0 1),(20,.d (.int .i64 (ma:Int))),(21,.d (.int .i64 (k:Int)))],grH inner xs (z8 z32 0 0) (z8 b fb mb) (z8 a fa ma) (x9 fa (k+1) b f),20000⟩ (k:=12) ?h3 ?hq
  case h3 =>
   intro G hG
   have hW:∀ (fr:Fr) (hp:Hp),(fv 0 fr=.own 0 0 xs.length xs.length∧fv 4 fr=.ptr 10 0 0 1∧fv 5 fr=.ptr 42 0 0 1∧fv 6 fr=.ptr 74 0 0 1∧fv 20 fr=.d (.int .i64 (ma:Int))∧fv 21 fr=.d (.int .i64 (k:Int)) ∧
     hp=(10544,⟨23,32,[cb b]⟩) :: (74,⟨96,34,[z8 z32 0 0]⟩) :: (42,⟨96,34,[z8 b fb mb]⟩) :: (10,⟨96,34,[z8 a fa ma]⟩) :: (0,⟨27,34,SH inner YZ (x9 fa (k+1) b f) xs⟩) :: RN 1 8 (x9 fa (k+1) b f))→G fr hp:=by
    rintro fr hp ⟨q0,q1,q2,q3,q4,q5,rfl⟩;refine hG _ _ (E5 ⟨?_,?_,ab⟩)
    ·simp [c6,AV.low,AV.low1,q0,q1,q2,q3,q4,q5]
    ·exact T7 (Ut rfl) hn (F0 _ _ _ _) (F0 _ _ _ _) (F0 _ _ _ _) rfl rfl rfl rfl (fun j hj=>by simp [lk,Uw hj,W9,Ux hj])
   have hset:=hls (f (fa+k) ++ [b]);have hsetH:=afp (f:=x9 fa k b f) (f (fa+k) ++ [b]) hp8;rw [WN] at hset hsetH;simp [s5,pB] at hset hsetH;have hfk:=hf (fa+k);simp [go_sem,sb,hla,hb,hi,s5,K0 hi,ZU hb,Ux hp8,P3,hne,h0,Un,aiv,apT,aiw,Vq hi,hset,hsetH]
   repeat' apply And.intro
   all_goals first | exact hW _ _ (by simp [fv,lk]) | omega | exact fun a c hm e=>absurd e (far _ _ aa _ _ hm)
  case hq =>
   simp [go_sem,w3];refine c8 (k+1) aa aa ⟨?_,?_,ab⟩
   ·simp [c6,fv,lk,AV.low,AV.low1]
   ·exact T7 (Ut rfl) hn (F0 _ _ _ _) (F0 _ _ _ _) (F0 _ _ _ _) rfl rfl rfl rfl (fun j hj=>by simp [grH,lk,Uw hj,W9,Ux hj])
 ·have hk2:k=ma:=aa;subst hk2;simp [go_sem,sa,sb,zs,H9 ha,H9 hb,SV ha,SX ha,SV hb,SX hb,Xt ha,aaY ha,Xt hb,aaY hb,P3,w2,-Int.natCast_add];refine ⟨aa,?_⟩
  have hg:∀ j,(x9 fa k b f j).length≤101:=by
   intro j;have:=hf j;unfold x9
   split
   ·simp;omega
   ·omega
  have hna:fa+k≤8:=aa;generalize x9 fa k b f=g at *;clear hk h w1;revert sa;revert h1;generalize k=ka;intro h1 sa
  refine j9 (fun k:Nat=>⟨[(0,.own 0 0 xs.length xs.length),(4,.ptr 10 0 0 1),(5,.ptr 42 0 0 1),(6,.ptr 74 0 0 1),(51,.d (.int .i64 (mb:Int))),(52,.d (.int .i64 (k:Int)))],
    grH inner xs (z8 z32 0 0) (z8 b fb mb) (z8 a fa ka) (x9 fb k a g),10000⟩)
   (fun k=>k≤mb) (fun k=>mb - k) 0 aa (by
    rw [WM];refine ⟨?_,?_,ab⟩
    ·simp [c6,fv,lk,AV.low,AV.low1]
    ·exact T7 (Ut rfl) hn (F0 _ _ _ _) (F0 _ _ _ _) (F0 _ _ _ _) rfl rfl rfl rfl (fun j hj=>by simp [lk,Uw hj,W9,Ux hj])) ?_
  intro k hk;simp only [grH];simp only [go_sem,Nat.reduceEqDiff,Nat.reduceAdd,Nat.reduceLT,↓reduceIte,Nat.reduceMul];refine ⟨fun h=>?_,fun h=>?_⟩
  ·have hj:fb+k<xs.length:=aa;obtain ⟨x,hx⟩:∃ x,xs[fb+k]?=some x:=⟨_,am hj⟩;have w3:=j6 (k:=k) aa;have w4:IntKind.i64.wrap ((fb:Int)+k)=((fb+k:Nat):Int):=by rw [IntWalk.i64_in _ aa];omega
   have hla:=Y0 (inner:=inner) (idf:=YZ) (f:=x9 fb k a g) hx;have hls:=fun q=>ZT (inner:=inner) (idf:=YZ) (f:=x9 fb k a g) q hx;have hp8:fb+k<8:=aa;have hne:=Uw hp8;have h0:=W9 (fb+k);rw [Un] at hla;simp [go_sem,sa,sb,zs,H9 ha,H9 hb,SV ha,SX ha,SV hb,SX hb,Xt hb,P3,w4,-Int.natCast_add];refine ⟨aa,?_⟩
   have far:∀ (f:Q4) (c:Nat),9≤c→∀ (u:Nat) (v:Blk),(u,v) ∈ RN 1 8 f→¬ c=u:=by
    intro f c hc u v hm e;obtain ⟨j,hj,e2⟩:=P2 8 1 f _ hm;simp only [Prod.mk.injEq] at e2;omega
   refine C4 [1,2,3,4,5,6] [0,7,8,9,10,11] [1,2,3,4,5,6] (.alt (ah 0 (ah 7 (ag [8,9,10,11]))) (ah 7 (.alt (ah 0 (ag [8,9,10,11])) (ag [8,0,9,10,11])))) ⟨[(0,.own 0 0 xs.length xs.length),(4,.ptr 10 0 0 1),(5,.ptr 42 0 0 1),(6,.ptr 74 0 0 1),(51,.d (.int .i64 (mb:Int))),(52,.d (.int .i64 (k:Int)))],grH inner xs (z8 z32 0 0) (z8 b fb mb) (z8 a fa ka) (x9 fb (k+1) a g),20000⟩ (k:=12) ?h3 ?hq
   case h3 =>
    intro G hG
    have hW:∀ (fr:Fr) (hp:Hp),(fv 0 fr=.own 0 0 xs.length xs.length∧fv 4 fr=.ptr 10 0 0 1∧fv 5 fr=.ptr 42 0 0 1∧fv 6 fr=.ptr 74 0 0 1∧fv 51 fr=.d (.int .i64 (mb:Int))∧fv 52 fr=.d (.int .i64 (k:Int)) ∧
      hp=(10544,⟨23,32,[cb a]⟩) :: (74,⟨96,34,[z8 z32 0 0]⟩) :: (42,⟨96,34,[z8 b fb mb]⟩) :: (10,⟨96,34,[z8 a fa ka]⟩) :: (0,⟨27,34,SH inner YZ (x9 fb (k+1) a g) xs⟩) :: RN 1 8 (x9 fb (k+1) a g))→G fr hp:=by
     rintro fr hp ⟨q0,q1,q2,q3,q4,q5,rfl⟩;refine hG _ _ (E5 ⟨?_,?_,ab⟩)
     ·simp [c6,AV.low,AV.low1,q0,q1,q2,q3,q4,q5]
     ·exact T7 (Ut rfl) hn (F0 _ _ _ _) (F0 _ _ _ _) (F0 _ _ _ _) rfl rfl rfl rfl (fun j hj=>by simp [lk,Uw hj,W9,Ux hj])
    have hset:=hls (g (fb+k) ++ [a]);have hsetH:=afp (f:=x9 fb k a g) (g (fb+k) ++ [a]) hp8;rw [WN] at hset hsetH;simp [s5,pB] at hset hsetH;have hfk:=hg (fb+k);simp [go_sem,sa,hla,ha,hi,s5,K0 hi,ZU ha,Ux hp8,P3,hne,h0,Un,aiv,apT,aiw,Vq hi,hset,hsetH]
    repeat' apply And.intro
    all_goals first | exact hW _ _ (by simp [fv,lk]) | omega | exact fun a c hm e=>absurd e (far _ _ aa _ _ hm)
   case hq =>
    simp [go_sem,w3];refine c8 (k+1) aa aa ⟨?_,?_,ab⟩
    ·simp [c6,fv,lk,AV.low,AV.low1]
    ·exact T7 (Ut rfl) hn (F0 _ _ _ _) (F0 _ _ _ _) (F0 _ _ _ _) rfl rfl rfl rfl (fun j hj=>by simp [grH,lk,Uw hj,W9,Ux hj])
  ·have hk2:k=mb:=aa;subst hk2;have w5:IntKind.i64.wrap ((ka:Int)+k)=((ka+k:Nat):Int):=by rw [IntWalk.i64_in _ aa];omega
   have hL:=M6 a b;skip;refine C4 [0,1,2,3,5,6,7,8,9,10,11] [4,13] [0,1,2,3,5,6,7,8,9,10,11,12] (.step 4 [12] true (ag [13])) ⟨[(6,.ptr 74 0 0 1)],grH inner xs (z8 (w9 a b) fa (ka+k)) (z8 b fb k) (z8 a fa ka) (x9 fb k a g),30000⟩ (k:=14) ?h3 ?hq
   case h3 =>
    intro G hG;simp [go_sem,sa,sb,zs,ZU ha,ZU hb,ha,hb,H9 ha,H9 hb,SV ha,SX ha,SV hb,SX hb,Xt ha,aaY ha,Xt hb,aaY hb,w5,-Int.natCast_add];refine a9 (ab1 a b ha hb) (by intro v hv;simp at hv;rcases hv with rfl | rfl <;> exact r6 _) ?_;have hz:List.drop 32 (z8 z32 0 0)=[.d (.int .i64 0),.d (.int .i64 0)]:=rfl;have hz2:List.drop 34 (z8 z32 0 0)=[]:=rfl;have e1:=aiy hL;have e2:=ZV hL;have e3:=ZW hL;simp [go_sem,hL,d6 hL,d0,zs,hz,hz2,e1,e2,e3];refine hG _ _ (E5 ⟨?_,?_,ab⟩)
    ·simp [c6,fv,lk,AV.low,AV.low1]
    ·exact T7 (Ut rfl) hn (F0 _ _ _ _) (F0 _ _ _ _) (F0 _ _ _ _) (by simp [lk,z8]) rfl rfl rfl (fun j hj=>by simp [lk,Uw hj,W9,Ux hj])
   case hq =>
    simp [go_sem,grH,H9 hL,T6 hL];intro j hj;simp [Uw hj,W9,Ux hj]
def M1 (j:Nat):Nat:=20000+j
def Wc:List (Nat × Nat):=[(0,10000),(1,20000),(2,20001),(3,20002),(4,20003),(5,20004),(6,20005),(7,20006),(8,20007)]
theorem UP (ρ:Nat→Nat):∀ l:List AV,AV.renL ρ l=l.map (AV.ren ρ)
 | []=>rfl
 | a :: r=>by rw [AV.renL,List.map_cons,UP ρ r]
theorem adM (ρ:Nat→Nat) (l:List Nat):(cb l).map (AV.ren ρ)=cb l:=by simp [cb,AV.ren]
theorem afq {ρ:Nat→Nat} {inner:List Nat} {idf idf':Nat→Nat} {f:Q4} {xs:List (List Nat)} (h:∀ j,j<xs.length→ρ (idf j)=idf' j):x7 ρ (SH inner idf f xs)=SH inner idf' f xs:=by
 apply List.ext_getElem?;intro i;simp only [x7,SH,ay,List.getElem?_mapIdx,Option.map_map]
 cases hx:xs[i]? with
 | none=>rfl
 | some x =>
  have hi:=(ak.1 hx).1;simp [s5,UP,adM,AV.ren,h i hi]
theorem ana (ρ:Nat→Nat) (q:List (List Nat)):(pB q).ren ρ=pB q:=by
 unfold Blk.ren pB;simp only [x7,List.map_map,Blk.mk.injEq,true_and];apply List.map_congr_left;intro l _;simp only [Function.comp_apply,UP,adM]
theorem afr (ρ:Nat→Nat) (h:List Nat) (a b:Nat):(AV.agg (z8 h a b)).ren ρ=.agg (z8 h a b):=by
 rw [AV.ren,UP,z8,List.map_append,adM];rfl
theorem ax6:∀ j,j<8→D9 (Tg Wc) 9 (M1 j)=YZ j:=by decide
theorem ax7 (N:Nat):∀ j,j<8→D9 (C8 Wc [] N) (N+31) (YZ j)=M1 j:=by
 have h:∀ j,j<8→lk (YZ j) Wc=some (M1 j):=by decide
 intro j hj;unfold D9 C8;rw [List.map_nil,List.append_nil,h j hj];rfl
theorem anb {f:Q4} {i:Nat} (h:i<20000 ∨ 20008≤i):lk i (RN 20000 8 f)=none:=by
 cases hl:lk i (RN 20000 8 f) with
 | none=>rfl
 | some b =>
  obtain ⟨j,hj,e⟩:=P2 8 20000 f _ (D7 hl);simp only [Prod.mk.injEq] at e;omega
theorem afs {f:Q4} {i:Nat} {r:Hp} (h:i<20000 ∨ 20008≤i):lk i (RN 20000 8 f ++ r)=lk i r:=by
 rw [YF,anb h]
theorem acp {i:Nat} {b:Blk}:∀ {a r:Hp},(∀ p,p ∈ a→p.1 ≠ i)→y5 i b (a ++ r)=a ++ y5 i b r
 | [],r,_=>rfl
 | (m,v) :: t,r,h=>by
  rw [List.cons_append,y5,if_neg (h _ (aC ..)),acp (fun p hp=>h p (ax _ hp))];rfl
theorem ag3 {f:Q4} {i:Nat} {b:Blk} {r:Hp} (h:i<20000 ∨ 20008≤i):y5 i b (RN 20000 8 f ++ r)=RN 20000 8 f ++ y5 i b r :=
 acp (fun p hp=>by
  obtain ⟨j,hj,rfl⟩:=P2 8 20000 f p hp;show 20000+j ≠ i
  omega)
theorem atb {f:Q4} {j:Nat} {r:Hp} (h:j<8):lk (M1 j) (RN 20000 8 f ++ r)=some (pB (f j)):=by
 rw [YF,show lk (M1 j) (RN 20000 8 f)=some (pB (f j)) from Tp 8 20000 f j h]
theorem anc {P:Program} {N:Nat} {K:AV→Hp→Prop} {pre:Hp} (inner a b:List Nat) (xs:List (List Nat)) (f:Q4) (fa ma fb mb:Nat) (hn:xs.length≤8)
  (hg:I1 P 56 9 ((0,⟨27,34,SH inner YZ f xs⟩) :: RN 1 8 f) [.own 0 0 xs.length xs.length,.agg (z8 a fa ma),.agg (z8 b fb mb)]
   (fun r hp'=>r=.agg (z8 (w9 a b) fa (ma+mb))∧lk 0 hp'=some ⟨27,34,SH inner YZ (x9 fb mb a (x9 fa ma b f)) xs⟩∧∀ j,j<8→lk (YZ j) hp'=some (pB (x9 fb mb a (x9 fa ma b f) j))))
  (hpre:∀ p,p ∈ pre→p.1 ≠ 10000∧(p.1<20000 ∨ 20008≤p.1))
  (hK:K (.agg (z8 (w9 a b) fa (ma+mb))) ((10000,⟨27,34,SH inner M1 (x9 fb mb a (x9 fa ma b f)) xs⟩) :: (RN 20000 8 (x9 fb mb a (x9 fa ma b f)) ++ pre))) :
  ClW P 56 [.own 10000 0 xs.length xs.length,.agg (z8 a fa ma),.agg (z8 b fb mb)] (pre ++ (10000,⟨27,34,SH inner M1 f xs⟩) :: RN 20000 8 f) N K:=by
 have pnone:∀ i,(i=10000 ∨ (20000≤i∧i<20008))→lk i pre=none:=by
  intro i hi
  cases hl:lk i pre with
  | none=>rfl
  | some b =>
   have:=hpre _ (D7 hl);simp only at this;omega
 have lL0:lk 10000 (pre ++ (10000,⟨27,34,SH inner M1 f xs⟩) :: RN 20000 8 f)=some ⟨27,34,SH inner M1 f xs⟩:=by
  rw [YF,pnone 10000 (.inl rfl)];rfl
 have lP:∀ j,j<8→lk (M1 j) (pre ++ (10000,⟨27,34,SH inner M1 f xs⟩) :: RN 20000 8 f)=some (pB (f j)):=by
  intro j hj;rw [YF,pnone (M1 j) (.inr ⟨by unfold M1;omega,by unfold M1;omega⟩)];show lk (M1 j) ((10000,_) :: RN 20000 8 f)=_;rw [lk,if_neg (by unfold M1;omega)];exact Tp 8 20000 f j hj
 have mem9:∀ p,p ∈ Wc→p=(0,10000) ∨ ∃ j,j<8∧p=(YZ j,M1 j):=by decide
 refine A3 Wc hg rfl ?_ ?_ ?_ ?_ ?_
 ·decide
 ·intro p hp;rcases mem9 p hp with rfl | ⟨j,hj,rfl⟩
  ·exact ⟨_,lL0,ab⟩
  ·exact ⟨_,lP j hj,by simp [pB]⟩
 ·intro p hp;rcases aF.1 hp with rfl | hp
  ·refine ⟨10000,_,rfl,lL0,?_⟩;simp only [Blk.ren,Blk.mk.injEq,true_and];exact (afq (fun j hj=>ax6 j aa)).symm
  ·obtain ⟨j,hj,rfl⟩:=P2 8 1 f p hp;have hlk:∀ j,j<8→lk (1+j) Wc=some (M1 j):=by decide
   exact ⟨M1 j,_,hlk j hj,lP j hj,(ana _ _).symm⟩
 ·simp only [UP,List.map_cons,List.map_nil,afr];rfl
 ·rintro r hp' ⟨rfl,h0,h1⟩;refine ⟨[],rfl,?_⟩;rw [afr]
  have e1:D8 Wc [] N hp' (pre ++ (10000,⟨27,34,SH inner M1 f xs⟩) :: RN 20000 8 f)=(10000,⟨27,34,SH inner M1 (x9 fb mb a (x9 fa ma b f)) xs⟩) :: (RN 20000 8 (x9 fb mb a (x9 fa ma b f)) ++ pre):=by
   unfold D8
   have hfil:((pre ++ (10000,⟨27,34,SH inner M1 f xs⟩) :: RN 20000 8 f).filter fun p=>!(Wc.map (·.2)).contains p.1)=pre:=by
    rw [List.filter_append]
    have f1:pre.filter (fun p=>!(Wc.map (·.2)).contains p.1)=pre:=by
     rw [List.filter_eq_self];intro p hp;have:=hpre p hp;simp [Wc];omega
    have f2:((10000,(⟨27,34,SH inner M1 f xs⟩:Blk)) :: RN 20000 8 f).filter (fun p=>!(Wc.map (·.2)).contains p.1)=[]:=by
     rw [List.filter_eq_nil_iff];intro p hp;rcases aF.1 hp with rfl | hp
     ·simp [Wc]
     ·obtain ⟨j,hj,rfl⟩:=P2 8 20000 f p hp;simp [Wc];omega
    rw [f1,f2,List.append_nil]
   rw [hfil,← List.cons_append];congr 1;have g0:=h1 0 aa;have g1:=h1 1 aa;have g2:=h1 2 aa;have g3:=h1 3 aa;have g4:=h1 4 aa;have g5:=h1 5 aa;have g6:=h1 6 aa;have g7:=h1 7 aa;simp only [YZ,Nat.reduceAdd] at g0 g1 g2 g3 g4 g5 g6 g7
   have hL:(⟨27,34,SH inner YZ (x9 fb mb a (x9 fa ma b f)) xs⟩:Blk).ren (D9 (C8 Wc [] N) (N+31))=⟨27,34,SH inner M1 (x9 fb mb a (x9 fa ma b f)) xs⟩:=by
    simp only [Blk.ren,Blk.mk.injEq,true_and];exact afq (fun j hj=>ax7 N j aa)
   have hprs:C8 Wc [] N=Wc:=by simp [C8]
   rw [hprs] at hL ⊢;simp only [Wc] at hL ⊢;simp [h0,g0,g1,g2,g3,g4,g5,g6,g7,ana,RN,hL]
  rw [e1];exact hK
abbrev Row:=List (List Nat × Nat)
def aft (h:List Nat) (s m:Nat):List DV:=cd h ++ [.int .i64 (s:Int),.int .i64 (m:Int)]
def Uy:Nat→Row→List (List DV)
 | _,[]=>[]
 | s,p :: r=>aft p.1 s p.2 :: Uy (s+p.2) r
theorem afu (h:List Nat) (s m:Nat):(aft h s m).map AV.d=z8 h s m:=by simp [aft,z8,Tj]
theorem aaZ {h:List Nat} (hh:h.length=32) (s m:Nat):(aft h s m).length=34:=by simp [aft,H3,hh]
theorem Vr:∀ (s:Nat) (r:Row),(Uy s r).length=r.length
 | _,[]=>rfl
 | s,p :: r=>by rw [Uy,List.length_cons,List.length_cons,Vr]
def D5 (r:Row):Nat:=(r.map (·.2)).sum
theorem ZX:∀ (s:Nat) (a b:Row),Uy s (a ++ b)=Uy s a ++ Uy (s+D5 a) b
 | s,[],b=>by simp [Uy,D5]
 | s,p :: a,b=>by
  rw [List.cons_append,Uy,Uy,ZX (s+p.2) a b,List.cons_append];congr 2;simp [D5,Nat.add_assoc]
theorem aa0:∀ (s:Nat) (r:Row),(∀ p,p ∈ r→p.1.length=32)→∀ x,x ∈ Uy s r→x.length=34
 | _,[],_,x,h=>by simp [Uy] at h
 | s,p :: r,hp,x,h=>by
  rcases aF.1 h with rfl | h
  ·exact aaZ (hp p (aC ..)) _ _
  ·exact aa0 _ r (fun q hq=>hp q (ax _ hq)) x h
theorem adN (n s:Nat) (r:Row):∀ x,x ∈ (Uy s r).map (fun q=>q.map AV.d)→∀ v,v ∈ x→v.low1 n:=by
 intro x hx v hv;obtain ⟨q,_,rfl⟩:=List.mem_map.1 hx;obtain ⟨d,_,rfl⟩:=List.mem_map.1 hv
 trivial
def D0:Row→Row
 | a :: b :: r=>(w9 a.1 b.1,a.2+b.2) :: D0 r
 | r=>r
def I9:Nat→Row→Q4→Q4
 | s,a :: b :: r,f=>I9 (s+a.2+b.2) r (x9 (s+a.2) b.2 a.1 (x9 s a.2 b.1 f))
 | _,_,f=>f
theorem Tc:∀ r:Row,2*(D0 r).length≤r.length+1
 | []=>by simp [D0]
 | [a]=>by simp [D0]
 | a :: b :: r=>by
  have:=Tc r;simp only [D0,List.length_cons];omega
theorem T8:∀ r:Row,D5 (D0 r)=D5 r
 | []=>rfl
 | [a]=>rfl
 | a :: b :: r=>by
  have:=T8 r;simp only [D0,D5,List.map_cons,List.sum_cons] at this ⊢;omega
theorem WO:∀ r:Row,(∀ p,p ∈ r→p.1.length=32)→∀ p,p ∈ D0 r→p.1.length=32
 | [],h=>h
 | [a],h=>h
 | a :: b :: r,h=>by
  intro p hp;rcases aF.1 hp with rfl | hp
  ·exact M6 _ _
  ·exact WO r (fun q hq=>h q (by simp [hq])) p hp
def G7:Nat→Row→Q4→Row × Q4
 | 0,r,f=>(r,f)
 | n+1,r,f=>if 1<r.length then G7 n (D0 r) (I9 0 r f) else (r,f)
theorem aa1 {n:Nat} {r:Row} {f:Q4} (h:r.length≤1):G7 n r f=(r,f):=by
 cases n with
 | zero=>rfl
 | succ n=>rw [G7,if_neg aa]
def K2 (xs:List (List Nat)):Row:=xs.map fun x=>(E9 x,1)
theorem T9 (xs:List (List Nat)):D5 (K2 xs)=xs.length:=by
 induction xs with
 | nil=>rfl
 | cons a r ih=>simp only [K2,D5,List.map_cons,List.sum_cons,List.length_cons] at ih ⊢;omega
theorem Ym (xs:List (List Nat)):∀ p,p ∈ K2 xs→p.1.length=32:=by
 intro p hp;obtain ⟨x,_,rfl⟩:=List.mem_map.1 hp;exact RU x
theorem afv (a b:List (List Nat)):K2 (a ++ b)=K2 a ++ K2 b:=by simp [K2]
def D1 (xs:List (List Nat)):Q4:=(G7 7 (K2 xs) fun _=>[]).2
theorem UQ {first k:Nat} {h:List Nat} {f:Q4} {B s:Nat} (hf:∀ j,(f j).length≤if j<s then B+1 else B) (h1:s≤first):∀ j,((x9 first k h f) j).length≤if j<first+k then B+1 else B:=by
 intro j;have:=hf j;unfold x9;by_cases h2:first≤j∧j<first+k
 ·rw [if_pos h2,if_pos h2.2];rw [if_neg aa] at this;simp;omega
 ·rw [if_neg h2]
  split at this
  ·rw [if_pos aa];omega
  ·split <;> omega
def Q0 (inner:List Nat) (l:List (List Nat) × List Nat):List DV:=cd inner ++ [J1 l.1,nb l.2]
theorem WP {inner:List Nat} (hi:inner.length=32) (l:List (List Nat) × List Nat):(Q0 inner l).length=34:=by simp [Q0,H3,hi]
theorem acq (inner:List Nat) (l:List (List Nat) × List Nat):(Q0 inner l).map AV.d=s5 inner (.d (J1 l.1)) (.d (nb l.2)):=by simp [Q0,s5,Tj]
theorem ag4 (inner:List Nat) (a b:DV):(AV.agg (s5 inner (.d a) (.d b))).deep:=by
 intro c hc;unfold s5 at hc;rcases au.1 hc with h | h
 ·exact r6 _ _ h
 ·simp at h;rcases h with rfl | rfl <;> trivial
theorem WQ {inner:List Nat} (hi:inner.length=32) (a b:AV):(s5 inner a b).length=34:=by simp [s5,d0,hi]
theorem Xu {inner:List Nat} (hi:inner.length=32) (a b:AV):List.take 34 (s5 inner a b)=s5 inner a b:=aq (by rw [WQ hi];exact av _)
theorem ZY (inner:List Nat) (a b:DV):∀ v,v ∈ [AV.agg (s5 inner (.d a) (.d b))]→v.deep:=by
 intro v hv;simp at hv;subst hv;exact ag4 _ _ _
theorem ane (inner:List Nat) (l:List (List Nat) × List Nat) (O:List Nat) (e:Int) (hi:inner.length=32)
  (g:m6 Tryz.prog 18 [.agg (s5 inner (.d (J1 l.1)) (.d (nb l.2)))] (fun r=>r=.tup [.d (nb O),.d (.int .i64 e)])) :
  m6 Tryz.prog 57 [.agg (s5 inner (.d (J1 l.1)) (.d (nb l.2)))] (fun r=>r=.d (.bool (!decide (e=0)))):=by
 refine t6 Tryz.func57 Tryz.ntmps57 (rs:=[.tmp 2]) (ZY _ _ _) ?_;simp [go_sem,WQ hi,Xu hi];refine a9 g (ZY _ _ _) ?_;simp [go_sem,d7];exact b7 ae rfl
abbrev Lf:=List (List Nat) × List Nat
def Yn (E:Lf→Int) (ls:List Lf):Bool:=ls.any fun l=>!decide (E l=0)
theorem afw {E:Lf→Int} {l:List Lf} {k:Nat} {x:Lf} {b:Bool} (hd:l.drop k=x :: l.drop (k+1)) (h:Yn E (l.drop k)=b) (hx:E x=0):Yn E (l.drop (k+1))=b:=by
 rw [hd] at h;rw [← h];simp [Yn,hx]
theorem afx {E:Lf→Int} {l:List Lf} {k:Nat} {x:Lf} {b:Bool} (hd:l.drop k=x :: l.drop (k+1)) (h:Yn E (l.drop k)=b) (hx:¬ E x=0):b=true:=by
 rw [hd] at h;rw [← h];simp [Yn,hx]
theorem ajE (inner:List Nat) (ls:List Lf) (O:Lf→List Nat) (E:Lf→Int) (hi:inner.length=32) (hl:ls.length≤1000000000)
  (g:∀ l,l ∈ ls→m6 Tryz.prog 18 [.agg (s5 inner (.d (J1 l.1)) (.d (nb l.2)))] (fun r=>r=.tup [.d (nb (O l)),.d (.int .i64 (E l))])) :
  m6 Tryz.prog 92 [.d (.ro 34 (ls.map (Q0 inner))),.fn 57 []] (fun r=>∃ n:Int,r=.d (.int .i64 n)∧decide (0≤n)=Yn E ls):=by
 refine t6 Tryz.func92 Tryz.ntmps92 (rs:=[.tmp 4]) ae ?_;simp [go_sem]
 refine j9 (fun k:Nat=>⟨[(0,.d (.ro 34 (ls.map (Q0 inner)))),(1,.fn 57 []),(7,.d (.int .i64 (ls.length:Int))),(8,.d (.int .i64 (k:Int)))],[],1000⟩)
  (fun k=>k≤ls.length∧Yn E (ls.drop k)=Yn E ls) (fun k=>ls.length - k) 0 ⟨aa,rfl⟩ (by
   simp [m7,c6,fv,lk,AV.low,AV.low1]) ?_
 rintro k ⟨hk,ho⟩;simp only [go_sem,Nat.reduceEqDiff,Nat.reduceAdd,Nat.reduceLT,↓reduceIte,Nat.reduceMul];refine ⟨fun h=>?_,fun h=>?_⟩
 ·obtain ⟨x,hx1,hd⟩:=t5 (l:=ls) (k:=k) aa;have w3:=j6 (k:=k) aa;have hrow:=WP hi x;simp [go_sem,hx1,hrow,acq,Xu hi,WQ hi];refine a9 (ane inner x (O x) (E x) hi (g x (ao hx1))) (ZY _ _ _) ?_;by_cases hx:E x=0
  ·simp [go_sem,hx,w3];refine c8 (k+1) ⟨aa,afw hd ho hx⟩ aa ?_;simp [m7,c6,fv,lk,AV.low,AV.low1]
  ·have:=afx hd ho hx;simp [go_sem,hx];exact b7 ae ⟨_,rfl,by rw [this];simp⟩
 ·have hkl:k=ls.length:=aa;subst hkl;rw [List.drop_length] at ho;simp [go_sem];exact b7 ae ⟨_,rfl,by rw [← ho];rfl⟩
theorem adO (inner:List Nat) (ls:List Lf) (O:Lf→List Nat) (E:Lf→Int) (hi:inner.length=32) (hl:ls.length≤1000000000)
  (g:∀ l,l ∈ ls→m6 Tryz.prog 18 [.agg (s5 inner (.d (J1 l.1)) (.d (nb l.2)))] (fun r=>r=.tup [.d (nb (O l)),.d (.int .i64 (E l))])) :
  m6 Tryz.prog 58 [.d (.ro 34 (ls.map (Q0 inner))),.fn 57 []] (fun r=>r=.d (.bool (Yn E ls))):=by
 refine t6 Tryz.func58 Tryz.ntmps58 (rs:=[.tmp 4]) ae ?_;simp [go_sem];refine ale (ajE inner ls O E hi hl g) ae ?_;rintro r ⟨n,rfl,hn⟩;rw [← hn];simp [go_sem];exact b7 ae rfl
def Uo (f:Q4) (xs:List (List Nat)):List Lf:=xs.mapIdx fun j x=>(f j,x)
theorem adP {hp:Hp} {I:Nat→Prop} {a c:List AV} {b d:List DV} (h:CellsR hp I a b) (h2:CellsR hp I c d):CellsR hp I (a ++ c) (b ++ d):=by
 induction h with
 | nil=>exact h2
 | cons h t ih=>exact .cons h ih
theorem Zn {hp:Hp} {I:Nat→Prop}:∀ (rows:List (List AV)) (es:List (List DV)),rows.length=es.length→(∀ (i:Nat) (x:List AV) (y:List DV),rows[i]?=some x→es[i]?=some y→CellsR hp I x y)→RowsR hp I rows es
 | [],[],_,_=>.nil
 | [],_ :: _,h,_=>by simp at h
 | _ :: _,[],h,_=>by simp at h
 | x :: rows,y :: es,h,hg=>.cons (hg 0 x y rfl rfl) (Zn rows es (by simpa using h) (fun i a b h1 h2=>hg (i+1) a b (by simpa using h1) (by simpa using h2)))
theorem ZZ (f:Q4) (xs:List (List Nat)):(Uo f xs).length=xs.length:=by simp [Uo]
theorem Zo {hp:Hp} {I:Nat→Prop} {inner:List Nat} {idf:Nat→Nat} {f:Q4} {xs:List (List Nat)} {id:Nat} (hi:inner.length=32) (hb:lk id hp=some ⟨27,34,SH inner idf f xs⟩) (hI:I id) (hI2:∀ j,j<xs.length→I (idf j))
  (hp32:∀ j p,p ∈ f j→p.length=32) (h5:∀ j,j<xs.length→lk (idf j) hp=some (pB (f j))):SnapD hp I (.own id 0 xs.length xs.length) (.ro 34 ((Uo f xs).map (Q0 inner))):=by
 refine aag hb hI P3 ?_ (by rw [List.length_map,ZZ]) (fun r hr=>?_)
 ·rw [List.drop_zero,aq (by rw [P3];exact av _)];refine Zn _ _ (by simp [P3,ZZ]) (fun i x y h1 h2=>?_);simp only [SH,Uo,ay,List.getElem?_mapIdx,Option.map_map,Option.map_eq_some_iff] at h1 h2;obtain ⟨u,hu,rfl⟩:=h1;obtain ⟨v,hv,rfl⟩:=h2;rw [hu] at hv
  cases hv
  unfold s5;simp only [Function.comp_apply,Q0];rw [← Tj];refine adP (TF _) (.cons ?_ (.cons (.d _) .nil));have hiu:=(ak.1 hu).1;refine H2 (ty:=23) (e:=32) (es:=(f i).map cd) ?_ (hI2 i hiu) ab (fun r hr=>?_)
  ·rw [h5 i hiu];simp [pB,Tj]
  ·obtain ⟨p,hp,rfl⟩:=List.mem_map.1 hr;rw [H3];exact hp32 i p hp
 ·obtain ⟨l,_,rfl⟩:=List.mem_map.1 hr;exact WP hi l
def W5 (x:List Nat):List DV:=[nb x]
def lvN (inner:List Nat) (xs:List (List Nat)):List (List AV):=xs.map fun x=>s5 inner .nil (.d (nb x))
theorem WR {α:Type} {l:List α} {k:Nat} {x:α} (h:l[k]?=some x):l.take (k+1)=l.take k ++ [x]:=by
 rw [List.take_add_one,h];rfl
theorem acr {fr:Fr} {inner:List Nat} (xs:List (List Nat)) (hn:xs.length≤8):Wk ⟨fr,(10000,⟨27,34,lvN inner xs⟩) :: RN 20000 8 (fun _=>[]),30000⟩ ⟨fr,(10000,⟨27,34,SH inner M1 (fun _=>[]) xs⟩) :: RN 20000 8 (fun _=>[]),30000⟩:=by
 refine alo (st:=⟨fr,(10000,⟨27,34,lvN inner xs⟩) :: RN 20000 8 (fun _=>[]),30000⟩) (L:=10000) (b:=⟨27,34,lvN inner xs⟩) (es':=SH inner M1 (fun _=>[]) xs) rfl ab (by simp [SH,lvN]) ?_;intro i x x' h1 h2;simp only [lvN,ay,Option.map_eq_some_iff] at h1;obtain ⟨y,hy,rfl⟩:=h1;rw [Y0 hy] at h2;simp only [Option.some.injEq] at h2;subst h2;refine ⟨by simp [s5],fun j v v' a1 a2=>?_⟩;unfold s5 at a1 a2;by_cases hj:j<(cb inner).length
 ·rw [List.getElem?_append_left hj] at a1 a2;rw [a1] at a2;exact .inl (Option.some.inj a2).symm
 ·rw [aB aa] at a1 a2;have hi:=(ak.1 hy).1
  match hj2:j - (cb inner).length,a1,a2 with
  | 0,a1,a2 =>
   simp only [List.getElem?_cons_zero,Option.some.injEq] at a1 a2;subst a1 a2;exact .inr ⟨rfl,M1 i,by unfold M1;show 20000+i<30000;omega,rfl⟩
  | 1,a1,a2 =>
   simp only [List.getElem?_cons_succ,List.getElem?_cons_zero,Option.some.injEq] at a1 a2;subst a1 a2;exact .inl rfl
  | m+2,a1,a2=>simp at a1
theorem SY {inner:List Nat} {xs:List (List Nat)} {f:Q4} {hp:Hp} {nx N:Nat} (hN:20008≤N) (hn:xs.length≤8) (h4:lk 10000 hp=some ⟨27,34,SH inner M1 f xs⟩) (h5:∀ j,j<8→lk (M1 j) hp=some (pB (f j))) :
  ∀ p,p ∈ (10000,(⟨27,34,SH inner M1 f xs⟩:Blk)) :: RN 20000 8 f→(lk p.1 hp=some p.2 ∨ (nx≤p.1∧p.2.es=[]))∧p.1<N∧∀ r,r ∈ p.2.es→∀ v,v ∈ r→v.low1 N:=by
 intro p hp';rcases aF.1 hp' with rfl | hp'
 ·exact ⟨.inl h4,by show 10000<N;omega,aix (fun j hj=>by show 20000+j<N;omega)⟩
 ·obtain ⟨j,hj,rfl⟩:=P2 8 20000 f p hp';exact ⟨.inl (h5 j hj),by show 20000+j<N;omega,adL _ _⟩
def P32 (f:Q4):Prop:=∀ j p,p ∈ f j→p.length=32
theorem WS {first k:Nat} {h:List Nat} {f:Q4} (hf:P32 f) (hh:h.length=32):P32 (x9 first k h f):=by
 intro j p hp;unfold x9 at hp
 split at hp
 ·rcases au.1 hp with q | q
  ·exact hf j p q
  ·simp at q;subst q;exact hh
 ·exact hf j p hp
theorem ag5:∀ {q:Row},q.length≤1→D0 q=q
 | [],_=>rfl
 | [a],_=>rfl
 | a :: b :: r,h=>by simp at h
theorem afy:∀ {q:Row} {s:Nat} {g:Q4},q.length≤1→I9 s q g=g
 | [],_,_,_=>rfl
 | [a],_,_,_=>rfl
 | a :: b :: r,_,_,h=>by simp at h
def F9 (inner:List Nat) (xs:List (List Nat)) (E:Lf→Int):AV :=
 if xs.length=0 ∨ 8<xs.length ∨ Yn E (Uo (D1 xs) xs)=true then .tup [.nil,.d (.int .i64 1)] else .tup [.d (.ro 34 ((Uo (D1 xs) xs).map (Q0 inner))),.d (.int .i64 0)]
theorem afz (inner:List Nat) (xs:List (List Nat)) (hi:inner.length=32) (hx:∀ x,x ∈ xs→x.length≤100000)
    (hcl:∀ b:List Nat,b.length≤100000000000→m6 Tryz.prog 52 [.d (nb b)] (fun r=>r=.d (nb b))) (O:Lf→List Nat) (E:Lf→Int)
    (hout:∀ l,l ∈ Uo (D1 xs) xs→m6 Tryz.prog 18 [.agg (s5 inner (.d (J1 l.1)) (.d (nb l.2)))] (fun r=>r=.tup [.d (nb (O l)),.d (.int .i64 (E l))])) :
    m6 Tryz.prog 24 [.agg (cb inner),.d (.ro 1 (xs.map W5))] (fun r=>r=F9 inner xs E):=by
  refine t6 Tryz.func24 Tryz.ntmps24 (rs:=[.tmp 4,.tmp 5]) (by
    intro v hv;simp at hv;rcases hv with rfl | rfl
    · exact r6 _
    · trivial) ?_
  by_cases h0:xs.length=0
  · have hV:F9 inner xs E=.tup [.nil,.d (.int .i64 1)]:=by unfold F9;rw [if_pos (.inl h0)]
    rw [hV];have hxs:xs=[]:=List.eq_nil_of_length_eq_zero h0;subst hxs;simp [go_sem,d0,hi,d6 hi,d7];exact b7 ae rfl
  by_cases h8:8<xs.length
  · have hV:F9 inner xs E=.tup [.nil,.d (.int .i64 1)]:=by unfold F9;rw [if_pos (.inr (.inl h8))]
    rw [hV];have i0:¬ (xs.length:Int)=0:=aa;have i8:(8:Int)<(xs.length:Int):=aa;simp [go_sem,d0,hi,d6 hi,i0,i8,h0,h8,d7];exact b7 ae rfl
  have hn:xs.length≤8:=aa;have i0:¬ (xs.length:Int)=0:=aa;have i8:¬ (8:Int)<(xs.length:Int):=aa;simp [go_sem,d0,hi,d6 hi,i0,i8,h0,h8]
  refine j9 (fun k:Nat=>⟨[(2,.ptr 0 0 0 1),(6,.own 10000 0 k k),(7,.own 10001 0 k k),(20,.d (.ro 1 (xs.map W5))),(21,.d (.int .i64 (xs.length:Int))),(22,.d (.int .i64 (k:Int)))],
      [(10001,⟨96,34,(Uy 0 (K2 (xs.take k))).map (fun q=>q.map AV.d)⟩),(10000,⟨27,34,lvN inner (xs.take k)⟩),(0,⟨23,32,[cb inner]⟩)],11000⟩)
    (fun k=>k≤xs.length) (fun k=>xs.length - k) 0 aa (by
      simp [m7,c6,fv,lk,AV.low,AV.low1,Uy,K2,lvN]
      exact o5 _ _) ?_
  intro k hk;simp only [go_sem,Nat.reduceEqDiff,Nat.reduceAdd,Nat.reduceLT,↓reduceIte,Nat.reduceMul];refine ⟨fun h=>?_,fun h=>?_⟩
  · obtain ⟨x,hxk,hd⟩:=t5 (l:=xs) (k:=k) aa
    have w3:=j6 (k:=k) aa;have hxl:=hx x (ao hxk);have zl:(s5 z32 .nil .nil).length=34:=rfl;have hst:(Uy 0 (K2 (xs.take k))).length=k:=by rw [Vr,K2,List.length_map,List.length_take];omega
    have hlv:(lvN inner (xs.take k)).length=k:=by rw [lvN,List.length_map,List.length_take];omega
    have hlB:=RU x;simp [go_sem,hxk,W5];refine B7 [0,1,2] [(3,[4]),(5,[]),(6,[]),(7,[])] 2 (k:=8) ?_;intro G hG;simp [go_sem,d0,hi,d6 hi];refine a9 (hcl x aa) ae ?_;have zd:List.drop 32 (s5 z32 .nil .nil)=[.nil,.nil]:=rfl;have b2:=ZV hi .nil .nil;have b3:=ZW hi .nil .nil;simp [go_sem,d0,hi,d6 hi,zl,hlv,zd,b2,b3];refine ⟨aa,hG _ _ ?_⟩;clear hG G;have hash1:m6 Tryz.prog 51 [.d (nb x)] (fun r=>r=.agg (cb (E9 x))):=VW x aa;simp [go_sem];refine a9 hash1 ae ?_;have zs:(z8 z32 0 0).length=34:=rfl;have hz:List.drop 32 (z8 z32 0 0)=[.d (.int .i64 0),.d (.int .i64 0)]:=rfl;have hz2:List.drop 34 (z8 z32 0 0)=[]:=rfl;have e1:=aiy hlB;have e2:=ZV hlB;have e3:=ZW hlB;simp [go_sem,hlB,d6 hlB,d0,zs,hz,hz2,e1,e2,e3,hst,w3];refine ⟨aa,?_⟩;have E1:lvN inner (xs.take (k+1))=lvN inner (xs.take k) ++ [cb inner ++ [.nil,.d (nb x)]]:=by rw [WR hxk];simp [lvN,s5]
    have E2:(Uy 0 (K2 (xs.take (k+1)))).map (fun q=>q.map AV.d)=(Uy 0 (K2 (xs.take k))).map (fun q=>q.map AV.d) ++ [cb (E9 x) ++ [.d (.int .i64 (k:Int)),.d (.int .i64 1)]]:=by
      rw [WR hxk,afv,ZX,List.map_append,T9,List.length_take,Nat.min_eq_left aa];simp [K2,Uy,aft,Tj]
    refine c8 (k+1) aa aa ⟨?_,?_,ab⟩
    · simp [c6,fv,lk,AV.low,AV.low1]
    · intro p hp
      simp only [aF,List.mem_nil_iff,or_false] at hp;rcases hp with rfl | rfl | rfl
      · exact ⟨.inl (by simp [lk,E2]),by show 10001<11000;omega,adN _ _ _⟩
      · exact ⟨.inl (by simp [lk,E1]),by show 10000<11000;omega,fun r hr=>by
          obtain ⟨y,_,rfl⟩:=List.mem_map.1 hr
          exact T5 _ _ _ _ trivial trivial⟩
      · exact ⟨.inl rfl,by show 0<11000;omega,by intro r hr;simp at hr;subst hr;exact o5 _ _⟩
  · have hkn:k=xs.length:=aa
    subst hkn;simp [go_sem];obtain ⟨R,F,hRF⟩:∃ R F,G7 7 (K2 xs) (fun _=>[])=(R,F):=⟨_,_,rfl⟩;have hr0:(K2 xs).length=xs.length:=by simp [K2]
    refine Sb (fun t:Nat × Row × Q4=>⟨[(6,.own 10000 0 xs.length xs.length),(7,.d (.ro 34 (Uy 0 t.2.1)))],(10000,⟨27,34,SH inner M1 t.2.2 xs⟩) :: RN 20000 8 t.2.2,30000⟩)
      (fun t=>G7 t.1 t.2.1 t.2.2=(R,F)∧t.2.1.length≤t.1+1∧t.1≤7∧D5 t.2.1=xs.length∧(∀ p,p ∈ t.2.1→p.1.length=32)∧P32 t.2.2∧∀ j,(t.2.2 j).length+t.1≤7) (fun t=>t.1) (7,K2 xs,fun _=>[])
      ⟨hRF,by simp only [hr0];omega,av _,T9 xs,Ym xs,(fun j p hp=>by simp at hp),fun j=>ab⟩ ?_ ?_
    · refine (acS [10001] [(7,.d (.ro 34 (Uy 0 (K2 xs))))] (fun p hp=>?_)).trans ((E5 ?_).trans (acr xs hn))
      · simp at hp
        subst hp;exact .one (d9 (H2 rfl ab (by rw [Vr,hr0]) (aa0 _ _ (Ym xs))))
      · refine ⟨?_,?_,ab⟩
        · simp [c6,fv,lk,AV.low,AV.low1]
        · intro p hp
          rcases aF.1 hp with rfl | hp
          · exact ⟨.inl rfl,by show 10000<30000;omega,fun r hr=>by
              obtain ⟨y,_,rfl⟩:=List.mem_map.1 hr
              exact T5 _ _ _ _ trivial trivial⟩
          · obtain ⟨j,hj,rfl⟩:=P2 8 20000 _ p hp
            exact ⟨.inr ⟨by show 11032≤20000+j;omega,rfl⟩,by show 20000+j<30000;omega,adL _ _⟩
    · rintro ⟨n,row,f⟩ ⟨q1,q2,q3,q4,q5,q7,q6⟩
      simp only at q1 q2 q3 q4 q5 q6 q7;simp only;simp [go_sem,Vr];refine ⟨fun h=>?_,fun h=>?_⟩
      · have h':1<row.length:=aa
        obtain ⟨m,rfl⟩:∃ m,n=m+1:=⟨n - 1,aa⟩;rw [G7,if_pos h'] at q1
        refine j9 (fun t:Nat × Row × Row × Q4=>⟨[(6,.own 10000 0 xs.length xs.length),(7,.d (.ro 34 (Uy t.1 t.2.1))),(10,.own 40000 0 t.2.2.1.length t.2.2.1.length)],
            (40000,⟨96,34,(Uy 0 t.2.2.1).map (fun q=>q.map AV.d)⟩) :: (10000,⟨27,34,SH inner M1 t.2.2.2 xs⟩) :: RN 20000 8 t.2.2.2,50000⟩)
          (fun t=>t.2.2.1 ++ D0 t.2.1=D0 row∧I9 t.1 t.2.1 t.2.2.2=I9 0 row f∧D5 t.2.2.1=t.1∧t.1+D5 t.2.1=xs.length∧(∀ p,p ∈ t.2.1→p.1.length=32)∧(∀ p,p ∈ t.2.2.1→p.1.length=32)∧P32 t.2.2.2∧∀ j,(t.2.2.2 j).length≤if j<t.1 then (6 - m)+1 else 6 - m)
          (fun t=>t.2.1.length) (0,row,[],f) ⟨rfl,rfl,rfl,by simp only;omega,q5,ab,q7,fun j=>by have:=q6 j;simp only [Nat.not_lt_zero,if_false];omega⟩ ⟨?_,?_,ab⟩ ?_
        · simp [c6,fv,lk,AV.low,AV.low1,Uy]
        · intro p hp
          rcases aF.1 hp with rfl | hp
          · exact ⟨.inr ⟨by show 30128≤40000;omega,rfl⟩,by show 40000<50000;omega,by intro r hr;simp [Uy] at hr⟩
          · exact SY ab hn rfl (fun j hj=>by
              show lk (M1 j) ((10000,_) :: RN 20000 8 f)=_;rw [lk,if_neg (by unfold M1;omega)]
              exact Tp 8 20000 f j hj) p hp
        · rintro ⟨s,q,up,g⟩ ⟨p1,p2,p3,p4,p5,p6,p8,p7⟩
          simp only at p1 p2 p3 p4 p5 p6 p7 p8;simp only;simp [go_sem,Vr];refine ⟨fun hh=>?_,fun hh=>?_⟩
          · match q,p1,p2,p4,p5,hh with
            | a :: b :: r,p1,p2,p4,p5,_ =>
              have ha:=p5 a ab;have hb:=p5 b ab;have hla:=aaZ ha s a.2;have hlb:=aaZ hb (s+a.2) b.2;simp only [Uy];skip;refine C4 [1,2,3,4,5,6,7] [0,8,9,10,11] [1,2,3,4,5,6,7] (.alt (ah 0 (ag [8,9,10,11])) (ai 8 (.alt (ag [0,9,10,11]) (ag [9,0,10,11])))) ⟨[(6,.own 10000 0 xs.length xs.length),(7,.d (.ro 34 (Uy s (a :: b :: r)))),(10,.own 40000 0 (up.length+1) (up.length+1))],(40000,⟨96,34,(Uy 0 (up ++ [(w9 a.1 b.1,a.2+b.2)])).map (fun q=>q.map AV.d)⟩) :: (10000,⟨27,34,SH inner M1 (x9 (s+a.2) b.2 a.1 (x9 s a.2 b.1 g)) xs⟩) :: RN 20000 8 (x9 (s+a.2) b.2 a.1 (x9 s a.2 b.1 g)),60000⟩ (k:=12) ?h3 ?hq
              case h3 =>
                intro G hG;simp [go_sem,hla,hlb,afu,T6 ha,T6 hb,H9 ha,H9 hb,Uy]
                have tot:s+(a.2+(b.2+D5 r))=xs.length:=by
                  have:=p4;simp only [D5,List.map_cons,List.sum_cons] at this ⊢;exact this
                have hgg:∀ j,(g j).length≤100:=fun j=>by
                  have:=p7 j
                  split at this <;> omega
                have hgr:=am9 inner a.1 b.1 xs g s a.2 (s+a.2) b.2 hi ha hb hn aa aa hgg
                have hcg:∀ (N:Nat) (K:AV→Hp→Prop),K (.agg (z8 (w9 a.1 b.1) s (a.2+b.2))) ((10000,⟨27,34,SH inner M1 (x9 (s+a.2) b.2 a.1 (x9 s a.2 b.1 g)) xs⟩) :: (RN 20000 8 (x9 (s+a.2) b.2 a.1 (x9 s a.2 b.1 g)) ++ [(40000,⟨96,34,(Uy 0 up).map (fun q=>q.map AV.d)⟩)])) →
                    ClW Tryz.prog 56 [.own 10000 0 xs.length xs.length,.agg (z8 a.1 s a.2),.agg (z8 b.1 (s+a.2) b.2)] ((40000,⟨96,34,(Uy 0 up).map (fun q=>q.map AV.d)⟩) :: (10000,⟨27,34,SH inner M1 g xs⟩) :: RN 20000 8 g) N K:=by
                  intro N K hK;exact anc (pre:=[(40000,⟨96,34,(Uy 0 up).map (fun q=>q.map AV.d)⟩)]) inner a.1 b.1 xs g s a.2 (s+a.2) b.2 hn hgr (by intro p hp;simp at hp;subst hp;exact ⟨ab,.inr ab⟩) hK
                have hBl:=M6 a.1 b.1
                have hul:up.length≤10:=by
                  have e1:=congrArg List.length p1;have e2:=Tc row;simp only [aj] at e1;omega
                have hW:∀ (fr:Fr) (hp:Hp),fv 6 fr=.own 10000 0 xs.length xs.length→fv 7 fr=.d (.ro 34 (Uy s (a :: b :: r)))→fv 10 fr=.own 40000 0 (up.length+1) (up.length+1) →
                    lk 40000 hp=some ⟨96,34,(Uy 0 up).map (fun q=>q.map AV.d) ++ [z8 (w9 a.1 b.1) s (a.2+b.2)]⟩→lk 10000 hp=some ⟨27,34,SH inner M1 (x9 (s+a.2) b.2 a.1 (x9 s a.2 b.1 g)) xs⟩→(∀ j,j<8→lk (M1 j) hp=some (pB (x9 (s+a.2) b.2 a.1 (x9 s a.2 b.1 g) j)))→G fr hp:=by
                  intro fr hp v1 v2 v3 v4 v5 v6;refine hG _ _ (E5 ⟨?_,?_,ab⟩)
                  · simp [c6,AV.low,AV.low1,v1,v2,v3]
                  · intro p hp'
                    rcases aF.1 hp' with rfl | hp'
                    · refine ⟨.inl ?_,by show 40000<60000;omega,adN _ _ _⟩
                      show lk 40000 hp=_;rw [v4,ZX,Nat.zero_add,p3,List.map_append];simp [Uy,afu]
                    · exact SY ab hn v5 v6 p hp'
                refine ⟨hcg _ _ ?_,hcg _ _ ?_⟩
                all_goals
                  simp [go_sem,T6 hBl,H9 hBl,afs,ag3,Vr]
                  repeat' apply And.intro
                all_goals first
                  | omega
                  | (refine hW _ _ rfl rfl rfl (by simp [lk,afs]) (by simp [lk]) (fun j hj=>?_)
                     have hne:∀ c,(c<20000 ∨ 20008≤c)→¬ c=M1 j:=fun c hc=>by unfold M1;omega
                     simp [lk,hne,atb hj])
              case hq =>
                have hdr:List.drop 2 (List.take ((((Uy (s+a.2+b.2) r).length:Int)+1+1).toNat) (aft a.1 s a.2 :: aft b.1 (s+a.2) b.2 :: Uy (s+a.2+b.2) r))=Uy (s+a.2+b.2) r:=by
                  rw [aq (by simp only [List.length_cons];omega)];rfl
                simp only [Uy];simp [go_sem,hdr,-List.drop_succ_cons];refine ⟨aa,?_⟩;have l1:=UQ (first:=s) (k:=a.2) (h:=b.1) p7 (av _);have l2:=UQ (first:=s+a.2) (k:=b.2) (h:=a.1) l1 (av _)
                have tu:D5 (up ++ [(w9 a.1 b.1,a.2+b.2)])=s+a.2+b.2:=by
                  have:=p3;simp only [D5,List.map_append,List.sum_append,List.map_cons,List.map_nil,List.sum_cons,List.sum_nil] at this ⊢;omega
                refine c8 (s+a.2+b.2,r,up ++ [(w9 a.1 b.1,a.2+b.2)],x9 (s+a.2) b.2 a.1 (x9 s a.2 b.1 g)) ⟨by rw [← p1];simp [D0],p2,tu,?_,fun u v hp=>p5 (u,v) (by simp [hp]),?_,WS (WS p8 hb) ha,l2⟩ (by simp only [List.length_cons];omega) ⟨?_,?_,ab⟩
                · have:=p4
                  simp only [D5,List.map_cons,List.sum_cons] at this ⊢;omega
                · intro u v hp
                  rcases au.1 hp with hp | hp
                  · exact p6 (u,v) hp
                  · simp at hp;obtain ⟨rfl,_⟩:=hp;exact M6 _ _
                · simp [c6,fv,lk,AV.low,AV.low1]
                · intro p hp
                  rcases aF.1 hp with rfl | hp
                  · exact ⟨.inl rfl,by show 40000<50000;omega,adN _ _ _⟩
                  · exact SY ab hn rfl (fun j hj=>by
                      have hne:∀ c,(c<20000 ∨ 20008≤c)→¬ c=M1 j:=fun c hc=>by unfold M1;omega
                      have:=Tp 8 20000 (x9 (s+a.2) b.2 a.1 (x9 s a.2 b.1 g)) j hj;simp [lk,hne]
                      exact this) p hp
          · have hql:q.length≤1:=aa
            rw [ag5 hql] at p1;rw [afy hql] at p2;subst p2
            have hul:up.length+q.length≤10:=by
              have e1:=congrArg List.length p1;have e2:=Tc row;simp only [aj] at e1;omega
            have hrows:(Uy 0 up).map (fun q=>q.map AV.d) ++ (Uy s q).map (fun q=>q.map AV.d)=(Uy 0 (D0 row)).map (fun q=>q.map AV.d):=by
              rw [← p1,ZX,List.map_append,Nat.zero_add,p3]
            have hlen:up.length+q.length=(Uy 0 (D0 row)).length:=by rw [Vr,← p1,aj]
            refine ⟨aa,?_⟩;refine aez (m,D0 row,I9 0 row f) ⟨q1,?_,by show m≤7;omega,?_,?_,p8,?_⟩ (by show m<m+1;omega) [40000] [(7,.d (.ro 34 (Uy 0 (D0 row))))] (fun p hp=>?_) ⟨?_,?_,ab⟩
            · have:=Tc row
              show (D0 row).length≤m+1;omega
            · show D5 (D0 row)=xs.length
              rw [T8];exact q4
            · intro u v hp
              exact WO row q5 (u,v) hp
            · intro j
              have:=p7 j;show (I9 0 row f j).length+m≤7
              split at this <;> omega
            · simp at hp
              subst hp;refine .one (d9 ?_);show SnapD _ _ (.own 40000 0 (up.length+q.length) (up.length+q.length)) _;rw [hlen];exact H2 (ty:=96) (by show some _=some _;rw [hrows]) ab rfl (aa0 _ _ (WO row q5))
            · simp [c6,fv,lk,AV.low,AV.low1]
            · intro p hp
              exact SY ab hn rfl (fun j hj=>by
                have hne:∀ c,(c<20000 ∨ 20008≤c)→¬ c=M1 j:=fun c hc=>by unfold M1;omega
                have:=Tp 8 20000 (I9 0 row f) j hj;simp [p9,lk,hne];rw [Rt,if_neg (by simp;exact fun e=>hne 40000 (.inr aa) e.symm)]
                exact this) p hp
      · have hrl:row.length≤1:=aa
        rw [aa1 hrl] at q1;obtain ⟨rfl,rfl⟩:row=R∧f=F:=by simpa using q1
        have hF:D1 xs=f:=by unfold D1;rw [hRF]
        rw [hF] at hout;have g:=adO inner (Uo f xs) O E hi (by rw [ZZ];omega) hout
        have hsn:SnapD ((10000,(⟨27,34,SH inner M1 f xs⟩:Blk)) :: RN 20000 8 f) (fun _=>True) (.own 10000 0 xs.length xs.length) (.ro 34 ((Uo f xs).map (Q0 inner))):=by
          refine Zo (idf:=M1) hi rfl trivial (fun _ _=>trivial) q7 (fun j hj=>?_);have hne:∀ c,(c<20000 ∨ 20008≤c)→¬ c=M1 j:=fun c hc=>by unfold M1;omega
          have:=Tp 8 20000 f j aa;rw [lk,if_neg (hne _ aa)];exact this
        refine U8 g rfl (c7 (.one (d9 hsn)) (c7 (.deep ae) n7)) trivial ?_;unfold F9;rw [hF]
        cases hbd:Yn E (Uo f xs)
        · rw [if_neg (by simp [h0,h8])]
          simp [go_sem,d7];refine UD (cs':=[.d (.ro 34 ((Uo f xs).map (Q0 inner))),.d (.int .i64 0)]) (fun i c c' h1 h2=>?_) rfl ae rfl
          match i,h1,h2 with
          | 0,h1,h2=>simp at h1 h2;subst h1 h2;exact d9 hsn
          | 1,h1,h2=>simp at h1 h2;subst h1 h2;exact F6 trivial
          | k+2,h1,_=>simp at h1
        · rw [if_pos (.inr (.inr rfl))]
          simp [go_sem,d7];exact b7 ae rfl
def Zp:Nat→Row→Q4→List (List Nat)→Prop
 | _,[],_,_=>True
 | s,p :: r,f,xs=>bytes p.1∧(∀ j x,s≤j→j<s+p.2→xs[j]?=some x→M5 (f j) (E9 x)=p.1)∧Zp (s+p.2) r f xs
theorem acs:∀ (r:Row) (s:Nat) (f g:Q4) (xs:List (List Nat)),(∀ j,s≤j→f j=g j)→Zp s r f xs→Zp s r g xs
 | [],_,_,_,_,_,_=>trivial
 | p :: r,s,f,g,xs,h,hg=>⟨hg.1,fun j x h1 h2 h3=>by rw [← h j h1];exact hg.2.1 j x h1 h2 h3,acs r (s+p.2) f g xs (fun j hj=>h j aa) hg.2.2⟩
theorem UR {first k:Nat} {h:List Nat} {f:Q4} {j:Nat} (hj:j<first ∨ first+k≤j):x9 first k h f j=f j:=by
 unfold x9;rw [if_neg aa]
theorem aiz {first k:Nat} {h:List Nat} {f:Q4} {j:Nat} (h1:first≤j) (h2:j<first+k):x9 first k h f j=f j ++ [h]:=by
 unfold x9;rw [if_pos ⟨h1,h2⟩]
theorem aa2:∀ (q:Row) (s:Nat) (g:Q4) (j:Nat),j<s→I9 s q g j=g j
 | [],_,_,_,_=>rfl
 | [a],_,_,_,_=>rfl
 | a :: b :: r,s,g,j,h=>by
  rw [I9,aa2 r _ _ _ aa,UR aa,UR aa]
theorem acu (q:List (List Nat)) (p h:List Nat):M5 (q ++ [p]) h=w9 (M5 q h) p:=by simp [M5]
theorem abz (a b:List Nat):bytes (w9 a b):=D3 _
theorem Zq (x:List Nat):bytes (E9 x):=D3 _
theorem aa3:∀ (q:Row) (s:Nat) (g:Q4) (xs:List (List Nat)),Zp s q g xs→Zp s (D0 q) (I9 s q g) xs
 | [],_,_,_,h=>h
 | [a],_,_,_,h=>h
 | a :: b :: r,s,g,xs,h=>by
  obtain ⟨ba,ha,bb,hb,hr⟩:=h;rw [D0,I9];refine ⟨abz _ _,fun j x h1 h2 h3=>?_,?_⟩
  ·simp only at h2;rw [aa2 _ _ _ _ aa];by_cases hj:j<s+a.2
   ·rw [UR (.inl hj),aiz h1 hj,acu,ha j x h1 hj h3]
   ·rw [aiz aa aa,UR (.inr aa),acu,hb j x aa aa h3];exact ac8 bb ba
  ·simp only;rw [← Nat.add_assoc];exact aa3 r _ _ xs (acs r _ g _ xs (fun j hj=>by rw [UR (.inr hj),UR (.inr aa)]) hr)
theorem Zr:∀ (n:Nat) (q:Row) (g:Q4) (xs:List (List Nat)),Zp 0 q g xs→Zp 0 (G7 n q g).1 (G7 n q g).2 xs
 | 0,q,g,xs,h=>h
 | n+1,q,g,xs,h=>by
  rw [G7]
  split
  ·exact Zr n _ _ xs (aa3 q 0 g xs h)
  ·exact h
theorem Zs:∀ (n:Nat) (q:Row) (g:Q4),D5 (G7 n q g).1=D5 q
 | 0,q,g=>rfl
 | n+1,q,g=>by
  rw [G7]
  split
  ·rw [Zs n,T8]
  ·rfl
theorem Zt:∀ (n:Nat) (q:Row) (g:Q4),q.length≤n+1→(G7 n q g).1.length≤1
 | 0,q,g,h=>h
 | n+1,q,g,h=>by
  rw [G7]
  split
  ·refine Zt n _ _ ?_;have:=Tc q;omega
  ·rename_i h';show q.length≤1;omega
theorem acv:∀ (pre xs:List (List Nat)),Zp pre.length (K2 xs) (fun _=>[]) (pre ++ xs)
 | pre,[]=>trivial
 | pre,x :: r=>by
  refine ⟨Zq x,fun j y h1 h2 h3=>?_,?_⟩
  ·have:j=pre.length:=by simp only at h2;omega
   subst this;rw [aB (av _),Nat.sub_self] at h3;simp only [List.getElem?_cons_zero,Option.some.injEq] at h3;subst h3;rfl
  ·have:=acv (pre ++ [x]) r
   simpa [K2] using this
theorem anf (xs:List (List Nat)) (h8:xs.length≤8):∃ h,∀ l,l ∈ Uo (D1 xs) xs→M5 l.1 (E9 l.2)=h:=by
 have g:=Zr 7 (K2 xs) (fun _=>[]) xs (by simpa using acv [] xs);have t:=Zs 7 (K2 xs) (fun _=>[]);have s:=Zt 7 (K2 xs) (fun _=>[]) (by simp [K2];omega);rw [T9] at t;have hF:D1 xs=(G7 7 (K2 xs) fun _=>[]).2:=rfl;rw [hF];generalize G7 7 (K2 xs) (fun _=>[])=RF at *;obtain ⟨R,F⟩:=RF;simp only at g t s ⊢
 match R,s,t,g with
 | [],_,t,_ =>
  refine ⟨[],fun l hl=>?_⟩;have:xs=[]:=List.eq_nil_of_length_eq_zero (by simpa [D5] using t.symm);subst this;simp [Uo] at hl
 | [p],_,t,g =>
  refine ⟨p.1,fun l hl=>?_⟩;simp only [Uo,List.mem_mapIdx] at hl;obtain ⟨j,hj,rfl⟩:=hl;exact g.2.1 j _ (Nat.zero_le _) (by simp [D5] at t;omega) (am hj)
 | a :: b :: r,s,_,_=>simp at s
theorem acw:∀ (n:Nat) (q:Row) (g:Q4) (B:Nat),(∀ j,(g j).length≤B)→∀ j,((G7 n q g).2 j).length≤B+n
 | 0,q,g,B,h=>h
 | n+1,q,g,B,h=>by
  rw [G7]
  split
  ·intro j
   have key:∀ (r:Row) (s:Nat) (f:Q4),(∀ j,(f j).length≤if j<s then B+1 else B)→∀ j,(I9 s r f j).length≤B+1:=by
    intro r
    induction r using D0.induct with
    | case1 a b r ih =>
     intro s f hf;exact ih _ _ (UQ (UQ hf (av _)) (av _))
    | case2 r hr =>
     intro s f hf j;have:=hf j
     have hg:I9 s r f=f:=by
      match r,hr with
      | [],_=>rfl
      | [a],_=>rfl
      | a :: b :: r,hr=>exact absurd rfl (hr a b r)
     rw [hg]
     split at this <;> omega
   have:=acw n (D0 q) (I9 0 q g) (B+1) (key q 0 g (fun j=>by have:=h j;simp;exact this)) j;omega
  ·intro j;have:=h j;show (g j).length≤_;omega
theorem afA:∀ (n:Nat) (q:Row) (g:Q4),(∀ p,p ∈ q→p.1.length=32)→P32 g→P32 (G7 n q g).2
 | 0,q,g,_,h=>h
 | n+1,q,g,hq,h=>by
  rw [G7]
  split
  ·refine afA n _ _ (WO q hq) ?_
   have key:∀ (r:Row) (s:Nat) (f:Q4),(∀ p,p ∈ r→p.1.length=32)→P32 f→P32 (I9 s r f):=by
    intro r
    induction r using D0.induct with
    | case1 a b r ih =>
     intro s f hr hf;exact ih _ _ (fun p hp=>hr p (by simp [hp])) (WS (WS hf (hr b ab)) (hr a ab))
    | case2 r hr =>
     intro s f _ hf
     match r,hr with
     | [],_=>exact hf
     | [a],_=>exact hf
     | a :: b :: r,hr=>exact absurd rfl (hr a b r)
   exact key q 0 g hq h
  ·exact h
end Go.Proofs.YtldccnbokbieiaaGreat
