/-
 Part 13 of what the claim rests on.
-/
import Derived.Test.YtldccnbokbieiaaGreatN2
import Derived.Test.YtldccnbokbieiaaGreatN3
set_option linter.unusedVariables false
set_option linter.unusedSimpArgs false
set_option maxRecDepth 100000
set_option maxHeartbeats 16000000
namespace Go.Proofs.YtldccnbokbieiaaGreat
open Go.Am Go.Sha
abbrev P0:=Nat→List (List Nat)
def pB (q:List (List Nat)):Blk:=⟨23,32,q.map cb⟩
def Rs (P:Nat):Nat→P0→Hp
 | 0,_=>[]
 | n+1,f=>(P,pB (f 0)) :: Rs (P+1) n (fun j=>f (j+1))
def upd (f:P0) (j:Nat) (q:List (List Nat)):P0:=fun i=>if i=j then q else f i
def Yt (j:Nat):Nat:=1+j
theorem T6 {j:Nat} (h:j<8) (c:Nat) (hc:9≤c):(c=Yt j)=False:=by unfold Yt;simp;omega
theorem Wy (j:Nat):(0=Yt j)=False:=by unfold Yt;simp;omega
theorem SR:∀ (n P:Nat) (f:P0) (j:Nat),j<n→lk (P+j) (Rs P n f)=some (pB (f j))
 | n+1,P,f,0,_=>by simp [Rs,lk]
 | n+1,P,f,j+1,h=>by
  have:=SR n (P+1) (fun j=>f (j+1)) j aa;rw [Rs,lk,if_neg aa,show P+(j+1)=P+1+j by omega,this]
theorem aap:∀ (n P:Nat) (f:P0) (j:Nat) (q:List (List Nat)),j<n→A0 (P+j) (pB q) (Rs P n f)=Rs P n (upd f j q)
 | n+1,P,f,0,q,_=>by
  simp only [Rs,A0,Nat.add_zero,if_true];congr 1
 | n+1,P,f,j+1,q,h=>by
  have:=aap n (P+1) (fun j=>f (j+1)) j q aa;rw [Rs,A0,if_neg aa,show P+(j+1)=P+1+j by omega,this,Rs];simp [upd];congr 1
theorem N1:∀ (n P:Nat) (f:P0) (p:Nat × Blk),p ∈ Rs P n f→∃ j,j<n∧p=(P+j,pB (f j))
 | 0,_,_,p,h=>by simp [Rs] at h
 | n+1,P,f,p,h=>by
  rw [Rs] at h;rcases List.mem_cons.1 h with rfl | h
  ·exact ⟨0,aa,rfl⟩
  ·obtain ⟨j,hj,rfl⟩:=N1 n (P+1) _ p h;exact ⟨j+1,aa,by rw [show P+1+j=P+(j+1) by omega]⟩
theorem T7 {f:P0} {j:Nat} (h:j<8):lk (Yt j) (Rs 1 8 f)=some (pB (f j)):=SR 8 1 f j h
theorem aeK {f:P0} {j:Nat} (q:List (List Nat)) (h:j<8):A0 (Yt j) (pB q) (Rs 1 8 f)=Rs 1 8 (upd f j q):=aap 8 1 f j q h
theorem ahN (q:List (List Nat)):(pB q).ty=23:=rfl
theorem aoK (q:List (List Nat)):(pB q).e=32:=rfl
theorem ahO (q:List (List Nat)):(pB q).es=q.map cb:=rfl
theorem UV {inner:List Nat} (hi:inner.length=32) (a b c:AV):(cb inner ++ [a,b]).set 32 c=cb inner ++ [c,b]:=by
 have hl:(cb inner).length=32:=by rw [d0,hi]
 rw [List.set_append_right _ _ aa,hl];rfl
def Se (inner:List Nat) (idf:Nat→Nat) (f:P0) (xs:List (List Nat)):List (List AV):=xs.mapIdx fun j x=>n7 inner (.own (idf j) 0 (f j).length (f j).length) (.d (nb x))
theorem N2 {inner:List Nat} {idf:Nat→Nat} {f:P0} {xs:List (List Nat)}:(Se inner idf f xs).length=xs.length:=by simp [Se]
theorem Yu {inner:List Nat} {idf:Nat→Nat} {f:P0} {xs:List (List Nat)} {j:Nat} {x:List Nat} (h:xs[j]?=some x):(Se inner idf f xs)[j]?=some (n7 inner (.own (idf j) 0 (f j).length (f j).length) (.d (nb x))):=by
 simp [Se,h]
theorem Zl {inner:List Nat} {idf:Nat→Nat} {f:P0} {xs:List (List Nat)} {j:Nat} {x:List Nat} (q:List (List Nat)) (h:xs[j]?=some x):(Se inner idf f xs).set j (n7 inner (.own (idf j) 0 q.length q.length) (.d (nb x)))=Se inner idf (upd f j q) xs:=by
 have hj:=(List.getElem?_eq_some_iff.1 h).1;apply List.ext_getElem?;intro i;rw [List.getElem?_set];by_cases hi:j=i
 ·subst hi;rw [if_pos rfl,if_pos (by rw [N2];exact hj),Yu h];simp [upd]
 ·rw [if_neg hi];simp only [Se,List.getElem?_mapIdx,upd];rw [if_neg (fun e=>hi e.symm)]
theorem Tw (n:Nat) (inner:List Nat) (a b:AV) (ha:a.low1 n) (hb:b.low1 n):∀ v,v ∈ n7 inner a b→v.low1 n:=by
 intro v hv;unfold n7 at hv;rcases List.mem_append.1 hv with h | h
 ·exact p9 _ _ v h
 ·simp at h;rcases h with rfl | rfl
  ·exact ha
  ·exact hb
theorem ahP {n:Nat} {inner:List Nat} {idf:Nat→Nat} {f:P0} {xs:List (List Nat)} (h:∀ j,j<xs.length→idf j<n):∀ r,r ∈ Se inner idf f xs→∀ v,v ∈ r→v.low1 n:=by
 intro r hr;simp only [Se,List.mem_mapIdx] at hr;obtain ⟨j,hj,rfl⟩:=hr;exact Tw _ _ _ _ (h j hj) trivial
theorem ac4 (n:Nat) (q:List (List Nat)):∀ r,r ∈ (pB q).es→∀ v,v ∈ r→v.low1 n:=by
 intro r hr;simp only [pB,List.mem_map] at hr;obtain ⟨p,_,rfl⟩:=hr;exact p9 _ _
def y5 (h:List Nat) (first many:Nat):List AV:=cb h ++ [.d (.int .i64 (first:Int)),.d (.int .i64 (many:Int))]
theorem Tx {h:List Nat} (hh:h.length=32) (a b:Nat):(y5 h a b).length=34:=by simp [y5,d0,hh]
theorem G5 {h:List Nat} (hh:h.length=32) (a b:Nat):List.take 34 (y5 h a b)=y5 h a b:=List.take_of_length_le (by rw [Tx hh];exact Nat.le_refl _)
theorem WS {h:List Nat} (hh:h.length=32) (a b:Nat):(y5 h a b)[32]?=some (.d (.int .i64 (a:Int))):=D4 hh _ _
theorem aaq {h:List Nat} (hh:h.length=32) (a b:Nat):(y5 h a b)[33]?=some (.d (.int .i64 (b:Int))):=H5 hh _ _
theorem Ss {h:List Nat} (hh:h.length=32) (a b:Nat) (hl:32<(y5 h a b).length):(y5 h a b)[32]=.d (.int .i64 (a:Int)):=by
 have:=WS hh a b;rw [List.getElem?_eq_getElem hl] at this;exact Option.some.inj this
theorem Su {h:List Nat} (hh:h.length=32) (a b:Nat) (hl:33<(y5 h a b).length):(y5 h a b)[33]=.d (.int .i64 (b:Int)):=by
 have:=aaq hh a b;rw [List.getElem?_eq_getElem hl] at this;exact Option.some.inj this
theorem Zm {h:List Nat} (hh:h.length=32) (a b:Nat):List.take 32 (y5 h a b)=cb h:=by
 unfold y5;rw [List.take_append_of_le_length (by rw [d0,hh];exact Nat.le_refl _),List.take_of_length_le (by rw [d0,hh];exact Nat.le_refl _)]
theorem ahQ {h:List Nat} (hh:h.length=32) (a b:AV):List.drop 33 (cb h ++ [a,b])=[b]:=by
 rw [List.drop_append,d0,hh,List.drop_eq_nil_of_le (by rw [d0];omega)];rfl
theorem Zn {h:List Nat} (hh:h.length=32) (a b:AV):List.take 33 (cb h ++ [a,b])=cb h ++ [a]:=by
 rw [List.take_append,d0,hh,List.take_of_length_le (by rw [d0];omega)];rfl
theorem Zo {h:List Nat} (hh:h.length=32) (a b:AV):List.drop 34 (cb h ++ [a,b])=[]:=List.drop_eq_nil_of_le (by simp [d0,hh])
theorem C5 (n:Nat) (h:List Nat) (a b:Nat):∀ v,v ∈ y5 h a b→v.low1 n:=by
 intro v hv;rcases List.mem_append.1 hv with q | q
 ·exact p9 _ _ v q
 ·simp at q;rcases q with rfl | rfl <;> trivial
theorem auu:P2 Tryz.prog 96=some (y5 z32 0 0):=by kernel_rfl
attribute [go_sem] auu
def x6 (first k:Nat) (h:List Nat) (f:P0):P0:=fun j=>if first≤j∧j<first+k then f j ++ [h] else f j
theorem Wg (first:Nat) (h:List Nat) (f:P0):x6 first 0 h f=f:=by
 funext j;unfold x6;rw [if_neg aa]
theorem TU (first k:Nat) (h:List Nat) (f:P0):x6 first k h f (first+k)=f (first+k):=by unfold x6;rw [if_neg aa]
theorem Wh (first k:Nat) (h:List Nat) (f:P0):upd (x6 first k h f) (first+k) (f (first+k) ++ [h])=x6 first (k+1) h f:=by
 funext j;unfold upd x6;by_cases h1:j=first+k
 ·subst h1;rw [if_pos rfl,if_pos aa]
 ·rw [if_neg h1];by_cases h2:first≤j∧j<first+k
  ·rw [if_pos h2,if_pos aa]
  ·rw [if_neg h2,if_neg aa]
def grH (inner:List Nat) (xs:List (List Nat)) (za zb zc:List AV) (f:P0):Hp :=
 (74,⟨96,34,[za]⟩) :: (42,⟨96,34,[zb]⟩) :: (10,⟨96,34,[zc]⟩) :: (0,⟨27,34,Se inner Yt f xs⟩) :: Rs 1 8 f
theorem Ty {inner:List Nat} {xs:List (List Nat)} {za zb zc:List AV} {f:P0} {hp:Hp} {nx N:Nat} (hN:100≤N) (hn:xs.length≤8) (ha:∀ v,v ∈ za→v.low1 N) (hb:∀ v,v ∈ zb→v.low1 N) (hc:∀ v,v ∈ zc→v.low1 N)
  (h1:lk 74 hp=some ⟨96,34,[za]⟩) (h2:lk 42 hp=some ⟨96,34,[zb]⟩) (h3:lk 10 hp=some ⟨96,34,[zc]⟩) (h4:lk 0 hp=some ⟨27,34,Se inner Yt f xs⟩) (h5:∀ j,j<8→lk (Yt j) hp=some (pB (f j))) :
  ∀ p,p ∈ grH inner xs za zb zc f→(lk p.1 hp=some p.2 ∨ (nx≤p.1∧p.2.es=[]))∧p.1<N∧∀ r,r ∈ p.2.es→∀ v,v ∈ r→v.low1 N:=by
 intro p hp';unfold grH at hp';simp only [List.mem_cons] at hp';rcases hp' with rfl | rfl | rfl | rfl | hp'
 ·exact ⟨.inl h1,by show 74<N;omega,by intro r hr;simp at hr;subst hr;exact ha⟩
 ·exact ⟨.inl h2,by show 42<N;omega,by intro r hr;simp at hr;subst hr;exact hb⟩
 ·exact ⟨.inl h3,by show 10<N;omega,by intro r hr;simp at hr;subst hr;exact hc⟩
 ·exact ⟨.inl h4,by show 0<N;omega,ahP (fun j hj=>by show 1+j<N;omega)⟩
 ·obtain ⟨j,hj,rfl⟩:=N1 8 1 f p hp';exact ⟨.inl (h5 j hj),by show 1+j<N;omega,ac4 _ _⟩
theorem al6 (inner a b:List Nat) (xs:List (List Nat)) (f:P0) (fa ma fb mb:Nat) (hi:inner.length=32) (ha:a.length=32) (hb:b.length=32) (hn:xs.length≤8) (h1:fa+ma≤xs.length) (h2:fb+mb≤xs.length) (hf:∀ j,(f j).length≤100) :
  J9 Tryz.prog 56 9 ((0,⟨27,34,Se inner Yt f xs⟩) :: Rs 1 8 f) [.own 0 0 xs.length xs.length,.agg (y5 a fa ma),.agg (y5 b fb mb)]
   (fun r hp'=>r=.agg (y5 (t6 a b) fa (ma+mb))∧lk 0 hp'=some ⟨27,34,Se inner Yt (x6 fb mb a (x6 fa ma b f)) xs⟩∧∀ j,j<8→lk (Yt j) hp'=some (pB (x6 fb mb a (x6 fa ma b f) j))):=by
 refine B9 Tryz.func56 (by kernel_rfl) rfl Tryz.ntmps56 (rs:=[.cell 6 96]) rfl (TG rfl) (TG rfl) ?_;have sa:=Tx ha fa ma;have sb:=Tx hb fb mb;have w1:IntKind.i64.wrap ((fa:Int)+ma)=((fa+ma:Nat):Int):=by rw [IntWalk.i64_in _ aa];omega
 have w2:IntKind.i64.wrap ((fb:Int)+mb)=((fb+mb:Nat):Int):=by rw [IntWalk.i64_in _ aa];omega
 have zs:(y5 z32 0 0).length=34:=rfl;simp [go_sem,sa,sb,zs,G5 ha,G5 hb,Ss ha,Su ha,Ss hb,Su hb,N2,w1,-Int.natCast_add];refine ⟨aa,?_⟩
 refine j6 (fun k:Nat=>⟨[(0,.own 0 0 xs.length xs.length),(4,.ptr 10 0 0 1),(5,.ptr 42 0 0 1),(6,.ptr 74 0 0 1),(20,.d (.int .i64 (ma:Int))),(21,.d (.int .i64 (k:Int)))],
   grH inner xs (y5 z32 0 0) (y5 b fb mb) (y5 a fa ma) (x6 fa k b f),10000⟩)
  (fun k=>k≤ma) (fun k=>ma - k) 0 aa (by
   rw [Wg];refine ⟨?_,?_,ab⟩
   ·simp [c6,fv,lk,AV.low,AV.low1]
   ·exact Ty (TG rfl) hn (C5 _ _ _ _) (C5 _ _ _ _) (C5 _ _ _ _) rfl rfl rfl rfl (fun j hj=>by simp [lk,T6 hj,Wy,T7 hj])) ?_
 intro k hk;simp only [grH];simp only [go_sem,Nat.reduceEqDiff,Nat.reduceAdd,Nat.reduceLT,↓reduceIte,Nat.reduceMul];refine ⟨fun h=>?_,fun h=>?_⟩
 ·have hj:fa+k<xs.length:=aa;obtain ⟨x,hx⟩:∃ x,xs[fa+k]?=some x:=⟨_,List.getElem?_eq_getElem hj⟩;have w3:=m9 (k:=k) aa;have w4:IntKind.i64.wrap ((fa:Int)+k)=((fa+k:Nat):Int):=by rw [IntWalk.i64_in _ aa];omega
  have hla:=Yu (inner:=inner) (idf:=Yt) (f:=x6 fa k b f) hx;have hls:=fun q=>Zl (inner:=inner) (idf:=Yt) (f:=x6 fa k b f) q hx;have hp8:fa+k<8:=aa;have hne:=T6 hp8;have h0:=Wy (fa+k);rw [TU] at hla;simp [go_sem,sa,sb,zs,G5 ha,G5 hb,Ss ha,Su ha,Ss hb,Su hb,WS ha,N2,w4,-Int.natCast_add];refine ⟨aa,?_⟩
  have far:∀ (f:P0) (c:Nat),9≤c→∀ (a:Nat) (b:Blk),(a,b) ∈ Rs 1 8 f→¬ c=a:=by
   intro f c hc a b hm e;obtain ⟨j,hj,e2⟩:=N1 8 1 f _ hm;simp only [Prod.mk.injEq] at e2;omega
  refine B3 [1,2,3,4,5,6] [0,7,8,9,10,11] [1,2,3,4,5,6] (.alt (ah 0 (ah 7 (ag [8,9,10,11]))) (ah 7 (.alt (ah 0 (ag [8,9,10,11])) (ag [8,0,9,10,11])))) ⟨[(0,.own 0 0 xs.length xs.length),(4,.ptr 10 0 0 1),(5,.ptr 42 0 0 1),(6,.ptr 74 0 0 1),(20,.d (.int .i64 (ma:Int))),(21,.d (.int .i64 (k:Int)))],grH inner xs (y5 z32 0 0) (y5 b fb mb) (y5 a fa ma) (x6 fa (k+1) b f),20000⟩ (k:=12) ?h3 ?hq
  case h3 =>
   intro G hG
   have hW:∀ (fr:Fr) (hp:Hp),(fv 0 fr=.own 0 0 xs.length xs.length∧fv 4 fr=.ptr 10 0 0 1∧fv 5 fr=.ptr 42 0 0 1∧fv 6 fr=.ptr 74 0 0 1∧fv 20 fr=.d (.int .i64 (ma:Int))∧fv 21 fr=.d (.int .i64 (k:Int)) ∧
     hp=(10544,⟨23,32,[cb b]⟩) :: (74,⟨96,34,[y5 z32 0 0]⟩) :: (42,⟨96,34,[y5 b fb mb]⟩) :: (10,⟨96,34,[y5 a fa ma]⟩) :: (0,⟨27,34,Se inner Yt (x6 fa (k+1) b f) xs⟩) :: Rs 1 8 (x6 fa (k+1) b f))→G fr hp:=by
    rintro fr hp ⟨q0,q1,q2,q3,q4,q5,rfl⟩;refine hG _ _ (G2 ⟨?_,?_,ab⟩)
    ·simp [c6,AV.low,AV.low1,q0,q1,q2,q3,q4,q5]
    ·exact Ty (TG rfl) hn (C5 _ _ _ _) (C5 _ _ _ _) (C5 _ _ _ _) rfl rfl rfl rfl (fun j hj=>by simp [lk,T6 hj,Wy,T7 hj])
   have hset:=hls (f (fa+k) ++ [b]);have hsetH:=aeK (f:=x6 fa k b f) (f (fa+k) ++ [b]) hp8;rw [Wh] at hset hsetH;simp [n7,pB] at hset hsetH;have hfk:=hf (fa+k);simp [go_sem,sb,hla,hb,hi,n7,D4 hi,Zm hb,T7 hp8,N2,hne,h0,TU,ahN,aoK,ahO,UV hi,hset,hsetH]
   repeat' apply And.intro
   all_goals first | exact hW _ _ (by simp [fv,lk]) | omega | exact fun a c hm e=>absurd e (far _ _ aa _ _ hm)
  case hq =>
   simp [go_sem,w3];refine c8 (k+1) aa aa ⟨?_,?_,ab⟩
   ·simp [c6,fv,lk,AV.low,AV.low1]
   ·exact Ty (TG rfl) hn (C5 _ _ _ _) (C5 _ _ _ _) (C5 _ _ _ _) rfl rfl rfl rfl (fun j hj=>by simp [grH,lk,T6 hj,Wy,T7 hj])
 ·have hk2:k=ma:=aa;subst hk2;simp [go_sem,sa,sb,zs,G5 ha,G5 hb,Ss ha,Su ha,Ss hb,Su hb,WS ha,aaq ha,WS hb,aaq hb,N2,w2,-Int.natCast_add];refine ⟨aa,?_⟩
  have hg:∀ j,(x6 fa k b f j).length≤101:=by
   intro j;have:=hf j;unfold x6
   split
   ·simp;omega
   ·omega
  have hna:fa+k≤8:=aa;generalize x6 fa k b f=g at *;clear hk h w1;revert sa;revert h1;generalize k=ka;intro h1 sa
  refine j6 (fun k:Nat=>⟨[(0,.own 0 0 xs.length xs.length),(4,.ptr 10 0 0 1),(5,.ptr 42 0 0 1),(6,.ptr 74 0 0 1),(51,.d (.int .i64 (mb:Int))),(52,.d (.int .i64 (k:Int)))],
    grH inner xs (y5 z32 0 0) (y5 b fb mb) (y5 a fa ka) (x6 fb k a g),10000⟩)
   (fun k=>k≤mb) (fun k=>mb - k) 0 aa (by
    rw [Wg];refine ⟨?_,?_,ab⟩
    ·simp [c6,fv,lk,AV.low,AV.low1]
    ·exact Ty (TG rfl) hn (C5 _ _ _ _) (C5 _ _ _ _) (C5 _ _ _ _) rfl rfl rfl rfl (fun j hj=>by simp [lk,T6 hj,Wy,T7 hj])) ?_
  intro k hk;simp only [grH];simp only [go_sem,Nat.reduceEqDiff,Nat.reduceAdd,Nat.reduceLT,↓reduceIte,Nat.reduceMul];refine ⟨fun h=>?_,fun h=>?_⟩
  ·have hj:fb+k<xs.length:=aa;obtain ⟨x,hx⟩:∃ x,xs[fb+k]?=some x:=⟨_,List.getElem?_eq_getElem hj⟩;have w3:=m9 (k:=k) aa;have w4:IntKind.i64.wrap ((fb:Int)+k)=((fb+k:Nat):Int):=by rw [IntWalk.i64_in _ aa];omega
   have hla:=Yu (inner:=inner) (idf:=Yt) (f:=x6 fb k a g) hx;have hls:=fun q=>Zl (inner:=inner) (idf:=Yt) (f:=x6 fb k a g) q hx;have hp8:fb+k<8:=aa;have hne:=T6 hp8;have h0:=Wy (fb+k);rw [TU] at hla;simp [go_sem,sa,sb,zs,G5 ha,G5 hb,Ss ha,Su ha,Ss hb,Su hb,WS hb,N2,w4,-Int.natCast_add];refine ⟨aa,?_⟩
   have far:∀ (f:P0) (c:Nat),9≤c→∀ (u:Nat) (v:Blk),(u,v) ∈ Rs 1 8 f→¬ c=u:=by
    intro f c hc u v hm e;obtain ⟨j,hj,e2⟩:=N1 8 1 f _ hm;simp only [Prod.mk.injEq] at e2;omega
   refine B3 [1,2,3,4,5,6] [0,7,8,9,10,11] [1,2,3,4,5,6] (.alt (ah 0 (ah 7 (ag [8,9,10,11]))) (ah 7 (.alt (ah 0 (ag [8,9,10,11])) (ag [8,0,9,10,11])))) ⟨[(0,.own 0 0 xs.length xs.length),(4,.ptr 10 0 0 1),(5,.ptr 42 0 0 1),(6,.ptr 74 0 0 1),(51,.d (.int .i64 (mb:Int))),(52,.d (.int .i64 (k:Int)))],grH inner xs (y5 z32 0 0) (y5 b fb mb) (y5 a fa ka) (x6 fb (k+1) a g),20000⟩ (k:=12) ?h3 ?hq
   case h3 =>
    intro G hG
    have hW:∀ (fr:Fr) (hp:Hp),(fv 0 fr=.own 0 0 xs.length xs.length∧fv 4 fr=.ptr 10 0 0 1∧fv 5 fr=.ptr 42 0 0 1∧fv 6 fr=.ptr 74 0 0 1∧fv 51 fr=.d (.int .i64 (mb:Int))∧fv 52 fr=.d (.int .i64 (k:Int)) ∧
      hp=(10544,⟨23,32,[cb a]⟩) :: (74,⟨96,34,[y5 z32 0 0]⟩) :: (42,⟨96,34,[y5 b fb mb]⟩) :: (10,⟨96,34,[y5 a fa ka]⟩) :: (0,⟨27,34,Se inner Yt (x6 fb (k+1) a g) xs⟩) :: Rs 1 8 (x6 fb (k+1) a g))→G fr hp:=by
     rintro fr hp ⟨q0,q1,q2,q3,q4,q5,rfl⟩;refine hG _ _ (G2 ⟨?_,?_,ab⟩)
     ·simp [c6,AV.low,AV.low1,q0,q1,q2,q3,q4,q5]
     ·exact Ty (TG rfl) hn (C5 _ _ _ _) (C5 _ _ _ _) (C5 _ _ _ _) rfl rfl rfl rfl (fun j hj=>by simp [lk,T6 hj,Wy,T7 hj])
    have hset:=hls (g (fb+k) ++ [a]);have hsetH:=aeK (f:=x6 fb k a g) (g (fb+k) ++ [a]) hp8;rw [Wh] at hset hsetH;simp [n7,pB] at hset hsetH;have hfk:=hg (fb+k);simp [go_sem,sa,hla,ha,hi,n7,D4 hi,Zm ha,T7 hp8,N2,hne,h0,TU,ahN,aoK,ahO,UV hi,hset,hsetH]
    repeat' apply And.intro
    all_goals first | exact hW _ _ (by simp [fv,lk]) | omega | exact fun a c hm e=>absurd e (far _ _ aa _ _ hm)
   case hq =>
    simp [go_sem,w3];refine c8 (k+1) aa aa ⟨?_,?_,ab⟩
    ·simp [c6,fv,lk,AV.low,AV.low1]
    ·exact Ty (TG rfl) hn (C5 _ _ _ _) (C5 _ _ _ _) (C5 _ _ _ _) rfl rfl rfl rfl (fun j hj=>by simp [grH,lk,T6 hj,Wy,T7 hj])
  ·have hk2:k=mb:=aa;subst hk2;have w5:IntKind.i64.wrap ((ka:Int)+k)=((ka+k:Nat):Int):=by rw [IntWalk.i64_in _ aa];omega
   have hL:=L2 a b;skip;refine B3 [0,1,2,3,5,6,7,8,9,10,11] [4,13] [0,1,2,3,5,6,7,8,9,10,11,12] (.step 4 [12] true (ag [13])) ⟨[(6,.ptr 74 0 0 1)],grH inner xs (y5 (t6 a b) fa (ka+k)) (y5 b fb k) (y5 a fa ka) (x6 fb k a g),30000⟩ (k:=14) ?h3 ?hq
   case h3 =>
    intro G hG;simp [go_sem,sa,sb,zs,Zm ha,Zm hb,ha,hb,G5 ha,G5 hb,Ss ha,Su ha,Ss hb,Su hb,WS ha,aaq ha,WS hb,aaq hb,w5,-Int.natCast_add];refine a9 (abr a b ha hb) (by intro v hv;simp at hv;rcases hv with rfl | rfl <;> exact s6 _) ?_;have hz:List.drop 32 (y5 z32 0 0)=[.d (.int .i64 0),.d (.int .i64 0)]:=rfl;have hz2:List.drop 34 (y5 z32 0 0)=[]:=rfl;have e1:=ahQ hL;have e2:=Zn hL;have e3:=Zo hL;simp [go_sem,hL,d5 hL,d0,zs,hz,hz2,e1,e2,e3];refine hG _ _ (G2 ⟨?_,?_,ab⟩)
    ·simp [c6,fv,lk,AV.low,AV.low1]
    ·exact Ty (TG rfl) hn (C5 _ _ _ _) (C5 _ _ _ _) (C5 _ _ _ _) (by simp [lk,y5]) rfl rfl rfl (fun j hj=>by simp [lk,T6 hj,Wy,T7 hj])
   case hq =>
    simp [go_sem,grH,G5 hL,Tx hL];intro j hj;simp [T6 hj,Wy,T7 hj]
def K6 (j:Nat):Nat:=20000+j
def VH:List (Nat × Nat):=[(0,10000),(1,20000),(2,20001),(3,20002),(4,20003),(5,20004),(6,20005),(7,20006),(8,20007)]
theorem SJ (ρ:Nat→Nat):∀ l:List AV,AV.renL ρ l=l.map (AV.ren ρ)
 | []=>rfl
 | a :: r=>by rw [AV.renL,List.map_cons,SJ ρ r]
theorem aar (ρ:Nat→Nat) (l:List Nat):(cb l).map (AV.ren ρ)=cb l:=by simp [cb,AV.ren]
theorem aeL {ρ:Nat→Nat} {inner:List Nat} {idf idf':Nat→Nat} {f:P0} {xs:List (List Nat)} (h:∀ j,j<xs.length→ρ (idf j)=idf' j):H1 ρ (Se inner idf f xs)=Se inner idf' f xs:=by
 apply List.ext_getElem?;intro i;simp only [H1,Se,List.getElem?_map,List.getElem?_mapIdx,Option.map_map]
 cases hx:xs[i]? with
 | none=>rfl
 | some x =>
  have hi:=(List.getElem?_eq_some_iff.1 hx).1;simp [n7,SJ,aar,AV.ren,h i hi]
theorem al7 (ρ:Nat→Nat) (q:List (List Nat)):(pB q).ren ρ=pB q:=by
 unfold Blk.ren pB;simp only [H1,List.map_map,Blk.mk.injEq,true_and];apply List.map_congr_left;intro l _;simp only [Function.comp_apply,SJ,aar]
theorem aeM (ρ:Nat→Nat) (h:List Nat) (a b:Nat):(AV.agg (y5 h a b)).ren ρ=.agg (y5 h a b):=by
 rw [AV.ren,SJ,y5,List.map_append,aar];rfl
theorem awy:∀ j,j<8→J6 (TP VH) 9 (K6 j)=Yt j:=by decide
theorem awz (N:Nat):∀ j,j<8→J6 (L6 VH [] N) (N+31) (Yt j)=K6 j:=by
 have h:∀ j,j<8→lk (Yt j) VH=some (K6 j):=by decide
 intro j hj;unfold J6 L6;rw [List.map_nil,List.append_nil,h j hj];rfl
theorem al8 {f:P0} {i:Nat} (h:i<20000 ∨ 20008≤i):lk i (Rs 20000 8 f)=none:=by
 cases hl:lk i (Rs 20000 8 f) with
 | none=>rfl
 | some b =>
  obtain ⟨j,hj,e⟩:=N1 8 20000 f _ (C3 hl);simp only [Prod.mk.injEq] at e;omega
theorem aeN {f:P0} {i:Nat} {r:Hp} (h:i<20000 ∨ 20008≤i):lk i (Rs 20000 8 f ++ r)=lk i r:=by
 rw [X6,al8 h]
theorem abP {i:Nat} {b:Blk}:∀ {a r:Hp},(∀ p,p ∈ a→p.1 ≠ i)→A0 i b (a ++ r)=a ++ A0 i b r
 | [],r,_=>rfl
 | (m,v) :: t,r,h=>by
  rw [List.cons_append,A0,if_neg (h _ (List.mem_cons_self ..)),abP (fun p hp=>h p (List.mem_cons_of_mem _ hp))];rfl
theorem agm {f:P0} {i:Nat} {b:Blk} {r:Hp} (h:i<20000 ∨ 20008≤i):A0 i b (Rs 20000 8 f ++ r)=Rs 20000 8 f ++ A0 i b r :=
 abP (fun p hp=>by
  obtain ⟨j,hj,rfl⟩:=N1 8 20000 f p hp;show 20000+j ≠ i
  omega)
theorem arQ {f:P0} {j:Nat} {r:Hp} (h:j<8):lk (K6 j) (Rs 20000 8 f ++ r)=some (pB (f j)):=by
 rw [X6,show lk (K6 j) (Rs 20000 8 f)=some (pB (f j)) from SR 8 20000 f j h]
theorem al9 {P:Program} {N:Nat} {K:AV→Hp→Prop} {pre:Hp} (inner a b:List Nat) (xs:List (List Nat)) (f:P0) (fa ma fb mb:Nat) (hn:xs.length≤8)
  (hg:J9 P 56 9 ((0,⟨27,34,Se inner Yt f xs⟩) :: Rs 1 8 f) [.own 0 0 xs.length xs.length,.agg (y5 a fa ma),.agg (y5 b fb mb)]
   (fun r hp'=>r=.agg (y5 (t6 a b) fa (ma+mb))∧lk 0 hp'=some ⟨27,34,Se inner Yt (x6 fb mb a (x6 fa ma b f)) xs⟩∧∀ j,j<8→lk (Yt j) hp'=some (pB (x6 fb mb a (x6 fa ma b f) j))))
  (hpre:∀ p,p ∈ pre→p.1 ≠ 10000∧(p.1<20000 ∨ 20008≤p.1))
  (hK:K (.agg (y5 (t6 a b) fa (ma+mb))) ((10000,⟨27,34,Se inner K6 (x6 fb mb a (x6 fa ma b f)) xs⟩) :: (Rs 20000 8 (x6 fb mb a (x6 fa ma b f)) ++ pre))) :
  ClW P 56 [.own 10000 0 xs.length xs.length,.agg (y5 a fa ma),.agg (y5 b fb mb)] (pre ++ (10000,⟨27,34,Se inner K6 f xs⟩) :: Rs 20000 8 f) N K:=by
 have pnone:∀ i,(i=10000 ∨ (20000≤i∧i<20008))→lk i pre=none:=by
  intro i hi
  cases hl:lk i pre with
  | none=>rfl
  | some b =>
   have:=hpre _ (C3 hl);simp only at this;omega
 have lL0:lk 10000 (pre ++ (10000,⟨27,34,Se inner K6 f xs⟩) :: Rs 20000 8 f)=some ⟨27,34,Se inner K6 f xs⟩:=by
  rw [X6,pnone 10000 (.inl rfl)];rfl
 have lP:∀ j,j<8→lk (K6 j) (pre ++ (10000,⟨27,34,Se inner K6 f xs⟩) :: Rs 20000 8 f)=some (pB (f j)):=by
  intro j hj;rw [X6,pnone (K6 j) (.inr ⟨by unfold K6;omega,by unfold K6;omega⟩)];show lk (K6 j) ((10000,_) :: Rs 20000 8 f)=_;rw [lk,if_neg (by unfold K6;omega)];exact SR 8 20000 f j hj
 have mem9:∀ p,p ∈ VH→p=(0,10000) ∨ ∃ j,j<8∧p=(Yt j,K6 j):=by decide
 refine G6 VH hg rfl ?_ ?_ ?_ ?_ ?_
 ·decide
 ·intro p hp;rcases mem9 p hp with rfl | ⟨j,hj,rfl⟩
  ·exact ⟨_,lL0,ab⟩
  ·exact ⟨_,lP j hj,by simp [pB]⟩
 ·intro p hp;rcases List.mem_cons.1 hp with rfl | hp
  ·refine ⟨10000,_,rfl,lL0,?_⟩;simp only [Blk.ren,Blk.mk.injEq,true_and];exact (aeL (fun j hj=>awy j aa)).symm
  ·obtain ⟨j,hj,rfl⟩:=N1 8 1 f p hp;have hlk:∀ j,j<8→lk (1+j) VH=some (K6 j):=by decide
   exact ⟨K6 j,_,hlk j hj,lP j hj,(al7 _ _).symm⟩
 ·simp only [SJ,List.map_cons,List.map_nil,aeM];rfl
 ·rintro r hp' ⟨rfl,h0,h1⟩;refine ⟨[],rfl,?_⟩;rw [aeM]
  have e1:O0 VH [] N hp' (pre ++ (10000,⟨27,34,Se inner K6 f xs⟩) :: Rs 20000 8 f)=(10000,⟨27,34,Se inner K6 (x6 fb mb a (x6 fa ma b f)) xs⟩) :: (Rs 20000 8 (x6 fb mb a (x6 fa ma b f)) ++ pre):=by
   unfold O0
   have hfil:((pre ++ (10000,⟨27,34,Se inner K6 f xs⟩) :: Rs 20000 8 f).filter fun p=>!(VH.map (·.2)).contains p.1)=pre:=by
    rw [List.filter_append]
    have f1:pre.filter (fun p=>!(VH.map (·.2)).contains p.1)=pre:=by
     rw [List.filter_eq_self];intro p hp;have:=hpre p hp;simp [VH];omega
    have f2:((10000,(⟨27,34,Se inner K6 f xs⟩:Blk)) :: Rs 20000 8 f).filter (fun p=>!(VH.map (·.2)).contains p.1)=[]:=by
     rw [List.filter_eq_nil_iff];intro p hp;rcases List.mem_cons.1 hp with rfl | hp
     ·simp [VH]
     ·obtain ⟨j,hj,rfl⟩:=N1 8 20000 f p hp;simp [VH];omega
    rw [f1,f2,List.append_nil]
   rw [hfil,← List.cons_append];congr 1;have g0:=h1 0 aa;have g1:=h1 1 aa;have g2:=h1 2 aa;have g3:=h1 3 aa;have g4:=h1 4 aa;have g5:=h1 5 aa;have g6:=h1 6 aa;have g7:=h1 7 aa;simp only [Yt,Nat.reduceAdd] at g0 g1 g2 g3 g4 g5 g6 g7
   have hL:(⟨27,34,Se inner Yt (x6 fb mb a (x6 fa ma b f)) xs⟩:Blk).ren (J6 (L6 VH [] N) (N+31))=⟨27,34,Se inner K6 (x6 fb mb a (x6 fa ma b f)) xs⟩:=by
    simp only [Blk.ren,Blk.mk.injEq,true_and];exact aeL (fun j hj=>awz N j aa)
   have hprs:L6 VH [] N=VH:=by simp [L6]
   rw [hprs] at hL ⊢;simp only [VH] at hL ⊢;simp [h0,g0,g1,g2,g3,g4,g5,g6,g7,al7,Rs,hL]
  rw [e1];exact hK
abbrev Row:=List (List Nat × Nat)
def aeO (h:List Nat) (s m:Nat):List DV:=cd h ++ [.int .i64 (s:Int),.int .i64 (m:Int)]
def T8:Nat→Row→List (List DV)
 | _,[]=>[]
 | s,p :: r=>aeO p.1 s p.2 :: T8 (s+p.2) r
theorem aeP (h:List Nat) (s m:Nat):(aeO h s m).map AV.d=y5 h s m:=by simp [aeO,y5,K4]
theorem aas {h:List Nat} (hh:h.length=32) (s m:Nat):(aeO h s m).length=34:=by simp [aeO,C8,hh]
theorem UW:∀ (s:Nat) (r:Row),(T8 s r).length=r.length
 | _,[]=>rfl
 | s,p :: r=>by rw [T8,List.length_cons,List.length_cons,UW]
def C0 (r:Row):Nat:=(r.map (·.2)).sum
theorem Zp:∀ (s:Nat) (a b:Row),T8 s (a ++ b)=T8 s a ++ T8 (s+C0 a) b
 | s,[],b=>by simp [T8,C0]
 | s,p :: a,b=>by
  rw [List.cons_append,T8,T8,Zp (s+p.2) a b,List.cons_append];congr 2;simp [C0,Nat.add_assoc]
theorem aat:∀ (s:Nat) (r:Row),(∀ p,p ∈ r→p.1.length=32)→∀ x,x ∈ T8 s r→x.length=34
 | _,[],_,x,h=>by simp [T8] at h
 | s,p :: r,hp,x,h=>by
  rcases List.mem_cons.1 h with rfl | h
  ·exact aas (hp p (List.mem_cons_self ..)) _ _
  ·exact aat _ r (fun q hq=>hp q (List.mem_cons_of_mem _ hq)) x h
theorem ac5 (n s:Nat) (r:Row):∀ x,x ∈ (T8 s r).map (fun q=>q.map AV.d)→∀ v,v ∈ x→v.low1 n:=by
 intro x hx v hv;obtain ⟨q,_,rfl⟩:=List.mem_map.1 hx;obtain ⟨d,_,rfl⟩:=List.mem_map.1 hv
 trivial
def B6:Row→Row
 | a :: b :: r=>(t6 a.1 b.1,a.2+b.2) :: B6 r
 | r=>r
def H7:Nat→Row→P0→P0
 | s,a :: b :: r,f=>H7 (s+a.2+b.2) r (x6 (s+a.2) b.2 a.1 (x6 s a.2 b.1 f))
 | _,_,f=>f
theorem SK:∀ r:Row,2*(B6 r).length≤r.length+1
 | []=>by simp [B6]
 | [a]=>by simp [B6]
 | a :: b :: r=>by
  have:=SK r;simp only [B6,List.length_cons];omega
theorem Tz:∀ r:Row,C0 (B6 r)=C0 r
 | []=>rfl
 | [a]=>rfl
 | a :: b :: r=>by
  have:=Tz r;simp only [B6,C0,List.map_cons,List.sum_cons] at this ⊢;omega
theorem Wi:∀ r:Row,(∀ p,p ∈ r→p.1.length=32)→∀ p,p ∈ B6 r→p.1.length=32
 | [],h=>h
 | [a],h=>h
 | a :: b :: r,h=>by
  intro p hp;rcases List.mem_cons.1 hp with rfl | hp
  ·exact L2 _ _
  ·exact Wi r (fun q hq=>h q (by simp [hq])) p hp
def F1:Nat→Row→P0→Row × P0
 | 0,r,f=>(r,f)
 | n+1,r,f=>if 1<r.length then F1 n (B6 r) (H7 0 r f) else (r,f)
theorem aau {n:Nat} {r:Row} {f:P0} (h:r.length≤1):F1 n r f=(r,f):=by
 cases n with
 | zero=>rfl
 | succ n=>rw [F1,if_neg aa]
def J1 (xs:List (List Nat)):Row:=xs.map fun x=>(E6 x,1)
theorem TA (xs:List (List Nat)):C0 (J1 xs)=xs.length:=by
 induction xs with
 | nil=>rfl
 | cons a r ih=>simp only [J1,C0,List.map_cons,List.sum_cons,List.length_cons] at ih ⊢;omega
theorem XK (xs:List (List Nat)):∀ p,p ∈ J1 xs→p.1.length=32:=by
 intro p hp;obtain ⟨x,_,rfl⟩:=List.mem_map.1 hp;exact S7 x
theorem aeQ (a b:List (List Nat)):J1 (a ++ b)=J1 a ++ J1 b:=by simp [J1]
def A7 (xs:List (List Nat)):P0:=(F1 7 (J1 xs) fun _=>[]).2
theorem Uo {first k:Nat} {h:List Nat} {f:P0} {B s:Nat} (hf:∀ j,(f j).length≤if j<s then B+1 else B) (h1:s≤first):∀ j,((x6 first k h f) j).length≤if j<first+k then B+1 else B:=by
 intro j;have:=hf j;unfold x6;by_cases h2:first≤j∧j<first+k
 ·rw [if_pos h2,if_pos h2.2];rw [if_neg aa] at this;simp;omega
 ·rw [if_neg h2]
  split at this
  ·rw [if_pos aa];omega
  ·split <;> omega
def I3 (inner:List Nat) (l:List (List Nat) × List Nat):List DV:=cd inner ++ [r6 l.1,nb l.2]
theorem RG {inner:List Nat} (hi:inner.length=32) (l:List (List Nat) × List Nat):(I3 inner l).length=34:=by simp [I3,C8,hi]
theorem Sf (inner:List Nat) (l:List (List Nat) × List Nat):(I3 inner l).map AV.d=n7 inner (.d (r6 l.1)) (.d (nb l.2)):=by simp [I3,n7,K4]
theorem agn (inner:List Nat) (a b:DV):(AV.agg (n7 inner (.d a) (.d b))).deep:=by
 intro c hc;unfold n7 at hc;rcases List.mem_append.1 hc with h | h
 ·exact s6 _ _ h
 ·simp at h;rcases h with rfl | rfl <;> trivial
theorem D6 {inner:List Nat} (hi:inner.length=32) (a b:AV):(n7 inner a b).length=34:=by simp [n7,d0,hi]
theorem C9 {inner:List Nat} (hi:inner.length=32) (a b:AV):List.take 34 (n7 inner a b)=n7 inner a b:=List.take_of_length_le (by rw [D6 hi];exact Nat.le_refl _)
theorem Sv (inner:List Nat) (a b:DV):∀ v,v ∈ [AV.agg (n7 inner (.d a) (.d b))]→v.deep:=by
 intro v hv;simp at hv;subst hv;exact agn _ _ _
theorem ama (inner:List Nat) (l:List (List Nat) × List Nat) (O:List Nat) (e:Int) (hi:inner.length=32)
  (g:d9 Tryz.prog 18 [.agg (n7 inner (.d (r6 l.1)) (.d (nb l.2)))] (fun r=>r=.tup [.d (nb O),.d (.int .i64 e)])) :
  d9 Tryz.prog 57 [.agg (n7 inner (.d (r6 l.1)) (.d (nb l.2)))] (fun r=>r=.d (.bool (!decide (e=0)))):=by
 refine s8 Tryz.func57 Tryz.ntmps57 (rs:=[.tmp 2]) (Sv _ _ _) ?_;simp [go_sem,D6 hi,C9 hi];refine a9 g (Sv _ _ _) ?_;simp [go_sem,d6];exact b7 ae rfl
abbrev Lf:=List (List Nat) × List Nat
def XL (E:Lf→Int) (ls:List Lf):Bool:=ls.any fun l=>!decide (E l=0)
theorem aeR {E:Lf→Int} {l:List Lf} {k:Nat} {x:Lf} {b:Bool} (hd:l.drop k=x :: l.drop (k+1)) (h:XL E (l.drop k)=b) (hx:E x=0):XL E (l.drop (k+1))=b:=by
 rw [hd] at h;rw [← h];simp [XL,hx]
theorem aeS {E:Lf→Int} {l:List Lf} {k:Nat} {x:Lf} {b:Bool} (hd:l.drop k=x :: l.drop (k+1)) (h:XL E (l.drop k)=b) (hx:¬ E x=0):b=true:=by
 rw [hd] at h;rw [← h];simp [XL,hx]
theorem aiP (inner:List Nat) (ls:List Lf) (O:Lf→List Nat) (E:Lf→Int) (hi:inner.length=32) (hl:ls.length≤1000000000)
  (g:∀ l,l ∈ ls→d9 Tryz.prog 18 [.agg (n7 inner (.d (r6 l.1)) (.d (nb l.2)))] (fun r=>r=.tup [.d (nb (O l)),.d (.int .i64 (E l))])) :
  d9 Tryz.prog 92 [.d (.ro 34 (ls.map (I3 inner))),.fn 57 []] (fun r=>∃ n:Int,r=.d (.int .i64 n)∧decide (0≤n)=XL E ls):=by
 refine s8 Tryz.func92 Tryz.ntmps92 (rs:=[.tmp 4]) ae ?_;simp [go_sem]
 refine j6 (fun k:Nat=>⟨[(0,.d (.ro 34 (ls.map (I3 inner)))),(1,.fn 57 []),(7,.d (.int .i64 (ls.length:Int))),(8,.d (.int .i64 (k:Int)))],[],1000⟩)
  (fun k=>k≤ls.length∧XL E (ls.drop k)=XL E ls) (fun k=>ls.length - k) 0 ⟨aa,rfl⟩ (by
   simp [m6,c6,fv,lk,AV.low,AV.low1]) ?_
 rintro k ⟨hk,ho⟩;simp only [go_sem,Nat.reduceEqDiff,Nat.reduceAdd,Nat.reduceLT,↓reduceIte,Nat.reduceMul];refine ⟨fun h=>?_,fun h=>?_⟩
 ·obtain ⟨x,hx1,hd⟩:=G3 (l:=ls) (k:=k) aa;have w3:=m9 (k:=k) aa;have hrow:=RG hi x;simp [go_sem,hx1,hrow,Sf,C9 hi,D6 hi];refine a9 (ama inner x (O x) (E x) hi (g x (List.mem_of_getElem? hx1))) (Sv _ _ _) ?_;by_cases hx:E x=0
  ·simp [go_sem,hx,w3];refine c8 (k+1) ⟨aa,aeR hd ho hx⟩ aa ?_;simp [m6,c6,fv,lk,AV.low,AV.low1]
  ·have:=aeS hd ho hx;simp [go_sem,hx];exact b7 ae ⟨_,rfl,by rw [this];simp⟩
 ·have hkl:k=ls.length:=aa;subst hkl;rw [List.drop_length] at ho;simp [go_sem];exact b7 ae ⟨_,rfl,by rw [← ho];rfl⟩
theorem ac6 (inner:List Nat) (ls:List Lf) (O:Lf→List Nat) (E:Lf→Int) (hi:inner.length=32) (hl:ls.length≤1000000000)
  (g:∀ l,l ∈ ls→d9 Tryz.prog 18 [.agg (n7 inner (.d (r6 l.1)) (.d (nb l.2)))] (fun r=>r=.tup [.d (nb (O l)),.d (.int .i64 (E l))])) :
  d9 Tryz.prog 58 [.d (.ro 34 (ls.map (I3 inner))),.fn 57 []] (fun r=>r=.d (.bool (XL E ls))):=by
 refine s8 Tryz.func58 Tryz.ntmps58 (rs:=[.tmp 4]) ae ?_;simp [go_sem];refine asX (aiP inner ls O E hi hl g) ae ?_;rintro r ⟨n,rfl,hn⟩;rw [← hn];simp [go_sem];exact b7 ae rfl
def Tc (f:P0) (xs:List (List Nat)):List Lf:=xs.mapIdx fun j x=>(f j,x)
theorem ac7 {hp:Hp} {I:Nat→Prop} {a c:List AV} {b d:List DV} (h:CellsR hp I a b) (h2:CellsR hp I c d):CellsR hp I (a ++ c) (b ++ d):=by
 induction h with
 | nil=>exact h2
 | cons h t ih=>exact .cons h ih
theorem YN {hp:Hp} {I:Nat→Prop}:∀ (rows:List (List AV)) (es:List (List DV)),rows.length=es.length→(∀ (i:Nat) (x:List AV) (y:List DV),rows[i]?=some x→es[i]?=some y→CellsR hp I x y)→RowsR hp I rows es
 | [],[],_,_=>.nil
 | [],_ :: _,h,_=>by simp at h
 | _ :: _,[],h,_=>by simp at h
 | x :: rows,y :: es,h,hg=>.cons (hg 0 x y rfl rfl) (YN rows es (by simpa using h) (fun i a b h1 h2=>hg (i+1) a b (by simpa using h1) (by simpa using h2)))
theorem Zq (f:P0) (xs:List (List Nat)):(Tc f xs).length=xs.length:=by simp [Tc]
theorem YO {hp:Hp} {I:Nat→Prop} {inner:List Nat} {idf:Nat→Nat} {f:P0} {xs:List (List Nat)} {id:Nat} (hi:inner.length=32) (hb:lk id hp=some ⟨27,34,Se inner idf f xs⟩) (hI:I id) (hI2:∀ j,j<xs.length→I (idf j))
  (hp32:∀ j p,p ∈ f j→p.length=32) (h5:∀ j,j<xs.length→lk (idf j) hp=some (pB (f j))):SnapD hp I (.own id 0 xs.length xs.length) (.ro 34 ((Tc f xs).map (I3 inner))):=by
 refine ZL hb hI N2 ?_ (by rw [List.length_map,Zq]) (fun r hr=>?_)
 ·rw [List.drop_zero,List.take_of_length_le (by rw [N2];exact Nat.le_refl _)];refine YN _ _ (by simp [N2,Zq]) (fun i x y h1 h2=>?_);simp only [Se,Tc,List.getElem?_map,List.getElem?_mapIdx,Option.map_map,Option.map_eq_some_iff] at h1 h2;obtain ⟨u,hu,rfl⟩:=h1;obtain ⟨v,hv,rfl⟩:=h2;rw [hu] at hv
  cases hv
  unfold n7;simp only [Function.comp_apply,I3];rw [← K4];refine ac7 (O7 _) (.cons ?_ (.cons (.d _) .nil));have hiu:=(List.getElem?_eq_some_iff.1 hu).1;refine C4 (ty:=23) (e:=32) (es:=(f i).map cd) ?_ (hI2 i hiu) ab (fun r hr=>?_)
  ·rw [h5 i hiu];simp [pB,K4]
  ·obtain ⟨p,hp,rfl⟩:=List.mem_map.1 hr;rw [C8];exact hp32 i p hp
 ·obtain ⟨l,_,rfl⟩:=List.mem_map.1 hr;exact RG hi l
def L8 (x:List Nat):List DV:=[nb x]
def lvN (inner:List Nat) (xs:List (List Nat)):List (List AV):=xs.map fun x=>n7 inner .nil (.d (nb x))
theorem Wj {α:Type} {l:List α} {k:Nat} {x:α} (h:l[k]?=some x):l.take (k+1)=l.take k ++ [x]:=by
 rw [List.take_add_one,h];rfl
theorem abQ {fr:Fr} {inner:List Nat} (xs:List (List Nat)) (hn:xs.length≤8):Wk ⟨fr,(10000,⟨27,34,lvN inner xs⟩) :: Rs 20000 8 (fun _=>[]),30000⟩ ⟨fr,(10000,⟨27,34,Se inner K6 (fun _=>[]) xs⟩) :: Rs 20000 8 (fun _=>[]),30000⟩:=by
 refine aki (st:=⟨fr,(10000,⟨27,34,lvN inner xs⟩) :: Rs 20000 8 (fun _=>[]),30000⟩) (L:=10000) (b:=⟨27,34,lvN inner xs⟩) (es':=Se inner K6 (fun _=>[]) xs) rfl ab (by simp [Se,lvN]) ?_;intro i x x' h1 h2;simp only [lvN,List.getElem?_map,Option.map_eq_some_iff] at h1;obtain ⟨y,hy,rfl⟩:=h1;rw [Yu hy] at h2;simp only [Option.some.injEq] at h2;subst h2;refine ⟨by simp [n7],fun j v v' a1 a2=>?_⟩;unfold n7 at a1 a2;by_cases hj:j<(cb inner).length
 ·rw [List.getElem?_append_left hj] at a1 a2;rw [a1] at a2;exact .inl (Option.some.inj a2).symm
 ·rw [List.getElem?_append_right aa] at a1 a2;have hi:=(List.getElem?_eq_some_iff.1 hy).1
  match hj2:j - (cb inner).length,a1,a2 with
  | 0,a1,a2 =>
   simp only [List.getElem?_cons_zero,Option.some.injEq] at a1 a2;subst a1 a2;exact .inr ⟨rfl,K6 i,by unfold K6;show 20000+i<30000;omega,rfl⟩
  | 1,a1,a2 =>
   simp only [List.getElem?_cons_succ,List.getElem?_cons_zero,Option.some.injEq] at a1 a2;subst a1 a2;exact .inl rfl
  | m+2,a1,a2=>simp at a1
theorem Sw {inner:List Nat} {xs:List (List Nat)} {f:P0} {hp:Hp} {nx N:Nat} (hN:20008≤N) (hn:xs.length≤8) (h4:lk 10000 hp=some ⟨27,34,Se inner K6 f xs⟩) (h5:∀ j,j<8→lk (K6 j) hp=some (pB (f j))) :
  ∀ p,p ∈ (10000,(⟨27,34,Se inner K6 f xs⟩:Blk)) :: Rs 20000 8 f→(lk p.1 hp=some p.2 ∨ (nx≤p.1∧p.2.es=[]))∧p.1<N∧∀ r,r ∈ p.2.es→∀ v,v ∈ r→v.low1 N:=by
 intro p hp';rcases List.mem_cons.1 hp' with rfl | hp'
 ·exact ⟨.inl h4,by show 10000<N;omega,ahP (fun j hj=>by show 20000+j<N;omega)⟩
 ·obtain ⟨j,hj,rfl⟩:=N1 8 20000 f p hp';exact ⟨.inl (h5 j hj),by show 20000+j<N;omega,ac4 _ _⟩
def P32 (f:P0):Prop:=∀ j p,p ∈ f j→p.length=32
theorem Wl {first k:Nat} {h:List Nat} {f:P0} (hf:P32 f) (hh:h.length=32):P32 (x6 first k h f):=by
 intro j p hp;unfold x6 at hp
 split at hp
 ·rcases List.mem_append.1 hp with q | q
  ·exact hf j p q
  ·simp at q;subst q;exact hh
 ·exact hf j p hp
theorem ago:∀ {q:Row},q.length≤1→B6 q=q
 | [],_=>rfl
 | [a],_=>rfl
 | a :: b :: r,h=>by simp at h
theorem aeT:∀ {q:Row} {s:Nat} {g:P0},q.length≤1→H7 s q g=g
 | [],_,_,_=>rfl
 | [a],_,_,_=>rfl
 | a :: b :: r,_,_,h=>by simp at h
def C6 (inner:List Nat) (xs:List (List Nat)) (E:Lf→Int):AV :=
 if xs.length=0 ∨ 8<xs.length ∨ XL E (Tc (A7 xs) xs)=true then .tup [.nil,.d (.int .i64 1)] else .tup [.d (.ro 34 ((Tc (A7 xs) xs).map (I3 inner))),.d (.int .i64 0)]
theorem aeU (inner:List Nat) (xs:List (List Nat)) (hi:inner.length=32) (hx:∀ x,x ∈ xs→x.length≤100000)
    (hcl:∀ b:List Nat,b.length≤100000000000→d9 Tryz.prog 52 [.d (nb b)] (fun r=>r=.d (nb b))) (O:Lf→List Nat) (E:Lf→Int)
    (hout:∀ l,l ∈ Tc (A7 xs) xs→d9 Tryz.prog 18 [.agg (n7 inner (.d (r6 l.1)) (.d (nb l.2)))] (fun r=>r=.tup [.d (nb (O l)),.d (.int .i64 (E l))])) :
    d9 Tryz.prog 24 [.agg (cb inner),.d (.ro 1 (xs.map L8))] (fun r=>r=C6 inner xs E):=by
  refine s8 Tryz.func24 Tryz.ntmps24 (rs:=[.tmp 4,.tmp 5]) (by
    intro v hv;simp at hv;rcases hv with rfl | rfl
    · exact s6 _
    · trivial) ?_
  by_cases h0:xs.length=0
  · have hV:C6 inner xs E=.tup [.nil,.d (.int .i64 1)]:=by unfold C6;rw [if_pos (.inl h0)]
    rw [hV];have hxs:xs=[]:=List.eq_nil_of_length_eq_zero h0;subst hxs;simp [go_sem,d0,hi,d5 hi,d6];exact b7 ae rfl
  by_cases h8:8<xs.length
  · have hV:C6 inner xs E=.tup [.nil,.d (.int .i64 1)]:=by unfold C6;rw [if_pos (.inr (.inl h8))]
    rw [hV];have i0:¬ (xs.length:Int)=0:=aa;have i8:(8:Int)<(xs.length:Int):=aa;simp [go_sem,d0,hi,d5 hi,i0,i8,h0,h8,d6];exact b7 ae rfl
  have hn:xs.length≤8:=aa;have i0:¬ (xs.length:Int)=0:=aa;have i8:¬ (8:Int)<(xs.length:Int):=aa;simp [go_sem,d0,hi,d5 hi,i0,i8,h0,h8]
  refine j6 (fun k:Nat=>⟨[(2,.ptr 0 0 0 1),(6,.own 10000 0 k k),(7,.own 10001 0 k k),(20,.d (.ro 1 (xs.map L8))),(21,.d (.int .i64 (xs.length:Int))),(22,.d (.int .i64 (k:Int)))],
      [(10001,⟨96,34,(T8 0 (J1 (xs.take k))).map (fun q=>q.map AV.d)⟩),(10000,⟨27,34,lvN inner (xs.take k)⟩),(0,⟨23,32,[cb inner]⟩)],11000⟩)
    (fun k=>k≤xs.length) (fun k=>xs.length - k) 0 aa (by
      simp [m6,c6,fv,lk,AV.low,AV.low1,T8,J1,lvN]
      exact p9 _ _) ?_
  intro k hk;simp only [go_sem,Nat.reduceEqDiff,Nat.reduceAdd,Nat.reduceLT,↓reduceIte,Nat.reduceMul];refine ⟨fun h=>?_,fun h=>?_⟩
  · obtain ⟨x,hxk,hd⟩:=G3 (l:=xs) (k:=k) aa
    have w3:=m9 (k:=k) aa;have hxl:=hx x (List.mem_of_getElem? hxk);have zl:(n7 z32 .nil .nil).length=34:=rfl;have hst:(T8 0 (J1 (xs.take k))).length=k:=by rw [UW,J1,List.length_map,List.length_take];omega
    have hlv:(lvN inner (xs.take k)).length=k:=by rw [lvN,List.length_map,List.length_take];omega
    have hlB:=S7 x;simp [go_sem,hxk,L8];refine z6 [0,1,2] [(3,[4]),(5,[]),(6,[]),(7,[])] 2 (k:=8) ?_;intro G hG;simp [go_sem,d0,hi,d5 hi];refine a9 (hcl x aa) ae ?_;have zd:List.drop 32 (n7 z32 .nil .nil)=[.nil,.nil]:=rfl;have b2:=Zn hi .nil .nil;have b3:=Zo hi .nil .nil;simp [go_sem,d0,hi,d5 hi,zl,hlv,zd,b2,b3];refine ⟨aa,hG _ _ ?_⟩;clear hG G;have hash1:d9 Tryz.prog 51 [.d (nb x)] (fun r=>r=.agg (cb (E6 x))):=YJ x aa;simp [go_sem];refine a9 hash1 ae ?_;have zs:(y5 z32 0 0).length=34:=rfl;have hz:List.drop 32 (y5 z32 0 0)=[.d (.int .i64 0),.d (.int .i64 0)]:=rfl;have hz2:List.drop 34 (y5 z32 0 0)=[]:=rfl;have e1:=ahQ hlB;have e2:=Zn hlB;have e3:=Zo hlB;simp [go_sem,hlB,d5 hlB,d0,zs,hz,hz2,e1,e2,e3,hst,w3];refine ⟨aa,?_⟩;have E1:lvN inner (xs.take (k+1))=lvN inner (xs.take k) ++ [cb inner ++ [.nil,.d (nb x)]]:=by rw [Wj hxk];simp [lvN,n7]
    have E2:(T8 0 (J1 (xs.take (k+1)))).map (fun q=>q.map AV.d)=(T8 0 (J1 (xs.take k))).map (fun q=>q.map AV.d) ++ [cb (E6 x) ++ [.d (.int .i64 (k:Int)),.d (.int .i64 1)]]:=by
      rw [Wj hxk,aeQ,Zp,List.map_append,TA,List.length_take,Nat.min_eq_left aa];simp [J1,T8,aeO,K4]
    refine c8 (k+1) aa aa ⟨?_,?_,ab⟩
    · simp [c6,fv,lk,AV.low,AV.low1]
    · intro p hp
      simp only [List.mem_cons,List.mem_nil_iff,or_false] at hp;rcases hp with rfl | rfl | rfl
      · exact ⟨.inl (by simp [lk,E2]),by show 10001<11000;omega,ac5 _ _ _⟩
      · exact ⟨.inl (by simp [lk,E1]),by show 10000<11000;omega,fun r hr=>by
          obtain ⟨y,_,rfl⟩:=List.mem_map.1 hr
          exact Tw _ _ _ _ trivial trivial⟩
      · exact ⟨.inl rfl,by show 0<11000;omega,by intro r hr;simp at hr;subst hr;exact p9 _ _⟩
  · have hkn:k=xs.length:=aa
    subst hkn;simp [go_sem];obtain ⟨R,F,hRF⟩:∃ R F,F1 7 (J1 xs) (fun _=>[])=(R,F):=⟨_,_,rfl⟩;have hr0:(J1 xs).length=xs.length:=by simp [J1]
    refine Vs (fun t:Nat × Row × P0=>⟨[(6,.own 10000 0 xs.length xs.length),(7,.d (.ro 34 (T8 0 t.2.1)))],(10000,⟨27,34,Se inner K6 t.2.2 xs⟩) :: Rs 20000 8 t.2.2,30000⟩)
      (fun t=>F1 t.1 t.2.1 t.2.2=(R,F)∧t.2.1.length≤t.1+1∧t.1≤7∧C0 t.2.1=xs.length∧(∀ p,p ∈ t.2.1→p.1.length=32)∧P32 t.2.2∧∀ j,(t.2.2 j).length+t.1≤7) (fun t=>t.1) (7,J1 xs,fun _=>[])
      ⟨hRF,by simp only [hr0];omega,Nat.le_refl _,TA xs,XK xs,(fun j p hp=>by simp at hp),fun j=>ab⟩ ?_ ?_
    · refine (aca [10001] [(7,.d (.ro 34 (T8 0 (J1 xs))))] (fun p hp=>?_)).trans ((G2 ?_).trans (abQ xs hn))
      · simp at hp
        subst hp;exact .one (m8 (C4 rfl ab (by rw [UW,hr0]) (aat _ _ (XK xs))))
      · refine ⟨?_,?_,ab⟩
        · simp [c6,fv,lk,AV.low,AV.low1]
        · intro p hp
          rcases List.mem_cons.1 hp with rfl | hp
          · exact ⟨.inl rfl,by show 10000<30000;omega,fun r hr=>by
              obtain ⟨y,_,rfl⟩:=List.mem_map.1 hr
              exact Tw _ _ _ _ trivial trivial⟩
          · obtain ⟨j,hj,rfl⟩:=N1 8 20000 _ p hp
            exact ⟨.inr ⟨by show 11032≤20000+j;omega,rfl⟩,by show 20000+j<30000;omega,ac4 _ _⟩
    · rintro ⟨n,row,f⟩ ⟨q1,q2,q3,q4,q5,q7,q6⟩
      simp only at q1 q2 q3 q4 q5 q6 q7;simp only;simp [go_sem,UW];refine ⟨fun h=>?_,fun h=>?_⟩
      · have h':1<row.length:=aa
        obtain ⟨m,rfl⟩:∃ m,n=m+1:=⟨n - 1,aa⟩;rw [F1,if_pos h'] at q1
        refine j6 (fun t:Nat × Row × Row × P0=>⟨[(6,.own 10000 0 xs.length xs.length),(7,.d (.ro 34 (T8 t.1 t.2.1))),(10,.own 40000 0 t.2.2.1.length t.2.2.1.length)],
            (40000,⟨96,34,(T8 0 t.2.2.1).map (fun q=>q.map AV.d)⟩) :: (10000,⟨27,34,Se inner K6 t.2.2.2 xs⟩) :: Rs 20000 8 t.2.2.2,50000⟩)
          (fun t=>t.2.2.1 ++ B6 t.2.1=B6 row∧H7 t.1 t.2.1 t.2.2.2=H7 0 row f∧C0 t.2.2.1=t.1∧t.1+C0 t.2.1=xs.length∧(∀ p,p ∈ t.2.1→p.1.length=32)∧(∀ p,p ∈ t.2.2.1→p.1.length=32)∧P32 t.2.2.2∧∀ j,(t.2.2.2 j).length≤if j<t.1 then (6 - m)+1 else 6 - m)
          (fun t=>t.2.1.length) (0,row,[],f) ⟨rfl,rfl,rfl,by simp only;omega,q5,ab,q7,fun j=>by have:=q6 j;simp only [Nat.not_lt_zero,if_false];omega⟩ ⟨?_,?_,ab⟩ ?_
        · simp [c6,fv,lk,AV.low,AV.low1,T8]
        · intro p hp
          rcases List.mem_cons.1 hp with rfl | hp
          · exact ⟨.inr ⟨by show 30128≤40000;omega,rfl⟩,by show 40000<50000;omega,by intro r hr;simp [T8] at hr⟩
          · exact Sw ab hn rfl (fun j hj=>by
              show lk (K6 j) ((10000,_) :: Rs 20000 8 f)=_;rw [lk,if_neg (by unfold K6;omega)]
              exact SR 8 20000 f j hj) p hp
        · rintro ⟨s,q,up,g⟩ ⟨p1,p2,p3,p4,p5,p6,p8,p7⟩
          simp only at p1 p2 p3 p4 p5 p6 p7 p8;simp only;simp [go_sem,UW];refine ⟨fun hh=>?_,fun hh=>?_⟩
          · match q,p1,p2,p4,p5,hh with
            | a :: b :: r,p1,p2,p4,p5,_ =>
              have ha:=p5 a ab;have hb:=p5 b ab;have hla:=aas ha s a.2;have hlb:=aas hb (s+a.2) b.2;simp only [T8];skip;refine B3 [1,2,3,4,5,6,7] [0,8,9,10,11] [1,2,3,4,5,6,7] (.alt (ah 0 (ag [8,9,10,11])) (ai 8 (.alt (ag [0,9,10,11]) (ag [9,0,10,11])))) ⟨[(6,.own 10000 0 xs.length xs.length),(7,.d (.ro 34 (T8 s (a :: b :: r)))),(10,.own 40000 0 (up.length+1) (up.length+1))],(40000,⟨96,34,(T8 0 (up ++ [(t6 a.1 b.1,a.2+b.2)])).map (fun q=>q.map AV.d)⟩) :: (10000,⟨27,34,Se inner K6 (x6 (s+a.2) b.2 a.1 (x6 s a.2 b.1 g)) xs⟩) :: Rs 20000 8 (x6 (s+a.2) b.2 a.1 (x6 s a.2 b.1 g)),60000⟩ (k:=12) ?h3 ?hq
              case h3 =>
                intro G hG;simp [go_sem,hla,hlb,aeP,Tx ha,Tx hb,G5 ha,G5 hb,T8]
                have tot:s+(a.2+(b.2+C0 r))=xs.length:=by
                  have:=p4;simp only [C0,List.map_cons,List.sum_cons] at this ⊢;exact this
                have hgg:∀ j,(g j).length≤100:=fun j=>by
                  have:=p7 j
                  split at this <;> omega
                have hgr:=al6 inner a.1 b.1 xs g s a.2 (s+a.2) b.2 hi ha hb hn aa aa hgg
                have hcg:∀ (N:Nat) (K:AV→Hp→Prop),K (.agg (y5 (t6 a.1 b.1) s (a.2+b.2))) ((10000,⟨27,34,Se inner K6 (x6 (s+a.2) b.2 a.1 (x6 s a.2 b.1 g)) xs⟩) :: (Rs 20000 8 (x6 (s+a.2) b.2 a.1 (x6 s a.2 b.1 g)) ++ [(40000,⟨96,34,(T8 0 up).map (fun q=>q.map AV.d)⟩)])) →
                    ClW Tryz.prog 56 [.own 10000 0 xs.length xs.length,.agg (y5 a.1 s a.2),.agg (y5 b.1 (s+a.2) b.2)] ((40000,⟨96,34,(T8 0 up).map (fun q=>q.map AV.d)⟩) :: (10000,⟨27,34,Se inner K6 g xs⟩) :: Rs 20000 8 g) N K:=by
                  intro N K hK;exact al9 (pre:=[(40000,⟨96,34,(T8 0 up).map (fun q=>q.map AV.d)⟩)]) inner a.1 b.1 xs g s a.2 (s+a.2) b.2 hn hgr (by intro p hp;simp at hp;subst hp;exact ⟨ab,.inr ab⟩) hK
                have hBl:=L2 a.1 b.1
                have hul:up.length≤10:=by
                  have e1:=congrArg List.length p1;have e2:=SK row;simp only [List.length_append] at e1;omega
                have hW:∀ (fr:Fr) (hp:Hp),fv 6 fr=.own 10000 0 xs.length xs.length→fv 7 fr=.d (.ro 34 (T8 s (a :: b :: r)))→fv 10 fr=.own 40000 0 (up.length+1) (up.length+1) →
                    lk 40000 hp=some ⟨96,34,(T8 0 up).map (fun q=>q.map AV.d) ++ [y5 (t6 a.1 b.1) s (a.2+b.2)]⟩→lk 10000 hp=some ⟨27,34,Se inner K6 (x6 (s+a.2) b.2 a.1 (x6 s a.2 b.1 g)) xs⟩→(∀ j,j<8→lk (K6 j) hp=some (pB (x6 (s+a.2) b.2 a.1 (x6 s a.2 b.1 g) j)))→G fr hp:=by
                  intro fr hp v1 v2 v3 v4 v5 v6;refine hG _ _ (G2 ⟨?_,?_,ab⟩)
                  · simp [c6,AV.low,AV.low1,v1,v2,v3]
                  · intro p hp'
                    rcases List.mem_cons.1 hp' with rfl | hp'
                    · refine ⟨.inl ?_,by show 40000<60000;omega,ac5 _ _ _⟩
                      show lk 40000 hp=_;rw [v4,Zp,Nat.zero_add,p3,List.map_append];simp [T8,aeP]
                    · exact Sw ab hn v5 v6 p hp'
                refine ⟨hcg _ _ ?_,hcg _ _ ?_⟩
                all_goals
                  simp [go_sem,Tx hBl,G5 hBl,aeN,agm,UW]
                  repeat' apply And.intro
                all_goals first
                  | omega
                  | (refine hW _ _ rfl rfl rfl (by simp [lk,aeN]) (by simp [lk]) (fun j hj=>?_)
                     have hne:∀ c,(c<20000 ∨ 20008≤c)→¬ c=K6 j:=fun c hc=>by unfold K6;omega
                     simp [lk,hne,arQ hj])
              case hq =>
                have hdr:List.drop 2 (List.take ((((T8 (s+a.2+b.2) r).length:Int)+1+1).toNat) (aeO a.1 s a.2 :: aeO b.1 (s+a.2) b.2 :: T8 (s+a.2+b.2) r))=T8 (s+a.2+b.2) r:=by
                  rw [List.take_of_length_le (by simp only [List.length_cons];omega)];rfl
                simp only [T8];simp [go_sem,hdr,-List.drop_succ_cons];refine ⟨aa,?_⟩;have l1:=Uo (first:=s) (k:=a.2) (h:=b.1) p7 (Nat.le_refl _);have l2:=Uo (first:=s+a.2) (k:=b.2) (h:=a.1) l1 (Nat.le_refl _)
                have tu:C0 (up ++ [(t6 a.1 b.1,a.2+b.2)])=s+a.2+b.2:=by
                  have:=p3;simp only [C0,List.map_append,List.sum_append,List.map_cons,List.map_nil,List.sum_cons,List.sum_nil] at this ⊢;omega
                refine c8 (s+a.2+b.2,r,up ++ [(t6 a.1 b.1,a.2+b.2)],x6 (s+a.2) b.2 a.1 (x6 s a.2 b.1 g)) ⟨by rw [← p1];simp [B6],p2,tu,?_,fun u v hp=>p5 (u,v) (by simp [hp]),?_,Wl (Wl p8 hb) ha,l2⟩ (by simp only [List.length_cons];omega) ⟨?_,?_,ab⟩
                · have:=p4
                  simp only [C0,List.map_cons,List.sum_cons] at this ⊢;omega
                · intro u v hp
                  rcases List.mem_append.1 hp with hp | hp
                  · exact p6 (u,v) hp
                  · simp at hp;obtain ⟨rfl,_⟩:=hp;exact L2 _ _
                · simp [c6,fv,lk,AV.low,AV.low1]
                · intro p hp
                  rcases List.mem_cons.1 hp with rfl | hp
                  · exact ⟨.inl rfl,by show 40000<50000;omega,ac5 _ _ _⟩
                  · exact Sw ab hn rfl (fun j hj=>by
                      have hne:∀ c,(c<20000 ∨ 20008≤c)→¬ c=K6 j:=fun c hc=>by unfold K6;omega
                      have:=SR 8 20000 (x6 (s+a.2) b.2 a.1 (x6 s a.2 b.1 g)) j hj;simp [lk,hne]
                      exact this) p hp
          · have hql:q.length≤1:=aa
            rw [ago hql] at p1;rw [aeT hql] at p2;subst p2
            have hul:up.length+q.length≤10:=by
              have e1:=congrArg List.length p1;have e2:=SK row;simp only [List.length_append] at e1;omega
            have hrows:(T8 0 up).map (fun q=>q.map AV.d) ++ (T8 s q).map (fun q=>q.map AV.d)=(T8 0 (B6 row)).map (fun q=>q.map AV.d):=by
              rw [← p1,Zp,List.map_append,Nat.zero_add,p3]
            have hlen:up.length+q.length=(T8 0 (B6 row)).length:=by rw [UW,← p1,List.length_append]
            refine ⟨aa,?_⟩;refine adR (m,B6 row,H7 0 row f) ⟨q1,?_,by show m≤7;omega,?_,?_,p8,?_⟩ (by show m<m+1;omega) [40000] [(7,.d (.ro 34 (T8 0 (B6 row))))] (fun p hp=>?_) ⟨?_,?_,ab⟩
            · have:=SK row
              show (B6 row).length≤m+1;omega
            · show C0 (B6 row)=xs.length
              rw [Tz];exact q4
            · intro u v hp
              exact Wi row q5 (u,v) hp
            · intro j
              have:=p7 j;show (H7 0 row f j).length+m≤7
              split at this <;> omega
            · simp at hp
              subst hp;refine .one (m8 ?_);show SnapD _ _ (.own 40000 0 (up.length+q.length) (up.length+q.length)) _;rw [hlen];exact C4 (ty:=96) (by show some _=some _;rw [hrows]) ab rfl (aat _ _ (Wi row q5))
            · simp [c6,fv,lk,AV.low,AV.low1]
            · intro p hp
              exact Sw ab hn rfl (fun j hj=>by
                have hne:∀ c,(c<20000 ∨ 20008≤c)→¬ c=K6 j:=fun c hc=>by unfold K6;omega
                have:=SR 8 20000 (H7 0 row f) j hj;simp [s7,lk,hne];rw [Q1,if_neg (by simp;exact fun e=>hne 40000 (.inr aa) e.symm)]
                exact this) p hp
      · have hrl:row.length≤1:=aa
        rw [aau hrl] at q1;obtain ⟨rfl,rfl⟩:row=R∧f=F:=by simpa using q1
        have hF:A7 xs=f:=by unfold A7;rw [hRF]
        rw [hF] at hout;have g:=ac6 inner (Tc f xs) O E hi (by rw [Zq];omega) hout
        have hsn:SnapD ((10000,(⟨27,34,Se inner K6 f xs⟩:Blk)) :: Rs 20000 8 f) (fun _=>True) (.own 10000 0 xs.length xs.length) (.ro 34 ((Tc f xs).map (I3 inner))):=by
          refine YO (idf:=K6) hi rfl trivial (fun _ _=>trivial) q7 (fun j hj=>?_);have hne:∀ c,(c<20000 ∨ 20008≤c)→¬ c=K6 j:=fun c hc=>by unfold K6;omega
          have:=SR 8 20000 f j aa;rw [lk,if_neg (hne _ aa)];exact this
        refine Xj g rfl (m7 (.one (m8 hsn)) (m7 (.deep ae) t4)) trivial ?_;unfold C6;rw [hF]
        cases hbd:XL E (Tc f xs)
        · rw [if_neg (by simp [h0,h8])]
          simp [go_sem,d6];refine Tk (cs':=[.d (.ro 34 ((Tc f xs).map (I3 inner))),.d (.int .i64 0)]) (fun i c c' h1 h2=>?_) rfl ae rfl
          match i,h1,h2 with
          | 0,h1,h2=>simp at h1 h2;subst h1 h2;exact m8 hsn
          | 1,h1,h2=>simp at h1 h2;subst h1 h2;exact C7 trivial
          | k+2,h1,_=>simp at h1
        · rw [if_pos (.inr (.inr rfl))]
          simp [go_sem,d6];exact b7 ae rfl
def YP:Nat→Row→P0→List (List Nat)→Prop
 | _,[],_,_=>True
 | s,p :: r,f,xs=>bytes p.1∧(∀ j x,s≤j→j<s+p.2→xs[j]?=some x→L0 (f j) (E6 x)=p.1)∧YP (s+p.2) r f xs
theorem abR:∀ (r:Row) (s:Nat) (f g:P0) (xs:List (List Nat)),(∀ j,s≤j→f j=g j)→YP s r f xs→YP s r g xs
 | [],_,_,_,_,_,_=>trivial
 | p :: r,s,f,g,xs,h,hg=>⟨hg.1,fun j x h1 h2 h3=>by rw [← h j h1];exact hg.2.1 j x h1 h2 h3,abR r (s+p.2) f g xs (fun j hj=>h j aa) hg.2.2⟩
theorem Up {first k:Nat} {h:List Nat} {f:P0} {j:Nat} (hj:j<first ∨ first+k≤j):x6 first k h f j=f j:=by
 unfold x6;rw [if_neg aa]
theorem ahR {first k:Nat} {h:List Nat} {f:P0} {j:Nat} (h1:first≤j) (h2:j<first+k):x6 first k h f j=f j ++ [h]:=by
 unfold x6;rw [if_pos ⟨h1,h2⟩]
theorem aav:∀ (q:Row) (s:Nat) (g:P0) (j:Nat),j<s→H7 s q g j=g j
 | [],_,_,_,_=>rfl
 | [a],_,_,_,_=>rfl
 | a :: b :: r,s,g,j,h=>by
  rw [H7,aav r _ _ _ aa,Up aa,Up aa]
theorem abS (q:List (List Nat)) (p h:List Nat):L0 (q ++ [p]) h=t6 (L0 q h) p:=by simp [L0]
theorem aaX (a b:List Nat):bytes (t6 a b):=G8 _
theorem aeV (x:List Nat):bytes (E6 x):=G8 _
theorem aaw:∀ (q:Row) (s:Nat) (g:P0) (xs:List (List Nat)),YP s q g xs→YP s (B6 q) (H7 s q g) xs
 | [],_,_,_,h=>h
 | [a],_,_,_,h=>h
 | a :: b :: r,s,g,xs,h=>by
  obtain ⟨ba,ha,bb,hb,hr⟩:=h;rw [B6,H7];refine ⟨aaX _ _,fun j x h1 h2 h3=>?_,?_⟩
  ·simp only at h2;rw [aav _ _ _ _ aa];by_cases hj:j<s+a.2
   ·rw [Up (.inl hj),ahR h1 hj,abS,ha j x h1 hj h3]
   ·rw [ahR aa aa,Up (.inr aa),abS,hb j x aa aa h3];exact acr bb ba
  ·simp only;rw [← Nat.add_assoc];exact aaw r _ _ xs (abR r _ g _ xs (fun j hj=>by rw [Up (.inr hj),Up (.inr aa)]) hr)
theorem YQ:∀ (n:Nat) (q:Row) (g:P0) (xs:List (List Nat)),YP 0 q g xs→YP 0 (F1 n q g).1 (F1 n q g).2 xs
 | 0,q,g,xs,h=>h
 | n+1,q,g,xs,h=>by
  rw [F1]
  split
  ·exact YQ n _ _ xs (aaw q 0 g xs h)
  ·exact h
theorem YR:∀ (n:Nat) (q:Row) (g:P0),C0 (F1 n q g).1=C0 q
 | 0,q,g=>rfl
 | n+1,q,g=>by
  rw [F1]
  split
  ·rw [YR n,Tz]
  ·rfl
theorem YS:∀ (n:Nat) (q:Row) (g:P0),q.length≤n+1→(F1 n q g).1.length≤1
 | 0,q,g,h=>h
 | n+1,q,g,h=>by
  rw [F1]
  split
  ·refine YS n _ _ ?_;have:=SK q;omega
  ·rename_i h';show q.length≤1;omega
theorem abT:∀ (pre xs:List (List Nat)),YP pre.length (J1 xs) (fun _=>[]) (pre ++ xs)
 | pre,[]=>trivial
 | pre,x :: r=>by
  refine ⟨aeV x,fun j y h1 h2 h3=>?_,?_⟩
  ·have:j=pre.length:=by simp only at h2;omega
   subst this;rw [List.getElem?_append_right (Nat.le_refl _),Nat.sub_self] at h3;simp only [List.getElem?_cons_zero,Option.some.injEq] at h3;subst h3;rfl
  ·have:=abT (pre ++ [x]) r
   simpa [J1] using this
theorem amb (xs:List (List Nat)) (h8:xs.length≤8):∃ h,∀ l,l ∈ Tc (A7 xs) xs→L0 l.1 (E6 l.2)=h:=by
 have g:=YQ 7 (J1 xs) (fun _=>[]) xs (by simpa using abT [] xs);have t:=YR 7 (J1 xs) (fun _=>[]);have s:=YS 7 (J1 xs) (fun _=>[]) (by simp [J1];omega);rw [TA] at t;have hF:A7 xs=(F1 7 (J1 xs) fun _=>[]).2:=rfl;rw [hF];generalize F1 7 (J1 xs) (fun _=>[])=RF at *;obtain ⟨R,F⟩:=RF;simp only at g t s ⊢
 match R,s,t,g with
 | [],_,t,_ =>
  refine ⟨[],fun l hl=>?_⟩;have:xs=[]:=List.eq_nil_of_length_eq_zero (by simpa [C0] using t.symm);subst this;simp [Tc] at hl
 | [p],_,t,g =>
  refine ⟨p.1,fun l hl=>?_⟩;simp only [Tc,List.mem_mapIdx] at hl;obtain ⟨j,hj,rfl⟩:=hl;exact g.2.1 j _ (Nat.zero_le _) (by simp [C0] at t;omega) (List.getElem?_eq_getElem hj)
 | a :: b :: r,s,_,_=>simp at s
theorem abU:∀ (n:Nat) (q:Row) (g:P0) (B:Nat),(∀ j,(g j).length≤B)→∀ j,((F1 n q g).2 j).length≤B+n
 | 0,q,g,B,h=>h
 | n+1,q,g,B,h=>by
  rw [F1]
  split
  ·intro j
   have key:∀ (r:Row) (s:Nat) (f:P0),(∀ j,(f j).length≤if j<s then B+1 else B)→∀ j,(H7 s r f j).length≤B+1:=by
    intro r
    induction r using B6.induct with
    | case1 a b r ih =>
     intro s f hf;exact ih _ _ (Uo (Uo hf (Nat.le_refl _)) (Nat.le_refl _))
    | case2 r hr =>
     intro s f hf j;have:=hf j
     have hg:H7 s r f=f:=by
      match r,hr with
      | [],_=>rfl
      | [a],_=>rfl
      | a :: b :: r,hr=>exact absurd rfl (hr a b r)
     rw [hg]
     split at this <;> omega
   have:=abU n (B6 q) (H7 0 q g) (B+1) (key q 0 g (fun j=>by have:=h j;simp;exact this)) j;omega
  ·intro j;have:=h j;show (g j).length≤_;omega
theorem aeW:∀ (n:Nat) (q:Row) (g:P0),(∀ p,p ∈ q→p.1.length=32)→P32 g→P32 (F1 n q g).2
 | 0,q,g,_,h=>h
 | n+1,q,g,hq,h=>by
  rw [F1]
  split
  ·refine aeW n _ _ (Wi q hq) ?_
   have key:∀ (r:Row) (s:Nat) (f:P0),(∀ p,p ∈ r→p.1.length=32)→P32 f→P32 (H7 s r f):=by
    intro r
    induction r using B6.induct with
    | case1 a b r ih =>
     intro s f hr hf;exact ih _ _ (fun p hp=>hr p (by simp [hp])) (Wl (Wl hf (hr b ab)) (hr a ab))
    | case2 r hr =>
     intro s f _ hf
     match r,hr with
     | [],_=>exact hf
     | [a],_=>exact hf
     | a :: b :: r,hr=>exact absurd rfl (hr a b r)
   exact key q 0 g hq h
  ·exact h
end Go.Proofs.YtldccnbokbieiaaGreat
