/-
 Part 11 of what the claim rests on.
-/
import Derived.Test.YtldccnbokbieiaaGreatN7
import Derived.Test.YtldccnbokbieiaaGreatN9
set_option linter.unusedVariables false
set_option linter.unusedSimpArgs false
set_option maxRecDepth 100000
set_option maxHeartbeats 16000000
namespace Go.Proofs.YtldccnbokbieiaaGreat
open Go.Am Go.Sha Go.Ec
theorem al4 (inner root:List Nat) (hi:inner.length=32) (hib:bytes inner) (hr:root.length≤1000) (hrb:bytes root):∃ (t:List Int) (ok:Bool),Wn 4 t∧((I1 (H9 H6 (inner ++ root))<115792089237316195423570985008687907852837564279074904382605163141518161494337→ok=true∧V t=(I1 (H9 H6 (inner ++ root)):Int))∧(¬ I1 (H9 H6 (inner ++ root))<115792089237316195423570985008687907852837564279074904382605163141518161494337→ok=false∧t=zI))∧d9 Tryz.prog 129 [.agg (cb inner),.d (nb root)] (fun r=>r=.tup [.agg (cI t),.d (.bool ok)]):=by
 obtain ⟨t,ok,ht,vt,f1⟩:=arM (H9 H6 (inner ++ root)) (acS _ _).1 (acS _ _).2;refine ⟨t,ok,ht,vt,?_⟩;refine s8 Tryz.func129 Tryz.ntmps129 (rs:=[.cell 4 160,.tmp 5]) (VC _ _) ?_;have htl:=ht.1;have hz:List.drop 4 (cI zI)=[]:=d7 rfl;have hx1:=TT hi;simp [go_sem] at hx1;have hl:(inner ++ root).length=32+root.length:=by rw [List.length_append,hi]
 simp [go_sem,d0,hi,d5 hi,hx1,n9,nb];refine ⟨aa,?_⟩
 refine B2 [96] (Tp H6 (.str [84,97,112,84,119,101,97,107]) rfl (inner ++ root) (by simp [H6]) (by simp [H6]) aa (fun z hz=>by
   rcases List.mem_append.1 hz with h | h
   ·exact hib z h
   ·exact hrb z h)) rfl (m7 (.deep ae) (m7 (.one (m8 (s9 hl (by simp [lk,rb]) ab))) t4)) ?_
 simp [go_sem,s7];refine a9 f1 (A8 _) ?_;simp [go_sem,htl,a8 htl,hz,d6];exact Q8 rfl
theorem aut (inner root:List Nat) (hi:inner.length=32) (hib:bytes inner) (hr:root.length≤1000) (hrb:bytes root):∃ (k:List Nat) (o:Bool) (e:Int),k.length=32∧bytes k∧E1 e∧aah (I1 inner) (I1 (H9 H6 (inner ++ root))) k o e∧d9 Tryz.prog 91 [.agg (cb inner),.d (nb root)] (fun r=>r=.tup [.agg (cb k),.d (.bool o),.d (.int .i64 e)]):=by
 obtain ⟨x,y,c,ok,hx,hy,vl,f1⟩:=apw inner hi hib;obtain ⟨t,ok2,ht,vt,f2⟩:=al4 inner root hi hib hr hrb;generalize hT:I1 (H9 H6 (inner ++ root))=T at *;have zb:bytes z32:=fun x hx=>by simp [z32] at hx;omega
 have pl:=o6 hx.1 hy.1 c;have pt:=rC hx.1 hy.1 c;have pd:(cP zI zI false).drop 9=[]:=K1 rfl rfl _;have pl0:(cP zI zI false).length=9:=rfl;have bl:=o6 (x:=gX) (y:=gY) rfl rfl false;have bt:=rC (x:=gX) (y:=gY) rfl rfl false;have htl:=ht.1;have hz:List.drop 4 (cI zI)=[]:=d7 rfl;have zd:List.drop 32 (cb z32)=[]:=F5 rfl;have zt:List.take 32 (cb z32)=cb z32:=d5 rfl
 cases ok
 ·refine ⟨z32,false,1,rfl,zb,.inr rfl,.inl ⟨.inl (fun h=>ahx vl h.1),rfl,rfl,rfl⟩,?_⟩;refine s8 Tryz.func91 Tryz.ntmps91 (rs:=[.cell 4 23,.tmp 5,.tmp 6]) (VC _ _) ?_;simp [go_sem,d0,hi,d5 hi];refine a9 f1 (A8 _) ?_;simp [go_sem,d0,hi,d5 hi,pl,pt,pd,pl0];refine a9 f2 (VC _ _) ?_;simp [go_sem,htl,a8 htl,hz,pl,pt,pd,pl0,zd,zt,d0,d6];exact N0 rfl
 ·cases ok2
  ·refine ⟨z32,false,1,rfl,zb,.inr rfl,.inl ⟨.inl (fun h=>absurd (vt.1 h.2).1 (by decide)),rfl,rfl,rfl⟩,?_⟩;refine s8 Tryz.func91 Tryz.ntmps91 (rs:=[.cell 4 23,.tmp 5,.tmp 6]) (VC _ _) ?_;simp [go_sem,d0,hi,d5 hi];refine a9 f1 (A8 _) ?_;simp [go_sem,d0,hi,d5 hi,pl,pt,pd,pl0];refine a9 f2 (VC _ _) ?_;simp [go_sem,htl,a8 htl,hz,pl,pt,pd,pl0,zd,zt,d0,d6];exact N0 rfl
  ·obtain ⟨k1,k2,k3,k4⟩:=ahw vl
   have hlt:T<115792089237316195423570985008687907852837564279074904382605163141518161494337:=by
    by_cases h:T<115792089237316195423570985008687907852837564279074904382605163141518161494337
    ·exact h
    ·exact absurd (vt.2 h).1 (by decide)
   obtain ⟨mx,my,mc,hmx,hmy,hmp,vm,f3⟩:=auq t gX gY false ht aop arB Zg;obtain ⟨qx,qy,qc,hqx,hqy,hqp,vq,f4⟩:=auo x y mx my c mc hx hy hmx hmy k3 hmp;have ml:=o6 hmx.1 hmy.1 mc;have mt:=rC hmx.1 hmy.1 mc;have ql:=o6 hqx.1 hqy.1 qc;have qt:=rC hqx.1 hqy.1 qc;have qb:=Ve hqx.1 hqy.1 qc;have qg:=Vz hqx.1 hqy.1 qc;have vT:(V t).toNat=T:=by rw [(vt.1 hlt).2];exact Int.toNat_natCast _
   have hon:Rz (liftPt (I1 inner)):=by rw [← k4];exact S3 k3
   have hQ:PV qx qy qc=turnQ (I1 inner) T:=by
    unfold turnQ;rw [vq,vm,vT,k4,ak5 fd hon]
   cases qc
   ·have hp:=hqp;rcases hp with ⟨hb,_⟩ | ⟨_,hb1,hb2,_⟩
    ·cases hb
    obtain ⟨kb,kl,kbb,vk,f5⟩:=arO qx qy false hqx hqy hqp;obtain ⟨od,vo,f6⟩:=aus qx qy false hqx hqy hqp
    have vR:aah (I1 inner) T kb (!od) 0:=by
     refine .inr ⟨⟨k1,hlt⟩,rfl,FV qx,FV qy,hQ.symm,by rw [vk];exact ahy hqx hb1,?_⟩;have e:=ahy hqy hb2;have hy0:=(E9 hqy).1
     cases od
     ·have:¬ V qy % 2=0:=fun h=>Bool.noConfusion (vo.2 ⟨rfl,h⟩);exact ⟨fun _=>aa,fun _=>rfl⟩
     ·have:=(vo.1 rfl).2;exact ⟨fun h=>Bool.noConfusion h,fun h=>aa⟩
    refine ⟨kb,!od,0,kl,kbb,.inl rfl,vR,?_⟩;refine s8 Tryz.func91 Tryz.ntmps91 (rs:=[.cell 4 23,.tmp 5,.tmp 6]) (VC _ _) ?_;simp [go_sem,d0,hi,d5 hi];refine a9 f1 (A8 _) ?_;simp [go_sem,d0,hi,d5 hi,pl,pt,pd,pl0];refine a9 f2 (VC _ _) ?_;simp [go_sem,htl,a8 htl,hz,pl,pt,pd,pl0];refine B3 [0,1] [2,3,4,5,6] [0,1] (.alt (ah 2 (.alt (ah 3 (.alt (ag [4,5,6]) (ah 5 (ag [4,6])))) (ah 5 (ah 3 (ag [4,6]))))) (ah 5 (ah 2 (ah 3 (ag [4,6]))))) ⟨[(4,.ptr 32 0 0 1),(11,.ptr 1024 0 0 1)],[(1024,⟨162,9,[cP qx qy false]⟩),(32,⟨23,32,[cb z32]⟩)],5000⟩ (k:=7) ?h3 ?hq
    case h3 =>
     intro G hG
     have hW:∀ (fr:Fr) (hp:Hp),(fv 4 fr=.ptr 32 0 0 1∧fv 11 fr=.ptr 1024 0 0 1∧lk 1024 hp=some ⟨162,9,[cP qx qy false]⟩∧lk 32 hp=some ⟨23,32,[cb z32]⟩)→G fr hp:=by
      rintro fr hp ⟨q0,q1,q2,q3⟩;exact hG _ _ Q6
     simp [go_sem,htl,a8 htl,pl,pt,ql,qt,pd,pl0,hz,bl,bt,y9]
     repeat' first | exact hW _ _ ⟨rfl,rfl,rfl,rfl⟩ | (refine hW _ _ ?_;simp [fv,lk];done) | refine a9 apx ab ?_ | refine a9 f3 (acZ _ _ _ _) ?_ | refine a9 f4 (UR _ _ _ _ _ _) ?_ | apply And.intro | simp [go_sem,htl,a8 htl,pl,pt,ql,qt,pd,pl0,hz,bl,bt,y9]
    case hq =>
     simp [go_sem,qb,qg,ql];refine B3 [0,2] [1,3,4,5,6,7] [0,2] (ah 1 (ai 3 (.alt (ag [4,5,6,7]) (ag [5,4,6,7])))) ⟨[(4,.ptr 32 0 0 1),(5,.d (.bool (!od))),(6,.d (.int .i64 0))],[(32,⟨23,32,[cb kb]⟩)],9000⟩ (k:=8) ?h3 ?hq
     case h3 =>
      intro G hG
      have hW:∀ (fr:Fr) (hp:Hp),(fv 4 fr=.ptr 32 0 0 1∧fv 5 fr=.d (.bool (!od))∧fv 6 fr=.d (.int .i64 0)∧lk 32 hp=some ⟨23,32,[cb kb]⟩)→G fr hp:=by
       rintro fr hp ⟨q0,q1,q2,q3⟩;exact hG _ _ Q6
      simp [go_sem,ql,qt,kl,d0,d5 kl,zd,y9]
      repeat' first | exact hW _ _ ⟨rfl,rfl,rfl,rfl⟩ | (refine hW _ _ ?_;simp [fv,lk];done) | refine a9 f5 (A4 _ _ _) ?_ | refine a9 f6 (A4 _ _ _) ?_ | apply And.intro | simp [go_sem,ql,qt,kl,d0,d5 kl,zd,y9]
     case hq =>
      simp [go_sem,d0,kl,d5 kl,d6];exact N0 rfl
   ·refine ⟨z32,false,1,rfl,zb,.inr rfl,.inl ⟨.inr hQ.symm,rfl,rfl,rfl⟩,?_⟩;refine s8 Tryz.func91 Tryz.ntmps91 (rs:=[.cell 4 23,.tmp 5,.tmp 6]) (VC _ _) ?_;simp [go_sem,d0,hi,d5 hi];refine a9 f1 (A8 _) ?_;simp [go_sem,d0,hi,d5 hi,pl,pt,pd,pl0];refine a9 f2 (VC _ _) ?_;simp [go_sem,htl,a8 htl,hz,pl,pt,pd,pl0];refine B3 [0,1] [2,3,4,5,6] [0,1] (.alt (ah 2 (.alt (ah 3 (.alt (ag [4,5,6]) (ah 5 (ag [4,6])))) (ah 5 (ah 3 (ag [4,6]))))) (ah 5 (ah 2 (ah 3 (ag [4,6]))))) ⟨[(4,.ptr 32 0 0 1),(11,.ptr 1024 0 0 1)],[(1024,⟨162,9,[cP qx qy true]⟩),(32,⟨23,32,[cb z32]⟩)],5000⟩ (k:=7) ?h3 ?hq
    case h3 =>
     intro G hG
     have hW:∀ (fr:Fr) (hp:Hp),(fv 4 fr=.ptr 32 0 0 1∧fv 11 fr=.ptr 1024 0 0 1∧lk 1024 hp=some ⟨162,9,[cP qx qy true]⟩∧lk 32 hp=some ⟨23,32,[cb z32]⟩)→G fr hp:=by
      rintro fr hp ⟨q0,q1,q2,q3⟩;exact hG _ _ Q6
     simp [go_sem,htl,a8 htl,pl,pt,ql,qt,pd,pl0,hz,bl,bt,y9]
     repeat' first | exact hW _ _ ⟨rfl,rfl,rfl,rfl⟩ | (refine hW _ _ ?_;simp [fv,lk];done) | refine a9 apx ab ?_ | refine a9 f3 (acZ _ _ _ _) ?_ | refine a9 f4 (UR _ _ _ _ _ _) ?_ | apply And.intro | simp [go_sem,htl,a8 htl,pl,pt,ql,qt,pd,pl0,hz,bl,bt,y9]
    case hq =>
     simp [go_sem,qb,qg,ql,zd,zt,d0,d6];exact N0 rfl
theorem YM:∀ (ps:List (List Nat)) {h:List Nat},bytes h→bytes (L0 ps h)
 | [],_,hh=>hh
 | p :: r,h,hh=>YM r (h:=t6 h p) (by unfold t6;split <;> exact G8 _)
theorem ahL (inner:List Nat) (ps:List (List Nat)) (x:List Nat) (hi:inner.length=32) (hib:bytes inner) (hp32:∀ p,p ∈ ps→p.length=32∧bytes p) (hxb:bytes x) (hps:ps.length≤1000) (hx:x.length≤100000):∃ (k:List Nat) (o:Bool) (e:Int),k.length=32∧bytes k∧E1 e∧d9 Tryz.prog 55 [r9 inner ps x] (fun r=>r=.tup [.agg (cb k),.d (.bool o),.d (.int .i64 e)])∧(e=0→ps.length≤8∧x.length≤1000)∧Ul inner ps x k o e:=by
 have hR:=aai ps (E6 x) (S7 x);have hRb:bytes (L0 ps (E6 x)):=YM ps (G8 _);have f1:=akF inner ps x hi hp32 hps hx hxb;unfold Ul;generalize L0 ps (E6 x)=R at *;obtain ⟨k,o,e,hk,hkb,he,hT,f2⟩:=aut inner R hi hib aa hRb;have zb:bytes z32:=fun x hx=>by simp [z32] at hx;omega
 have zd:List.drop 32 (cb z32)=[]:=F5 rfl;have zt:List.take 32 (cb z32)=cb z32:=d5 rfl;by_cases h1:8<ps.length
 ·refine ⟨z32,false,1,rfl,zb,.inr rfl,?_,fun h=>aa,.inl ⟨aa,rfl,rfl,rfl⟩⟩;refine s8 Tryz.func55 Tryz.ntmps55 (rs:=[.cell 2 23,.tmp 3,.tmp 4]) (x5 _ _ _) ?_;have i1:(8:Int)<(ps.length:Int):=aa;simp [go_sem,r9,n7,H5 hi,D4 hi,r6,nb,i1,zd,zt,d0,d6];exact N0 rfl
 by_cases h2:1000<x.length
 ·refine ⟨z32,false,1,rfl,zb,.inr rfl,?_,fun h=>aa,.inl ⟨aa,rfl,rfl,rfl⟩⟩;refine s8 Tryz.func55 Tryz.ntmps55 (rs:=[.cell 2 23,.tmp 3,.tmp 4]) (x5 _ _ _) ?_;have i1:¬ (8:Int)<(ps.length:Int):=aa;have i2:(1000:Int)<(x.length:Int):=aa;simp [go_sem,r9,n7,H5 hi,D4 hi,r6,nb,i1,i2,zd,zt,d0,d6];exact N0 rfl
 refine ⟨k,o,e,hk,hkb,he,?_,fun _=>aa,.inr ⟨aa,hT⟩⟩;refine s8 Tryz.func55 Tryz.ntmps55 (rs:=[.cell 2 23,.tmp 3,.tmp 4]) (x5 _ _ _) ?_;have i1:¬ (8:Int)<(ps.length:Int):=aa;have i2:¬ (1000:Int)<(x.length:Int):=aa;simp [go_sem,r9,n7,H5 hi,D4 hi,r6,nb,i1,i2,hi,O9 hi];refine a9 (by simpa only [n7,r6,nb] using f1) (by simpa only [r9,n7,r6,nb] using x5 inner ps x) ?_;simp [go_sem,d0,hR,d5 hR,zd];refine B3 [0,1,2] [3,7,8,9] [0,1,2,4,5,6] (.step 3 [4,5,6] true (ag [7,8,9])) ⟨[(2,.ptr 32 0 0 1),(3,.d (.bool o)),(4,.d (.int .i64 e))],[(32,⟨23,32,[cb k]⟩)],9000⟩ (k:=10) ?h3 ?hq
 case h3 =>
  intro G hG
  have hW:∀ (fr:Fr) (hp:Hp),(fv 2 fr=.ptr 32 0 0 1∧fv 3 fr=.d (.bool o)∧fv 4 fr=.d (.int .i64 e)∧lk 32 hp=some ⟨23,32,[cb k]⟩)→G fr hp:=by
   rintro fr hp ⟨q0,q1,q2,q3⟩;exact hG _ _ Q6
  simp [go_sem,n7,H5 hi,D4 hi,d0,hi,hR,hk,d5 hi,d5 hR,d5 hk,zd,Uk hi,y9]
  repeat' first | exact hW _ _ ⟨rfl,rfl,rfl,rfl⟩ | (refine hW _ _ ?_;simp [fv,lk];done) | refine Xj f2 rfl (m7 (.deep (RX _)) (m7 (.one (m8 (Tm rfl trivial hR))) t4)) (ahz _ _ _) ?_ | apply And.intro | simp [go_sem,n7,H5 hi,D4 hi,d0,hi,hR,hk,d5 hi,d5 hR,d5 hk,zd,Uk hi,y9]
 case hq =>
  simp [go_sem,d0,hk,d5 hk,d6];exact N0 rfl
theorem agd {inner x k:List Nat} {ps:List (List Nat)} {o:Bool} (hi:inner.length=32) (hk:k.length=32) (f:d9 Tryz.prog 55 [r9 inner ps x] (fun r=>r=.tup [.agg (cb k),.d (.bool o),.d (.int .i64 1)])) :
  d9 Tryz.prog 19 [r9 inner ps x] (fun r=>r=.tup [.d (nb []),.d (.int .i64 1)]):=by
 refine s8 Tryz.func19 Tryz.ntmps19 (rs:=[.tmp 2,.tmp 3]) (x5 _ _ _) ?_;have zd:List.drop 32 (cb z32)=[]:=F5 rfl;simp [go_sem,r9,n7,H5 hi,D4 hi,r6,nb,hi,O9 hi];refine a9 f (x5 _ _ _) ?_;simp [go_sem,d0,hk,d5 hk,zd,d6];exact We rfl
theorem age {inner x k:List Nat} {ps:List (List Nat)} {o:Bool} (hi:inner.length=32) (hk:k.length=32) (f:d9 Tryz.prog 55 [r9 inner ps x] (fun r=>r=.tup [.agg (cb k),.d (.bool o),.d (.int .i64 0)])) :
  d9 Tryz.prog 19 [r9 inner ps x] (fun r=>r=.tup [.d (nb (81 :: 32 :: k)),.d (.int .i64 0)]):=by
 refine s8 Tryz.func19 Tryz.ntmps19 (rs:=[.tmp 2,.tmp 3]) (x5 _ _ _) ?_;have zd:List.drop 32 (cb z32)=[]:=F5 rfl;simp [go_sem,r9,n7,H5 hi,D4 hi,r6,nb,hi,O9 hi];refine a9 f (x5 _ _ _) ?_;have hx1:=TT hk;simp [go_sem] at hx1;simp [go_sem,d0,hk,d5 hk,zd,hx1,n9,d6];have e:rb (81 :: 32 :: k)=[AV.d (.int .u8 81)] :: [AV.d (.int .u8 32)] :: rb k:=by simp [rb]
 have h34:(81 :: 32 :: k).length=34:=by simp [hk]
 exact Ta (L:=81 :: 32 :: k) h34 (by rw [e];rfl) (by simp [nb])
theorem aeC {inner x k:List Nat} {ps:List (List Nat)} {o:Bool} (hi:inner.length=32) (hk:k.length=32) (f:d9 Tryz.prog 55 [r9 inner ps x] (fun r=>r=.tup [.agg (cb k),.d (.bool o),.d (.int .i64 1)])) :
  d9 Tryz.prog 21 [r9 inner ps x] (fun r=>r=.tup [.d (nb []),.d (.int .i64 1)]):=by
 refine s8 Tryz.func21 Tryz.ntmps21 (rs:=[.tmp 2,.tmp 3]) (x5 _ _ _) ?_;have zd:List.drop 32 (cb z32)=[]:=F5 rfl;simp [go_sem,r9,n7,H5 hi,D4 hi,r6,nb,hi,O9 hi];refine a9 f (x5 _ _ _) ?_;simp [go_sem,d0,hk,d5 hk,zd,d6];exact We rfl
theorem ahM:∀ {a b:List Nat},a.length=b.length→bytes a→bytes b→I1 a=I1 b→a=b
 | [],[],_,_,_,_=>rfl
 | [],y :: s,h,_,_,_=>by simp at h
 | x :: r,[],h,_,_,_=>by simp at h
 | x :: r,y :: s,h,ha,hb,he=>by
  have hl:r.length=s.length:=by simpa using h
  rw [aaf,aaf,hl] at he
  have l1:I1 r<256 ^ s.length:=by
   have:=Zh r (fun z hz=>ha z (List.mem_cons_of_mem _ hz)) 0;rw [Nat.zero_add,Nat.one_mul,hl] at this;exact this
  have l2:I1 s<256 ^ s.length:=by
   have:=Zh s (fun z hz=>hb z (List.mem_cons_of_mem _ hz)) 0;rw [Nat.zero_add,Nat.one_mul] at this;exact this
  generalize 256 ^ s.length=P at *
  have hxy:x=y:=by
   have h1:=congrArg (· / P) he
   have h2:∀ u v:Nat,v<P→(u*P+v) / P=u:=fun u v hv=>by
    rw [Nat.mul_comm,Nat.mul_add_div aa,Nat.div_eq_of_lt hv,Nat.add_zero]
   simp only [h2 _ _ l1,h2 _ _ l2] at h1;exact h1
  subst hxy;rw [ahM hl (fun z hz=>ha z (List.mem_cons_of_mem _ hz)) (fun z hz=>hb z (List.mem_cons_of_mem _ hz)) aa]
theorem agf {n t:Nat} {k k':List Nat} {o o':Bool} {e e':Int} (h1:k.length=32) (h2:bytes k) (h1':k'.length=32) (h2':bytes k') (h:aah n t k o e) (h':aah n t k' o' e'):k=k'∧o=o'∧e=e':=by
 rcases h with ⟨a,rfl,rfl,rfl⟩ | ⟨a,rfl,x,y,hq,hk,ho⟩
 ·rcases h' with ⟨_,rfl,rfl,rfl⟩ | ⟨b,_,x',y',hq',_,_⟩
  ·exact ⟨rfl,rfl,rfl⟩
  ·rcases a with a | a
   ·exact absurd b a
   ·rw [a] at hq';cases hq'
 ·rcases h' with ⟨b,_,_,_⟩ | ⟨_,rfl,x',y',hq',hk',ho'⟩
  ·rcases b with b | b
   ·exact absurd a b
   ·rw [b] at hq;cases hq
  ·have e:=Option.some.inj (hq.symm.trans hq');injection e with ex ey;subst ex ey;refine ⟨ahM (by rw [h1,h1']) h2 h2' (by rw [hk,hk']),?_,rfl⟩
   cases o <;> cases o'
   ·rfl
   ·exact absurd (ho.2 (ho'.1 rfl)) (by decide)
   ·exact absurd (ho'.2 (ho.1 rfl)) (by decide)
   ·rfl
theorem Wx {inner:List Nat} {ps:List (List Nat)} {x k k':List Nat} {o o':Bool} {e e':Int} (h1:k.length=32) (h2:bytes k) (h1':k'.length=32) (h2':bytes k') (h:Ul inner ps x k o e) (h':Ul inner ps x k' o' e'):k=k'∧o=o'∧e=e':=by
 rcases h with ⟨a,rfl,rfl,rfl⟩ | ⟨a,h⟩
 ·rcases h' with ⟨_,rfl,rfl,rfl⟩ | ⟨b,_⟩
  ·exact ⟨rfl,rfl,rfl⟩
  ·exact absurd b a
 ·rcases h' with ⟨b,_⟩ | ⟨_,h'⟩
  ·exact absurd a b
  ·exact agf h1 h2 h1' h2' h h'
theorem UT (n:Nat) (inner:List Nat) (a b:AV) (ha:a.low1 n) (hb:b.low1 n):∀ v,v ∈ n7 inner a b→v.low1 n:=by
 intro v hv;unfold n7 at hv;rcases List.mem_append.1 hv with h | h
 ·exact p9 _ _ v h
 ·simp at h;rcases h with rfl | rfl
  ·exact ha
  ·exact hb
theorem ac0:∀ l:List (List Nat),(∀ p,p ∈ l→p.length=32)→l.flatten.length=32*l.length
 | [],_=>rfl
 | a :: r,h=>by rw [List.flatten_cons,List.length_append,ac0 r (fun p hp=>h p (List.mem_cons_of_mem _ hp)),h a (List.mem_cons_self),List.length_cons];omega
theorem RB {inner:List Nat} (hi:inner.length=32) (a b:AV):(n7 inner a b).length=34:=by simp [n7,d0,hi]
theorem agh {inner:List Nat} (hi:inner.length=32) (a b:AV):List.take 34 (n7 inner a b)=n7 inner a b:=List.take_of_length_le (by rw [RB hi];exact Nat.le_refl _)
theorem XG {inner:List Nat} (hi:inner.length=32) (a b:AV):(n7 inner a b)[32]?=some a:=D4 hi a b
theorem XH {inner:List Nat} (hi:inner.length=32) (a b:AV):(List.drop 32 (n7 inner a b)).head?=some a:=by
 rw [List.head?_drop];exact D4 hi a b
theorem aeD {inner x k:List Nat} {ps:List (List Nat)} {o:Bool} (hi:inner.length=32) (hp32:∀ p,p ∈ ps→p.length=32) (hps:ps.length≤1000) (hk:k.length=32) (f:d9 Tryz.prog 55 [r9 inner ps x] (fun r=>r=.tup [.agg (cb k),.d (.bool o),.d (.int .i64 0)])) :
  d9 Tryz.prog 21 [r9 inner ps x] (fun r=>r=.tup [.d (nb (RI o inner ps)),.d (.int .i64 0)]):=by
 refine s8 Tryz.func21 Tryz.ntmps21 (rs:=[.tmp 2,.tmp 3]) (x5 _ _ _) ?_;have zd:List.drop 32 (cb z32)=[]:=F5 rfl;have hw:IntKind.u8.wrap 193=193:=by decide
 simp [go_sem,r9,RB hi,agh hi];refine a9 f (x5 _ _ _) ?_;have hx1:=abH hi [AV.d (r6 ps),AV.d (nb x)];have hcl:(n7 inner (AV.d (r6 ps)) (AV.d (nb x)))=cb inner ++ [AV.d (r6 ps),AV.d (nb x)]:=rfl;rw [← hcl] at hx1;simp [go_sem] at hx1
 cases o
 ·simp [go_sem,d0,hk,d5 hk,zd,hx1,n9,hi,hw,RB hi];have w33:(RI false inner (ps.take 0)).length=33:=by simp [RI,hi]
  have r0:rb (RI false inner (ps.take 0))=[AV.d (.int .u8 192)] :: rb inner:=by simp [RI,rb]
  refine j6 (fun k:Nat=>⟨[(1,.ptr 0 0 0 1),(7,.own 480 0 (RI false inner (ps.take k)).length (RI false inner (ps.take k)).length),(8,.d (.int .i64 (k:Int)))],[(480,⟨5,1,rb (RI false inner (ps.take k))⟩),(0,⟨27,34,[n7 inner (.d (r6 ps)) (.d (nb x))]⟩)],9000⟩)
   (fun k=>k≤ps.length) (fun k=>ps.length - k) 0 aa (by
    rw [w33,r0];simp [m6,c6,fv,lk,AV.low,AV.low1]
    first | (and_intros <;> first | rfl | exact r5 _ _ | exact UT _ _ (.d (r6 ps)) (.d (nb x)) trivial trivial) | skip) ?_
  intro k hk;have w:=m9 (k:=k) aa;by_cases hlt:k<ps.length
  ·have hki:(k:Int)<(ps.length:Int):=aa;have hp:=List.getElem?_eq_getElem hlt;have htk:ps.take (k+1)=ps.take k ++ [ps[k]]:=List.take_succ_eq_append_getElem hlt;generalize ps[k]=q at hp htk;have hpl:q.length=32:=hp32 q (List.mem_of_getElem? hp);have hx2:=TT hpl
   have cdq:List.take 32 (List.map ((fun r=>List.map AV.d r) ∘ fun c=>[c]) (cd q))=rb q:=by
    rw [List.take_of_length_le (by simp [C8,hpl])];simp [cd,rb]
   simp [go_sem] at hx2;have hc:RI false inner (ps.take (k+1))=RI false inner (ps.take k) ++ q:=by rw [htk];simp [RI]
   have hcl:(RI false inner (ps.take k)).length≤33+32*k:=by
    have:=ac0 (ps.take k) (fun p hp=>hp32 p (List.mem_of_mem_take hp));rw [List.length_take] at this;unfold RI;rw [List.length_cons,List.length_append,hi];omega
   generalize RI false inner (ps.take k)=L at *;simp [go_sem,XG hi,XH hi,RB hi,r6,hki,hp,C8,hpl,K4,d5 hpl,d0,hx2,n9]
   first | refine ⟨aa,?_⟩ | skip
   refine c8 (k+1) aa aa ?_;rw [hc];have ra:rb (L ++ q)=rb L ++ rb q:=by simp [rb]
   simp [m6,c6,fv,lk,AV.low,AV.low1,w,hpl,ra];and_intros <;> first | rfl | exact UT _ _ (.d (r6 ps)) (.d (nb x)) trivial trivial | (intro r hr;exact hr.elim (r5 _ _ r) (r5 _ _ r)) | (rw [List.take_of_length_le (by simp [C8,hpl])];simp [cd,rb];done) | exact cdq
  ·have hki:¬ (k:Int)<(ps.length:Int):=aa;have hkn:k=ps.length:=aa;subst hkn;simp only [List.take_length];simp [go_sem,XG hi,XH hi,RB hi,r6,hki,d6];exact Ta (L:=RI false inner ps) rfl rfl (by simp [nb])
 ·simp [go_sem,d0,hk,d5 hk,zd,hx1,n9,hi,hw,RB hi];have w33:(RI true inner (ps.take 0)).length=33:=by simp [RI,hi]
  have r0:rb (RI true inner (ps.take 0))=[AV.d (.int .u8 193)] :: rb inner:=by simp [RI,rb]
  refine j6 (fun k:Nat=>⟨[(1,.ptr 0 0 0 1),(7,.own 480 0 (RI true inner (ps.take k)).length (RI true inner (ps.take k)).length),(8,.d (.int .i64 (k:Int)))],[(480,⟨5,1,rb (RI true inner (ps.take k))⟩),(0,⟨27,34,[n7 inner (.d (r6 ps)) (.d (nb x))]⟩)],9000⟩)
   (fun k=>k≤ps.length) (fun k=>ps.length - k) 0 aa (by
    rw [w33,r0];simp [m6,c6,fv,lk,AV.low,AV.low1]
    first | (and_intros <;> first | rfl | exact r5 _ _ | exact UT _ _ (.d (r6 ps)) (.d (nb x)) trivial trivial) | skip) ?_
  intro k hk;have w:=m9 (k:=k) aa;by_cases hlt:k<ps.length
  ·have hki:(k:Int)<(ps.length:Int):=aa;have hp:=List.getElem?_eq_getElem hlt;have htk:ps.take (k+1)=ps.take k ++ [ps[k]]:=List.take_succ_eq_append_getElem hlt;generalize ps[k]=q at hp htk;have hpl:q.length=32:=hp32 q (List.mem_of_getElem? hp);have hx2:=TT hpl
   have cdq:List.take 32 (List.map ((fun r=>List.map AV.d r) ∘ fun c=>[c]) (cd q))=rb q:=by
    rw [List.take_of_length_le (by simp [C8,hpl])];simp [cd,rb]
   simp [go_sem] at hx2;have hc:RI true inner (ps.take (k+1))=RI true inner (ps.take k) ++ q:=by rw [htk];simp [RI]
   have hcl:(RI true inner (ps.take k)).length≤33+32*k:=by
    have:=ac0 (ps.take k) (fun p hp=>hp32 p (List.mem_of_mem_take hp));rw [List.length_take] at this;unfold RI;rw [List.length_cons,List.length_append,hi];omega
   generalize RI true inner (ps.take k)=L at *;simp [go_sem,XG hi,XH hi,RB hi,r6,hki,hp,C8,hpl,K4,d5 hpl,d0,hx2,n9]
   first | refine ⟨aa,?_⟩ | skip
   refine c8 (k+1) aa aa ?_;rw [hc];have ra:rb (L ++ q)=rb L ++ rb q:=by simp [rb]
   simp [m6,c6,fv,lk,AV.low,AV.low1,w,hpl,ra];and_intros <;> first | rfl | exact UT _ _ (.d (r6 ps)) (.d (nb x)) trivial trivial | (intro r hr;exact hr.elim (r5 _ _ r) (r5 _ _ r)) | (rw [List.take_of_length_le (by simp [C8,hpl])];simp [cd,rb];done) | exact cdq
  ·have hki:¬ (k:Int)<(ps.length:Int):=aa;have hkn:k=ps.length:=aa;subst hkn;simp only [List.take_length];simp [go_sem,XG hi,XH hi,RB hi,r6,hki,d6];exact Ta (L:=RI true inner ps) rfl rfl (by simp [nb])
theorem aan:∀ l:List (List Nat),(∀ p,p ∈ l→bytes p)→bytes l.flatten
 | [],_=>fun x hx=>by simp at hx
 | a :: r,h=>by
  intro x hx;rw [List.flatten_cons] at hx;rcases List.mem_append.1 hx with q | q
  ·exact h a (List.mem_cons_self) x q
  ·exact aan r (fun p hp=>h p (List.mem_cons_of_mem _ hp)) x q
theorem aiO {o:Bool} {inner:List Nat} {ps:List (List Nat)} (hi:bytes inner) (hp:∀ p,p ∈ ps→bytes p):bytes (RI o inner ps):=by
 intro x hx;unfold RI at hx;rcases List.mem_cons.1 hx with rfl | hx
 ·split <;> omega
 ·rcases List.mem_append.1 hx with q | q
  ·exact hi x q
  ·exact aan ps hp x q
end Go.Proofs.YtldccnbokbieiaaGreat
