/-
 Part 11 of what the claim rests on.
-/
import Derived.Test.YtldccnbokbieiaaGreatO7
import Derived.Test.YtldccnbokbieiaaGreatO9
set_option linter.unusedVariables false
set_option linter.unusedSimpArgs false
set_option maxRecDepth 100000
set_option maxHeartbeats 16000000
namespace Go.Proofs.YtldccnbokbieiaaGreat
open Go.Am Go.Sha Go.Ec
theorem am7 (inner root:List Nat) (hi:inner.length=32) (hib:bytes inner) (hr:root.length≤1000) (hrb:bytes root):∃ (t:List Int) (ok:Bool),Wn 4 t∧((J2 (G9 I8 (inner ++ root))<115792089237316195423570985008687907852837564279074904382605163141518161494337→ok=true∧V t=(J2 (G9 I8 (inner ++ root)):Int))∧(¬ J2 (G9 I8 (inner ++ root))<115792089237316195423570985008687907852837564279074904382605163141518161494337→ok=false∧t=zI))∧m6 Tryz.prog 129 [.agg (cb inner),.d (nb root)] (fun r=>r=.tup [.agg (cI t),.d (.bool ok)]):=by
 obtain ⟨t,ok,ht,vt,f1⟩:=as7 (G9 I8 (inner ++ root)) (ady _ _).1 (ady _ _).2;refine ⟨t,ok,ht,vt,?_⟩;refine t6 Tryz.func129 Tryz.ntmps129 (rs:=[.cell 4 160,.tmp 5]) (V5 _ _) ?_;have htl:=ht.1;have hz:List.drop 4 (cI zI)=[]:=i9 rfl;have hx1:=adz hi;simp [go_sem] at hx1;have hl:(inner ++ root).length=32+root.length:=by rw [aj,hi]
 simp [go_sem,d0,hi,d6 hi,hx1,o6,nb];refine ⟨aa,?_⟩
 refine u7 [96] (SD I8 (.str [84,97,112,84,119,101,97,107]) rfl (inner ++ root) (by simp [I8]) (by simp [I8]) aa (fun z hz=>by
   rcases au.1 hz with h | h
   ·exact hib z h
   ·exact hrb z h)) rfl (c7 (.deep ae) (c7 (.one (d9 (n9 hl (by simp [lk,rb]) ab))) n7)) ?_
 simp [go_sem,p9];refine a9 f1 (B8 _) ?_;simp [go_sem,htl,a8 htl,hz,d7];exact RB rfl
theorem avW (inner root:List Nat) (hi:inner.length=32) (hib:bytes inner) (hr:root.length≤1000) (hrb:bytes root):∃ (k:List Nat) (o:Bool) (e:Int),k.length=32∧bytes k∧E1 e∧aaP (J2 inner) (J2 (G9 I8 (inner ++ root))) k o e∧m6 Tryz.prog 91 [.agg (cb inner),.d (nb root)] (fun r=>r=.tup [.agg (cb k),.d (.bool o),.d (.int .i64 e)]):=by
 obtain ⟨x,y,c,ok,hx,hy,vl,f1⟩:=aqL inner hi hib;obtain ⟨t,ok2,ht,vt,f2⟩:=am7 inner root hi hib hr hrb;generalize hT:J2 (G9 I8 (inner ++ root))=T at *;have zb:bytes z32:=fun x hx=>by simp [z32] at hx;omega
 have pl:=rP hx.1 hy.1 c;have pt:=t4 hx.1 hy.1 c;have pd:(cP zI zI false).drop 9=[]:=L5 rfl rfl _;have pl0:(cP zI zI false).length=9:=rfl;have bl:=rP (x:=gX) (y:=gY) rfl rfl false;have bt:=t4 (x:=gX) (y:=gY) rfl rfl false;have htl:=ht.1;have hz:List.drop 4 (cI zI)=[]:=i9 rfl;have zd:List.drop 32 (cb z32)=[]:=K5 rfl;have zt:List.take 32 (cb z32)=cb z32:=d6 rfl
 cases ok
 ·refine ⟨z32,false,1,rfl,zb,.inr rfl,.inl ⟨.inl (fun h=>aig vl h.1),rfl,rfl,rfl⟩,?_⟩;refine t6 Tryz.func91 Tryz.ntmps91 (rs:=[.cell 4 23,.tmp 5,.tmp 6]) (V5 _ _) ?_;simp [go_sem,d0,hi,d6 hi];refine a9 f1 (B8 _) ?_;simp [go_sem,d0,hi,d6 hi,pl,pt,pd,pl0];refine a9 f2 (V5 _ _) ?_;simp [go_sem,htl,a8 htl,hz,pl,pt,pd,pl0,zd,zt,d0,d7];exact P1 rfl
 ·cases ok2
  ·refine ⟨z32,false,1,rfl,zb,.inr rfl,.inl ⟨.inl (fun h=>absurd (vt.1 h.2).1 (by decide)),rfl,rfl,rfl⟩,?_⟩;refine t6 Tryz.func91 Tryz.ntmps91 (rs:=[.cell 4 23,.tmp 5,.tmp 6]) (V5 _ _) ?_;simp [go_sem,d0,hi,d6 hi];refine a9 f1 (B8 _) ?_;simp [go_sem,d0,hi,d6 hi,pl,pt,pd,pl0];refine a9 f2 (V5 _ _) ?_;simp [go_sem,htl,a8 htl,hz,pl,pt,pd,pl0,zd,zt,d0,d7];exact P1 rfl
  ·obtain ⟨k1,k2,k3,k4⟩:=aif vl
   have hlt:T<115792089237316195423570985008687907852837564279074904382605163141518161494337:=by
    by_cases h:T<115792089237316195423570985008687907852837564279074904382605163141518161494337
    ·exact h
    ·exact absurd (vt.2 h).1 (by decide)
   obtain ⟨mx,my,mc,hmx,hmy,hmp,vm,f3⟩:=avT t gX gY false ht apu asV ZO;obtain ⟨qx,qy,qc,hqx,hqy,hqp,vq,f4⟩:=avR x y mx my c mc hx hy hmx hmy k3 hmp;have ml:=rP hmx.1 hmy.1 mc;have mt:=t4 hmx.1 hmy.1 mc;have ql:=rP hqx.1 hqy.1 qc;have qt:=t4 hqx.1 hqy.1 qc;have qb:=VG hqx.1 hqy.1 qc;have qg:=V1 hqx.1 hqy.1 qc;have vT:(V t).toNat=T:=by rw [(vt.1 hlt).2];exact Int.toNat_natCast _
   have hon:RZ (liftPt (J2 inner)):=by rw [← k4];exact TA k3
   have hQ:PV qx qy qc=turnQ (J2 inner) T:=by
    unfold turnQ;rw [vq,vm,vT,k4,amd fd hon]
   cases qc
   ·have hp:=hqp;rcases hp with ⟨hb,_⟩ | ⟨_,hb1,hb2,_⟩
    ·cases hb
    obtain ⟨kb,kl,kbb,vk,f5⟩:=as9 qx qy false hqx hqy hqp;obtain ⟨od,vo,f6⟩:=avV qx qy false hqx hqy hqp
    have vR:aaP (J2 inner) T kb (!od) 0:=by
     refine .inr ⟨⟨k1,hlt⟩,rfl,FV qx,FV qy,hQ.symm,by rw [vk];exact aih hqx hb1,?_⟩;have e:=aih hqy hb2;have hy0:=(G5 hqy).1
     cases od
     ·have:¬ V qy % 2=0:=fun h=>Bool.noConfusion (vo.2 ⟨rfl,h⟩);exact ⟨fun _=>aa,fun _=>rfl⟩
     ·have:=(vo.1 rfl).2;exact ⟨fun h=>Bool.noConfusion h,fun h=>aa⟩
    refine ⟨kb,!od,0,kl,kbb,.inl rfl,vR,?_⟩;refine t6 Tryz.func91 Tryz.ntmps91 (rs:=[.cell 4 23,.tmp 5,.tmp 6]) (V5 _ _) ?_;simp [go_sem,d0,hi,d6 hi];refine a9 f1 (B8 _) ?_;simp [go_sem,d0,hi,d6 hi,pl,pt,pd,pl0];refine a9 f2 (V5 _ _) ?_;simp [go_sem,htl,a8 htl,hz,pl,pt,pd,pl0];refine C4 [0,1] [2,3,4,5,6] [0,1] (.alt (ah 2 (.alt (ah 3 (.alt (ag [4,5,6]) (ah 5 (ag [4,6])))) (ah 5 (ah 3 (ag [4,6]))))) (ah 5 (ah 2 (ah 3 (ag [4,6]))))) ⟨[(4,.ptr 32 0 0 1),(11,.ptr 1024 0 0 1)],[(1024,⟨162,9,[cP qx qy false]⟩),(32,⟨23,32,[cb z32]⟩)],5000⟩ (k:=7) ?h3 ?hq
    case h3 =>
     intro G hG
     have hW:∀ (fr:Fr) (hp:Hp),(fv 4 fr=.ptr 32 0 0 1∧fv 11 fr=.ptr 1024 0 0 1∧lk 1024 hp=some ⟨162,9,[cP qx qy false]⟩∧lk 32 hp=some ⟨23,32,[cb z32]⟩)→G fr hp:=by
      rintro fr hp ⟨q0,q1,q2,q3⟩;exact hG _ _ Rz
     simp [go_sem,htl,a8 htl,pl,pt,ql,qt,pd,pl0,hz,bl,bt,A6]
     repeat' first | exact hW _ _ ⟨rfl,rfl,rfl,rfl⟩ | (refine hW _ _ ?_;simp [fv,lk];done) | refine a9 aqM ab ?_ | refine a9 f3 (adH _ _ _ _) ?_ | refine a9 f4 (Vo _ _ _ _ _ _) ?_ | apply And.intro | simp [go_sem,htl,a8 htl,pl,pt,ql,qt,pd,pl0,hz,bl,bt,A6]
    case hq =>
     simp [go_sem,qb,qg,ql];refine C4 [0,2] [1,3,4,5,6,7] [0,2] (ah 1 (ai 3 (.alt (ag [4,5,6,7]) (ag [5,4,6,7])))) ⟨[(4,.ptr 32 0 0 1),(5,.d (.bool (!od))),(6,.d (.int .i64 0))],[(32,⟨23,32,[cb kb]⟩)],9000⟩ (k:=8) ?h3 ?hq
     case h3 =>
      intro G hG
      have hW:∀ (fr:Fr) (hp:Hp),(fv 4 fr=.ptr 32 0 0 1∧fv 5 fr=.d (.bool (!od))∧fv 6 fr=.d (.int .i64 0)∧lk 32 hp=some ⟨23,32,[cb kb]⟩)→G fr hp:=by
       rintro fr hp ⟨q0,q1,q2,q3⟩;exact hG _ _ Rz
      simp [go_sem,ql,qt,kl,d0,d6 kl,zd,A6]
      repeat' first | exact hW _ _ ⟨rfl,rfl,rfl,rfl⟩ | (refine hW _ _ ?_;simp [fv,lk];done) | refine a9 f5 (B4 _ _ _) ?_ | refine a9 f6 (B4 _ _ _) ?_ | apply And.intro | simp [go_sem,ql,qt,kl,d0,d6 kl,zd,A6]
     case hq =>
      simp [go_sem,d0,kl,d6 kl,d7];exact P1 rfl
   ·refine ⟨z32,false,1,rfl,zb,.inr rfl,.inl ⟨.inr hQ.symm,rfl,rfl,rfl⟩,?_⟩;refine t6 Tryz.func91 Tryz.ntmps91 (rs:=[.cell 4 23,.tmp 5,.tmp 6]) (V5 _ _) ?_;simp [go_sem,d0,hi,d6 hi];refine a9 f1 (B8 _) ?_;simp [go_sem,d0,hi,d6 hi,pl,pt,pd,pl0];refine a9 f2 (V5 _ _) ?_;simp [go_sem,htl,a8 htl,hz,pl,pt,pd,pl0];refine C4 [0,1] [2,3,4,5,6] [0,1] (.alt (ah 2 (.alt (ah 3 (.alt (ag [4,5,6]) (ah 5 (ag [4,6])))) (ah 5 (ah 3 (ag [4,6]))))) (ah 5 (ah 2 (ah 3 (ag [4,6]))))) ⟨[(4,.ptr 32 0 0 1),(11,.ptr 1024 0 0 1)],[(1024,⟨162,9,[cP qx qy true]⟩),(32,⟨23,32,[cb z32]⟩)],5000⟩ (k:=7) ?h3 ?hq
    case h3 =>
     intro G hG
     have hW:∀ (fr:Fr) (hp:Hp),(fv 4 fr=.ptr 32 0 0 1∧fv 11 fr=.ptr 1024 0 0 1∧lk 1024 hp=some ⟨162,9,[cP qx qy true]⟩∧lk 32 hp=some ⟨23,32,[cb z32]⟩)→G fr hp:=by
      rintro fr hp ⟨q0,q1,q2,q3⟩;exact hG _ _ Rz
     simp [go_sem,htl,a8 htl,pl,pt,ql,qt,pd,pl0,hz,bl,bt,A6]
     repeat' first | exact hW _ _ ⟨rfl,rfl,rfl,rfl⟩ | (refine hW _ _ ?_;simp [fv,lk];done) | refine a9 aqM ab ?_ | refine a9 f3 (adH _ _ _ _) ?_ | refine a9 f4 (Vo _ _ _ _ _ _) ?_ | apply And.intro | simp [go_sem,htl,a8 htl,pl,pt,ql,qt,pd,pl0,hz,bl,bt,A6]
    case hq =>
     simp [go_sem,qb,qg,ql,zd,zt,d0,d7];exact P1 rfl
theorem Zm:∀ (ps:List (List Nat)) {h:List Nat},bytes h→bytes (M5 ps h)
 | [],_,hh=>hh
 | p :: r,h,hh=>Zm r (h:=w9 h p) (by unfold w9;split <;> exact D3 _)
theorem apN (inner:List Nat) (ps:List (List Nat)) (x:List Nat) (hi:inner.length=32) (hib:bytes inner) (hp32:∀ p,p ∈ ps→p.length=32∧bytes p) (hxb:bytes x) (hps:ps.length≤1000) (hx:x.length≤100000):∃ (k:List Nat) (o:Bool) (e:Int),k.length=32∧bytes k∧E1 e∧m6 Tryz.prog 55 [M7 inner ps x] (fun r=>r=.tup [.agg (cb k),.d (.bool o),.d (.int .i64 e)])∧(e=0→ps.length≤8∧x.length≤1000)∧UM inner ps x k o e:=by
 have hR:=aaQ ps (E9 x) (RU x);have hRb:bytes (M5 ps (E9 x)):=Zm ps (D3 _);have f1:=alJ inner ps x hi hp32 hps hx hxb;unfold UM;generalize M5 ps (E9 x)=R at *;obtain ⟨k,o,e,hk,hkb,he,hT,f2⟩:=avW inner R hi hib aa hRb;have zb:bytes z32:=fun x hx=>by simp [z32] at hx;omega
 have zd:List.drop 32 (cb z32)=[]:=K5 rfl;have zt:List.take 32 (cb z32)=cb z32:=d6 rfl;by_cases h1:8<ps.length
 ·refine ⟨z32,false,1,rfl,zb,.inr rfl,?_,fun h=>aa,.inl ⟨aa,rfl,rfl,rfl⟩⟩;refine t6 Tryz.func55 Tryz.ntmps55 (rs:=[.cell 2 23,.tmp 3,.tmp 4]) (E4 _ _ _) ?_;have i1:(8:Int)<(ps.length:Int):=aa;simp [go_sem,M7,s5,P9 hi,K0 hi,J1,nb,i1,zd,zt,d0,d7];exact P1 rfl
 by_cases h2:1000<x.length
 ·refine ⟨z32,false,1,rfl,zb,.inr rfl,?_,fun h=>aa,.inl ⟨aa,rfl,rfl,rfl⟩⟩;refine t6 Tryz.func55 Tryz.ntmps55 (rs:=[.cell 2 23,.tmp 3,.tmp 4]) (E4 _ _ _) ?_;have i1:¬ (8:Int)<(ps.length:Int):=aa;have i2:(1000:Int)<(x.length:Int):=aa;simp [go_sem,M7,s5,P9 hi,K0 hi,J1,nb,i1,i2,zd,zt,d0,d7];exact P1 rfl
 refine ⟨k,o,e,hk,hkb,he,?_,fun _=>aa,.inr ⟨aa,hT⟩⟩;refine t6 Tryz.func55 Tryz.ntmps55 (rs:=[.cell 2 23,.tmp 3,.tmp 4]) (E4 _ _ _) ?_;have i1:¬ (8:Int)<(ps.length:Int):=aa;have i2:¬ (1000:Int)<(x.length:Int):=aa;simp [go_sem,M7,s5,P9 hi,K0 hi,J1,nb,i1,i2,hi,TL hi];refine a9 (by simpa only [s5,J1,nb] using f1) (by simpa only [M7,s5,J1,nb] using E4 inner ps x) ?_;simp [go_sem,d0,hR,d6 hR,zd];refine C4 [0,1,2] [3,7,8,9] [0,1,2,4,5,6] (.step 3 [4,5,6] true (ag [7,8,9])) ⟨[(2,.ptr 32 0 0 1),(3,.d (.bool o)),(4,.d (.int .i64 e))],[(32,⟨23,32,[cb k]⟩)],9000⟩ (k:=10) ?h3 ?hq
 case h3 =>
  intro G hG
  have hW:∀ (fr:Fr) (hp:Hp),(fv 2 fr=.ptr 32 0 0 1∧fv 3 fr=.d (.bool o)∧fv 4 fr=.d (.int .i64 e)∧lk 32 hp=some ⟨23,32,[cb k]⟩)→G fr hp:=by
   rintro fr hp ⟨q0,q1,q2,q3⟩;exact hG _ _ Rz
  simp [go_sem,s5,P9 hi,K0 hi,d0,hi,hR,hk,d6 hi,d6 hR,d6 hk,zd,Ye hi,A6]
  repeat' first | exact hW _ _ ⟨rfl,rfl,rfl,rfl⟩ | (refine hW _ _ ?_;simp [fv,lk];done) | refine U8 f2 rfl (c7 (.deep (Sk _)) (c7 (.one (d9 (Si rfl trivial hR))) n7)) (aii _ _ _) ?_ | apply And.intro | simp [go_sem,s5,P9 hi,K0 hi,d0,hi,hR,hk,d6 hi,d6 hR,d6 hk,zd,Ye hi,A6]
 case hq =>
  simp [go_sem,d0,hk,d6 hk,d7];exact P1 rfl
theorem agV {inner x k:List Nat} {ps:List (List Nat)} {o:Bool} (hi:inner.length=32) (hk:k.length=32) (f:m6 Tryz.prog 55 [M7 inner ps x] (fun r=>r=.tup [.agg (cb k),.d (.bool o),.d (.int .i64 1)])) :
  m6 Tryz.prog 19 [M7 inner ps x] (fun r=>r=.tup [.d (nb []),.d (.int .i64 1)]):=by
 refine t6 Tryz.func19 Tryz.ntmps19 (rs:=[.tmp 2,.tmp 3]) (E4 _ _ _) ?_;have zd:List.drop 32 (cb z32)=[]:=K5 rfl;simp [go_sem,M7,s5,P9 hi,K0 hi,J1,nb,hi,TL hi];refine a9 f (E4 _ _ _) ?_;simp [go_sem,d0,hk,d6 hk,zd,d7];exact ach rfl
theorem agX {inner x k:List Nat} {ps:List (List Nat)} {o:Bool} (hi:inner.length=32) (hk:k.length=32) (f:m6 Tryz.prog 55 [M7 inner ps x] (fun r=>r=.tup [.agg (cb k),.d (.bool o),.d (.int .i64 0)])) :
  m6 Tryz.prog 19 [M7 inner ps x] (fun r=>r=.tup [.d (nb (81 :: 32 :: k)),.d (.int .i64 0)]):=by
 refine t6 Tryz.func19 Tryz.ntmps19 (rs:=[.tmp 2,.tmp 3]) (E4 _ _ _) ?_;have zd:List.drop 32 (cb z32)=[]:=K5 rfl;simp [go_sem,M7,s5,P9 hi,K0 hi,J1,nb,hi,TL hi];refine a9 f (E4 _ _ _) ?_;have hx1:=adz hk;simp [go_sem] at hx1;simp [go_sem,d0,hk,d6 hk,zd,hx1,o6,d7];have e:rb (81 :: 32 :: k)=[AV.d (.int .u8 81)] :: [AV.d (.int .u8 32)] :: rb k:=by simp [rb]
 have h34:(81 :: 32 :: k).length=34:=by simp [hk]
 exact acg (L:=81 :: 32 :: k) h34 (by rw [e];rfl) (by simp [nb])
theorem aiu:∀ {a b:List Nat},a.length=b.length→bytes a→bytes b→J2 a=J2 b→a=b
 | [],[],_,_,_,_=>rfl
 | [],y :: s,h,_,_,_=>by simp at h
 | x :: r,[],h,_,_,_=>by simp at h
 | x :: r,y :: s,h,ha,hb,he=>by
  have hl:r.length=s.length:=by simpa using h
  rw [aaN,aaN,hl] at he
  have l1:J2 r<256 ^ s.length:=by
   have:=ZP r (fun z hz=>ha z (ax _ hz)) 0;rw [Nat.zero_add,Nat.one_mul,hl] at this;exact this
  have l2:J2 s<256 ^ s.length:=by
   have:=ZP s (fun z hz=>hb z (ax _ hz)) 0;rw [Nat.zero_add,Nat.one_mul] at this;exact this
  generalize 256 ^ s.length=P at *
  have hxy:x=y:=by
   have h1:=congrArg (· / P) he
   have h2:∀ u v:Nat,v<P→(u*P+v) / P=u:=fun u v hv=>by
    rw [Nat.mul_comm,Nat.mul_add_div aa,Nat.div_eq_of_lt hv,Nat.add_zero]
   simp only [h2 _ _ l1,h2 _ _ l2] at h1;exact h1
  subst hxy;rw [aiu hl (fun z hz=>ha z (ax _ hz)) (fun z hz=>hb z (ax _ hz)) aa]
theorem agY {n t:Nat} {k k':List Nat} {o o':Bool} {e e':Int} (h1:k.length=32) (h2:bytes k) (h1':k'.length=32) (h2':bytes k') (h:aaP n t k o e) (h':aaP n t k' o' e'):k=k'∧o=o'∧e=e':=by
 rcases h with ⟨a,rfl,rfl,rfl⟩ | ⟨a,rfl,x,y,hq,hk,ho⟩
 ·rcases h' with ⟨_,rfl,rfl,rfl⟩ | ⟨b,_,x',y',hq',_,_⟩
  ·exact ⟨rfl,rfl,rfl⟩
  ·rcases a with a | a
   ·exact absurd b a
   ·rw [a] at hq';cases hq'
 ·rcases h' with ⟨b,_,_,_⟩ | ⟨_,rfl,x',y',hq',hk',ho'⟩
  ·rcases b with b | b
   ·exact absurd a b
   ·rw [b] at hq;cases hq
  ·have e:=Option.some.inj (hq.symm.trans hq');injection e with ex ey;subst ex ey;refine ⟨aiu (by rw [h1,h1']) h2 h2' (by rw [hk,hk']),?_,rfl⟩
   cases o <;> cases o'
   ·rfl
   ·exact absurd (ho.2 (ho'.1 rfl)) (by decide)
   ·exact absurd (ho'.2 (ho.1 rfl)) (by decide)
   ·rfl
theorem aby {inner:List Nat} {ps:List (List Nat)} {x k k':List Nat} {o o':Bool} {e e':Int} (h1:k.length=32) (h2:bytes k) (h1':k'.length=32) (h2':bytes k') (h:UM inner ps x k o e) (h':UM inner ps x k' o' e'):k=k'∧o=o'∧e=e':=by
 rcases h with ⟨a,rfl,rfl,rfl⟩ | ⟨a,h⟩
 ·rcases h' with ⟨_,rfl,rfl,rfl⟩ | ⟨b,_⟩
  ·exact ⟨rfl,rfl,rfl⟩
  ·exact absurd b a
 ·rcases h' with ⟨b,_⟩ | ⟨_,h'⟩
  ·exact absurd a b
  ·exact agY h1 h2 h1' h2' h h'
end Go.Proofs.YtldccnbokbieiaaGreat
