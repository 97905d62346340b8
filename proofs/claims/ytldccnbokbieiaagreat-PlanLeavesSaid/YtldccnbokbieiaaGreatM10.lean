/-
 Part 11 of what the claim rests on.
-/
import Derived.Test.YtldccnbokbieiaaGreatM7
import Derived.Test.YtldccnbokbieiaaGreatM9
set_option linter.unusedVariables false
set_option linter.unusedSimpArgs false
set_option maxRecDepth 100000
set_option maxHeartbeats 16000000
namespace Go.Proofs.YtldccnbokbieiaaGreat
open Go.Am Go.Sha Go.Ec
theorem Dw (inner root:List Nat) (hi:inner.length=32) (hib:bytes inner) (hr:root.length≤1000) (hrb:bytes root):∃ (t:List Int) (ok:Bool),Wn 4 t∧((db (c6 cX (inner ++ root))<115792089237316195423570985008687907852837564279074904382605163141518161494337→ok=true∧V t=(db (c6 cX (inner ++ root)):Int))∧(¬ db (c6 cX (inner ++ root))<115792089237316195423570985008687907852837564279074904382605163141518161494337→ok=false∧t=zI))∧aq Tryz.prog 129 [.agg (cb inner),.d (nb root)] (fun r=>r=.tup [.agg (cI t),.d (.bool ok)]):=by
 obtain ⟨t,ok,ht,vt,f1⟩:=L2 (c6 cX (inner ++ root)) (vV _ _).1 (vV _ _).2
 refine ⟨t,ok,ht,vt,?_⟩
 refine aS Tryz.func129 Tryz.ntmps129 (rs:=[.cell 4 160,.tmp 5]) (lc _ _) ?_
 have htl:=ht.1
 have hz:List.drop 4 (cI zI)=[]:=ao rfl
 have hx1:=vZ hi
 simp [go_sem] at hx1
 have hl:(inner ++ root).length=32+root.length:=by rw [List.length_append,hi]
 simp [go_sem,am,hi,aj hi,hx1,aC,nb]
 refine ⟨by omega,?_⟩
 refine bU [96] (iF cX (.str [84,97,112,84,119,101,97,107]) rfl (inner ++ root) (by simp [cX]) (by simp [cX]) (by omega) (fun z hz=>by
   rcases List.mem_append.1 hz with h | h
   ·exact hib z h
   ·exact hrb z h)) rfl (ay (.deep (by simp [AV.deep,AV.deep1])) (ay (.one (aw (aM hl (by simp [lk,rb]) (by simp)))) aT)) ?_
 simp [go_sem,aQ]
 refine ab f1 (bu _) ?_
 simp [go_sem,htl,aa htl,hz,ak]
 exact ff rfl
theorem Mk (inner root:List Nat) (hi:inner.length=32) (hib:bytes inner) (hr:root.length≤1000) (hrb:bytes root):∃ (k:List Nat) (o:Bool) (e:Int),k.length=32∧bytes k∧E1 e∧rX (db inner) (db (c6 cX (inner ++ root))) k o e∧aq Tryz.prog 91 [.agg (cb inner),.d (nb root)] (fun r=>r=.tup [.agg (cb k),.d (.bool o),.d (.int .i64 e)]):=by
 obtain ⟨x,y,c,ok,hx,hy,vl,f1⟩:=Jt inner hi hib
 obtain ⟨t,ok2,ht,vt,f2⟩:=Dw inner root hi hib hr hrb
 generalize hT:db (c6 cX (inner ++ root))=T at *
 have zb:bytes z32:=fun x hx=>by simp [z32] at hx;omega
 have pl:=aD hx.1 hy.1 c
 have pt:=aH hx.1 hy.1 c
 have pd:(cP zI zI false).drop 9=[]:=dG rfl rfl _
 have pl0:(cP zI zI false).length=9:=rfl
 have bl:=aD (x:=gX) (y:=gY) rfl rfl false
 have bt:=aH (x:=gX) (y:=gY) rfl rfl false
 have htl:=ht.1
 have hz:List.drop 4 (cI zI)=[]:=ao rfl
 have zd:List.drop 32 (cb z32)=[]:=dr rfl
 have zt:List.take 32 (cb z32)=cb z32:=aj rfl
 cases ok
 ·refine ⟨z32,false,1,rfl,zb,.inr rfl,.inl ⟨.inl (fun h=>BC vl h.1),rfl,rfl,rfl⟩,?_⟩
  refine aS Tryz.func91 Tryz.ntmps91 (rs:=[.cell 4 23,.tmp 5,.tmp 6]) (lc _ _) ?_
  simp [go_sem,am,hi,aj hi]
  refine ab f1 (bu _) ?_
  simp [go_sem,am,hi,aj hi,pl,pt,pd,pl0]
  refine ab f2 (lc _ _) ?_
  simp [go_sem,htl,aa htl,hz,pl,pt,pd,pl0,zd,zt,am,ak]
  exact en rfl
 ·cases ok2
  ·refine ⟨z32,false,1,rfl,zb,.inr rfl,.inl ⟨.inl (fun h=>absurd (vt.1 h.2).1 (by decide)),rfl,rfl,rfl⟩,?_⟩
   refine aS Tryz.func91 Tryz.ntmps91 (rs:=[.cell 4 23,.tmp 5,.tmp 6]) (lc _ _) ?_
   simp [go_sem,am,hi,aj hi]
   refine ab f1 (bu _) ?_
   simp [go_sem,am,hi,aj hi,pl,pt,pd,pl0]
   refine ab f2 (lc _ _) ?_
   simp [go_sem,htl,aa htl,hz,pl,pt,pd,pl0,zd,zt,am,ak]
   exact en rfl
  ·obtain ⟨k1,k2,k3,k4⟩:=BB vl
   have hlt:T<115792089237316195423570985008687907852837564279074904382605163141518161494337:=by
    by_cases h:T<115792089237316195423570985008687907852837564279074904382605163141518161494337
    ·exact h
    ·exact absurd (vt.2 h).1 (by decide)
   obtain ⟨mx,my,mc,hmx,hmy,hmp,vm,f3⟩:=OJ t gX gY false ht IC LP qf
   obtain ⟨qx,qy,qc,hqx,hqy,hqp,vq,f4⟩:=OH x y mx my c mc hx hy hmx hmy k3 hmp
   have ml:=aD hmx.1 hmy.1 mc
   have mt:=aH hmx.1 hmy.1 mc
   have ql:=aD hqx.1 hqy.1 qc
   have qt:=aH hqx.1 hqy.1 qc
   have qb:=kw hqx.1 hqy.1 qc
   have qg:=kZ hqx.1 hqy.1 qc
   have vT:(V t).toNat=T:=by rw [(vt.1 hlt).2];exact Int.toNat_natCast _
   have hon:fC (liftPt (db inner)):=by rw [← k4];exact gZ k3
   have hQ:PV qx qy qc=turnQ (db inner) T:=by
    unfold turnQ
    rw [vq,vm,vT,k4,Fs fd hon]
   cases qc
   ·have hp:=hqp
    rcases hp with ⟨hb,_⟩ | ⟨_,hb1,hb2,_⟩
    ·cases hb
    obtain ⟨kb,kl,kbb,vk,f5⟩:=L4 qx qy false hqx hqy hqp
    obtain ⟨od,vo,f6⟩:=OL qx qy false hqx hqy hqp
    have vR:rX (db inner) T kb (!od) 0:=by
     refine .inr ⟨⟨k1,hlt⟩,rfl,FV qx,FV qy,hQ.symm,by rw [vk];exact BD hqx hb1,?_⟩
     have e:=BD hqy hb2
     have hy0:=(cy hqy).1
     cases od
     ·have:¬ V qy % 2=0:=fun h=>Bool.noConfusion (vo.2 ⟨rfl,h⟩)
      exact ⟨fun _=>by omega,fun _=>rfl⟩
     ·have:=(vo.1 rfl).2
      exact ⟨fun h=>Bool.noConfusion h,fun h=>by omega⟩
    refine ⟨kb,!od,0,kl,kbb,.inl rfl,vR,?_⟩
    refine aS Tryz.func91 Tryz.ntmps91 (rs:=[.cell 4 23,.tmp 5,.tmp 6]) (lc _ _) ?_
    simp [go_sem,am,hi,aj hi]
    refine ab f1 (bu _) ?_
    simp [go_sem,am,hi,aj hi,pl,pt,pd,pl0]
    refine ab f2 (lc _ _) ?_
    simp [go_sem,htl,aa htl,hz,pl,pt,pd,pl0]
    refine bD [0,1] [2,3,4,5,6] [0,1] (.alt (.step 2 [] true (.alt (.step 3 [] true (.alt (.step 4 [] false (.step 5 [] false (.step 6 [] false .done))) (.step 5 [] true (.step 4 [] false (.step 6 [] false .done))))) (.step 5 [] true (.step 3 [] true (.step 4 [] false (.step 6 [] false .done)))))) (.step 5 [] true (.step 2 [] true (.step 3 [] true (.step 4 [] false (.step 6 [] false .done)))))) ⟨[(4,.ptr 32 0 0 1),(11,.ptr 1024 0 0 1)],[(1024,⟨162,9,[cP qx qy false]⟩),(32,⟨23,32,[cb z32]⟩)],5000⟩ (k:=7) ?h3 ?hq
    case h3 =>
     intro G hG
     have hW:∀ (fr:Fr) (hp:Hp),(fv 4 fr=.ptr 32 0 0 1∧fv 11 fr=.ptr 1024 0 0 1∧lk 1024 hp=some ⟨162,9,[cP qx qy false]⟩∧lk 32 hp=some ⟨23,32,[cb z32]⟩)→G fr hp:=by
      rintro fr hp ⟨q0,q1,q2,q3⟩
      exact hG _ _ fc
     simp [go_sem,htl,aa htl,pl,pt,ql,qt,pd,pl0,hz,bl,bt,be]
     repeat' first | exact hW _ _ ⟨rfl,rfl,rfl,rfl⟩ | (refine hW _ _ ?_;simp [fv,lk];done) | refine ab Ju (by simp) ?_ | refine ab f3 (wk _ _ _ _) ?_ | refine ab f4 (ki _ _ _ _ _ _) ?_ | apply And.intro | simp [go_sem,htl,aa htl,pl,pt,ql,qt,pd,pl0,hz,bl,bt,be]
    case hq =>
     simp [go_sem,qb,qg,ql]
     refine bD [0,2] [1,3,4,5,6,7] [0,2] (.step 1 [] true (.step 3 [] false (.alt (.step 4 [] false (.step 5 [] false (.step 6 [] false (.step 7 [] false .done)))) (.step 5 [] false (.step 4 [] false (.step 6 [] false (.step 7 [] false .done))))))) ⟨[(4,.ptr 32 0 0 1),(5,.d (.bool (!od))),(6,.d (.int .i64 0))],[(32,⟨23,32,[cb kb]⟩)],9000⟩ (k:=8) ?h3 ?hq
     case h3 =>
      intro G hG
      have hW:∀ (fr:Fr) (hp:Hp),(fv 4 fr=.ptr 32 0 0 1∧fv 5 fr=.d (.bool (!od))∧fv 6 fr=.d (.int .i64 0)∧lk 32 hp=some ⟨23,32,[cb kb]⟩)→G fr hp:=by
       rintro fr hp ⟨q0,q1,q2,q3⟩
       exact hG _ _ fc
      simp [go_sem,ql,qt,kl,am,aj kl,zd,be]
      repeat' first | exact hW _ _ ⟨rfl,rfl,rfl,rfl⟩ | (refine hW _ _ ?_;simp [fv,lk];done) | refine ab f5 (bp _ _ _) ?_ | refine ab f6 (bp _ _ _) ?_ | apply And.intro | simp [go_sem,ql,qt,kl,am,aj kl,zd,be]
     case hq =>
      simp [go_sem,am,kl,aj kl,ak]
      exact en rfl
   ·refine ⟨z32,false,1,rfl,zb,.inr rfl,.inl ⟨.inr hQ.symm,rfl,rfl,rfl⟩,?_⟩
    refine aS Tryz.func91 Tryz.ntmps91 (rs:=[.cell 4 23,.tmp 5,.tmp 6]) (lc _ _) ?_
    simp [go_sem,am,hi,aj hi]
    refine ab f1 (bu _) ?_
    simp [go_sem,am,hi,aj hi,pl,pt,pd,pl0]
    refine ab f2 (lc _ _) ?_
    simp [go_sem,htl,aa htl,hz,pl,pt,pd,pl0]
    refine bD [0,1] [2,3,4,5,6] [0,1] (.alt (.step 2 [] true (.alt (.step 3 [] true (.alt (.step 4 [] false (.step 5 [] false (.step 6 [] false .done))) (.step 5 [] true (.step 4 [] false (.step 6 [] false .done))))) (.step 5 [] true (.step 3 [] true (.step 4 [] false (.step 6 [] false .done)))))) (.step 5 [] true (.step 2 [] true (.step 3 [] true (.step 4 [] false (.step 6 [] false .done)))))) ⟨[(4,.ptr 32 0 0 1),(11,.ptr 1024 0 0 1)],[(1024,⟨162,9,[cP qx qy true]⟩),(32,⟨23,32,[cb z32]⟩)],5000⟩ (k:=7) ?h3 ?hq
    case h3 =>
     intro G hG
     have hW:∀ (fr:Fr) (hp:Hp),(fv 4 fr=.ptr 32 0 0 1∧fv 11 fr=.ptr 1024 0 0 1∧lk 1024 hp=some ⟨162,9,[cP qx qy true]⟩∧lk 32 hp=some ⟨23,32,[cb z32]⟩)→G fr hp:=by
      rintro fr hp ⟨q0,q1,q2,q3⟩
      exact hG _ _ fc
     simp [go_sem,htl,aa htl,pl,pt,ql,qt,pd,pl0,hz,bl,bt,be]
     repeat' first | exact hW _ _ ⟨rfl,rfl,rfl,rfl⟩ | (refine hW _ _ ?_;simp [fv,lk];done) | refine ab Ju (by simp) ?_ | refine ab f3 (wk _ _ _ _) ?_ | refine ab f4 (ki _ _ _ _ _ _) ?_ | apply And.intro | simp [go_sem,htl,aa htl,pl,pt,ql,qt,pd,pl0,hz,bl,bt,be]
    case hq =>
     simp [go_sem,qb,qg,ql,zd,zt,am,ak]
     exact en rfl
theorem oY:∀ (ps:List (List Nat)) {h:List Nat},bytes h→bytes (dP ps h)
 | [],_,hh=>hh
 | p :: r,h,hh=>oY r (h:=aO h p) (by unfold aO;split <;> exact cQ _)
theorem GH (inner:List Nat) (ps:List (List Nat)) (x:List Nat) (hi:inner.length=32) (hib:bytes inner) (hp32:∀ p,p ∈ ps→p.length=32∧bytes p) (hxb:bytes x) (hps:ps.length≤1000) (hx:x.length≤100000):∃ (k:List Nat) (o:Bool) (e:Int),k.length=32∧bytes k∧E1 e∧aq Tryz.prog 55 [dy inner ps x] (fun r=>r=.tup [.agg (cb k),.d (.bool o),.d (.int .i64 e)])∧(e=0→ps.length≤8∧x.length≤1000)∧jE inner ps x k o e:=by
 have hR:=rY ps (ct x) (ie x)
 have hRb:bytes (dP ps (ct x)):=oY ps (cQ _)
 have f1:=EX inner ps x hi hp32 hps hx hxb
 unfold jE
 generalize dP ps (ct x)=R at *
 obtain ⟨k,o,e,hk,hkb,he,hT,f2⟩:=Mk inner R hi hib (by omega) hRb
 have zb:bytes z32:=fun x hx=>by simp [z32] at hx;omega
 have zd:List.drop 32 (cb z32)=[]:=dr rfl
 have zt:List.take 32 (cb z32)=cb z32:=aj rfl
 by_cases h1:8<ps.length
 ·refine ⟨z32,false,1,rfl,zb,.inr rfl,?_,fun h=>by omega,.inl ⟨by omega,rfl,rfl,rfl⟩⟩
  refine aS Tryz.func55 Tryz.ntmps55 (rs:=[.cell 2 23,.tmp 3,.tmp 4]) (bS _ _ _) ?_
  have i1:(8:Int)<(ps.length:Int):=by omega
  simp [go_sem,dy,aB,dV hi,da hi,cF,nb,i1,zd,zt,am,ak]
  exact en rfl
 by_cases h2:1000<x.length
 ·refine ⟨z32,false,1,rfl,zb,.inr rfl,?_,fun h=>by omega,.inl ⟨by omega,rfl,rfl,rfl⟩⟩
  refine aS Tryz.func55 Tryz.ntmps55 (rs:=[.cell 2 23,.tmp 3,.tmp 4]) (bS _ _ _) ?_
  have i1:¬ (8:Int)<(ps.length:Int):=by omega
  have i2:(1000:Int)<(x.length:Int):=by omega
  simp [go_sem,dy,aB,dV hi,da hi,cF,nb,i1,i2,zd,zt,am,ak]
  exact en rfl
 refine ⟨k,o,e,hk,hkb,he,?_,fun _=>by omega,.inr ⟨by omega,hT⟩⟩
 refine aS Tryz.func55 Tryz.ntmps55 (rs:=[.cell 2 23,.tmp 3,.tmp 4]) (bS _ _ _) ?_
 have i1:¬ (8:Int)<(ps.length:Int):=by omega
 have i2:¬ (1000:Int)<(x.length:Int):=by omega
 simp [go_sem,dy,aB,dV hi,da hi,cF,nb,i1,i2,hi,gh hi]
 refine ab (by simpa only [aB,cF,nb] using f1) (by simpa only [dy,aB,cF,nb] using bS inner ps x) ?_
 simp [go_sem,am,hR,aj hR,zd]
 refine bD [0,1,2] [3,7,8,9] [0,1,2,4,5,6] (.step 3 [4,5,6] true (.step 7 [] false (.step 8 [] false (.step 9 [] false .done)))) ⟨[(2,.ptr 32 0 0 1),(3,.d (.bool o)),(4,.d (.int .i64 e))],[(32,⟨23,32,[cb k]⟩)],9000⟩ (k:=10) ?h3 ?hq
 case h3 =>
  intro G hG
  have hW:∀ (fr:Fr) (hp:Hp),(fv 2 fr=.ptr 32 0 0 1∧fv 3 fr=.d (.bool o)∧fv 4 fr=.d (.int .i64 e)∧lk 32 hp=some ⟨23,32,[cb k]⟩)→G fr hp:=by
   rintro fr hp ⟨q0,q1,q2,q3⟩
   exact hG _ _ fc
  simp [go_sem,aB,dV hi,da hi,am,hi,hR,hk,aj hi,aj hR,aj hk,zd,lf hi,be]
  repeat' first | exact hW _ _ ⟨rfl,rfl,rfl,rfl⟩ | (refine hW _ _ ?_;simp [fv,lk];done) | refine nA f2 rfl (ay (.deep (fQ _)) (ay (.one (aw (iD rfl trivial hR))) aT)) (BE _ _ _) ?_ | apply And.intro | simp [go_sem,aB,dV hi,da hi,am,hi,hR,hk,aj hi,aj hR,aj hk,zd,lf hi,be]
 case hq =>
  simp [go_sem,am,hk,aj hk,ak]
  exact en rfl
theorem zf {inner x k:List Nat} {ps:List (List Nat)} {o:Bool} (hi:inner.length=32) (hk:k.length=32) (f:aq Tryz.prog 55 [dy inner ps x] (fun r=>r=.tup [.agg (cb k),.d (.bool o),.d (.int .i64 1)])) :
  aq Tryz.prog 19 [dy inner ps x] (fun r=>r=.tup [.d (nb []),.d (.int .i64 1)]):=by
 refine aS Tryz.func19 Tryz.ntmps19 (rs:=[.tmp 2,.tmp 3]) (bS _ _ _) ?_
 have zd:List.drop 32 (cb z32)=[]:=dr rfl
 simp [go_sem,dy,aB,dV hi,da hi,cF,nb,hi,gh hi]
 refine ab f (bS _ _ _) ?_
 simp [go_sem,am,hk,aj hk,zd,ak]
 exact tN rfl
theorem zg {inner x k:List Nat} {ps:List (List Nat)} {o:Bool} (hi:inner.length=32) (hk:k.length=32) (f:aq Tryz.prog 55 [dy inner ps x] (fun r=>r=.tup [.agg (cb k),.d (.bool o),.d (.int .i64 0)])) :
  aq Tryz.prog 19 [dy inner ps x] (fun r=>r=.tup [.d (nb (81 :: 32 :: k)),.d (.int .i64 0)]):=by
 refine aS Tryz.func19 Tryz.ntmps19 (rs:=[.tmp 2,.tmp 3]) (bS _ _ _) ?_
 have zd:List.drop 32 (cb z32)=[]:=dr rfl
 simp [go_sem,dy,aB,dV hi,da hi,cF,nb,hi,gh hi]
 refine ab f (bS _ _ _) ?_
 have hx1:=vZ hk
 simp [go_sem] at hx1
 simp [go_sem,am,hk,aj hk,zd,hx1,aC,ak]
 have e:rb (81 :: 32 :: k)=[AV.d (.int .u8 81)] :: [AV.d (.int .u8 32)] :: rb k:=by simp [rb]
 have h34:(81 :: 32 :: k).length=34:=by simp [hk]
 exact tM (L:=81 :: 32 :: k) h34 (by rw [e];rfl) (by simp [nb])
theorem AF:∀ {a b:List Nat},a.length=b.length→bytes a→bytes b→db a=db b→a=b
 | [],[],_,_,_,_=>rfl
 | [],y :: s,h,_,_,_=>by simp at h
 | x :: r,[],h,_,_,_=>by simp at h
 | x :: r,y :: s,h,ha,hb,he=>by
  have hl:r.length=s.length:=by simpa using h
  rw [rV,rV,hl] at he
  have l1:db r<256 ^ s.length:=by
   have:=qh r (fun z hz=>ha z (List.mem_cons_of_mem _ hz)) 0
   rw [Nat.zero_add,Nat.one_mul,hl] at this
   exact this
  have l2:db s<256 ^ s.length:=by
   have:=qh s (fun z hz=>hb z (List.mem_cons_of_mem _ hz)) 0
   rw [Nat.zero_add,Nat.one_mul] at this
   exact this
  generalize 256 ^ s.length=P at *
  have hxy:x=y:=by
   have h1:=congrArg (· / P) he
   have h2:∀ u v:Nat,v<P→(u*P+v) / P=u:=fun u v hv=>by
    rw [Nat.mul_comm,Nat.mul_add_div (by omega),Nat.div_eq_of_lt hv,Nat.add_zero]
   simp only [h2 _ _ l1,h2 _ _ l2] at h1
   exact h1
  subst hxy
  rw [AF hl (fun z hz=>ha z (List.mem_cons_of_mem _ hz)) (fun z hz=>hb z (List.mem_cons_of_mem _ hz)) (by omega)]
theorem zh {n t:Nat} {k k':List Nat} {o o':Bool} {e e':Int} (h1:k.length=32) (h2:bytes k) (h1':k'.length=32) (h2':bytes k') (h:rX n t k o e) (h':rX n t k' o' e'):k=k'∧o=o'∧e=e':=by
 rcases h with ⟨a,rfl,rfl,rfl⟩ | ⟨a,rfl,x,y,hq,hk,ho⟩
 ·rcases h' with ⟨_,rfl,rfl,rfl⟩ | ⟨b,_,x',y',hq',_,_⟩
  ·exact ⟨rfl,rfl,rfl⟩
  ·rcases a with a | a
   ·exact absurd b a
   ·rw [a] at hq';cases hq'
 ·rcases h' with ⟨b,_,_,_⟩ | ⟨_,rfl,x',y',hq',hk',ho'⟩
  ·rcases b with b | b
   ·exact absurd a b
   ·rw [b] at hq;cases hq
  ·have e:=Option.some.inj (hq.symm.trans hq')
   injection e with ex ey
   subst ex ey
   refine ⟨AF (by rw [h1,h1']) h2 h2' (by rw [hk,hk']),?_,rfl⟩
   cases o <;> cases o'
   ·rfl
   ·exact absurd (ho.2 (ho'.1 rfl)) (by decide)
   ·exact absurd (ho'.2 (ho.1 rfl)) (by decide)
   ·rfl
theorem sn {inner:List Nat} {ps:List (List Nat)} {x k k':List Nat} {o o':Bool} {e e':Int} (h1:k.length=32) (h2:bytes k) (h1':k'.length=32) (h2':bytes k') (h:jE inner ps x k o e) (h':jE inner ps x k' o' e'):k=k'∧o=o'∧e=e':=by
 rcases h with ⟨a,rfl,rfl,rfl⟩ | ⟨a,h⟩
 ·rcases h' with ⟨_,rfl,rfl,rfl⟩ | ⟨b,_⟩
  ·exact ⟨rfl,rfl,rfl⟩
  ·exact absurd b a
 ·rcases h' with ⟨b,_⟩ | ⟨_,h'⟩
  ·exact absurd a b
  ·exact zh h1 h2 h1' h2' h h'
end Go.Proofs.YtldccnbokbieiaaGreat
