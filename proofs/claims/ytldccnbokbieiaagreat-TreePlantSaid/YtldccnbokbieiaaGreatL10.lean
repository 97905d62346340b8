/-
  Part 11 of what the claim rests on.
-/
import Derived.Test.YtldccnbokbieiaaGreatL7
import Derived.Test.YtldccnbokbieiaaGreatL9
set_option linter.unusedVariables false
set_option linter.unusedSimpArgs false
set_option maxRecDepth 100000
set_option maxHeartbeats 16000000
namespace Go.Proofs.YtldccnbokbieiaaGreat
open Go.Am Go.Sha Go.Ec
theorem rturning (inner root:List Nat) (hi:inner.length=32) (hib:bytes inner) (hr:root.length≤1000) (hrb:bytes root):∃ (t:List Int) (ok:Bool),Wn 4 t∧((beN (tagB turnTag (inner ++ root))<115792089237316195423570985008687907852837564279074904382605163141518161494337→ok=true∧V t=(beN (tagB turnTag (inner ++ root)):Int))∧(¬ beN (tagB turnTag (inner ++ root))<115792089237316195423570985008687907852837564279074904382605163141518161494337→ok=false∧t=zI))∧Rets Tryz.prog 129 [.agg (cb inner),.d (nb root)] (fun r=>r=.tup [.agg (cI t),.d (.bool ok)]):=by
  obtain ⟨t,ok,ht,vt,f1⟩:=rsread (tagB turnTag (inner ++ root)) (tagB_b _ _).1 (tagB_b _ _).2
  refine ⟨t,ok,ht,vt,?_⟩
  refine fna Tryz.func129 Tryz.ntmps129 (rs:=[.cell 4 160,.tmp 5]) (b_nb _ _) ?_
  have htl:=ht.1
  have hz:List.drop 4 (cI zI)=[]:=cI_drop rfl
  have hx1:=cb_rows hi
  simp [go_sem] at hx1
  have hl:(inner ++ root).length=32+root.length:=by rw [List.length_append,hi]
  simp [go_sem,cb_len,hi,cb_take hi,hx1,rb_len,nb]
  refine ⟨by omega,?_⟩
  refine cl_froz [96] (taggedR_fn turnTag (.str [84,97,112,84,119,101,97,107]) rfl (inner ++ root) (by simp [turnTag]) (by simp [turnTag]) (by omega) (fun z hz=>by
      rcases List.mem_append.1 hz with h | h
      · exact hib z h
      · exact hrb z h)) rfl (snap_cons (.deep (by simp [AV.deep,AV.deep1])) (snap_cons (.one (snap1_d (snap_full hl (by simp [lk,rb]) (by simp)))) snap_nil)) ?_
  simp [go_sem,dropH]
  refine cl_eq f1 (one_cb1 _) ?_
  simp [go_sem,htl,cI_take htl,hz,resV]
  exact post_wb rfl
theorem rturn (inner root:List Nat) (hi:inner.length=32) (hib:bytes inner) (hr:root.length≤1000) (hrb:bytes root):∃ (k:List Nat) (o:Bool) (e:Int),k.length=32∧bytes k∧E1 e∧turnR (beN inner) (beN (tagB turnTag (inner ++ root))) k o e∧Rets Tryz.prog 91 [.agg (cb inner),.d (nb root)] (fun r=>r=.tup [.agg (cb k),.d (.bool o),.d (.int .i64 e)]):=by
  obtain ⟨x,y,c,ok,hx,hy,vl,f1⟩:=rlift inner hi hib
  obtain ⟨t,ok2,ht,vt,f2⟩:=rturning inner root hi hib hr hrb
  generalize hT:beN (tagB turnTag (inner ++ root))=T at *
  have zb:bytes z32:=fun x hx=>by simp [z32] at hx;omega
  have pl:=cP_len hx.1 hy.1 c
  have pt:=cP_take hx.1 hy.1 c
  have pd:(cP zI zI false).drop 9=[]:=cP_drop rfl rfl _
  have pl0:(cP zI zI false).length=9:=rfl
  have bl:=cP_len (x:=gX) (y:=gY) rfl rfl false
  have bt:=cP_take (x:=gX) (y:=gY) rfl rfl false
  have htl:=ht.1
  have hz:List.drop 4 (cI zI)=[]:=cI_drop rfl
  have zd:List.drop 32 (cb z32)=[]:=cb_drop rfl
  have zt:List.take 32 (cb z32)=cb z32:=cb_take rfl
  cases ok
  · refine ⟨z32,false,1,rfl,zb,.inr rfl,.inl ⟨.inl (fun h=>lift_no vl h.1),rfl,rfl,rfl⟩,?_⟩
    refine fna Tryz.func91 Tryz.ntmps91 (rs:=[.cell 4 23,.tmp 5,.tmp 6]) (b_nb _ _) ?_
    simp [go_sem,cb_len,hi,cb_take hi]
    refine cl_eq f1 (one_cb1 _) ?_
    simp [go_sem,cb_len,hi,cb_take hi,pl,pt,pd,pl0]
    refine cl_eq f2 (b_nb _ _) ?_
    simp [go_sem,htl,cI_take htl,hz,pl,pt,pd,pl0,zd,zt,cb_len,resV]
    exact post_be rfl
  · cases ok2
    · refine ⟨z32,false,1,rfl,zb,.inr rfl,.inl ⟨.inl (fun h=>absurd (vt.1 h.2).1 (by decide)),rfl,rfl,rfl⟩,?_⟩
      refine fna Tryz.func91 Tryz.ntmps91 (rs:=[.cell 4 23,.tmp 5,.tmp 6]) (b_nb _ _) ?_
      simp [go_sem,cb_len,hi,cb_take hi]
      refine cl_eq f1 (one_cb1 _) ?_
      simp [go_sem,cb_len,hi,cb_take hi,pl,pt,pd,pl0]
      refine cl_eq f2 (b_nb _ _) ?_
      simp [go_sem,htl,cI_take htl,hz,pl,pt,pd,pl0,zd,zt,cb_len,resV]
      exact post_be rfl
    · obtain ⟨k1,k2,k3,k4⟩:=lift_pt vl
      have hlt:T<115792089237316195423570985008687907852837564279074904382605163141518161494337:=by
        by_cases h:T<115792089237316195423570985008687907852837564279074904382605163141518161494337
        · exact h
        · exact absurd (vt.2 h).1 (by decide)
      obtain ⟨mx,my,mc,hmx,hmy,hmp,vm,f3⟩:=rmulP t gX gY false ht gX_W gY_W base_pt
      obtain ⟨qx,qy,qc,hqx,hqy,hqp,vq,f4⟩:=raddP x y mx my c mc hx hy hmx hmy k3 hmp
      have ml:=cP_len hmx.1 hmy.1 mc
      have mt:=cP_take hmx.1 hmy.1 mc
      have ql:=cP_len hqx.1 hqy.1 qc
      have qt:=cP_take hqx.1 hqy.1 qc
      have qb:=cP_b hqx.1 hqy.1 qc
      have qg:=cP_g hqx.1 hqy.1 qc
      have vT:(V t).toNat=T:=by rw [(vt.1 hlt).2];exact Int.toNat_natCast _
      have hon:onC (liftPt (beN inner)):=by rw [← k4];exact isPt_on k3
      have hQ:PV qx qy qc=turnQ (beN inner) T:=by
        unfold turnQ
        rw [vq,vm,vT,k4,mp_one fd hon]
      cases qc
      · have hp:=hqp
        rcases hp with ⟨hb,_⟩ | ⟨_,hb1,hb2,_⟩
        · cases hb
        obtain ⟨kb,kl,kbb,vk,f5⟩:=rbytes qx qy false hqx hqy hqp
        obtain ⟨od,vo,f6⟩:=reven qx qy false hqx hqy hqp
        have vR:turnR (beN inner) T kb (!od) 0:=by
          refine .inr ⟨⟨k1,hlt⟩,rfl,FV qx,FV qy,hQ.symm,by rw [vk];exact val_V hqx hb1,?_⟩
          have e:=val_V hqy hb2
          have hy0:=(V_lt hqy).1
          cases od
          · have:¬ V qy % 2=0:=fun h=>Bool.noConfusion (vo.2 ⟨rfl,h⟩)
            exact ⟨fun _=>by omega,fun _=>rfl⟩
          · have:=(vo.1 rfl).2
            exact ⟨fun h=>Bool.noConfusion h,fun h=>by omega⟩
        refine ⟨kb,!od,0,kl,kbb,.inl rfl,vR,?_⟩
        refine fna Tryz.func91 Tryz.ntmps91 (rs:=[.cell 4 23,.tmp 5,.tmp 6]) (b_nb _ _) ?_
        simp [go_sem,cb_len,hi,cb_take hi]
        refine cl_eq f1 (one_cb1 _) ?_
        simp [go_sem,cb_len,hi,cb_take hi,pl,pt,pd,pl0]
        refine cl_eq f2 (b_nb _ _) ?_
        simp [go_sem,htl,cI_take htl,hz,pl,pt,pd,pl0]
        refine drw3 [0,1] [2,3,4,5,6] [0,1] (.alt (.step 2 [] true (.alt (.step 3 [] true (.alt (.step 4 [] false (.step 5 [] false (.step 6 [] false .done))) (.step 5 [] true (.step 4 [] false (.step 6 [] false .done))))) (.step 5 [] true (.step 3 [] true (.step 4 [] false (.step 6 [] false .done)))))) (.step 5 [] true (.step 2 [] true (.step 3 [] true (.step 4 [] false (.step 6 [] false .done)))))) ⟨[(4,.ptr 32 0 0 1),(11,.ptr 1024 0 0 1)],[(1024,⟨162,9,[cP qx qy false]⟩),(32,⟨23,32,[cb z32]⟩)],5000⟩ (k:=7) ?h3 ?hq
        case h3 =>
          intro G hG
          have hW:∀ (fr:Fr) (hp:Hp),(fv 4 fr=.ptr 32 0 0 1∧fv 11 fr=.ptr 1024 0 0 1∧lk 1024 hp=some ⟨162,9,[cP qx qy false]⟩∧lk 32 hp=some ⟨23,32,[cb z32]⟩)→G fr hp:=by
            rintro fr hp ⟨q0,q1,q2,q3⟩
            exact hG _ _ wkA
          simp [go_sem,htl,cI_take htl,pl,pt,ql,qt,pd,pl0,hz,bl,bt,SaW]
          repeat' first | exact hW _ _ ⟨rfl,rfl,rfl,rfl⟩ | (refine hW _ _ ?_;simp [fv,lk];done) | refine cl_eq rbase (by simp) ?_ | refine cl_eq f3 (wp_deep _ _ _ _) ?_ | refine cl_eq f4 (two_cP _ _ _ _ _ _) ?_ | apply And.intro | simp [go_sem,htl,cI_take htl,pl,pt,ql,qt,pd,pl0,hz,bl,bt,SaW]
        case hq =>
          simp [go_sem,qb,qg,ql]
          refine drw3 [0,2] [1,3,4,5,6,7] [0,2] (.step 1 [] true (.step 3 [] false (.alt (.step 4 [] false (.step 5 [] false (.step 6 [] false (.step 7 [] false .done)))) (.step 5 [] false (.step 4 [] false (.step 6 [] false (.step 7 [] false .done))))))) ⟨[(4,.ptr 32 0 0 1),(5,.d (.bool (!od))),(6,.d (.int .i64 0))],[(32,⟨23,32,[cb kb]⟩)],9000⟩ (k:=8) ?h3 ?hq
          case h3 =>
            intro G hG
            have hW:∀ (fr:Fr) (hp:Hp),(fv 4 fr=.ptr 32 0 0 1∧fv 5 fr=.d (.bool (!od))∧fv 6 fr=.d (.int .i64 0)∧lk 32 hp=some ⟨23,32,[cb kb]⟩)→G fr hp:=by
              rintro fr hp ⟨q0,q1,q2,q3⟩
              exact hG _ _ wkA
            simp [go_sem,ql,qt,kl,cb_len,cb_take kl,zd,SaW]
            repeat' first | exact hW _ _ ⟨rfl,rfl,rfl,rfl⟩ | (refine hW _ _ ?_;simp [fv,lk];done) | refine cl_eq f5 (one_cP _ _ _) ?_ | refine cl_eq f6 (one_cP _ _ _) ?_ | apply And.intro | simp [go_sem,ql,qt,kl,cb_len,cb_take kl,zd,SaW]
          case hq =>
            simp [go_sem,cb_len,kl,cb_take kl,resV]
            exact post_be rfl
      · refine ⟨z32,false,1,rfl,zb,.inr rfl,.inl ⟨.inr hQ.symm,rfl,rfl,rfl⟩,?_⟩
        refine fna Tryz.func91 Tryz.ntmps91 (rs:=[.cell 4 23,.tmp 5,.tmp 6]) (b_nb _ _) ?_
        simp [go_sem,cb_len,hi,cb_take hi]
        refine cl_eq f1 (one_cb1 _) ?_
        simp [go_sem,cb_len,hi,cb_take hi,pl,pt,pd,pl0]
        refine cl_eq f2 (b_nb _ _) ?_
        simp [go_sem,htl,cI_take htl,hz,pl,pt,pd,pl0]
        refine drw3 [0,1] [2,3,4,5,6] [0,1] (.alt (.step 2 [] true (.alt (.step 3 [] true (.alt (.step 4 [] false (.step 5 [] false (.step 6 [] false .done))) (.step 5 [] true (.step 4 [] false (.step 6 [] false .done))))) (.step 5 [] true (.step 3 [] true (.step 4 [] false (.step 6 [] false .done)))))) (.step 5 [] true (.step 2 [] true (.step 3 [] true (.step 4 [] false (.step 6 [] false .done)))))) ⟨[(4,.ptr 32 0 0 1),(11,.ptr 1024 0 0 1)],[(1024,⟨162,9,[cP qx qy true]⟩),(32,⟨23,32,[cb z32]⟩)],5000⟩ (k:=7) ?h3 ?hq
        case h3 =>
          intro G hG
          have hW:∀ (fr:Fr) (hp:Hp),(fv 4 fr=.ptr 32 0 0 1∧fv 11 fr=.ptr 1024 0 0 1∧lk 1024 hp=some ⟨162,9,[cP qx qy true]⟩∧lk 32 hp=some ⟨23,32,[cb z32]⟩)→G fr hp:=by
            rintro fr hp ⟨q0,q1,q2,q3⟩
            exact hG _ _ wkA
          simp [go_sem,htl,cI_take htl,pl,pt,ql,qt,pd,pl0,hz,bl,bt,SaW]
          repeat' first | exact hW _ _ ⟨rfl,rfl,rfl,rfl⟩ | (refine hW _ _ ?_;simp [fv,lk];done) | refine cl_eq rbase (by simp) ?_ | refine cl_eq f3 (wp_deep _ _ _ _) ?_ | refine cl_eq f4 (two_cP _ _ _ _ _ _) ?_ | apply And.intro | simp [go_sem,htl,cI_take htl,pl,pt,ql,qt,pd,pl0,hz,bl,bt,SaW]
        case hq =>
          simp [go_sem,qb,qg,ql,zd,zt,cb_len,resV]
          exact post_be rfl
theorem rootB_bytes:∀ (ps:List (List Nat)) {h:List Nat},bytes h→bytes (rootB ps h)
  | [],_,hh=>hh
  | p :: r,h,hh=>rootB_bytes r (h:=branchB h p) (by unfold branchB;split <;> exact sumB_bytes _)
theorem rturned (inner:List Nat) (ps:List (List Nat)) (x:List Nat) (hi:inner.length=32) (hib:bytes inner) (hp32:∀ p,p ∈ ps→p.length=32∧bytes p) (hxb:bytes x) (hps:ps.length≤1000) (hx:x.length≤100000):∃ (k:List Nat) (o:Bool) (e:Int),k.length=32∧bytes k∧E1 e∧Rets Tryz.prog 55 [leafV inner ps x] (fun r=>r=.tup [.agg (cb k),.d (.bool o),.d (.int .i64 e)])∧(e=0→ps.length≤8∧x.length≤1000)∧leafTurn inner ps x k o e:=by
  have hR:=rootB_lenA ps (leafB x) (leafB_len x)
  have hRb:bytes (rootB ps (leafB x)):=rootB_bytes ps (sumB_bytes _)
  have f1:=rootR_fn inner ps x hi hp32 hps hx hxb
  unfold leafTurn
  generalize rootB ps (leafB x)=R at *
  obtain ⟨k,o,e,hk,hkb,he,hT,f2⟩:=rturn inner R hi hib (by omega) hRb
  have zb:bytes z32:=fun x hx=>by simp [z32] at hx;omega
  have zd:List.drop 32 (cb z32)=[]:=cb_drop rfl
  have zt:List.take 32 (cb z32)=cb z32:=cb_take rfl
  by_cases h1:8<ps.length
  · refine ⟨z32,false,1,rfl,zb,.inr rfl,?_,fun h=>by omega,.inl ⟨by omega,rfl,rfl,rfl⟩⟩
    refine fna Tryz.func55 Tryz.ntmps55 (rs:=[.cell 2 23,.tmp 3,.tmp 4]) (leafV_deep _ _ _) ?_
    have i1:(8:Int)<(ps.length:Int):=by omega
    simp [go_sem,leafV,leafC,leaf33 hi,leaf32 hi,hs32,nb,i1,zd,zt,cb_len,resV]
    exact post_be rfl
  by_cases h2:1000<x.length
  · refine ⟨z32,false,1,rfl,zb,.inr rfl,?_,fun h=>by omega,.inl ⟨by omega,rfl,rfl,rfl⟩⟩
    refine fna Tryz.func55 Tryz.ntmps55 (rs:=[.cell 2 23,.tmp 3,.tmp 4]) (leafV_deep _ _ _) ?_
    have i1:¬ (8:Int)<(ps.length:Int):=by omega
    have i2:(1000:Int)<(x.length:Int):=by omega
    simp [go_sem,leafV,leafC,leaf33 hi,leaf32 hi,hs32,nb,i1,i2,zd,zt,cb_len,resV]
    exact post_be rfl
  refine ⟨k,o,e,hk,hkb,he,?_,fun _=>by omega,.inr ⟨by omega,hT⟩⟩
  refine fna Tryz.func55 Tryz.ntmps55 (rs:=[.cell 2 23,.tmp 3,.tmp 4]) (leafV_deep _ _ _) ?_
  have i1:¬ (8:Int)<(ps.length:Int):=by omega
  have i2:¬ (1000:Int)<(x.length:Int):=by omega
  simp [go_sem,leafV,leafC,leaf33 hi,leaf32 hi,hs32,nb,i1,i2,hi,leaf_take hi]
  refine cl_eq (by simpa only [leafC,hs32,nb] using f1) (by simpa only [leafV,leafC,hs32,nb] using leafV_deep inner ps x) ?_
  simp [go_sem,cb_len,hR,cb_take hR,zd]
  refine drw3 [0,1,2] [3,7,8,9] [0,1,2,4,5,6] (.step 3 [4,5,6] true (.step 7 [] false (.step 8 [] false (.step 9 [] false .done)))) ⟨[(2,.ptr 32 0 0 1),(3,.d (.bool o)),(4,.d (.int .i64 e))],[(32,⟨23,32,[cb k]⟩)],9000⟩ (k:=10) ?h3 ?hq
  case h3 =>
    intro G hG
    have hW:∀ (fr:Fr) (hp:Hp),(fv 2 fr=.ptr 32 0 0 1∧fv 3 fr=.d (.bool o)∧fv 4 fr=.d (.int .i64 e)∧lk 32 hp=some ⟨23,32,[cb k]⟩)→G fr hp:=by
      rintro fr hp ⟨q0,q1,q2,q3⟩
      exact hG _ _ wkA
    simp [go_sem,leafC,leaf33 hi,leaf32 hi,cb_len,hi,hR,hk,cb_take hi,cb_take hR,cb_take hk,zd,cb_takeA hi,SaW]
    repeat' first | exact hW _ _ ⟨rfl,rfl,rfl,rfl⟩ | (refine hW _ _ ?_;simp [fv,lk];done) | refine cl_snap f2 rfl (snap_cons (.deep (cb_deepA _)) (snap_cons (.one (snap1_d (snap_arr rfl trivial hR))) snap_nil)) (flat_be _ _ _) ?_ | apply And.intro | simp [go_sem,leafC,leaf33 hi,leaf32 hi,cb_len,hi,hR,hk,cb_take hi,cb_take hR,cb_take hk,zd,cb_takeA hi,SaW]
  case hq =>
    simp [go_sem,cb_len,hk,cb_take hk,resV]
    exact post_be rfl
theorem routput_no {inner x k:List Nat} {ps:List (List Nat)} {o:Bool} (hi:inner.length=32) (hk:k.length=32) (f:Rets Tryz.prog 55 [leafV inner ps x] (fun r=>r=.tup [.agg (cb k),.d (.bool o),.d (.int .i64 1)])) :
    Rets Tryz.prog 19 [leafV inner ps x] (fun r=>r=.tup [.d (nb []),.d (.int .i64 1)]):=by
  refine fna Tryz.func19 Tryz.ntmps19 (rs:=[.tmp 2,.tmp 3]) (leafV_deep _ _ _) ?_
  have zd:List.drop 32 (cb z32)=[]:=cb_drop rfl
  simp [go_sem,leafV,leafC,leaf33 hi,leaf32 hi,hs32,nb,hi,leaf_take hi]
  refine cl_eq f (leafV_deep _ _ _) ?_
  simp [go_sem,cb_len,hk,cb_take hk,zd,resV]
  exact post_bld0 rfl
theorem routput_ok {inner x k:List Nat} {ps:List (List Nat)} {o:Bool} (hi:inner.length=32) (hk:k.length=32) (f:Rets Tryz.prog 55 [leafV inner ps x] (fun r=>r=.tup [.agg (cb k),.d (.bool o),.d (.int .i64 0)])) :
    Rets Tryz.prog 19 [leafV inner ps x] (fun r=>r=.tup [.d (nb (81 :: 32 :: k)),.d (.int .i64 0)]):=by
  refine fna Tryz.func19 Tryz.ntmps19 (rs:=[.tmp 2,.tmp 3]) (leafV_deep _ _ _) ?_
  have zd:List.drop 32 (cb z32)=[]:=cb_drop rfl
  simp [go_sem,leafV,leafC,leaf33 hi,leaf32 hi,hs32,nb,hi,leaf_take hi]
  refine cl_eq f (leafV_deep _ _ _) ?_
  have hx1:=cb_rows hk
  simp [go_sem] at hx1
  simp [go_sem,cb_len,hk,cb_take hk,zd,hx1,rb_len,resV]
  have e:rb (81 :: 32 :: k)=[AV.d (.int .u8 81)] :: [AV.d (.int .u8 32)] :: rb k:=by simp [rb]
  have h34:(81 :: 32 :: k).length=34:=by simp [hk]
  exact post_bldn (L:=81 :: 32 :: k) h34 (by rw [e];rfl) (by simp [nb])
theorem beN_inj:∀ {a b:List Nat},a.length=b.length→bytes a→bytes b→beN a=beN b→a=b
  | [],[],_,_,_,_=>rfl
  | [],y :: s,h,_,_,_=>by simp at h
  | x :: r,[],h,_,_,_=>by simp at h
  | x :: r,y :: s,h,ha,hb,he=>by
    have hl:r.length=s.length:=by simpa using h
    rw [beN_cons,beN_cons,hl] at he
    have l1:beN r<256 ^ s.length:=by
      have:=fold_lt r (fun z hz=>ha z (List.mem_cons_of_mem _ hz)) 0
      rw [Nat.zero_add,Nat.one_mul,hl] at this
      exact this
    have l2:beN s<256 ^ s.length:=by
      have:=fold_lt s (fun z hz=>hb z (List.mem_cons_of_mem _ hz)) 0
      rw [Nat.zero_add,Nat.one_mul] at this
      exact this
    generalize 256 ^ s.length=P at *
    have hxy:x=y:=by
      have h1:=congrArg (· / P) he
      have h2:∀ u v:Nat,v<P→(u*P+v) / P=u:=fun u v hv=>by
        rw [Nat.mul_comm,Nat.mul_add_div (by omega),Nat.div_eq_of_lt hv,Nat.add_zero]
      simp only [h2 _ _ l1,h2 _ _ l2] at h1
      exact h1
    subst hxy
    rw [beN_inj hl (fun z hz=>ha z (List.mem_cons_of_mem _ hz)) (fun z hz=>hb z (List.mem_cons_of_mem _ hz)) (by omega)]
theorem turnR_uniq {n t:Nat} {k k':List Nat} {o o':Bool} {e e':Int} (h1:k.length=32) (h2:bytes k) (h1':k'.length=32) (h2':bytes k') (h:turnR n t k o e) (h':turnR n t k' o' e'):k=k'∧o=o'∧e=e':=by
  rcases h with ⟨a,rfl,rfl,rfl⟩ | ⟨a,rfl,x,y,hq,hk,ho⟩
  · rcases h' with ⟨_,rfl,rfl,rfl⟩ | ⟨b,_,x',y',hq',_,_⟩
    · exact ⟨rfl,rfl,rfl⟩
    · rcases a with a | a
      · exact absurd b a
      · rw [a] at hq';cases hq'
  · rcases h' with ⟨b,_,_,_⟩ | ⟨_,rfl,x',y',hq',hk',ho'⟩
    · rcases b with b | b
      · exact absurd a b
      · rw [b] at hq;cases hq
    · have e:=Option.some.inj (hq.symm.trans hq')
      injection e with ex ey
      subst ex ey
      refine ⟨beN_inj (by rw [h1,h1']) h2 h2' (by rw [hk,hk']),?_,rfl⟩
      cases o <;> cases o'
      · rfl
      · exact absurd (ho.2 (ho'.1 rfl)) (by decide)
      · exact absurd (ho'.2 (ho.1 rfl)) (by decide)
      · rfl
theorem leafTurn_uniq {inner:List Nat} {ps:List (List Nat)} {x k k':List Nat} {o o':Bool} {e e':Int} (h1:k.length=32) (h2:bytes k) (h1':k'.length=32) (h2':bytes k') (h:leafTurn inner ps x k o e) (h':leafTurn inner ps x k' o' e'):k=k'∧o=o'∧e=e':=by
  rcases h with ⟨a,rfl,rfl,rfl⟩ | ⟨a,h⟩
  · rcases h' with ⟨_,rfl,rfl,rfl⟩ | ⟨b,_⟩
    · exact ⟨rfl,rfl,rfl⟩
    · exact absurd b a
  · rcases h' with ⟨b,_⟩ | ⟨_,h'⟩
    · exact absurd a b
    · exact turnR_uniq h1 h2 h1' h2' h h'
theorem arg_oneR {n:Nat} {t:TypeId} {a:AV} {k:TypeDesc} (hu:Tryz.prog.underlying t=some k) (hk:∀ fs,k ≠ .struct fs) (hk2:∀ m e,k ≠ .array m e) (h:ArgTy Tryz.prog n t a):∃ d,a=.d d∧TyD Tryz.prog n t [d]:=by
  unfold ArgTy at h
  rw [hu] at h
  cases k <;> first | exact h | exact absurd rfl (hk _) | exact absurd rfl (hk2 _ _)
end Go.Proofs.YtldccnbokbieiaaGreat
