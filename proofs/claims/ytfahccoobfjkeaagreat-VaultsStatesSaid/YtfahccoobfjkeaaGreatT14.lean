/-
  Part 15 of what the claim rests on.
-/
import Derived.Test.YtfahccoobfjkeaaGreatT13
set_option linter.unusedVariables false
set_option linter.unusedSimpArgs false
set_option maxRecDepth 100000
set_option maxHeartbeats 16000000
namespace Go.Proofs.YtfahccoobfjkeaaGreat
open Go.Am Go.Sha Go.Ec
theorem vxP_weak {W:List Wt} {E:List En} {B:Nat→List En} {m t nx N:Nat} {hp P:Hp} (hm:m≤24) (hN:27≤N) (hP:∀ p,p ∈ P→(lk p.1 hp=some p.2 ∨ (nx≤p.1∧p.2.es=[]))∧p.1<N∧∀ r,r ∈ p.2.es→∀ v,v ∈ r→v.low1 N) (h:∀ j,j<27→lk j hp=some (vxB W E B m t id j)) :
    ∀ p,p ∈ P ++ vxI W E B m t→(lk p.1 hp=some p.2 ∨ (nx≤p.1∧p.2.es=[]))∧p.1<N∧∀ r,r ∈ p.2.es→∀ v,v ∈ r→v.low1 N:=by
  intro p hp'
  rcases List.mem_append.1 hp' with h' | h'
  · exact hP p h'
  · exact vxI_weak hm hN h p h'
def z0:List Nat:=List.replicate 32 0
def outK (o:Nat × List Nat):Blk:=⟨88,2,[[.d (.int .u64 (o.1:Int)),.d (nb o.2)]]⟩
def ent0 (k v:Nat):En:=⟨z0,0,v,k,1,0,z0⟩
def entG (k:Nat) (o:Nat × List Nat) (L:List Bg):Option En:=(L.find? fun b=>decide (b.pl=k) && decide (b.o=some o.2)).map fun b=>⟨z0,0,o.1,k,2,0,b.t⟩
theorem entG_skip {k:Nat} {o:Nat × List Nat} {b:Bg} {L:List Bg} (h:¬ (b.pl=k∧b.o=some o.2)):entG k o (b :: L)=entG k o L:=by
  unfold entG
  rw [List.find?_cons_of_neg (by simp;exact fun a=>by simpa using fun c=>h ⟨a,c⟩)]
theorem entG_hit {k:Nat} {o:Nat × List Nat} {b:Bg} {L:List Bg} (h:b.pl=k∧b.o=some o.2):entG k o (b :: L)=some ⟨z0,0,o.1,k,2,0,b.t⟩:=by
  unfold entG
  rw [List.find?_cons_of_pos (by simp [h.1,h.2])]
  rfl
def enB (r:List AV):Blk:=⟨28,69,[r]⟩
theorem entH_weak {W:List Wt} {E:List En} {B:Nat→List En} {m t nx N:Nat} {o:Nat × List Nat} {L:List Bg} {hp:Hp} {e:En} (hm:m≤24) (hN:300≤N) (h1:lk 253 hp=some (enB (enR e))) (h2:lk 61 hp=some (enB zEc)) (h3:lk 29 hp=some (outK o)) (h4:lk 27 hp=some (bgB L)) (h:∀ j,j<27→lk j hp=some (vxB W E B m t id j)) :
    ∀ p,p ∈ (253,enB (enR e)) :: (61,enB zEc) :: (29,outK o) :: (27,bgB L) :: vxI W E B m t→(lk p.1 hp=some p.2 ∨ (nx≤p.1∧p.2.es=[]))∧p.1<N∧∀ r,r ∈ p.2.es→∀ v,v ∈ r→v.low1 N:=by
  refine vxP_weak (P:=[(253,enB (enR e)),(61,enB zEc),(29,outK o),(27,bgB L)]) hm (by omega) ?_ h
  intro p hp'
  simp only [List.mem_cons,List.mem_nil_iff,or_false] at hp'
  rcases hp' with rfl | rfl | rfl | rfl
  · refine ⟨.inl h1,by show 253<N;omega,?_⟩
    intro r hr
    simp only [enB,List.mem_cons,List.mem_nil_iff,or_false] at hr
    subst hr
    exact enR_low _ _
  · refine ⟨.inl h2,by show 61<N;omega,?_⟩
    intro r hr
    simp only [enB,List.mem_cons,List.mem_nil_iff,or_false] at hr
    subst hr
    exact enR_low N ⟨z0,0,0,0,0,0,z0⟩
  · refine ⟨.inl h3,by show 29<N;omega,?_⟩
    intro r hr v hv
    simp only [outK,List.mem_cons,List.mem_nil_iff,or_false] at hr
    subst hr
    simp at hv
    rcases hv with rfl | rfl <;> trivial
  · exact ⟨.inl h4,by show 27<N;omega,bgB_low _ _⟩
theorem entry_fn (W:List Wt) (E:List En) (B:Nat→List En) (m t k:Nat) (o:Nat × List Nat) (L:List Bg) (hW:∀ w,w ∈ W→w.ok) (hWn:W.length≤8) (hk:k<W.length) (hL:∀ b,b ∈ L→Bg.okB b) (hLn:L.length≤10000000) (hv:o.1<18446744073709551616) (hb:bytes o.2) (hm:m≤24) :
    RetsE Tryz.prog 68 28 ((27,bgB L) :: vxI W E B m t) [.ptr 0 0 0 1,.d (.int .i64 (k:Int)),.agg [.d (.int .u64 (o.1:Int)),.d (nb o.2)],.own 27 0 L.length L.length]
      (fun r hp'=>r=.tup [.agg ((entV W k o L).elim zEc enR),.d (.bool (entV W k o L).isSome)]∧lk 27 hp'=some (bgB L)∧∀ j,j<27→lk j hp'=some (vxB W E B m t id j)):=by
  refine fnE_of_awp Tryz.func68 (by kernel_rfl) rfl Tryz.ntmps68 (rs:=[.cell 8 28,.tmp 9]) rfl (nlb rfl) (by decide) ?_
  have wat:=atW_get hk
  have wok:=hW _ (atW_mem hk)
  have w66:=wtC_e66 wok
  have wl:=wtC_len wok
  have w66g:∀ hl:66<(wtC (atW W k)).length,(wtC (atW W k))[66]=.d (nb (atW W k).out):=fun hl=>Option.some.inj ((List.getElem?_eq_getElem hl).symm.trans w66)
  have hob:bytes (atW W k).out:=wok.2.2.2.2.2.2.2.2.1
  have heq:=equal_fn o.2 (atW W k).out hb hob
  have hdq:∀ v,v ∈ [AV.d (nb o.2),AV.d (nb (atW W k).out)]→v.deep:=(by simp [AV.deep,AV.deep1])
  have row0:List.take 35 (List.take 34 (List.take 33 zEc ++ AV.d (DV.int IntKind.u64 (o.1:Int)) :: List.drop 34 zEc) ++ AV.d (DV.int IntKind.i64 (k:Int)) :: List.drop 35 (List.take 33 zEc ++ AV.d (DV.int IntKind.u64 (o.1:Int)) :: List.drop 34 zEc)) ++
      AV.d (DV.int IntKind.i64 1) :: (List.drop 36 (List.take 34 (List.take 33 zEc ++ AV.d (DV.int IntKind.u64 (o.1:Int)) :: List.drop 34 zEc) ++ AV.d (DV.int IntKind.i64 (k:Int)) :: List.drop 35 (List.take 33 zEc ++ AV.d (DV.int IntKind.u64 (o.1:Int)) :: List.drop 34 zEc)) ++ List.drop 69 zEc)=enR (ent0 k o.1):=rfl
  have zd:List.drop 69 zEc=[]:=rfl
  have row0':=row0
  rw [zd] at row0'
  have rl:(enR (ent0 k o.1)).length=69:=rfl
  have rt:List.take 69 (enR (ent0 k o.1))=enR (ent0 k o.1):=rfl
  have eV:entV W k o L=if o.2=(atW W k).out then some (ent0 k o.1) else entG k o L:=rfl
  simp [go_sem,vxI,vxB,zEc_len,wat,wl,w66,w66g,wtD_map]
  simp only [row0,row0',List.append_nil] at *
  refine drw2 [0,1,2,3,4,5,6,7,8,9] [(10,[])] 0 (k:=11) ?_
  intro G hG
  simp [go_sem,wat,wl,w66,w66g,wtD_map]
  refine cl_eq heq hdq ?_
  simp [go_sem]
  refine hG _ _ ?_
  clear hG G
  simp [go_sem]
  refine ⟨fun h1=>?_,fun h1=>?_⟩
  · simp [go_sem,h1,zEc_len,resV,rl,rt,eV,zd]
    intro j hj
    match j,hj with
    | 0,_=>simp
    | 1,_=>simp
    | 2,_=>simp
    | j+3,hj =>
      rw [if_neg (by omega),if_neg (by omega),if_neg (by omega),if_neg (by omega),if_neg (by omega),if_neg (by omega),if_neg (by omega),vxT_lk (by omega)]
  · have eV2:entV W k o L=entG k o L:=by rw [eV,if_neg h1]
    rw [eV2]
    simp [go_sem,h1]
    refine loop_of (fun j:Nat=>⟨[(0,.ptr 0 0 0 1),(1,.d (.int .i64 (k:Int))),(6,.ptr 29 0 0 1),(8,.ptr 61 0 0 1),(9,.d (.bool false)),(10,.ptr 253 0 0 1),(29,.own 27 0 L.length L.length),(30,.d (.int .i64 (L.length:Int))),(31,.d (.int .i64 (j:Int)))],(253,enB (enR (ent0 k o.1))) :: (61,enB zEc) :: (29,outK o) :: (27,bgB L) :: vxI W E B m t,3000⟩)
      (fun j=>j≤L.length∧entG k o L=entG k o (L.drop j)) (fun j=>L.length - j) 0 ⟨by omega,by simp⟩ ⟨by simp [slotOk,fv,lk,AV.low,AV.low1,bgB],entH_weak hm (nlb rfl) rfl rfl rfl rfl (fun j hj=>vxI_lk5 (by omega) (by omega) (by omega) (by omega) hj),by simp⟩ ?_
    rintro j ⟨hj,hG⟩
    simp only [vxI,vxB,outK,enB]
    simp only [go_sem,Nat.reduceEqDiff,Nat.reduceAdd,Nat.reduceLT,↓reduceIte,Nat.reduceMul]
    refine ⟨fun hlt=>?_,fun hlt=>?_⟩
    · obtain ⟨b,hb1,hd⟩:=drop_of (l:=L) (k:=j) (by omega)
      have bok:=hL b (List.mem_of_getElem? hb1)
      have w3:=next_i64 (k:=j) (by omega)
      have b32:=bok.1
      have hLj:∀ h:j<L.length,L[j]=b:=fun h=>Option.some.inj ((List.getElem?_eq_getElem h).symm.trans hb1)
      have bl:=bgR_len bok.1
      have bt:List.take 34 (bgR b)=bgR b:=List.take_of_length_le (Nat.le_of_eq bl)
      have bh:(bgR b).head?=some (.d (.int .i64 (b.pl:Int))):=rfl
      have hjl:j<L.length:=by omega
      have b0:(bgR b)[0]?=some (.d (.int .i64 (b.pl:Int))):=rfl
      have b33:(bgR b)[33]?=some (match b.o with | none=>.nil | some a=>.d (nb a)):=by
        unfold bgR
        rw [List.getElem?_cons_succ,List.getElem?_append_right (by rw [cb_len];omega),cb_len,bok.1];rfl
      have b33g:∀ hl:33<(bgR b).length,(bgR b)[33]=(match b.o with | none=>.nil | some a=>.d (nb a)):=fun hl=>Option.some.inj ((List.getElem?_eq_getElem hl).symm.trans b33)
      have b0g:∀ hl:0<(bgR b).length,(bgR b)[0]=.d (.int .i64 (b.pl:Int)):=fun hl=>rfl
      have zb2:zBg.length=34:=rfl
      have zb4:List.drop 34 zBg=[]:=rfl
      have hNX:entG k o L=entG k o (L.drop (j+1))→∀ (fr:Fr) (nx:Nat) (bx:Blk),(fv 0 fr=.ptr 0 0 0 1∧fv 1 fr=.d (.int .i64 (k:Int))∧fv 6 fr=.ptr 29 0 0 1∧fv 8 fr=.ptr 61 0 0 1∧fv 9 fr=.d (.bool false)∧fv 10 fr=.ptr 253 0 0 1∧fv 29 fr=.own 27 0 L.length L.length∧fv 30 fr=.d (.int .i64 (L.length:Int))∧fv 31 fr=.d (.int .i64 ((j+1:Nat):Int))∧nx ≥ 64) →
          Weak ⟨fr,(3096,bx) :: (253,enB (enR (ent0 k o.1))) :: (61,enB zEc) :: (29,outK o) :: (27,bgB L) :: vxI W E B m t,nx⟩ ⟨[(0,.ptr 0 0 0 1),(1,.d (.int .i64 (k:Int))),(6,.ptr 29 0 0 1),(8,.ptr 61 0 0 1),(9,.d (.bool false)),(10,.ptr 253 0 0 1),(29,.own 27 0 L.length L.length),(30,.d (.int .i64 (L.length:Int))),(31,.d (.int .i64 ((j+1:Nat):Int)))],(253,enB (enR (ent0 k o.1))) :: (61,enB zEc) :: (29,outK o) :: (27,bgB L) :: vxI W E B m t,3000⟩:=by
        rintro hn fr nx bx ⟨q0,q1,q2,q3,q4,q5,q6,q7,q8,q9⟩
        exact ⟨by simp [slotOk,AV.low,AV.low1,q0,q1,q2,q3,q4,q5,q6,q7,q8],entH_weak hm (nlb rfl) rfl rfl rfl rfl (fun j hj=>vxI_lk6 (by omega) (by omega) (by omega) (by omega) (by omega) hj),by simp⟩
      by_cases c1:b.pl=k
      · cases ho:b.o with
        | none =>
          rw [ho] at b33 b33g
          have hn:entG k o L=entG k o (L.drop (j+1)):=by rw [hG,hd,entG_skip (by rw [ho];simp)]
          simp [go_sem,hb1,bl,bt,b0,b0g,b33,b33g,zBg_z,zb2,zb4,bgB,bh,hjl,hLj,c1,w3]
          refine next_of (j+1) ⟨by omega,hn⟩ (by omega) ?_
          refine hNX hn _ _ _ ?_
          simp [fv,lk]
        | some a =>
          rw [ho] at b33 b33g
          have ha0:¬ a=[]:=by intro h0;have:=(bok.2 a ho).1;rw [h0] at this;simp at this
          have heq2:=equal_fn o.2 a hb (bok.2 a ho).2
          have hdq2:∀ v,v ∈ [AV.d (nb o.2),AV.d (nb a)]→v.deep:=(by simp [AV.deep,AV.deep1])
          by_cases c2:o.2=a
          · have hn:entG k o L=some ⟨z0,0,o.1,k,2,0,b.t⟩:=by rw [hG,hd,entG_hit ⟨c1,by rw [ho,c2]⟩]
            simp [go_sem,hb1,bl,bt,b0,b0g,b33,b33g,zBg_z,zb2,zb4,bgB,bh,hjl,hLj,c1,nb,ha0]
            refine cl_eq heq2 hdq2 ?_
            simp [go_sem,c2]
            have bt1:List.take 32 (List.drop 1 (bgR b))=cb b.t:=by
              show List.take 32 (cb b.t ++ _)=_
              rw [List.take_append_of_le_length (by rw [cb_len];omega),List.take_of_length_le (by rw [cb_len];omega)]
            have btl:(cb b.t).length=32:=by rw [cb_len,b32]
            refine drw3 [2] [0,1,3,4,5] [2] (.alt (.step 0 [] true (.alt (.step 1 [] true (.step 3 [] false (.step 4 [] false (.step 5 [] false .done)))) (.step 3 [] false (.step 1 [] false (.step 4 [] false (.step 5 [] false .done)))))) (.step 3 [] false (.step 0 [] false (.step 1 [] false (.step 4 [] false (.step 5 [] false .done)))))) ⟨[(0,.ptr 0 0 0 1),(8,.ptr 61 0 0 1),(9,.d (.bool false)),(10,.ptr 253 0 0 1)],(253,enB (enR ⟨z0,0,o.1,k,2,0,b.t⟩)) :: (61,enB zEc) :: (29,outK o) :: (27,bgB L) :: vxI W E B m t,9000⟩ (k:=6) ?h3 ?hq
            case h3 =>
              intro G hG
              have bt2:List.take 32 (bgR b).tail=cb b.t:=bt1
              have d69:List.drop 69 ((enR (ent0 k o.1)).set 35 (AV.d (DV.int IntKind.i64 2)))=[]:=rfl
              have rowp:List.take 37 ((enR (ent0 k o.1)).set 35 (AV.d (DV.int IntKind.i64 2))) ++ cb b.t=enR ⟨z0,0,o.1,k,2,0,b.t⟩:=rfl
              simp [go_sem,bl,bt,bt1,bt2,btl,rl,d69,rowp]
              refine hG _ _ (weak_wk ⟨?_,?_,by simp⟩)
              · simp [slotOk,fv,lk,AV.low,AV.low1]
              · exact entH_weak (o:=o) (L:=L) (e:=⟨z0,0,o.1,k,2,0,b.t⟩) hm (nlb rfl) rfl rfl (by simp [lk,outK,c2,nb]) rfl (fun j hj=>vxI_lk6 (by omega) (by omega) (by omega) (by omega) (by omega) hj)
            case hq =>
              have rl2:(enR ⟨z0,0,o.1,k,2,0,b.t⟩).length=69:=enC_len (by rfl) b32 _ _ _ _ _
              have rt2:List.take 69 (enR ⟨z0,0,o.1,k,2,0,b.t⟩)=enR ⟨z0,0,o.1,k,2,0,b.t⟩:=List.take_of_length_le (Nat.le_of_eq rl2)
              simp only [vxI,vxB,enB,outK]
              simp [go_sem,zEc_len,resV,rl2,rt2,zd,hn]
              refine ⟨rfl,?_⟩
              intro j hj
              match j,hj with
              | 0,_=>simp
              | 1,_=>simp
              | 2,_=>simp
              | j+3,hj =>
                rw [if_neg (by omega),if_neg (by omega),if_neg (by omega),if_neg (by omega),if_neg (by omega),if_neg (by omega),if_neg (by omega),vxT_lk (by omega)]
          · have hn:entG k o L=entG k o (L.drop (j+1)):=by rw [hG,hd,entG_skip (by rw [ho];simp;exact fun _ h=>c2 h.symm)]
            simp [go_sem,hb1,bl,bt,b0,b0g,b33,b33g,zBg_z,zb2,zb4,bgB,bh,hjl,hLj,c1,nb,ha0]
            refine cl_eq heq2 hdq2 ?_
            simp [go_sem,c2,w3]
            refine next_of (j+1) ⟨by omega,hn⟩ (by omega) ?_
            refine hNX hn _ _ _ ?_
            simp [fv,lk]
      · have c1':¬ (b.pl:Int)=(k:Int):=by omega
        have hn:entG k o L=entG k o (L.drop (j+1)):=by rw [hG,hd,entG_skip (by simp [c1])]
        simp [go_sem,hb1,bl,bt,b0,b0g,b33,b33g,zBg_z,zb2,zb4,bgB,bh,hjl,hLj,c1,c1',w3]
        refine next_of (j+1) ⟨by omega,hn⟩ (by omega) ?_
        refine hNX hn _ _ _ ?_
        simp [fv,lk]
    · have hj2:j=L.length:=by omega
      subst hj2
      have hn:entG k o L=none:=by rw [hG,List.drop_length];rfl
      have hf:∀ (f:Nat × TypeId),f ∈ [(0,25),(33,26),(34,3),(35,3),(36,23),(37,22)]→¬ Tryz.prog.cellsOf f.snd=0:=by
        intro f hf
        simp at hf
        rcases hf with rfl | rfl | rfl | rfl | rfl | rfl <;> simp [go_sem]
      simp [go_sem,zEc_len,zEc_take,zEc_drop,resV,hn]
      intro j hj
      match j,hj with
      | 0,_=>simp
      | 1,_=>simp
      | 2,_=>simp
      | j+3,hj =>
        rw [if_neg (by omega),if_neg (by omega),if_neg (by omega),if_neg (by omega),if_neg (by omega),if_neg (by omega),if_neg (by omega),vxT_lk (by omega)]
end Go.Proofs.YtfahccoobfjkeaaGreat
namespace Go.Sha
def dblB (b:List Nat):List Nat:=sumB (sumB b)
end Go.Sha
namespace Go.Proofs.YtfahccoobfjkeaaGreat
open Go.Am Go.Sha Go.Ec
theorem dblB_len (b:List Nat):(dblB b).length=32:=sumB_len _
theorem double_fn (b:List Nat) (hb:b.length≤1000000):Rets Tryz.prog 53 [.d (nb b)] (fun r=>r=.agg (cb (dblB b))):=by
  refine fna Tryz.func53 Tryz.ntmps53 (rs:=[.cell 2 22]) (by simp [AV.deep,AV.deep1]) ?_
  simp [go_sem]
  refine cl_eq (shasum_fn b (by omega)) (by simp [AV.deep,AV.deep1]) ?_
  have hl:=sumB_len b
  unfold dblB
  generalize sumB b=s at *
  have hz:(cb z32).drop 32=[]:=rfl
  simp [go_sem,cb_len,hl,hz]
  refine cl_froz [96] (shasum_fn s (by omega)) rfl (snap_cons (.one (snap1_d (snap_arr rfl (by simp) hl))) snap_nil) ?_
  have hl2:=sumB_len s
  generalize sumB s=s2 at *
  have ht:(cb s2).take 32=cb s2:=List.take_of_length_le (by rw [cb_len];omega)
  simp [go_sem,dropH,cb_len,hl2,hz,ht,resV]
  exact post_same (cb_deepA _) rfl
def nameT (t:Tn):List Nat:=if checkT t ≠ 0 then z0 else dblB (bareB t)
theorem nameT_len (t:Tn):(nameT t).length=32:=by
  unfold nameT
  split
  · rfl
  · exact dblB_len _
theorem z0_z32:z0=z32:=rfl
theorem nameT_fn (t:Tn) (ht:Sm t):Rets Tryz.prog 32 [.agg (eT t)] (fun r=>r=.agg (cb (nameT t))):=by
  refine fna Tryz.func32 Tryz.ntmps32 (rs:=[.cell 2 22]) (one_eT t) ?_
  have hbl:=bareB_len ht
  have zd:List.drop 32 (cb z32)=[]:=rfl
  simp [go_sem,eT]
  refine cl_eq (checkT_fn t ht) (one_eT t) ?_
  unfold nameT
  by_cases h0:checkT t=0
  · rw [h0]
    simp [go_sem]
    refine cl_eq (bare_fn t ht) (one_eT t) ?_
    simp [go_sem]
    refine cl_eq (double_fn (bareB t) (by omega)) (by simp [AV.deep,AV.deep1]) ?_
    have hl:=dblB_len (bareB t)
    generalize dblB (bareB t)=s at *
    simp [go_sem,cb_len,hl,cb_take hl,zd,resV]
    exact post_same (cb_deepA _) rfl
  · simp [go_sem,h0,cb_len,zd,cb_take (l:=z32) rfl,resV,z0_z32]
    exact post_same (cb_deepA _) rfl
end Go.Proofs.YtfahccoobfjkeaaGreat
namespace Go.Am
section
variable {P:Program}
theorem rel_keep {c:Ctx} {hp hp2:Hp} {U:Nat→Prop} {σ:Nat→Option Nat} {w:World} (hlk:∀ i b,lk i hp2=some b→lk i hp=some b) (hr:Rel c hp U σ w) :
    Rel c hp2 U σ w∧Step w (Sof c w σ hp) σ hp U w (Sof c w σ hp2) σ hp2 U:=by
  have hst:Step w (Sof c w σ hp) σ hp U w (Sof c w σ hp2) σ hp2 U :=
    ⟨fun b h=>⟨⟨h.1.1,fun id blk g hk hg=>h.1.2 id blk g (hlk _ _ hk) hg⟩,h.2⟩,fun _ _=>rfl,fun _ h=>h,fun id b' _ h=>⟨b',hlk _ _ h,rfl,rfl,Nat.le_refl _,fun _ g hg=>⟨hg,fun _ h=>h⟩⟩⟩
  refine ⟨⟨fun i j bi bj g hi hj=>hr.inj i j bi bj g (hlk _ _ hi) (hlk _ _ hj),fun i b h=>hr.lt i b (hlk _ _ h),fun i b h=>?_,fun i b g h=>hr.mine i b g (hlk _ _ h),hr.os,hr.tape,hr.output,hr.size,hr.old⟩,hst⟩
  rcases hr.blk i b (hlk _ _ h) with k | ⟨g,k1,k2⟩
  · exact .inl k
  · exact .inr ⟨g,k1,k2.step hst rfl⟩
theorem callsA_keep {g:FuncId} {args:List AV} {hp:Hp} {N:Nat} {K K':AV→Hp→Prop} (h:CallsA P g args hp N K') (hk:∀ r hp',K' r hp'→∃ hp2,(∀ i b,lk i hp2=some b→lk i hp'=some b)∧K r hp2):CallsA P g args hp N K:=by
  refine ⟨h.1,fun c U σ w vs hr hN hl hv=>(h.2 c U σ w vs hr hN hl hv).mono fun e w' he=>?_⟩
  obtain ⟨x,rfl,v,hp',σ',k1,k2,k3,k4⟩:=he
  obtain ⟨hp2,q1,q2⟩:=hk v hp' k1
  obtain ⟨r1,r2⟩:=rel_keep q1 k2
  exact ⟨x,rfl,v,hp2,σ',q2,r1,k3.trans r2,k4.step r2⟩
theorem callsA_ob {n:Nat} {N:Nat} {hp:Hp} {g:FuncId} {args args0:List AV} {K:AV→Hp→Prop} {Q:AV→Hp→Prop} {hp0:Hp} {b0:Nat→Blk} (f:Nat→Nat) (h:RetsE P g n hp0 args0 Q) (h0:∀ i b,lk i hp0=some b→i<n∧b=b0 i) (hf:InjN n f) (hN:∀ i,i<n→f i<N)
    (hb:∀ i,i<n→∃ b,lk (f i) hp=some b∧b.e ≠ 0∧b0 i=b.ren (rho (prF n f id) n))
    (ha:args0=AV.renL (rho (prF n f id) n) args) (news:List (Nat × Nat)) (hn:newsB (prF n id f) news=true)
    (hK:∀ r hp',Q r hp'→∀ hpX,(∀ i,i<n→∀ b,lk i hp'=some b→lk (f i) hpX=some (b.ren (roO n f news N)))→(∀ c j,(c,j) ∈ news→∀ b,lk c hp'=some b→lk (N+j) hpX=some (b.ren (roO n f news N))) →
      (∀ y,y<N→(∀ i,i<n→f i ≠ y)→lk y hpX=lk y hp)→∃ hp2,(∀ i b,lk i hp2=some b→lk i hpX=some b)∧K (r.ren (roO n f news N)) hp2):ClW P g args hp N K:=by
  refine .inl (callsA_keep (K':=fun v hpX=>∃ hp2,(∀ i b,lk i hp2=some b→lk i hpX=some b)∧K v hp2) ?_ fun r hp' hq=>hq)
  refine callsA_eff (prF n id f) h (prF_B (injN_id n) hf) ?_ ?_ ?_ ?_ ?_
  · intro p hp1
    obtain ⟨i,hi,rfl⟩:=mem_prF.1 hp1
    exact hi
  · intro p hp1
    obtain ⟨i,hi,rfl⟩:=mem_prF.1 hp1
    obtain ⟨b,q1,q2,_⟩:=hb i hi
    exact ⟨b,q1,q2⟩
  · intro i b1 hi
    obtain ⟨hj,rfl⟩:=h0 i b1 hi
    obtain ⟨b,q1,q2,q3⟩:=hb i hj
    exact ⟨f i,b,lk_prF f (injN_id n) hj,q1,by rw [swp_prF];exact q3⟩
  · rw [swp_prF];exact ha
  · intro r hp' hQ
    refine ⟨news,hn,hK r hp' hQ _ (fun i hi b hl=>?_) (fun c j hm b hl=>?_) (fun y hy hz=>?_)⟩
    · exact outH_at hn hf hN (List.mem_append_left _ (mem_prF.2 ⟨i,hi,rfl⟩)) hl
    · exact outH_at hn hf hN (List.mem_append_right _ (List.mem_map.2 ⟨(c,j),hm,rfl⟩)) hl
    · exact outH_el hN hy hz
end
end Go.Am
namespace Go.Proofs.YtfahccoobfjkeaaGreat
open Go.Am Go.Sha Go.Ec
theorem bgR_ren (ρ:Nat→Nat) (b:Bg):AV.renL ρ (bgR b)=bgR b:=by
  unfold bgR
  cases b.o <;> simp [AV.renL,renL_apV,cb_ren,AV.ren]
theorem bgB_ren (ρ:Nat→Nat) (L:List Bg):(bgB L).ren ρ=bgB L:=by
  simp only [bgB,Blk.ren,renR,List.map_map]
  congr 1
  exact List.map_congr_left fun e _=>bgR_ren ρ e
theorem cIp_ren (ρ:Nat→Nat) (i:Ip):AV.renL ρ (cIp i)=cIp i:=by
  unfold cIp
  rw [renL_apV,cb_ren];rfl
section
variable {PO:Wt→List Nat→Option (List Nat)} {EN:Wt→En→List (List Nat)→Int}
theorem cl_spend (hPO:HPO PO) (hEN:HEN EN) {W:List Wt} {E:List En} {B:Nat→List En} {m t:Nat} {i:Ip} {h:Nat} (hW:∀ w,w ∈ W→w.ok) (hWn:W.length≤8) (hE:∀ e,e ∈ E→e.ok W.length) (hEn:E.length≤100000)
    (hi:i.ok) (hwn:i.wit.length≤1000) (hwl:∀ x,x ∈ i.wit→x.length≤100000) (hwb:∀ x,x ∈ i.wit→bytes x) (hh:h<4294967296) (hm:m≤24)
    {hp:Hp} {N:Nat} {K:AV→Hp→Prop} (hN:27≤N) (hx:∀ j,j<27→lk j hp=some (vxB W E B m t id j))
    (hK:∀ hpX,lk N hpX=some (bgB (spendL PO EN W i E))→(∀ j,j<27→lk j hpX=some (vxB W (E.map (stepE EN W i h)) B m t id j))→(∀ y,y<N→27≤y→lk y hpX=lk y hp)→K (.own N 0 (spendL PO EN W i E).length (spendL PO EN W i E).length) hpX) :
    ClW Tryz.prog 67 [.ptr 0 0 0 1,.agg (cIp i),.d (.int .u32 (h:Int))] hp N K:=by
  have hid:∀ j,j<27→rho (prF 27 id id) 27 j=j:=fun j hj=>rho_prF id 27 (injN_id 27) hj
  have hnw:newsB (prF 27 id id) [(5000,0)]=true:=by decide
  refine cl_ob (n:=27) (b0:=vxB W E B m t id) id (spend_fn hPO hEN W E B m t i h hW hWn hE hEn hi hwn hwl hwb hh hm) (fun j b hj=>vxI_is j b hj) (injN_id 27) (fun j hj=>by show j<N;omega)
    (fun j hj=>⟨_,hx j hj,vxB_e _ _ _ _ _ _ _,(vxB_ren hm hid j).symm⟩) ?_ [(5000,0)] hnw ?_
  · simp only [AV.renL,AV.ren,hid 0 (by omega),cIp_ren]
  · rintro r hp' ⟨rfl,h5,hj⟩ hpX q1 q2 q3
    have hro:∀ j,j<27→roO 27 id [(5000,0)] N (id j)=id j:=fun j hj=>roO_of hnw hj
    have h50:roO 27 id [(5000,0)] N 5000=N:=roO_new (c:=5000) (j:=0) hnw (by simp)
    simp only [AV.ren,h50]
    refine hK hpX ?_ (fun j hj'=>?_) (fun y hy hy2=>q3 y hy (fun i hi=>by show i ≠ y;omega))
    · have:=q2 5000 0 (by simp) _ h5
      rw [bgB_ren] at this
      exact this
    · have:=q1 j hj' _ (hj j hj')
      rw [vxB_ren hm hro] at this
      exact this
theorem zEc_ren (ρ:Nat→Nat):AV.renL ρ zEc=zEc:=by
  unfold zEc
  rw [renL_apV,renL_apV,cb_ren];rfl
theorem cl_entry {W:List Wt} {E:List En} {B:Nat→List En} {m t k:Nat} {o:Nat × List Nat} {L:List Bg} (hW:∀ w,w ∈ W→w.ok) (hWn:W.length≤8) (hk:k<W.length) (hL:∀ b,b ∈ L→Bg.okB b) (hLn:L.length≤10000000) (hv:o.1<18446744073709551616) (hb:bytes o.2) (hm:m≤24)
    {hp:Hp} {N c:Nat} {K:AV→Hp→Prop} (hc:27≤c) (hN:c<N) (hx:∀ j,j<27→lk j hp=some (vxB W E B m t id j)) (hxc:lk c hp=some (bgB L))
    (hK:∀ hpX,lk c hpX=some (bgB L)→(∀ j,j<27→lk j hpX=some (vxB W E B m t id j))→(∀ y,y<N→27≤y→lk y hpX=lk y hp)→∃ hp2,(∀ i b,lk i hp2=some b→lk i hpX=some b)∧K (.tup [.agg ((entV W k o L).elim zEc enR),.d (.bool (entV W k o L).isSome)]) hp2) :
    ClW Tryz.prog 68 [.ptr 0 0 0 1,.d (.int .i64 (k:Int)),.agg [.d (.int .u64 (o.1:Int)),.d (nb o.2)],.own c 0 L.length L.length] hp N K:=by
  let f:Nat→Nat:=fun i=>if i=27 then c else i
  have f27:f 27=c:=by simp [f]
  have fj:∀ j,j<27→f j=j:=fun j hj=>by simp only [f];rw [if_neg (by omega)]
  have hf:InjN 28 f:=by
    intro a b ha hb' e
    simp only [f] at e
    split at e <;> split at e <;> omega
  have hid:∀ j,j<28→rho (prF 28 f id) 28 (f j)=j:=fun j hj=>rho_prF id 28 hf hj
  have hid7:∀ j,j<27→rho (prF 28 f id) 28 (id j)=id j:=fun j hj=>by have:=hid j (by omega);rw [fj j hj] at this;exact this
  have hnw:newsB (prF 28 id f) []=true:=rfl
  have h0:∀ i b,lk i ((27,bgB L) :: vxI W E B m t)=some b→i<28∧b=(fun i=>if i=27 then bgB L else vxB W E B m t id i) i:=by
    intro i b hi
    simp only [lk] at hi
    split at hi
    · rename_i e;subst e;exact ⟨by omega,by simpa using (Option.some.inj hi).symm⟩
    · rename_i e
      obtain ⟨q1,q2⟩:=vxI_is i b hi
      exact ⟨by omega,by simp only;rw [if_neg (fun e'=>e e'.symm)];exact q2⟩
  refine callsA_ob (n:=28) f (entry_fn W E B m t k o L hW hWn hk hL hLn hv hb hm) h0 hf (fun j hj=>by simp only [f];split <;> omega) ?_ ?_ [] hnw ?_
  · intro j hj
    by_cases e:j=27
    · subst e
      refine ⟨bgB L,by rw [f27];exact hxc,by simp [bgB],?_⟩
      rw [bgB_ren];simp
    · have hj':j<27:=by omega
      refine ⟨_,by rw [fj j hj'];exact hx j hj',vxB_e _ _ _ _ _ _ _,?_⟩
      rw [if_neg e,vxB_ren hm hid7]
  · have q0:rho (prF 28 f id) 28 0=0:=by have:=hid7 0 (by omega);exact this
    have q27:rho (prF 28 f id) 28 c=27:=by have:=hid 27 (by omega);rw [f27] at this;exact this
    simp only [AV.renL,AV.ren,q0,q27]
  · rintro r hp' ⟨rfl,h5,hj⟩ hpX q1 q2 q3
    have hro:∀ j,j<27→roO 28 f [] N (id j)=id j:=fun j hj=>by
      have:=roO_of (N:=N) hnw (show j<28 by omega);rw [fj j hj] at this;exact this
    have hre:AV.ren (roO 28 f [] N) (.tup [.agg ((entV W k o L).elim zEc enR),.d (.bool (entV W k o L).isSome)])=.tup [.agg ((entV W k o L).elim zEc enR),.d (.bool (entV W k o L).isSome)]:=by
      simp only [AV.ren,AV.renL]
      congr 2
      cases entV W k o L with
      | none=>simp only [Option.elim];rw [zEc_ren]
      | some e=>simp only [Option.elim];rw [enR_ren]
    rw [hre]
    refine hK hpX ?_ (fun j hj'=>?_) (fun y hy hy2=>?_)
    · have:=q1 27 (by omega) _ h5
      rw [f27,bgB_ren] at this
      exact this
    · have:=q1 j (by omega) _ (hj j hj')
      rw [fj j hj',vxB_ren hm hro] at this
      exact this
    · by_cases e:y=c
      · subst e
        have:=q1 27 (by omega) _ h5
        rw [f27,bgB_ren] at this
        rw [this,hxc]
      · refine q3 y hy (fun i hi=>?_)
        simp only [f]
        split <;> omega
end
end Go.Proofs.YtfahccoobfjkeaaGreat
namespace Go.Am
variable {P:Program}
theorem sem_seq_mid {n:Nat} {x y:Code} {Q:Exit→St→Prop} {st:St} (S:St) (hx:sem P n x (fun e st'=>e=.normal∧Wk st' S) st) (hy:sem P n y Q S):sem P n (.seq x y) Q st:=by
  refine sem_seq (sem_mono hx ?_)
  rintro e st' ⟨rfl,hw⟩
  exact sem_wk hw hy
end Go.Am
namespace Go.Proofs.YtfahccoobfjkeaaGreat
open Go.Am Go.Sha Go.Ec
def txB (x:Tn):Blk:=⟨79,4,[eT x]⟩
section
variable {PO:Wt→List Nat→Option (List Nat)} {EN:Wt→En→List (List Nat)→Int}
theorem insE_len {W:List Wt} {h:Nat}:∀ {is:List Ip} {E:List En},(insE EN W h is E).length=E.length
  | [],E=>rfl
  | i :: is,E=>by rw [insE,insE_len,List.length_map]
theorem insE_snoc {W:List Wt} {h:Nat} {i:Ip}:∀ {is:List Ip} {E:List En},insE EN W h (is ++ [i]) E=(insE EN W h is E).map (stepE EN W i h)
  | [],E=>rfl
  | j :: is,E=>by rw [List.cons_append,insE,insE,insE_snoc]
theorem insL_snoc {W:List Wt} {h:Nat} {i:Ip}:∀ {is:List Ip} {E:List En} {L:List Bg},insL PO EN W h (is ++ [i]) E L=insL PO EN W h is E L ++ spendL PO EN W i (insE EN W h is E)
  | [],E,L=>rfl
  | j :: is,E,L=>by rw [List.cons_append,insL,insL,insE,insL_snoc]
theorem txH_weak {W:List Wt} {E:List En} {B:Nat→List En} {m t nx N:Nat} {x:Tn} {L:List Bg} {hp:Hp} (hm:m≤24) (hN:6000≤N) (h5:lk 5000 hp=some (bgB L) ∨ (nx≤5000∧L=[])) (h28:lk 28 hp=some (txB x)) (h:∀ j,j<27→lk j hp=some (vxB W E B m t id j)) :
    ∀ p,p ∈ (5000,bgB L) :: (28,txB x) :: vxI W E B m t→(lk p.1 hp=some p.2 ∨ (nx≤p.1∧p.2.es=[]))∧p.1<N∧∀ r,r ∈ p.2.es→∀ v,v ∈ r→v.low1 N:=by
  refine vxP_weak (P:=[(5000,bgB L),(28,txB x)]) hm (by omega) ?_ h
  intro p hp'
  simp only [List.mem_cons,List.mem_nil_iff,or_false] at hp'
  rcases hp' with rfl | rfl
  · refine ⟨?_,by show 5000<N;omega,bgB_low _ _⟩
    rcases h5 with h5 | ⟨h5,rfl⟩
    · exact .inl h5
    · exact .inr ⟨h5,rfl⟩
  · refine ⟨.inl h28,by show 28<N;omega,?_⟩
    intro r hr v hv
    simp only [txB,List.mem_cons,List.mem_nil_iff,or_false] at hr
    subst hr
    simp [eT] at hv
    rcases hv with rfl | rfl | rfl | rfl <;> trivial
theorem vxI_lk1 {W:List Wt} {E:List En} {B:Nat→List En} {m t c j:Nat} {b:Blk} (hc:27≤c) (hj:j<27):lk j ((c,b) :: vxI W E B m t)=some (vxB W E B m t id j):=vxI_lk2 hc hj
theorem insE_ok (hEN:HEN EN) {W:List Wt} (hW:∀ w,w ∈ W→w.ok) {h:Nat} (hh:h<4294967296):∀ {is:List Ip} {E:List En},(∀ i,i ∈ is→i.wit.length≤1000∧∀ y,y ∈ i.wit→bytes y)→(∀ e,e ∈ E→e.ok W.length)→∀ e,e ∈ insE EN W h is E→e.ok W.length
  | [],E,_,hE=>hE
  | i :: is,E,hi,hE=>by
    rw [insE]
    refine insE_ok hEN hW hh (fun i' h'=>hi i' (List.mem_cons_of_mem _ h')) ?_
    intro e he
    obtain ⟨e0,h0,rfl⟩:=List.mem_map.1 he
    obtain ⟨q1,q2⟩:=hi i (by simp)
    exact stepE_ok hEN hW (hE e0 h0) hh (by have:=annexW_len i.wit;omega) (fun y hy=>q2 y (annexW_mem hy))
theorem spendL_len {W:List Wt} {i:Ip} {E:List En}:(spendL PO EN W i E).length≤E.length:=List.length_filterMap_le _ _
theorem insL_len {W:List Wt} {h:Nat}:∀ {is:List Ip} {E:List En} {L:List Bg},(insL PO EN W h is E L).length≤L.length+is.length*E.length
  | [],E,L=>by simp [insL]
  | i :: is,E,L=>by
    rw [insL]
    have h2:=spendL_len (PO:=PO) (EN:=EN) (W:=W) (i:=i) (E:=E)
    refine Nat.le_trans insL_len ?_
    rw [List.length_map,List.length_append,List.length_cons,Nat.add_mul]
    omega
theorem outsE_snoc {W:List Wt} {nm:List Nat} {h:Nat} {L:List Bg} {o:Nat × List Nat}:∀ {k:Nat} {os:List (Nat × List Nat)} {E:List En},outsE W nm h L k (os ++ [o]) E=outsE W nm h L k os E ++ outE W nm h L (k+os.length) o
  | k,[],E=>by simp [outsE]
  | k,o' :: os,E=>by
    rw [List.cons_append,outsE,outsE,outsE_snoc,List.length_cons]
    congr 2
    omega
theorem begE_ok (hPO:HPO PO) {W:List Wt} (hW:∀ w,w ∈ W→w.ok) {i:Ip} {e:En} {b:Bg} (he:e.ok W.length) (hb:∀ y,y ∈ i.wit→bytes y) (h:begE PO EN W i e=some b):Bg.okB b:=by
  unfold begE at h
  split at h
  · rename_i hc
    simp only [Bool.and_eq_true,decide_eq_true_eq] at hc
    have:=(Option.some.inj h)
    subst this
    have h3:(annexW i.wit)[3]?=some ((annexW i.wit).getD 3 []):=by
      rw [List.getD_eq_getElem?_getD,List.getElem?_eq_getElem (by omega)];rfl
    refine ⟨hc.2,?_⟩
    intro a ha
    exact (hPO (atW W e.pl) _ (hW _ (atW_mem he.2.2.1)) hc.2 (hb _ (annexW_mem (List.mem_of_getElem? h3)))).1 a ha
  · cases h
theorem insL_ok (hPO:HPO PO) (hEN:HEN EN) {W:List Wt} (hW:∀ w,w ∈ W→w.ok) {h:Nat} (hh:h<4294967296):∀ {is:List Ip} {E:List En} {L:List Bg},(∀ i,i ∈ is→i.wit.length≤1000∧∀ y,y ∈ i.wit→bytes y)→(∀ e,e ∈ E→e.ok W.length)→(∀ b,b ∈ L→Bg.okB b)→∀ b,b ∈ insL PO EN W h is E L→Bg.okB b
  | [],E,L,_,_,hL=>hL
  | i :: is,E,L,hi,hE,hL=>by
    rw [insL]
    obtain ⟨q1,q2⟩:=hi i (by simp)
    refine insL_ok hPO hEN hW hh (fun i' h'=>hi i' (List.mem_cons_of_mem _ h')) ?_ ?_
    · intro e he
      obtain ⟨e0,h0,rfl⟩:=List.mem_map.1 he
      exact stepE_ok hEN hW (hE e0 h0) hh (by have:=annexW_len i.wit;omega) (fun y hy=>q2 y (annexW_mem hy))
    · intro b hb
      rcases List.mem_append.1 hb with hb | hb
      · exact hL b hb
      · unfold spendL at hb
        obtain ⟨e,he,hb2⟩:=List.mem_filterMap.1 hb
        exact begE_ok hPO hW (hE e he) q2 hb2
def nmB (nm:List Nat):Blk:=⟨22,32,[cb nm]⟩
theorem nmH_weak {W:List Wt} {E:List En} {B:Nat→List En} {m t nx N:Nat} {nm:List Nat} {L:List Bg} {hp:Hp} (hm:m≤24) (hN:10000≤N) (h9:lk 9064 hp=some (nmB nm)) (h5:lk 5000 hp=some (bgB L)) (h:∀ j,j<27→lk j hp=some (vxB W E B m t id j)) :
    ∀ p,p ∈ (9064,nmB nm) :: (5000,bgB L) :: vxI W E B m t→(lk p.1 hp=some p.2 ∨ (nx≤p.1∧p.2.es=[]))∧p.1<N∧∀ r,r ∈ p.2.es→∀ v,v ∈ r→v.low1 N:=by
  refine vxP_weak (P:=[(9064,nmB nm),(5000,bgB L)]) hm (by omega) ?_ h
  intro p hp'
  simp only [List.mem_cons,List.mem_nil_iff,or_false] at hp'
  rcases hp' with rfl | rfl
  · refine ⟨.inl h9,by show 9064<N;omega,?_⟩
    intro r hr
    simp only [nmB,List.mem_cons,List.mem_nil_iff,or_false] at hr
    subst hr
    exact cb_low _ _
  · exact ⟨.inl h5,by show 5000<N;omega,bgB_low _ _⟩
theorem entV_ok {W:List Wt} {k:Nat} {o:Nat × List Nat} {L:List Bg} {e:En} (hL:∀ b,b ∈ L→Bg.okB b) (h:entV W k o L=some e):e.tx.length=32∧e.tpl.length=32:=by
  unfold entV at h
  split at h
  · have:=Option.some.inj h
    subst this
    exact ⟨rfl,rfl⟩
  · obtain ⟨b,hb,rfl⟩:=Option.map_eq_some_iff.1 h
    exact ⟨rfl,(hL b (List.mem_of_find?_eq_some hb)).1⟩
theorem ouH_weak {W:List Wt} {E:List En} {B:Nat→List En} {m t nx N:Nat} {nm:List Nat} {o:Nat × List Nat} {L:List Bg} {hp:Hp} (hm:m≤24) (hN:30000≤N) (h2:lk 20128 hp=some (outK o)) (h9:lk 9064 hp=some (nmB nm)) (h5:lk 5000 hp=some (bgB L)) (h:∀ j,j<27→lk j hp=some (vxB W E B m t id j)) :
    ∀ p,p ∈ (20128,outK o) :: (9064,nmB nm) :: (5000,bgB L) :: vxI W E B m t→(lk p.1 hp=some p.2 ∨ (nx≤p.1∧p.2.es=[]))∧p.1<N∧∀ r,r ∈ p.2.es→∀ v,v ∈ r→v.low1 N:=by
  intro p hp'
  rcases List.mem_cons.1 hp' with rfl | hp'
  · refine ⟨.inl h2,by show 20128<N;omega,?_⟩
    intro r hr v hv
    simp only [outK,List.mem_cons,List.mem_nil_iff,or_false] at hr
    subst hr
    simp at hv
    rcases hv with rfl | rfl <;> trivial
  · exact nmH_weak hm (by omega) h9 h5 h p hp'
def zRef:List AV:=cb z32 ++ [.d (.int .u32 0)]
theorem zRef_z:tzO Tryz.prog 25=some zRef:=by kernel_rfl
def enD (e:En):List AV:=[.d (.int .u64 (e.v:Int)),.d (.int .i64 (e.pl:Int)),.d (.int .i64 e.st),.d (.int .u32 (e.ht:Int))] ++ cb e.tpl
theorem enD_of {e:En} (h1:e.tx.length=32):List.drop 33 (enR e)=enD e:=by
  unfold enR enC
  rw [List.drop_append,List.drop_of_length_le (by rw [cb_len];omega),cb_len,h1]
  rfl
theorem through_fn (hPO:HPO PO) (hEN:HEN EN) (W:List Wt) (E:List En) (B:Nat→List En) (m t:Nat) (x:Tn) (h:Nat) (first:Bool) (hW:∀ w,w ∈ W→w.ok) (hWn:W.length≤8) (hE:∀ e,e ∈ E→e.ok W.length) (hEn:E.length≤90000)
    (hx:Sm x) (hwb:∀ i,i ∈ x.ins→∀ y,y ∈ i.wit→bytes y) (hob:∀ o,o ∈ x.outs→bytes o.2) (hh:h<4294967296) (hm:m≤24) :
    RetsE Tryz.prog 39 27 (vxI W E B m t) [.ptr 0 0 0 1,.agg (eT x),.d (.int .u32 (h:Int)),.d (.bool first)]
      (fun r hp'=>∀ j,j<27→lk j hp'=some (vxB W (thruE PO EN W nameT h first x E) B m t id j)):=by
  refine fnE_of_sem Tryz.func39 (by kernel_rfl) rfl Tryz.ntmps39 (rs:=[]) rfl (nlb rfl) (by decide) ?_
  have tl:(eT x).length=4:=rfl
  have tt:List.take 4 (eT x)=eT x:=rfl
  refine sem_seq (sem_of_awp ?_)
  simp [go_sem,tl]
  simp only [SeqK]
  refine sem_seq (sem_of_awp ?_)
  simp [go_sem]
  simp only [SeqK]
  obtain ⟨E1,L1,hE1,hL1⟩:∃ E1 L1,E1=(if first then E else insE EN W h x.ins E)∧L1=(if first then [] else insL PO EN W h x.ins E []):=⟨_,_,rfl,rfl⟩
  refine sem_seq_mid ⟨[(0,.ptr 0 0 0 1),(2,.d (.int .u32 (h:Int))),(5,.ptr 28 0 0 1),(8,.own 5000 0 L1.length L1.length)],(5000,bgB L1) :: (28,txB x) :: vxI W E1 B m t,9000⟩ (sem_of_awp ?_) ?_
  · cases first with
    | true =>
      simp at hE1 hL1
      subst hE1 hL1
      simp [go_sem]
      exact weak_wk ⟨by simp [slotOk,fv,lk,AV.low,AV.low1,bgB],txH_weak hm (nlb rfl) (.inr ⟨nlb rfl,rfl⟩) rfl (fun j hj=>vxI_lk1 (by omega) hj),by simp⟩
    | false =>
      simp at hE1 hL1
      simp [go_sem,eT]
      obtain ⟨hxok,hxi,hxo,hxo6,hxw⟩:=hx
      refine loop_of (fun j:Nat=>⟨[(0,.ptr 0 0 0 1),(2,.d (.int .u32 (h:Int))),(5,.ptr 28 0 0 1),(8,.own 5000 0 (insL PO EN W h (x.ins.take j) E []).length (insL PO EN W h (x.ins.take j) E []).length),(20,.d (.ro 35 (x.ins.map eI))),(21,.d (.int .i64 (x.ins.length:Int))),(22,.d (.int .i64 (j:Int)))],
          (5000,bgB (insL PO EN W h (x.ins.take j) E [])) :: (28,txB x) :: vxI W (insE EN W h (x.ins.take j) E) B m t,9000⟩)
        (fun j=>j≤x.ins.length) (fun j=>x.ins.length - j) 0 (by omega) ⟨by simp [slotOk,fv,lk,AV.low,AV.low1,insL,bgB],txH_weak hm (nlb rfl) (.inr ⟨nlb rfl,by simp [insL]⟩) rfl (fun j hj=>by
          rw [List.take_zero,insE]
          exact vxI_lk1 (by omega) hj),by simp⟩ ?_
      intro j hj
      simp only [go_sem,Nat.reduceEqDiff,Nat.reduceAdd,Nat.reduceLT,↓reduceIte,Nat.reduceMul]
      refine ⟨fun hlt=>?_,fun hlt=>?_⟩
      · obtain ⟨i,hi1,hd⟩:=drop_of (l:=x.ins) (k:=j) (by omega)
        have him:=List.mem_of_getElem? hi1
        have hiok:=hxok.2.2.1 i him
        obtain ⟨hw6,hw600⟩:=hxw i him
        have w3:=next_i64 (k:=j) (by omega)
        have hcl:=cIp_len hiok.1
        have hct:=cIp_take hiok.1
        have tk:x.ins.take (j+1)=x.ins.take j ++ [i]:=by rw [List.take_add_one,hi1];rfl
        have hjl:j<x.ins.length:=by omega
        have hij:∀ hl:j<x.ins.length,x.ins[j]=i:=fun hl=>Option.some.inj ((List.getElem?_eq_getElem hl).symm.trans hi1)
        generalize hEj:insE EN W h (x.ins.take j) E=Ej
        generalize hLj:insL PO EN W h (x.ins.take j) E []=Lj
        have hel:(eI i).length=35:=by rw [← List.length_map (f:=AV.d),eI_cI,hcl]
        have zIl:∀ z:List AV,z.length=35→List.drop 35 z=[]:=fun z hz=>List.drop_of_length_le (by omega)
        simp [go_sem,hi1,hij,hjl,eI_cI,hcl,hct,hel]
        have hEjl:Ej.length=E.length:=by rw [← hEj];exact insE_len
        have hEjk:∀ e,e ∈ Ej→e.ok W.length:=by
          rw [← hEj]
          refine insE_ok hEN hW hh (fun i' h'=>?_) hE
          have h2:=List.mem_of_mem_take h'
          exact ⟨by have:=(hxw i' h2).1;omega,hwb i' h2⟩
        have hLjl:Lj.length≤6*E.length:=by
          rw [← hLj]
          refine Nat.le_trans insL_len ?_
          have:(x.ins.take j).length≤6:=by rw [List.length_take];omega
          simp only [List.length_nil,Nat.zero_add]
          exact Nat.mul_le_mul_right _ this
        have hsl:=spendL_len (PO:=PO) (EN:=EN) (W:=W) (i:=i) (E:=Ej)
        refine cl_spend hPO hEN hW hWn hEjk (by omega) hiok (by omega) (fun y hy=>by have:=hw600 y hy;omega) (hwb i him) hh hm (by omega) (fun j hj=>vxI_lk4 (by omega) (by omega) (by omega) hj) (fun hpX x1 x2 x3=>?_)
        have x5:lk 5000 hpX=some (bgB Lj):=by rw [x3 5000 (by omega) (by omega)];rfl
        have x28:lk 28 hpX=some (txB x):=by rw [x3 28 (by omega) (by omega)];rfl
        generalize hSj:spendL PO EN W i Ej=Sj at *
        simp [go_sem,x1,x5,bgB,w3]
        refine ⟨by rw [zBg_z];rfl,by omega,?_⟩
        have htk:List.take Sj.length (List.map bgR Sj)=List.map bgR Sj:=List.take_of_length_le (by simp)
        have eL:insL PO EN W h (x.ins.take (j+1)) E []=Lj ++ Sj:=by rw [tk,insL_snoc,hLj,hEj,hSj]
        have eE:insE EN W h (x.ins.take (j+1)) E=Ej.map (stepE EN W i h):=by rw [tk,insE_snoc,hEj]
        rw [htk]
        refine next_of (j+1) (by omega) (by omega) ?_
        simp only [eL,eE]
        refine ⟨by simp [slotOk,fv,lk,AV.low,AV.low1],txH_weak hm (nlb rfl) (.inl ?_) ?_ (fun j' hj'=>?_),by simp⟩
        · show lk 5000 (setH 5000 _ hpX)=_
          rw [lk_setH,if_pos rfl,x5]
          simp [bgB]
        · show lk 28 (setH 5000 _ hpX)=_
          rw [lk_setH,if_neg (by omega),x28]
        · show lk j' (setH 5000 _ hpX)=_
          rw [lk_setH,if_neg (by omega),x2 j' hj']
      · have hj2:j=x.ins.length:=by omega
        subst hj2
        simp [go_sem,← hE1,← hL1]
        exact weak_wk ⟨by simp [slotOk,fv,lk,AV.low,AV.low1],txH_weak hm (nlb rfl) (.inl rfl) rfl (fun j hj=>vxI_lk3 (by omega) (by omega) hj),by simp⟩
  · refine sem_of_awp ?_
    have hnm:=nameT_fn x hx
    simp [go_sem,tt,txB,tl]
    refine cl_eq hnm (one_eT x) ?_
    have hnl:=nameT_len x
    generalize hNm:nameT x=nm at *
    have zd:List.drop 32 (cb z32)=[]:=rfl
    simp [go_sem,cb_len,hnl,zd,eT]
    have hxok:=hx.1
    have hx6:=hx.2.2.1
    have hLk:∀ b,b ∈ L1→Bg.okB b:=by
      rw [hL1]
      split
      · intro b hb;cases hb
      · refine insL_ok hPO hEN hW hh (fun i' h'=>⟨by have:=(hx.2.2.2.2 i' h').1;omega,hwb i' h'⟩) hE (by intro b hb;cases hb)
    have hLl:L1.length≤6*E.length:=by
      rw [hL1]
      split
      · simp
      · refine Nat.le_trans insL_len ?_
        simp only [List.length_nil,Nat.zero_add]
        exact Nat.mul_le_mul_right _ hx.2.1
    have hE1l:E1.length=E.length:=by
      rw [hE1]
      split
      · rfl
      · exact insE_len
    refine loop_of (fun j:Nat=>⟨[(0,.ptr 0 0 0 1),(2,.d (.int .u32 (h:Int))),(8,.own 5000 0 L1.length L1.length),(11,.ptr 9064 0 0 1),(36,.d (.ro 2 (x.outs.map eO))),(37,.d (.int .i64 (x.outs.length:Int))),(38,.d (.int .i64 (j:Int)))],
        (9064,nmB nm) :: (5000,bgB L1) :: vxI W (outsE W nm h L1 0 (x.outs.take j) E1) B m t,20000⟩)
      (fun j=>j≤x.outs.length∧(outsE W nm h L1 0 (x.outs.take j) E1).length≤E.length+j) (fun j=>x.outs.length - j) 0 ⟨by omega,by simp [outsE,hE1l]⟩ ⟨by simp [slotOk,fv,lk,AV.low,AV.low1],nmH_weak hm (nlb rfl) rfl rfl (fun j hj=>by
          rw [List.take_zero,outsE]
          exact vxI_lk4 (by omega) (by omega) (by omega) hj),by simp⟩ ?_
    rintro j ⟨hj,hjl2⟩
    simp only [go_sem,Nat.reduceEqDiff,Nat.reduceAdd,Nat.reduceLT,↓reduceIte,Nat.reduceMul]
    refine ⟨fun hlt=>?_,fun hlt=>?_⟩
    · obtain ⟨o,ho1,hd⟩:=drop_of (l:=x.outs) (k:=j) (by omega)
      have hom:=List.mem_of_getElem? ho1
      have w3:=next_i64 (k:=j) (by omega)
      have tk:x.outs.take (j+1)=x.outs.take j ++ [o]:=by rw [List.take_add_one,ho1];rfl
      have hjl:j<x.outs.length:=by omega
      have hij:∀ hl:j<x.outs.length,x.outs[j]=o:=fun hl=>Option.some.inj ((List.getElem?_eq_getElem hl).symm.trans ho1)
      generalize hEj:outsE W nm h L1 0 (x.outs.take j) E1=Ej at *
      have hNJ:∀ (fr:Fr) (hp:Hp) (nx:Nat),(fv 0 fr=.ptr 0 0 0 1∧fv 2 fr=.d (.int .u32 (h:Int))∧fv 8 fr=.own 5000 0 L1.length L1.length∧fv 11 fr=.ptr 9064 0 0 1∧fv 36 fr=.d (.ro 2 (x.outs.map eO))∧fv 37 fr=.d (.int .i64 (x.outs.length:Int))∧fv 38 fr=.d (.int .i64 ((j+1:Nat):Int))∧nx ≥ 64) →
          lk 9064 hp=some (nmB nm)→lk 5000 hp=some (bgB L1)→(∀ j',j'<27→lk j' hp=some (vxB W (outsE W nm h L1 0 (x.outs.take (j+1)) E1) B m t id j')) →
          Weak ⟨fr,hp,nx⟩ ⟨[(0,.ptr 0 0 0 1),(2,.d (.int .u32 (h:Int))),(8,.own 5000 0 L1.length L1.length),(11,.ptr 9064 0 0 1),(36,.d (.ro 2 (x.outs.map eO))),(37,.d (.int .i64 (x.outs.length:Int))),(38,.d (.int .i64 ((j+1:Nat):Int)))],
            (9064,nmB nm) :: (5000,bgB L1) :: vxI W (outsE W nm h L1 0 (x.outs.take (j+1)) E1) B m t,20000⟩:=by
        rintro fr hp nx ⟨q0,q2,q8,q11,q36,q37,q38,qn⟩ p9 p5 pj
        exact ⟨by simp [slotOk,AV.low,AV.low1,q0,q2,q8,q11,q36,q37,q38],nmH_weak hm (nlb rfl) p9 p5 pj,by simp⟩
      simp [go_sem,ho1,hij,hjl,eO,nmB,vxI,vxB]
      refine loop_of (fun k:Nat=>⟨[(0,.ptr 0 0 0 1),(2,.d (.int .u32 (h:Int))),(8,.own 5000 0 L1.length L1.length),(11,.ptr 9064 0 0 1),(12,.d (.int .i64 (j:Int))),(13,.ptr 20128 0 0 1),(36,.d (.ro 2 (x.outs.map eO))),(37,.d (.int .i64 (x.outs.length:Int))),(38,.d (.int .i64 (j:Int))),(47,.d (.int .i64 (W.length:Int))),(48,.d (.int .i64 (k:Int)))],
          (20128,outK o) :: (9064,nmB nm) :: (5000,bgB L1) :: vxI W Ej B m t,30000⟩)
        (fun k=>k≤W.length∧fstV W o L1 W.length 0=fstV W o L1 (W.length - k) k) (fun k=>W.length - k) 0 ⟨by omega,by simp⟩ ⟨by simp [slotOk,fv,lk,AV.low,AV.low1],ouH_weak hm (nlb rfl) rfl rfl rfl (fun j hj=>vxI_lk4 (by omega) (by omega) (by omega) hj),by simp⟩ ?_
      rintro k ⟨hk,hkf⟩
      simp only [go_sem,Nat.reduceEqDiff,Nat.reduceAdd,Nat.reduceLT,↓reduceIte,Nat.reduceMul]
      refine ⟨fun hlt2=>?_,fun hlt2=>?_⟩
      · have hkw:k<W.length:=by omega
        have w4:=next_i64 (k:=k) (by omega)
        have ht:List.take 2 [AV.d (.int .u64 (o.1:Int)),AV.d (nb o.2)]=[AV.d (.int .u64 (o.1:Int)),AV.d (nb o.2)]:=rfl
        simp [go_sem,outK]
        refine cl_entry hW hWn hkw hLk (by omega) (hxok.2.2.2 o hom) (hob o hom) hm (by omega) (by omega) (fun j hj=>vxI_lk4 (by omega) (by omega) (by omega) hj) rfl (fun hpX y5 yj ye=>?_)
        have y9:lk 9064 hpX=some (nmB nm):=by rw [ye 9064 (by omega) (by omega)];rfl
        have y2:lk 20128 hpX=some (outK o):=by rw [ye 20128 (by omega) (by omega)];rfl
        refine ⟨(20128,outK o) :: (9064,nmB nm) :: (5000,bgB L1) :: vxI W Ej B m t,fun i b hi=>?_,?_⟩
        · simp only [lk] at hi
          split at hi
          · rename_i e;subst e;rw [← hi];exact y2
          · split at hi
            · rename_i e;subst e;rw [← hi];exact y9
            · split at hi
              · rename_i e;subst e;rw [← hi];exact y5
              · obtain ⟨q1,rfl⟩:=vxI_is i b hi
                exact yj i q1
        clear y9 y2 ye yj y5 hpX
        cases hV:entV W k o L1 with
        | none =>
          simp [go_sem,zEc_len,zEc_take,zEc_drop,w4]
          obtain ⟨n,hn1,hn2⟩:∃ n,W.length - k=n+1∧W.length - (k+1)=n:=⟨W.length - (k+1),by omega,rfl⟩
          have hkf2:fstV W o L1 W.length 0=fstV W o L1 (W.length - (k+1)) (k+1):=by rw [hkf,hn1,hn2,fstV,hV]
          refine next_of (k+1) ⟨by omega,hkf2⟩ (by omega) ?_
          exact ⟨by simp [slotOk,fv,lk,AV.low,AV.low1],ouH_weak (o:=o) (nm:=nm) (L:=L1) (E:=Ej) (W:=W) (B:=B) (m:=m) (t:=t) hm (nlb rfl) rfl rfl rfl (fun j' hj'=>vxI_lk5 (by omega) (by omega) (by omega) (by omega) hj'),by simp⟩
        | some e =>
          obtain ⟨e32,et32⟩:=entV_ok hLk hV
          have el:(enR e).length=69:=enC_len e32 et32 _ _ _ _ _
          have wj:IntKind.u32.wrap (j:Int)=(j:Int):=by
            have:=hx.2.2.1
            exact IntWalk.u32_in _ (by omega)
          have e33:List.drop 33 (enR e)=enD e:=enD_of e32
          have nl:(cb nm).length=32:=by rw [cb_len,hnl]
          have nt:List.take 32 (cb nm)=cb nm:=List.take_of_length_le (by omega)
          have zr1:List.drop 32 zRef=[.d (.int .u32 0)]:=rfl
          have zr2:zRef.length=33:=rfl
          have zr3:List.drop 33 (cb nm ++ [AV.d (DV.int IntKind.u32 0)])=[]:=List.drop_of_length_le (by simp [nl])
          have eDl:(enD e).length=36:=by simp [enD,cb_len,et32]
          have hrw:cb nm ++ AV.d (DV.int IntKind.u32 (j:Int)) :: (enD e).set 3 (AV.d (DV.int IntKind.u32 (h:Int)))=enR { e with tx:=nm,ix:=j,ht:=h }:=rfl
          have hrl:(enR { e with tx:=nm,ix:=j,ht:=h }).length=69:=enC_len hnl et32 _ _ _ _ _
          have hrt:List.take 69 (enR { e with tx:=nm,ix:=j,ht:=h })=enR { e with tx:=nm,ix:=j,ht:=h }:=List.take_of_length_le (by omega)
          simp only [vxI,vxB]
          simp [go_sem,el,zEc_len,zEc_drop,nmB,nl,nt,zRef_z,zr1,zr2,zr3,wj,e33]
          refine ⟨by omega,?_⟩
          rw [hrw]
          have hne:outsE W nm h L1 0 (x.outs.take (j+1)) E1=Ej ++ [{ e with tx:=nm,ix:=j,ht:=h }]:=by
            rw [tk,outsE_snoc,hEj]
            congr 1
            have hjt:(x.outs.take j).length=j:=by rw [List.length_take];omega
            have hfs:fstV W o L1 W.length 0=some e:=by
              obtain ⟨n,hn1⟩:∃ n,W.length - k=n+1:=⟨W.length - (k+1),by omega⟩
              rw [hkf,hn1,fstV,hV]
            unfold outE
            rw [hfs,hjt,Nat.zero_add]
          generalize ({ e with tx:=nm,ix:=j,ht:=h }:En)=e' at *
          refine drw3 [5] [0,1,2,3,4,6,7,8,9,10] [5] (.alt (.step 0 [] true (.alt (.step 1 [] true (.alt (.step 2 [] true (.alt (.step 3 [] true (.alt (.step 4 [] true (.step 6 [] false (.step 7 [] false (.step 8 [] false (.step 9 [] false (.step 10 [] false .done)))))) (.step 6 [] false (.step 4 [] false (.step 7 [] false (.step 8 [] false (.step 9 [] false (.step 10 [] false .done)))))))) (.step 6 [] false (.step 3 [] false (.step 4 [] false (.step 7 [] false (.step 8 [] false (.step 9 [] false (.step 10 [] false .done))))))))) (.step 6 [] false (.step 2 [] false (.step 3 [] false (.step 4 [] false (.step 7 [] false (.step 8 [] false (.step 9 [] false (.step 10 [] false .done)))))))))) (.step 6 [] false (.step 1 [] false (.step 2 [] false (.step 3 [] false (.step 4 [] false (.step 7 [] false (.step 8 [] false (.step 9 [] false (.step 10 [] false .done))))))))))) (.alt (.step 1 [] true (.alt (.step 0 [] true (.alt (.step 2 [] true (.alt (.step 3 [] true (.alt (.step 4 [] true (.step 6 [] false (.step 7 [] false (.step 8 [] false (.step 9 [] false (.step 10 [] false .done)))))) (.step 6 [] false (.step 4 [] false (.step 7 [] false (.step 8 [] false (.step 9 [] false (.step 10 [] false .done)))))))) (.step 6 [] false (.step 3 [] false (.step 4 [] false (.step 7 [] false (.step 8 [] false (.step 9 [] false (.step 10 [] false .done))))))))) (.step 6 [] false (.step 2 [] false (.step 3 [] false (.step 4 [] false (.step 7 [] false (.step 8 [] false (.step 9 [] false (.step 10 [] false .done)))))))))) (.alt (.step 2 [] true (.alt (.step 0 [] true (.alt (.step 3 [] true (.alt (.step 4 [] true (.step 6 [] false (.step 7 [] false (.step 8 [] false (.step 9 [] false (.step 10 [] false .done)))))) (.step 6 [] false (.step 4 [] false (.step 7 [] false (.step 8 [] false (.step 9 [] false (.step 10 [] false .done)))))))) (.step 6 [] false (.step 3 [] false (.step 4 [] false (.step 7 [] false (.step 8 [] false (.step 9 [] false (.step 10 [] false .done))))))))) (.alt (.step 3 [] true (.alt (.step 0 [] true (.alt (.step 4 [] true (.step 6 [] false (.step 7 [] false (.step 8 [] false (.step 9 [] false (.step 10 [] false .done)))))) (.step 6 [] false (.step 4 [] false (.step 7 [] false (.step 8 [] false (.step 9 [] false (.step 10 [] false .done)))))))) (.alt (.step 4 [] true (.alt (.step 0 [] true (.step 6 [] false (.step 7 [] false (.step 8 [] false (.step 9 [] false (.step 10 [] false .done)))))) (.step 6 [] false (.alt (.step 0 [] false (.step 7 [] false (.step 8 [] false (.step 9 [] false (.step 10 [] false .done))))) (.step 7 [] false (.step 0 [] false (.step 8 [] false (.step 9 [] false (.step 10 [] false .done))))))))) (.step 6 [] false (.alt (.step 0 [] false (.step 4 [] false (.step 7 [] false (.step 8 [] false (.step 9 [] false (.step 10 [] false .done)))))) (.step 4 [] false (.alt (.step 0 [] false (.step 7 [] false (.step 8 [] false (.step 9 [] false (.step 10 [] false .done))))) (.step 7 [] false (.step 0 [] false (.step 8 [] false (.step 9 [] false (.step 10 [] false .done)))))))))))) (.step 6 [] false (.alt (.step 0 [] false (.step 3 [] false (.step 4 [] false (.step 7 [] false (.step 8 [] false (.step 9 [] false (.step 10 [] false .done))))))) (.step 3 [] false (.alt (.step 0 [] false (.step 4 [] false (.step 7 [] false (.step 8 [] false (.step 9 [] false (.step 10 [] false .done)))))) (.step 4 [] false (.alt (.step 0 [] false (.step 7 [] false (.step 8 [] false (.step 9 [] false (.step 10 [] false .done))))) (.step 7 [] false (.step 0 [] false (.step 8 [] false (.step 9 [] false (.step 10 [] false .done)))))))))))))) (.step 6 [] false (.alt (.step 0 [] false (.step 2 [] false (.step 3 [] false (.step 4 [] false (.step 7 [] false (.step 8 [] false (.step 9 [] false (.step 10 [] false .done)))))))) (.step 2 [] false (.alt (.step 0 [] false (.step 3 [] false (.step 4 [] false (.step 7 [] false (.step 8 [] false (.step 9 [] false (.step 10 [] false .done))))))) (.step 3 [] false (.alt (.step 0 [] false (.step 4 [] false (.step 7 [] false (.step 8 [] false (.step 9 [] false (.step 10 [] false .done)))))) (.step 4 [] false (.alt (.step 0 [] false (.step 7 [] false (.step 8 [] false (.step 9 [] false (.step 10 [] false .done))))) (.step 7 [] false (.step 0 [] false (.step 8 [] false (.step 9 [] false (.step 10 [] false .done)))))))))))))))) (.step 6 [] false (.alt (.step 0 [] false (.step 1 [] false (.step 2 [] false (.step 3 [] false (.step 4 [] false (.step 7 [] false (.step 8 [] false (.step 9 [] false (.step 10 [] false .done))))))))) (.step 1 [] false (.alt (.step 0 [] false (.step 2 [] false (.step 3 [] false (.step 4 [] false (.step 7 [] false (.step 8 [] false (.step 9 [] false (.step 10 [] false .done)))))))) (.step 2 [] false (.alt (.step 0 [] false (.step 3 [] false (.step 4 [] false (.step 7 [] false (.step 8 [] false (.step 9 [] false (.step 10 [] false .done))))))) (.step 3 [] false (.alt (.step 0 [] false (.step 4 [] false (.step 7 [] false (.step 8 [] false (.step 9 [] false (.step 10 [] false .done)))))) (.step 4 [] false (.alt (.step 0 [] false (.step 7 [] false (.step 8 [] false (.step 9 [] false (.step 10 [] false .done))))) (.step 7 [] false (.step 0 [] false (.step 8 [] false (.step 9 [] false (.step 10 [] false .done))))))))))))))))) ⟨[(0,.ptr 0 0 0 1),(2,.d (.int .u32 (h:Int))),(8,.own 5000 0 L1.length L1.length),(11,.ptr 9064 0 0 1),(36,.d (.ro 2 (x.outs.map eO))),(37,.d (.int .i64 (x.outs.length:Int))),(38,.d (.int .i64 (j:Int)))],(9064,nmB nm) :: (5000,bgB L1) :: vxI W (Ej ++ [e']) B m t,40000⟩ (k:=11) ?h3 ?hq
          case h3 =>
            intro G hG
            have hX:(0,(⟨108,3,[[.d (.ro 69 (W.map wtD)),.own 1 0 (Ej.length+1) (Ej.length+1),.own 2 0 m t]]⟩:Blk)) :: (1,⟨28,69,Ej.map enR ++ [enR e']⟩) :: (2,⟨49,1,((List.range m).map fun k=>[AV.own (3+k) 0 (B k).length (B k).length]) ++ List.replicate (t - m) [.any]⟩) :: vxT B=vxI W (Ej ++ [e']) B m t:=by
              simp only [vxI,vxB,id,List.length_append,List.map_append,List.length_cons,List.length_nil,List.map_cons,List.map_nil]
            have hWk:∀ fr:Fr,(fv 0 fr=.ptr 0 0 0 1∧fv 2 fr=.d (.int .u32 (h:Int))∧fv 8 fr=.own 5000 0 L1.length L1.length∧fv 11 fr=.ptr 9064 0 0 1∧fv 36 fr=.d (.ro 2 (x.outs.map eO))∧fv 37 fr=.d (.int .i64 (x.outs.length:Int))∧fv 38 fr=.d (.int .i64 (j:Int))) →
                G fr ((30960,⟨28,69,[enR e']⟩) :: (30352,⟨28,69,[enR e']⟩) :: (20128,outK o) :: (9064,nmB nm) :: (5000,bgB L1) :: (0,(⟨108,3,[[.d (.ro 69 (W.map wtD)),.own 1 0 (Ej.length+1) (Ej.length+1),.own 2 0 m t]]⟩:Blk)) :: (1,⟨28,69,Ej.map enR ++ [enR e']⟩) :: (2,⟨49,1,((List.range m).map fun k=>[AV.own (3+k) 0 (B k).length (B k).length]) ++ List.replicate (t - m) [.any]⟩) :: vxT B):=by
              rintro fr ⟨q0,q2,q8,q11,q36,q37,q38⟩
              rw [hX]
              refine hG _ _ (weak_wk ⟨by simp [slotOk,AV.low,AV.low1,q0,q2,q8,q11,q36,q37,q38],nmH_weak hm (nlb rfl) rfl rfl (fun j' hj'=>?_),by simp⟩)
              simp only [lk]
              rw [if_neg (by omega),if_neg (by omega),if_neg (by omega),if_neg (by omega),if_neg (by omega)]
              exact vxI_lk hj'
            simp (config := { maxSteps := 3000000 }) [go_sem,hrl,hrt]
            repeat' apply And.intro
            all_goals first
              | omega
              | (refine hWk _ ?_;simp [fv,lk])
          case hq =>
            simp [go_sem,w3]
            refine next_of (j+1) ⟨by omega,by rw [hne,List.length_append,List.length_cons,List.length_nil];omega⟩ (by omega) ?_
            refine hNJ _ _ _ (by simp [fv,lk]) rfl rfl (fun j' hj'=>?_)
            rw [hne]
            exact vxI_lk3 (by omega) (by omega) hj'
      · have hk2:k=W.length:=by omega
        subst hk2
        have hnone:fstV W o L1 W.length 0=none:=by rw [hkf,Nat.sub_self];rfl
        have hout:outsE W nm h L1 0 (x.outs.take (j+1)) E1=Ej:=by
          rw [tk,outsE_snoc,hEj]
          unfold outE
          rw [hnone,List.append_nil]
        simp [go_sem,w3]
        refine next_of (j+1) ⟨by omega,by rw [hout];omega⟩ (by omega) ?_
        refine hNJ _ _ _ (by simp [fv,lk]) rfl rfl (fun j' hj'=>?_)
        rw [hout]
        exact vxI_lk4 (by omega) (by omega) (by omega) hj'
    · have hj2:j=x.outs.length:=by omega
      subst hj2
      have hth:thruE PO EN W nameT h first x E=outsE W nm h L1 0 x.outs E1:=by
        unfold thruE
        rw [hNm,hE1,hL1]
        cases first <;> rfl
      simp [go_sem,resV]
      intro j' hj'
      rw [hth,if_neg (by omega),if_neg (by omega)]
      exact vxI_lk hj'
end
end Go.Proofs.YtfahccoobfjkeaaGreat
