/-
  Part 13 of what the claim rests on.
-/
import Derived.Test.YtldccnbokbieiaaGreatS10
import Derived.Test.YtldccnbokbieiaaGreatS11
set_option linter.unusedVariables false
set_option linter.unusedSimpArgs false
set_option maxRecDepth 100000
set_option maxHeartbeats 16000000
namespace Go.Proofs.YtldccnbokbieiaaGreat
open Go.Am Go.Sha
theorem flat_drop:∀ (ps:List (List Nat)),(∀ p,p ∈ ps→p.length=32)→∀ k,ps.flatten.drop (32*k)=(ps.drop k).flatten
  | [],_,k=>by simp
  | a :: r,h,0=>rfl
  | a :: r,h,k+1=>by
    have ha:=h a (by simp)
    rw [List.flatten_cons,List.drop_succ_cons,← flat_drop r (fun p hp=>h p (by simp [hp])) k,show 32*(k+1)=a.length+32*k by omega,List.drop_append]
    simp
theorem leaf_bld2 {inner:List Nat} (hi:inner.length=32) (a b X:AV):List.take 33 (cb inner ++ [a,b]) ++ X :: List.drop 34 (cb inner ++ [a,b])=leafC inner a X:=by
  have h:=leaf_bld hi a b X
  rwa [cb_take hi] at h
def pHR (inner x:List Nat) (ps:List (List Nat)):Nat→Hp
  | 0=>[(1344,⟨27,34,[leafC inner .nil (.own 1216 0 x.length x.length)]⟩),(0,⟨27,34,[leafC z32 .nil .nil]⟩),(1216,⟨5,1,rb x⟩)]
  | k+1=>[(9416,⟨23,32,(ps.take (k+1)).map cb⟩),(1344,⟨27,34,[leafC inner (.own 9416 0 (k+1) (k+1)) (.own 1216 0 x.length x.length)]⟩),(0,⟨27,34,[leafC z32 .nil .nil]⟩),(1216,⟨5,1,rb x⟩)]
theorem rread_ok {inner x:List Nat} {ps:List (List Nat)} (o:Bool) (hi:inner.length=32) (hp32:∀ p,p ∈ ps→p.length=32) (hps:ps.length≤8) (hx:x.length≤1000) :
    Rets Tryz.prog 13 [.d (nb (ctl o inner ps)),.d (nb x)] (fun r=>r=.tup [.agg (leafC inner (.d (hs32 ps)) (.d (nb x))),.d (.bool o),.d (.int .i64 0)]):=by
  refine fna Tryz.func13 Tryz.ntmps13 (rs:=[.cell 4 27,.tmp 5,.tmp 6]) (by simp [AV.deep,AV.deep1]) ?_
  have hfl:=flat_len32 ps hp32
  have hcl:(ctl o inner ps).length=33+32*ps.length:=by unfold ctl;rw [List.length_cons,List.length_append,hi];omega
  have w1:IntKind.i64.wrap (((ctl o inner ps).length:Int) - 33)=((32*ps.length:Nat):Int):=by rw [IntWalk.i64_in _ (by omega)];omega
  have i1:¬ (((32*ps.length:Nat):Int)<0):=by omega
  have i2b:(((32*ps.length:Nat):Int)).tmod 32=0:=by rw [Int.tmod_eq_emod_of_nonneg (by omega)];omega
  have i3:¬ (256<((32*ps.length:Nat):Int)):=by omega
  have i4:¬ (1000<(x.length:Int)):=by omega
  have zlf:(leafC z32 .nil .nil).length=34:=rfl
  have lft:List.drop 34 (leafC z32 .nil .nil)=[]:=rfl
  have lz:List.drop 32 (leafC z32 .nil .nil)=[.nil,.nil]:=rfl
  have e1:List.take 32 (List.drop 1 (List.map (fun (b:Nat)=>[DV.int .u8 (b:Int)]) (ctl o inner ps)))=List.map (fun (b:Nat)=>[DV.int .u8 (b:Int)]) inner:=by
    unfold ctl
    rw [List.map_cons,List.drop_succ_cons,List.drop_zero,List.map_append,List.take_left' (by simp [hi])]
  have e1b:(List.take 33 (List.map (fun (b:Nat)=>[DV.int .u8 (b:Int)]) (ctl o inner ps))).tail=List.map (fun (b:Nat)=>[DV.int .u8 (b:Int)]) inner:=by
    unfold ctl
    rw [List.map_cons,List.take_succ_cons,List.tail_cons,List.map_append,List.take_left' (by simp [hi])]
  have hdr:∀ k,List.drop (33+32*k) (List.map (fun (b:Nat)=>[DV.int .u8 (b:Int)]) (ctl o inner ps))=List.map (fun (b:Nat)=>[DV.int .u8 (b:Int)]) (ps.drop k).flatten:=by
    intro k
    rw [← flat_drop ps hp32 k]
    unfold ctl
    rw [show 33+32*k=(32*k+32)+1 by omega,List.map_cons,List.drop_succ_cons,← List.map_drop,Nat.add_comm (32*k) 32,show 32+32*k=inner.length+32*k by omega,List.drop_append]
    simp
  generalize hN:32*ps.length=N at *
  have i6:(33:Int)≤((ctl o inner ps).length:Int):=by omega
  cases o
  · have hc0:(ctl false inner ps)[0]?=some 192:=rfl
    have i5:(33:Int)≤33+(N:Int):=by omega
    have w1b:IntKind.i64.wrap (33+(N:Int) - 33)=(N:Int):=by rw [IntWalk.i64_in _ (by omega)];omega
    simp [go_sem,nb,w1,w1b,i1,i2b,i3,i4,hc0,e1,e1b,i5,i6,hcl]
    refine cl_eq (hashR2_fn inner hi) (by simp [AV.deep,AV.deep1]) ?_
    simp [go_sem,nb,rb_of,rb_len,lz,leaf_bld hi,leaf_bld2 hi,leaf_len hi,leaf_take2 hi,hi,cb_len,cb_take hi,zlf,lft]
    refine ⟨by omega,?_⟩
    refine loop_of (fun k:Nat=>⟨[(0,.d (nb (ctl false inner ps))),(4,.ptr 0 0 0 1),(8,.ptr 1344 0 0 1),(9,.d (.int .i64 (33+32*(k:Int))))],pHR inner x ps k,pN k⟩)
      (fun k=>k≤ps.length) (fun k=>ps.length - k) 0 (by omega) (by
        simp [Weak,slotOk,fv,lk,AV.low,AV.low1,pHR,pN,nb]
        exact ⟨leafC_low _ _ _ _ trivial (by simp [AV.low1]),leafC_low _ _ _ _ trivial trivial,rb_low _ _⟩) ?_
    intro k hk
    simp only [go_sem,Nat.reduceEqDiff,Nat.reduceAdd,Nat.reduceLT,↓reduceIte]
    by_cases hlt:k<ps.length
    · have hp:=List.getElem?_eq_getElem hlt
      have hdk:ps.drop k=ps[k] :: ps.drop (k+1):=List.drop_eq_getElem_cons hlt
      have htk:ps.take (k+1)=ps.take k ++ [ps[k]]:=List.take_succ_eq_append_getElem hlt
      generalize ps[k]=q at hp hdk htk
      have hq:q.length=32:=hp32 q (List.mem_of_getElem? hp)
      have g1:List.drop (33+32*k) (List.take (33+32*(k+1)) (List.map (fun (b:Nat)=>[DV.int .u8 (b:Int)]) (ctl false inner ps)))=List.map (fun (b:Nat)=>[DV.int .u8 (b:Int)]) q:=by
        rw [List.drop_take,hdr k,hdk,List.flatten_cons,List.map_append,List.take_left' (by simp [hq];omega)]
      have w2:IntKind.i64.wrap (33+32*(k:Int)+32)=33+32*((k:Int)+1):=by rw [IntWalk.i64_in _ (by omega)];omega
      have hle1:33+32*(k:Int)≤33+32*((k:Int)+1):=by omega
      have hle2:33+32*((k:Int)+1)≤33+(N:Int):=by omega
      have t1:(33+32*(k:Int)).toNat=33+32*k:=by omega
      have t2:(33+32*((k:Int)+1)).toNat - (33+32*k)=32:=by omega
      cases k with
      | zero =>
        refine ⟨fun _=>?_,fun h=>absurd (show _ by simp [nb,hcl];omega) h⟩
        simp only [pHR,pN]
        have g0:List.drop 33 (List.take 65 (List.map (fun (b:Nat)=>[DV.int .u8 (b:Int)]) (ctl false inner ps)))=List.map (fun (b:Nat)=>[DV.int .u8 (b:Int)]) q:=g1
        have w65:IntKind.i64.wrap 65=65:=rfl
        have b0:(65:Int)≤33+(N:Int):=by omega
        refine drw2 [0,1,2,3,4,5,6] [(7,[]),(8,[]),(9,[10]),(11,[])] 3 (k:=12) ?_
        intro G hG
        simp [go_sem,nb,hcl,w65,b0,g0,leaf_hd hi,leaf_set hi,leaf_len hi,cb_take hq,cb_len,-List.map_flatten,-List.length_flatten]
        refine cl_eq (hashR2_fn q hq) (by simp [AV.deep,AV.deep1]) ?_
        simp [go_sem,nb,hcl,w65,b0,g0,leaf_hd hi,leaf_set hi,leaf_len hi,hq,cb_take hq,cb_len,-List.map_flatten,-List.length_flatten]
        refine hG _ _ ?_
        simp [go_sem,w65]
        refine next_of (0+1) (by omega) (by omega) ?_
        have hc2:List.take 1 (List.map cb ps)=[cb q]:=by rw [← List.map_take];show (ps.take (0+1)).map cb=_;rw [htk];simp
        simp [Weak,slotOk,fv,lk,AV.low,AV.low1,pHR,pN,nb,-List.map_flatten,-List.length_flatten,-List.map_take,-List.map_drop,hc2]
        exact ⟨cb_low _ _,leafC_low _ _ _ _ (by simp [AV.low1]) (by simp [AV.low1]),leafC_low _ _ _ _ trivial trivial,rb_low _ _⟩
      | succ k =>
        refine ⟨fun _=>?_,fun h=>absurd (show _ by simp [nb,hcl];omega) h⟩
        clear w2 hle1 hle2 t1 t2
        have w2:IntKind.i64.wrap (33+32*((k:Int)+1)+32)=33+32*((k:Int)+1+1):=by rw [IntWalk.i64_in _ (by omega)];omega
        have hle1:33+32*((k:Int)+1)≤33+32*((k:Int)+1+1):=by omega
        have hle2:33+32*((k:Int)+1+1)≤33+(N:Int):=by omega
        have t1:(33+32*((k:Int)+1)).toNat=33+32*(k+1):=by omega
        have t2:(33+32*((k:Int)+1+1)).toNat=33+32*(k+1+1):=by omega
        have hge0:(0:Int)≤33+32*((k:Int)+1):=by omega
        have hlk:min (k+1) ps.length=k+1:=by omega
        have hle:k+1≤ps.length:=by omega
        have hbig:(k+1+1)*32≤140737488355328:=by omega
        have hlt2:k<ps.length:=by omega
        simp only [pHR,pN]
        refine drw3 [0,1,2,3,4,5,6] [7,8,9,10,11] [0,1,2,3,4,5,6] (.step 7 [] true (.step 8 [] true (.step 9 [] false (.step 10 [] false (.step 11 [] false .done))))) ⟨[(0,.d (nb (ctl false inner ps))),(4,.ptr 0 0 0 1),(8,.ptr 1344 0 0 1),(9,.d (.int .i64 (33+32*((k:Int)+1))))],[(9416,⟨23,32,List.take (k+1) (List.map cb ps) ++ [cb q]⟩),(1344,⟨27,34,[leafC inner (.own 9416 0 (k+1+1) (k+1+1)) (.own 1216 0 x.length x.length)]⟩),(0,⟨27,34,[leafC z32 .nil .nil]⟩),(1216,⟨5,1,rb x⟩)],21000⟩ (k:=12) ?h3 ?hq
        case h3 =>
          intro G hG
          have hW:∀ (fr:Fr) (hp:Hp),(fv 0 fr=.d (nb (ctl false inner ps))∧fv 4 fr=.ptr 0 0 0 1∧fv 8 fr=.ptr 1344 0 0 1∧fv 9 fr=.d (.int .i64 (33+32*((k:Int)+1)))∧lk 9416 hp=some ⟨23,32,List.take (k+1) (List.map cb ps) ++ [cb q]⟩∧lk 1344 hp=some ⟨27,34,[leafC inner (.own 9416 0 (k+1+1) (k+1+1)) (.own 1216 0 x.length x.length)]⟩∧lk 0 hp=some ⟨27,34,[leafC z32 .nil .nil]⟩∧lk 1216 hp=some ⟨5,1,rb x⟩)→G fr hp:=by
            rintro fr hp ⟨q0,q1,q2,q3,q4,q5,q6,q7⟩
            exact hG _ _ wkA
          simp [go_sem,nb,hcl,w2,hle1,hle2,t1,t2,g1,hge0,hbig,hlk,hle,hlt2,leaf_hd hi,leaf_set hi,leaf_len hi,hq,cb_take hq,cb_len,-List.map_flatten,-List.length_flatten,SaW]
          repeat' first | exact hW _ _ ⟨rfl,rfl,rfl,rfl,rfl,rfl,rfl,rfl⟩ | (refine hW _ _ ?_;simp [fv,lk];done) | refine cl_eq (hashR2_fn q hq) (by simp [AV.deep,AV.deep1]) ?_ | apply And.intro | simp [go_sem,nb,hcl,w2,hle1,hle2,t1,t2,g1,hge0,hbig,hlk,hle,hlt2,leaf_hd hi,leaf_set hi,leaf_len hi,hq,cb_take hq,cb_len,-List.map_flatten,-List.length_flatten,SaW]
        case hq =>
          simp [go_sem,nb,w2]
          refine next_of ((k+1)+1) (by omega) (by omega) ?_
          have hc1:(ps.take ((k+1)+1)).map cb=(ps.take (k+1)).map cb ++ [cb q]:=by rw [htk];simp
          simp [Weak,slotOk,fv,lk,AV.low,AV.low1,pHR,pN,nb,-List.map_flatten,-List.length_flatten,-List.map_take,-List.map_drop]
          refine ⟨⟨?_,fun r hr=>?_⟩,leafC_low _ _ _ _ (by simp [AV.low1]) (by simp [AV.low1]),leafC_low _ _ _ _ trivial trivial,rb_low _ _⟩
          · rw [← List.map_take,← List.map_take];exact hc1.symm
          · exact rows_low _ ps r (List.mem_of_mem_take hr)
    · have hkn:k=ps.length:=by omega
      refine ⟨fun h=>absurd h (by simp [nb,hcl];omega),fun _=>?_⟩
      cases k with
      | zero =>
        have hps0:ps=[]:=List.eq_nil_of_length_eq_zero hkn.symm
        subst hps0
        simp only [pHR,pN]
        refine drw3 [0] [1,2,3,4,5,6,7] [0] (.alt (.step 1 [] true (.alt (.step 2 [] true (.alt (.step 3 [] true (.alt (.step 4 [] true (.step 5 [] false (.step 6 [] false (.step 7 [] false .done)))) (.step 5 [] false (.step 4 [] false (.step 6 [] false (.step 7 [] false .done)))))) (.step 5 [] false (.step 3 [] false (.step 4 [] false (.step 6 [] false (.step 7 [] false .done))))))) (.step 5 [] false (.step 2 [] false (.step 3 [] false (.step 4 [] false (.step 6 [] false (.step 7 [] false .done)))))))) (.step 5 [] false (.step 1 [] false (.step 2 [] false (.step 3 [] false (.step 4 [] false (.step 6 [] false (.step 7 [] false .done)))))))) ⟨[(4,.ptr 0 0 0 1),(5,.d (.bool false)),(6,.d (.int .i64 0))],[(0,⟨27,34,[leafC inner .nil (.own 1216 0 x.length x.length)]⟩),(1216,⟨5,1,rb x⟩)],30000⟩ (k:=8) ?h3 ?hq
        case h3 =>
          intro G hG
          have hW:∀ (fr:Fr) (hp:Hp),(fv 4 fr=.ptr 0 0 0 1∧fv 5 fr=.d (.bool false)∧fv 6 fr=.d (.int .i64 0)∧lk 0 hp=some ⟨27,34,[leafC inner .nil (.own 1216 0 x.length x.length)]⟩∧lk 1216 hp=some ⟨5,1,rb x⟩)→G fr hp:=by
            rintro fr hp ⟨q0,q1,q2,q3,q4⟩
            exact hG _ _ wkA
          simp (maxSteps:=2000000) [go_sem,nb,hc0,leaf_len hi,leaf_take2 hi,zlf,lft,-List.map_flatten,-List.length_flatten,SaW]
          repeat' first | exact hW _ _ ⟨rfl,rfl,rfl,rfl,rfl⟩ | (refine hW _ _ ?_;simp [fv,lk];done) | fail | apply And.intro | simp (maxSteps:=2000000) [go_sem,nb,hc0,leaf_len hi,leaf_take2 hi,zlf,lft,-List.map_flatten,-List.length_flatten,SaW]
        case hq =>
          simp only [go_sem,Nat.reduceEqDiff,Nat.reduceAdd,Nat.reduceLT,↓reduceIte,Nat.reduceBEq,List.take_zero,List.drop_zero,List.set_cons_zero,List.getElem?_cons_zero,leaf_len hi,leaf_take2 hi,resV]
          exact post_leaf (.inr ⟨_,rfl,.nil 32⟩) (snap1_d (snap_full (L:=x) rfl rfl trivial)) rfl
      | succ k =>
        have htl:ps.take (k+1)=ps:=List.take_of_length_le (by omega)
        simp only [pHR,pN,htl]
        refine drw3 [0] [1,2,3,4,5,6,7] [0] (.alt (.step 1 [] true (.alt (.step 2 [] true (.alt (.step 3 [] true (.alt (.step 4 [] true (.step 5 [] false (.step 6 [] false (.step 7 [] false .done)))) (.step 5 [] false (.step 4 [] false (.step 6 [] false (.step 7 [] false .done)))))) (.step 5 [] false (.step 3 [] false (.step 4 [] false (.step 6 [] false (.step 7 [] false .done))))))) (.step 5 [] false (.step 2 [] false (.step 3 [] false (.step 4 [] false (.step 6 [] false (.step 7 [] false .done)))))))) (.step 5 [] false (.step 1 [] false (.step 2 [] false (.step 3 [] false (.step 4 [] false (.step 6 [] false (.step 7 [] false .done)))))))) ⟨[(4,.ptr 0 0 0 1),(5,.d (.bool false)),(6,.d (.int .i64 0))],[(9416,⟨23,32,ps.map cb⟩),(0,⟨27,34,[leafC inner (.own 9416 0 (k+1) (k+1)) (.own 1216 0 x.length x.length)]⟩),(1216,⟨5,1,rb x⟩)],30000⟩ (k:=8) ?h3 ?hq
        case h3 =>
          intro G hG
          have hW:∀ (fr:Fr) (hp:Hp),(fv 4 fr=.ptr 0 0 0 1∧fv 5 fr=.d (.bool false)∧fv 6 fr=.d (.int .i64 0)∧lk 9416 hp=some ⟨23,32,ps.map cb⟩∧lk 0 hp=some ⟨27,34,[leafC inner (.own 9416 0 (k+1) (k+1)) (.own 1216 0 x.length x.length)]⟩∧lk 1216 hp=some ⟨5,1,rb x⟩)→G fr hp:=by
            rintro fr hp ⟨q0,q1,q2,q3,q4,q5⟩
            exact hG _ _ wkA
          simp (maxSteps:=2000000) [go_sem,nb,hc0,leaf_len hi,leaf_take2 hi,zlf,lft,-List.map_flatten,-List.length_flatten,SaW]
          repeat' first | exact hW _ _ ⟨rfl,rfl,rfl,rfl,rfl,rfl⟩ | (refine hW _ _ ?_;simp [fv,lk];done) | fail | apply And.intro | simp (maxSteps:=2000000) [go_sem,nb,hc0,leaf_len hi,leaf_take2 hi,zlf,lft,-List.map_flatten,-List.length_flatten,SaW]
        case hq =>
          simp only [go_sem,Nat.reduceEqDiff,Nat.reduceAdd,Nat.reduceLT,↓reduceIte,Nat.reduceBEq,List.take_zero,List.drop_zero,List.set_cons_zero,List.getElem?_cons_zero,leaf_len hi,leaf_take2 hi,resV]
          exact post_leaf (.inr ⟨_,rfl,own_of (rows:=ps.map cb) rfl trivial (by simp [hkn]) (by rw [List.drop_zero,List.take_of_length_le (by simp [hkn]),← hs_map ps];exact rows_map _) (by simp [hkn]) (by intro r hr;simp at hr;obtain ⟨p,hp,rfl⟩:=hr;rw [cd_len];exact hp32 p hp)⟩) (snap1_d (snap_full (L:=x) rfl rfl trivial)) rfl
  · have hc0:(ctl true inner ps)[0]?=some 193:=rfl
    have i5:(33:Int)≤33+(N:Int):=by omega
    have w1b:IntKind.i64.wrap (33+(N:Int) - 33)=(N:Int):=by rw [IntWalk.i64_in _ (by omega)];omega
    simp [go_sem,nb,w1,w1b,i1,i2b,i3,i4,hc0,e1,e1b,i5,i6,hcl]
    refine cl_eq (hashR2_fn inner hi) (by simp [AV.deep,AV.deep1]) ?_
    simp [go_sem,nb,rb_of,rb_len,lz,leaf_bld hi,leaf_bld2 hi,leaf_len hi,leaf_take2 hi,hi,cb_len,cb_take hi,zlf,lft]
    refine ⟨by omega,?_⟩
    refine loop_of (fun k:Nat=>⟨[(0,.d (nb (ctl true inner ps))),(4,.ptr 0 0 0 1),(8,.ptr 1344 0 0 1),(9,.d (.int .i64 (33+32*(k:Int))))],pHR inner x ps k,pN k⟩)
      (fun k=>k≤ps.length) (fun k=>ps.length - k) 0 (by omega) (by
        simp [Weak,slotOk,fv,lk,AV.low,AV.low1,pHR,pN,nb]
        exact ⟨leafC_low _ _ _ _ trivial (by simp [AV.low1]),leafC_low _ _ _ _ trivial trivial,rb_low _ _⟩) ?_
    intro k hk
    simp only [go_sem,Nat.reduceEqDiff,Nat.reduceAdd,Nat.reduceLT,↓reduceIte]
    by_cases hlt:k<ps.length
    · have hp:=List.getElem?_eq_getElem hlt
      have hdk:ps.drop k=ps[k] :: ps.drop (k+1):=List.drop_eq_getElem_cons hlt
      have htk:ps.take (k+1)=ps.take k ++ [ps[k]]:=List.take_succ_eq_append_getElem hlt
      generalize ps[k]=q at hp hdk htk
      have hq:q.length=32:=hp32 q (List.mem_of_getElem? hp)
      have g1:List.drop (33+32*k) (List.take (33+32*(k+1)) (List.map (fun (b:Nat)=>[DV.int .u8 (b:Int)]) (ctl true inner ps)))=List.map (fun (b:Nat)=>[DV.int .u8 (b:Int)]) q:=by
        rw [List.drop_take,hdr k,hdk,List.flatten_cons,List.map_append,List.take_left' (by simp [hq];omega)]
      have w2:IntKind.i64.wrap (33+32*(k:Int)+32)=33+32*((k:Int)+1):=by rw [IntWalk.i64_in _ (by omega)];omega
      have hle1:33+32*(k:Int)≤33+32*((k:Int)+1):=by omega
      have hle2:33+32*((k:Int)+1)≤33+(N:Int):=by omega
      have t1:(33+32*(k:Int)).toNat=33+32*k:=by omega
      have t2:(33+32*((k:Int)+1)).toNat - (33+32*k)=32:=by omega
      cases k with
      | zero =>
        refine ⟨fun _=>?_,fun h=>absurd (show _ by simp [nb,hcl];omega) h⟩
        simp only [pHR,pN]
        have g0:List.drop 33 (List.take 65 (List.map (fun (b:Nat)=>[DV.int .u8 (b:Int)]) (ctl true inner ps)))=List.map (fun (b:Nat)=>[DV.int .u8 (b:Int)]) q:=g1
        have w65:IntKind.i64.wrap 65=65:=rfl
        have b0:(65:Int)≤33+(N:Int):=by omega
        refine drw2 [0,1,2,3,4,5,6] [(7,[]),(8,[]),(9,[10]),(11,[])] 3 (k:=12) ?_
        intro G hG
        simp [go_sem,nb,hcl,w65,b0,g0,leaf_hd hi,leaf_set hi,leaf_len hi,cb_take hq,cb_len,-List.map_flatten,-List.length_flatten]
        refine cl_eq (hashR2_fn q hq) (by simp [AV.deep,AV.deep1]) ?_
        simp [go_sem,nb,hcl,w65,b0,g0,leaf_hd hi,leaf_set hi,leaf_len hi,hq,cb_take hq,cb_len,-List.map_flatten,-List.length_flatten]
        refine hG _ _ ?_
        simp [go_sem,w65]
        refine next_of (0+1) (by omega) (by omega) ?_
        have hc2:List.take 1 (List.map cb ps)=[cb q]:=by rw [← List.map_take];show (ps.take (0+1)).map cb=_;rw [htk];simp
        simp [Weak,slotOk,fv,lk,AV.low,AV.low1,pHR,pN,nb,-List.map_flatten,-List.length_flatten,-List.map_take,-List.map_drop,hc2]
        exact ⟨cb_low _ _,leafC_low _ _ _ _ (by simp [AV.low1]) (by simp [AV.low1]),leafC_low _ _ _ _ trivial trivial,rb_low _ _⟩
      | succ k =>
        refine ⟨fun _=>?_,fun h=>absurd (show _ by simp [nb,hcl];omega) h⟩
        clear w2 hle1 hle2 t1 t2
        have w2:IntKind.i64.wrap (33+32*((k:Int)+1)+32)=33+32*((k:Int)+1+1):=by rw [IntWalk.i64_in _ (by omega)];omega
        have hle1:33+32*((k:Int)+1)≤33+32*((k:Int)+1+1):=by omega
        have hle2:33+32*((k:Int)+1+1)≤33+(N:Int):=by omega
        have t1:(33+32*((k:Int)+1)).toNat=33+32*(k+1):=by omega
        have t2:(33+32*((k:Int)+1+1)).toNat=33+32*(k+1+1):=by omega
        have hge0:(0:Int)≤33+32*((k:Int)+1):=by omega
        have hlk:min (k+1) ps.length=k+1:=by omega
        have hle:k+1≤ps.length:=by omega
        have hbig:(k+1+1)*32≤140737488355328:=by omega
        have hlt2:k<ps.length:=by omega
        simp only [pHR,pN]
        refine drw3 [0,1,2,3,4,5,6] [7,8,9,10,11] [0,1,2,3,4,5,6] (.step 7 [] true (.step 8 [] true (.step 9 [] false (.step 10 [] false (.step 11 [] false .done))))) ⟨[(0,.d (nb (ctl true inner ps))),(4,.ptr 0 0 0 1),(8,.ptr 1344 0 0 1),(9,.d (.int .i64 (33+32*((k:Int)+1))))],[(9416,⟨23,32,List.take (k+1) (List.map cb ps) ++ [cb q]⟩),(1344,⟨27,34,[leafC inner (.own 9416 0 (k+1+1) (k+1+1)) (.own 1216 0 x.length x.length)]⟩),(0,⟨27,34,[leafC z32 .nil .nil]⟩),(1216,⟨5,1,rb x⟩)],21000⟩ (k:=12) ?h3 ?hq
        case h3 =>
          intro G hG
          have hW:∀ (fr:Fr) (hp:Hp),(fv 0 fr=.d (nb (ctl true inner ps))∧fv 4 fr=.ptr 0 0 0 1∧fv 8 fr=.ptr 1344 0 0 1∧fv 9 fr=.d (.int .i64 (33+32*((k:Int)+1)))∧lk 9416 hp=some ⟨23,32,List.take (k+1) (List.map cb ps) ++ [cb q]⟩∧lk 1344 hp=some ⟨27,34,[leafC inner (.own 9416 0 (k+1+1) (k+1+1)) (.own 1216 0 x.length x.length)]⟩∧lk 0 hp=some ⟨27,34,[leafC z32 .nil .nil]⟩∧lk 1216 hp=some ⟨5,1,rb x⟩)→G fr hp:=by
            rintro fr hp ⟨q0,q1,q2,q3,q4,q5,q6,q7⟩
            exact hG _ _ wkA
          simp [go_sem,nb,hcl,w2,hle1,hle2,t1,t2,g1,hge0,hbig,hlk,hle,hlt2,leaf_hd hi,leaf_set hi,leaf_len hi,hq,cb_take hq,cb_len,-List.map_flatten,-List.length_flatten,SaW]
          repeat' first | exact hW _ _ ⟨rfl,rfl,rfl,rfl,rfl,rfl,rfl,rfl⟩ | (refine hW _ _ ?_;simp [fv,lk];done) | refine cl_eq (hashR2_fn q hq) (by simp [AV.deep,AV.deep1]) ?_ | apply And.intro | simp [go_sem,nb,hcl,w2,hle1,hle2,t1,t2,g1,hge0,hbig,hlk,hle,hlt2,leaf_hd hi,leaf_set hi,leaf_len hi,hq,cb_take hq,cb_len,-List.map_flatten,-List.length_flatten,SaW]
        case hq =>
          simp [go_sem,nb,w2]
          refine next_of ((k+1)+1) (by omega) (by omega) ?_
          have hc1:(ps.take ((k+1)+1)).map cb=(ps.take (k+1)).map cb ++ [cb q]:=by rw [htk];simp
          simp [Weak,slotOk,fv,lk,AV.low,AV.low1,pHR,pN,nb,-List.map_flatten,-List.length_flatten,-List.map_take,-List.map_drop]
          refine ⟨⟨?_,fun r hr=>?_⟩,leafC_low _ _ _ _ (by simp [AV.low1]) (by simp [AV.low1]),leafC_low _ _ _ _ trivial trivial,rb_low _ _⟩
          · rw [← List.map_take,← List.map_take];exact hc1.symm
          · exact rows_low _ ps r (List.mem_of_mem_take hr)
    · have hkn:k=ps.length:=by omega
      refine ⟨fun h=>absurd h (by simp [nb,hcl];omega),fun _=>?_⟩
      cases k with
      | zero =>
        have hps0:ps=[]:=List.eq_nil_of_length_eq_zero hkn.symm
        subst hps0
        simp only [pHR,pN]
        refine drw3 [0] [1,2,3,4,5,6,7] [0] (.alt (.step 1 [] true (.alt (.step 2 [] true (.alt (.step 3 [] true (.alt (.step 4 [] true (.step 5 [] false (.step 6 [] false (.step 7 [] false .done)))) (.step 5 [] false (.step 4 [] false (.step 6 [] false (.step 7 [] false .done)))))) (.step 5 [] false (.step 3 [] false (.step 4 [] false (.step 6 [] false (.step 7 [] false .done))))))) (.step 5 [] false (.step 2 [] false (.step 3 [] false (.step 4 [] false (.step 6 [] false (.step 7 [] false .done)))))))) (.step 5 [] false (.step 1 [] false (.step 2 [] false (.step 3 [] false (.step 4 [] false (.step 6 [] false (.step 7 [] false .done)))))))) ⟨[(4,.ptr 0 0 0 1),(5,.d (.bool true)),(6,.d (.int .i64 0))],[(0,⟨27,34,[leafC inner .nil (.own 1216 0 x.length x.length)]⟩),(1216,⟨5,1,rb x⟩)],30000⟩ (k:=8) ?h3 ?hq
        case h3 =>
          intro G hG
          have hW:∀ (fr:Fr) (hp:Hp),(fv 4 fr=.ptr 0 0 0 1∧fv 5 fr=.d (.bool true)∧fv 6 fr=.d (.int .i64 0)∧lk 0 hp=some ⟨27,34,[leafC inner .nil (.own 1216 0 x.length x.length)]⟩∧lk 1216 hp=some ⟨5,1,rb x⟩)→G fr hp:=by
            rintro fr hp ⟨q0,q1,q2,q3,q4⟩
            exact hG _ _ wkA
          simp (maxSteps:=2000000) [go_sem,nb,hc0,leaf_len hi,leaf_take2 hi,zlf,lft,-List.map_flatten,-List.length_flatten,SaW]
          repeat' first | exact hW _ _ ⟨rfl,rfl,rfl,rfl,rfl⟩ | (refine hW _ _ ?_;simp [fv,lk];done) | fail | apply And.intro | simp (maxSteps:=2000000) [go_sem,nb,hc0,leaf_len hi,leaf_take2 hi,zlf,lft,-List.map_flatten,-List.length_flatten,SaW]
        case hq =>
          simp only [go_sem,Nat.reduceEqDiff,Nat.reduceAdd,Nat.reduceLT,↓reduceIte,Nat.reduceBEq,List.take_zero,List.drop_zero,List.set_cons_zero,List.getElem?_cons_zero,leaf_len hi,leaf_take2 hi,resV]
          exact post_leaf (.inr ⟨_,rfl,.nil 32⟩) (snap1_d (snap_full (L:=x) rfl rfl trivial)) rfl
      | succ k =>
        have htl:ps.take (k+1)=ps:=List.take_of_length_le (by omega)
        simp only [pHR,pN,htl]
        refine drw3 [0] [1,2,3,4,5,6,7] [0] (.alt (.step 1 [] true (.alt (.step 2 [] true (.alt (.step 3 [] true (.alt (.step 4 [] true (.step 5 [] false (.step 6 [] false (.step 7 [] false .done)))) (.step 5 [] false (.step 4 [] false (.step 6 [] false (.step 7 [] false .done)))))) (.step 5 [] false (.step 3 [] false (.step 4 [] false (.step 6 [] false (.step 7 [] false .done))))))) (.step 5 [] false (.step 2 [] false (.step 3 [] false (.step 4 [] false (.step 6 [] false (.step 7 [] false .done)))))))) (.step 5 [] false (.step 1 [] false (.step 2 [] false (.step 3 [] false (.step 4 [] false (.step 6 [] false (.step 7 [] false .done)))))))) ⟨[(4,.ptr 0 0 0 1),(5,.d (.bool true)),(6,.d (.int .i64 0))],[(9416,⟨23,32,ps.map cb⟩),(0,⟨27,34,[leafC inner (.own 9416 0 (k+1) (k+1)) (.own 1216 0 x.length x.length)]⟩),(1216,⟨5,1,rb x⟩)],30000⟩ (k:=8) ?h3 ?hq
        case h3 =>
          intro G hG
          have hW:∀ (fr:Fr) (hp:Hp),(fv 4 fr=.ptr 0 0 0 1∧fv 5 fr=.d (.bool true)∧fv 6 fr=.d (.int .i64 0)∧lk 9416 hp=some ⟨23,32,ps.map cb⟩∧lk 0 hp=some ⟨27,34,[leafC inner (.own 9416 0 (k+1) (k+1)) (.own 1216 0 x.length x.length)]⟩∧lk 1216 hp=some ⟨5,1,rb x⟩)→G fr hp:=by
            rintro fr hp ⟨q0,q1,q2,q3,q4,q5⟩
            exact hG _ _ wkA
          simp (maxSteps:=2000000) [go_sem,nb,hc0,leaf_len hi,leaf_take2 hi,zlf,lft,-List.map_flatten,-List.length_flatten,SaW]
          repeat' first | exact hW _ _ ⟨rfl,rfl,rfl,rfl,rfl,rfl⟩ | (refine hW _ _ ?_;simp [fv,lk];done) | fail | apply And.intro | simp (maxSteps:=2000000) [go_sem,nb,hc0,leaf_len hi,leaf_take2 hi,zlf,lft,-List.map_flatten,-List.length_flatten,SaW]
        case hq =>
          simp only [go_sem,Nat.reduceEqDiff,Nat.reduceAdd,Nat.reduceLT,↓reduceIte,Nat.reduceBEq,List.take_zero,List.drop_zero,List.set_cons_zero,List.getElem?_cons_zero,leaf_len hi,leaf_take2 hi,resV]
          exact post_leaf (.inr ⟨_,rfl,own_of (rows:=ps.map cb) rfl trivial (by simp [hkn]) (by rw [List.drop_zero,List.take_of_length_le (by simp [hkn]),← hs_map ps];exact rows_map _) (by simp [hkn]) (by intro r hr;simp at hr;obtain ⟨p,hp,rfl⟩:=hr;rw [cd_len];exact hp32 p hp)⟩) (snap1_d (snap_full (L:=x) rfl rfl trivial)) rfl
theorem rcheck_gen {inner x k kk:List Nat} {ps:List (List Nat)} {o is:Bool} {e:Int} (hi:inner.length=32) (hp32:∀ p,p ∈ ps→p.length=32) (hps:ps.length≤8) (hx:x.length≤1000) (hk:k.length=32) (hkk:kk.length=32) (he:E1 e) (f:Rets Tryz.prog 55 [leafV inner ps x] (fun r=>r=.tup [.agg (cb k),.d (.bool is),.d (.int .i64 e)])) :
    Rets Tryz.prog 16 [.d (nb (ctl o inner ps)),.d (nb x),.agg (cb kk)] (fun r=>r=if e=0∧k=kk∧is=o then .tup [.agg (leafC inner (.d (hs32 ps)) (.d (nb x))),.d (.int .i64 0)] else noCheck):=by
  refine fna Tryz.func16 Tryz.ntmps16 (rs:=[.cell 6 27,.tmp 7]) (three_d _ _ _) ?_
  have zd:List.drop 32 (cb z32)=[]:=cb_drop rfl
  have zlf:(leafC z32 .nil .nil).length=34:=rfl
  have lft:List.drop 34 (leafC z32 .nil .nil)=[]:=rfl
  have zt:List.take 34 (leafC z32 .nil .nil)=leafC z32 .nil .nil:=rfl
  have f1:=rread_ok o hi hp32 hps hx
  simp [go_sem,cb_len,hkk,cb_take hkk]
  refine cl_eq f1 (by simp [AV.deep,AV.deep1]) ?_
  simp [go_sem,leaf_len hi,leaf_take2 hi,zlf,lft]
  refine cl_eq f (leafV_deep _ _ _) ?_
  rcases he with rfl | rfl
  · by_cases q:k=kk
    · subst q
      cases o <;> cases is
      · simp [go_sem,cb_len,hk,cb_take hk,zd,ints_cb,leaf_len hi,leaf_take2 hi,zlf,lft,zt,resV]
        exact post_le rfl
      · simp [go_sem,cb_len,hk,cb_take hk,zd,ints_cb,leaf_len hi,leaf_take2 hi,zlf,lft,zt,resV]
        exact post_same noCheck_deep rfl
      · simp [go_sem,cb_len,hk,cb_take hk,zd,ints_cb,leaf_len hi,leaf_take2 hi,zlf,lft,zt,resV]
        exact post_same noCheck_deep rfl
      · simp [go_sem,cb_len,hk,cb_take hk,zd,ints_cb,leaf_len hi,leaf_take2 hi,zlf,lft,zt,resV]
        exact post_le rfl
    · have q2:¬ (List.map (fun (x:Nat)=>(x:Int)) k=List.map (fun (x:Nat)=>(x:Int)) kk):=fun h=>q (natmap_inj.1 h)
      simp [go_sem,cb_len,hk,hkk,cb_take hk,cb_take hkk,zd,ints_cb,q,q2,zlf,lft,zt,resV]
      exact post_same noCheck_deep rfl
  · simp [go_sem,cb_len,hk,hkk,cb_take hk,cb_take hkk,zd,ints_cb,zlf,lft,zt,resV]
    exact post_same noCheck_deep rfl
theorem both_turn (inner:List Nat) (ps:List (List Nat)) (x:List Nat) (hi:inner.length=32) (hib:bytes inner) (hp:∀ p,p ∈ ps→p.length=32∧bytes p) (hps:ps.length≤1000) (hx:x.length≤100000) (hxb:bytes x) :
    ∃ (k:List Nat) (o:Bool) (e:Int),k.length=32∧E1 e∧Rets Tryz.prog 54 [leafV inner ps x] (fun r=>r=.tup [.agg (cb k),.d (.bool o),.d (.int .i64 e)])∧Rets Tryz.prog 55 [leafV inner ps x] (fun r=>r=.tup [.agg (cb k),.d (.bool o),.d (.int .i64 e)]):=by
  obtain ⟨k,o,e,hk,hkb,he,f1,_,t1⟩:=turned_ex inner ps x hi hib (fun p h=>(hp p h).1) hps hx
  obtain ⟨k',o',e',hk',hkb',_,f2,_,t2⟩:=rturned inner ps x hi hib hp hxb hps hx
  obtain ⟨rfl,rfl,rfl⟩:=leafTurn_uniq hk hkb hk' hkb' t1 t2
  exact ⟨k,o,e,hk,he,f1,f2⟩
theorem bytes_ctl {o:Bool} {inner:List Nat} {ps:List (List Nat)} (h:bytes (ctl o inner ps)):bytes inner∧∀ p,p ∈ ps→bytes p :=
  ⟨fun z hz=>h z (by unfold ctl;simp [hz]),fun p hp z hz=>h z (by unfold ctl;simp;exact .inr (.inr ⟨p,hp,hz⟩))⟩
theorem both_check (c x key:List Nat) (hc:bytes c) (hl:c.length≤1000000) (hx:x.length≤1000) (hxb:bytes x) (hk:key.length=32) :
    ∃ r:AV,(r=noCheck ∨ ∃ inner ps,inner.length=32∧(∀ p,p ∈ ps→p.length=32)∧ps.length≤8∧r=.tup [.agg (leafC inner (.d (hs32 ps)) (.d (nb x))),.d (.int .i64 0)]) ∧
      Rets Tryz.prog 15 [.d (nb c),.d (nb x),.agg (cb key)] (fun v=>v=r)∧Rets Tryz.prog 16 [.d (nb c),.d (nb x),.agg (cb key)] (fun v=>v=r):=by
  by_cases hb:ctlOk c
  · obtain ⟨o,inner,ps,rfl,hi,hp32,hps⟩:=ctl_of hb
    obtain ⟨hib,hpb⟩:=bytes_ctl hc
    obtain ⟨k,is,e,hk2,he,f1,f2⟩:=both_turn inner ps x hi hib (fun p h=>⟨hp32 p h,hpb p h⟩) (by omega) (by omega) hxb
    refine ⟨_,?_,check_gen hi hp32 hps hx hk2 hk he f1,rcheck_gen hi hp32 hps hx hk2 hk he f2⟩
    split
    · exact .inr ⟨inner,ps,hi,hp32,hps,rfl⟩
    · exact .inl rfl
  · exact ⟨noCheck,.inl rfl,check_bad c x key hc hl hx hk hb,rcheck_bad c x key hc hl hx hk hb⟩
theorem renL_app (ρ:Nat→Nat):∀ l m:List AV,AV.renL ρ (l ++ m)=AV.renL ρ l ++ AV.renL ρ m
  | [],m=>by simp [AV.renL]
  | v :: r,m=>by rw [List.cons_append,AV.renL,renL_app ρ r m,AV.renL,List.cons_append]
theorem leafC_ren (ρ:Nat→Nat) (inner:List Nat) (a b:AV):AV.renL ρ (leafC inner a b)=leafC inner (a.ren ρ) (b.ren ρ):=by
  unfold leafC
  rw [renL_app,cb_ren]
  simp [AV.renL]
theorem rows_ren (ρ:Nat→Nat) (ps:List (List Nat)):List.map (AV.renL ρ) (ps.map cb)=ps.map cb:=by
  rw [List.map_map]
  exact List.map_congr_left fun p _=>cb_ren ρ p
def PathOk (N:Nat) (ps:List (List Nat)) (J:AV) (HX:Hp):Prop :=
  (J=.nil∧HX=[]∧ps=[]) ∨ (J=.own (N+1) 0 ps.length ps.length∧HX=[(N+1,⟨23,32,ps.map cb⟩)])
theorem cl_read {inner x:List Nat} {ps:List (List Nat)} {o:Bool} (hi:inner.length=32) (hp32:∀ p,p ∈ ps→p.length=32) (hps:ps.length≤8) (hx:x.length≤1000) (hx0:x ≠ []) {hp:Hp} {N:Nat} {K:AV→Hp→Prop}
    (hK:∀ J HX,PathOk N ps J HX→K (.tup [.agg (leafC inner J (.own N 0 x.length x.length)),.d (.bool o),.d (.int .i64 0)]) ((N,⟨5,1,rb x⟩) :: (HX ++ hp))) :
    ClW Tryz.prog 12 [.d (nb (ctl o inner ps)),.d (nb x)] hp N K:=by
  refine cl_eff [] (read_own o hi hp32 hps hx hx0) rfl (by simp) (by simp) (by simp) (by simp [AV.renL,AV.ren,nb]) ?_
  rintro r hp' ⟨J,rfl,hl,hJ⟩
  have e:hp.filter (fun _=>true)=hp:=List.filter_eq_self.2 (by simp)
  rcases hJ with ⟨rfl,rfl⟩ | ⟨_,rfl,hl2⟩
  · refine ⟨[(1121,0)],by simp [newsB,prsB],?_⟩
    have:=hK .nil [] (.inl ⟨rfl,rfl,rfl⟩)
    simpa [e,outH,outP,hl,Blk.ren,renR,rb_ren,AV.ren,AV.renL,leafC_ren,rho,lk] using this
  · refine ⟨[(1121,0),(9320,1)],by simp [newsB,prsB],?_⟩
    have:=hK _ _ (.inr ⟨rfl,rfl⟩)
    simpa [e,outH,outP,hl,hl2,Blk.ren,renR,rb_ren,rows_ren,AV.ren,AV.renL,leafC_ren,rho,lk,-List.map_map] using this
theorem path_snap {N:Nat} {ps:List (List Nat)} {J:AV} {HX hp:Hp} (h:PathOk N ps J HX) (hp32:∀ p,p ∈ ps→p.length=32) (hl:∀ b,lk (N+1) HX=some b→lk (N+1) hp=some b):Snap1 hp (fun _=>True) J (.d (hs32 ps)):=by
  rcases h with ⟨rfl,rfl,rfl⟩ | ⟨rfl,rfl⟩
  · exact .inr ⟨_,rfl,.nil 32⟩
  · exact .inr ⟨_,rfl,own_of (rows:=ps.map cb) (hl ⟨23,32,ps.map cb⟩ (by simp [lk])) trivial (by simp) (by rw [List.drop_zero,List.take_of_length_le (by simp),← hs_map ps];exact rows_map _) (by simp) (by intro r hr;simp at hr;obtain ⟨p,hp,rfl⟩:=hr;rw [cd_len];exact hp32 p hp)⟩
theorem path_low {N n:Nat} {ps:List (List Nat)} {J:AV} {HX:Hp} (h:PathOk N ps J HX) (hn:N+1<n):J.low1 n:=by
  rcases h with ⟨rfl,_,_⟩ | ⟨rfl,_⟩
  · trivial
  · exact hn
theorem same_none:∀ {hp:Hp} {N:Nat} {K:AV→Hp→Prop},K (.d (.bool true)) hp→ClW Tryz.prog 14 [.agg (leafC z32 .nil .nil),.agg (leafC z32 .nil .nil)] hp N K:=by
  intro hp N K hK
  have h:=same_ok (inner:=z32) (x:=[]) (ps:=[]) rfl (by simp) (by simp) (by intro z hz;simp at hz)
  have s:Snap hp (fun _=>True) (.agg (leafC z32 .nil .nil)) (leafV z32 [] []):=.agg (leaf_snapC z32 (.inr ⟨_,rfl,.nil 32⟩) (.inr ⟨_,rfl,.nil 1⟩))
  exact cl_snap h rfl (snap_cons s (snap_cons s snap_nil)) trivial hK
theorem law_bad (c s key:List Nat) (r:AV) (hc:bytes c) (hs:bytes s) (hk:key.length=32) (b1:c.length≤300) (b2:s.length≤300) (hr:r=noCheck ∨ ∃ inner ps,inner.length=32∧(∀ p,p ∈ ps→p.length=32)∧ps.length≤8∧r=.tup [.agg (leafC inner (.d (hs32 ps)) (.d (nb s))),.d (.int .i64 0)])
    (g1:Rets Tryz.prog 15 [.d (nb c),.d (nb s),.agg (cb key)] (fun v=>v=r)) (g2:Rets Tryz.prog 16 [.d (nb c),.d (nb s),.agg (cb key)] (fun v=>v=r)) (hb:¬ ctlOk c) :
    Rets Tryz.prog 3 [.d (nb c),.d (nb s),.agg (cb key)] (fun r=>r=.d (.bool true)):=by
  refine fn_of_sem Tryz.func3 (by kernel_rfl) rfl Tryz.ntmps3 (rs:=[.tmp 6]) rfl (nlb rfl) (three_d _ _ _) ?_
  have i1:¬ (300:Int)<(c.length:Int):=by omega
  have i2:¬ (300:Int)<(s.length:Int):=by omega
  have zlf:(leafC z32 .nil .nil).length=34:=rfl
  have lft:List.drop 34 (leafC z32 .nil .nil)=[]:=rfl
  have zt:List.take 34 (leafC z32 .nil .nil)=leafC z32 .nil .nil:=rfl
  refine sem_seq (sem_of_awp ?_)
  simp [go_sem,nb,cb_len,hk,cb_take hk,i1,i2]
  simp only [SeqK]
  refine sem_seq (sem_of_awp ?_)
  simp [go_sem,nb,cb_len,hk,cb_take hk,i1,i2]
  simp only [SeqK]
  refine sem_seq (sem_of_awp ?_)
  simp [go_sem,nb,cb_len,hk,cb_take hk,i1,i2,rb_of,rb_len]
  simp only [SeqK]
  refine ⟨by omega,by omega,?_⟩
  refine sem_wk (st':=⟨[(7,.d (nb c)),(8,.d (nb s)),(0,.d (nb c)),(1,.d (nb s)),(5,.ptr 0 0 0 1)],[(0,⟨23,32,[cb key]⟩)],9000⟩) (weakF_of [320,416] [(7,.d (nb c)),(8,.d (nb s))] ?_ ?_) ?_
  · intro p hp
    simp only [List.mem_cons,List.mem_nil_iff,or_false] at hp
    rcases hp with rfl | rfl
    · exact .one (snap1_d (snap_full (L:=c) rfl rfl (by simp)))
    · exact .one (snap1_d (snap_full (L:=s) rfl rfl (by simp)))
  · simp [Weak,slotOk,fv,lk,dropH,AV.low,AV.low1,nb]
    exact cb_low _ _
  refine sem_of_awp ?_
  simp [go_sem,nb]
  refine cl_eq (read_bad c s hc (by omega) (by omega) hb) (by simp [AV.deep,AV.deep1]) ?_
  simp [go_sem,noLeaf,zlf,lft,zt]
  refine cl_eq (rread_bad c s hc (by omega) (by omega) hb) (by simp [AV.deep,AV.deep1]) ?_
  simp [go_sem,noLeaf,zlf,lft,zt]
  refine same_none ?_
  simp [go_sem,zlf,lft,zt]
  refine loop_of (fun _:Nat=>⟨[(9,.ptr 9224 0 0 1),(15,.d (.bool true)),(16,.d (.int .i64 0)),(7,.d (nb c)),(8,.d (nb s)),(0,.d (nb c)),(1,.d (nb s)),(5,.ptr 0 0 0 1)],[(9224,⟨27,34,[leafC z32 .nil .nil]⟩),(0,⟨23,32,[cb key]⟩)],20000⟩) (fun k=>k=0) (fun _=>0) 0 rfl (by
    simp [Weak,slotOk,fv,lk,AV.low,AV.low1,nb]
    exact ⟨leafC_low _ _ _ _ trivial trivial,cb_low _ _⟩) ?_
  intro k hk0
  have h33:(List.drop 33 (leafC z32 .nil .nil)).head?=some .nil:=rfl
  have g33:(leafC z32 .nil .nil)[33]?=some .nil:=rfl
  simp [go_sem,h33,g33,zlf,lft,zt]
  simp [go_sem,cb_len,hk,cb_take hk]
  rcases hr with rfl | ⟨inner',ps',hi',hp32',hps',rfl⟩
  · refine cl_eq g1 (three_d _ _ _) ?_
    simp [go_sem,noCheck,cb_len,hk,cb_take hk,zlf,lft,zt]
    refine cl_eq g2 (three_d _ _ _) ?_
    simp [go_sem,noCheck,cb_len,hk,cb_take hk,zlf,lft,zt]
    refine cl_eq alive16_fn (by simp) ?_
    simp [go_sem,zlf,lft,zt]
    refine same_none ?_
    simp [go_sem,nb]
    refine cvS_nb c 5 hc (by simp [go_sem]) (by simp [go_sem]) Tryz.underlying5 ?_
    simp [go_sem,nb]
    refine cvS_nb c 5 hc (by simp [go_sem]) (by simp [go_sem]) Tryz.underlying5 ?_
    simp [go_sem,nb]
    refine cvS_nb s 5 hs (by simp [go_sem]) (by simp [go_sem]) Tryz.underlying5 ?_
    simp [go_sem,nb]
    refine cvS_nb s 5 hs (by simp [go_sem]) (by simp [go_sem]) Tryz.underlying5 ?_
    simp [go_sem,nb,resV]
    exact post_same (by simp [AV.deep,AV.deep1]) rfl
  · refine cl_eq g1 (three_d _ _ _) ?_
    simp [go_sem,cb_len,hk,cb_take hk,leaf_len hi',leaf_take2 hi',zlf,lft,zt]
    refine cl_eq g2 (three_d _ _ _) ?_
    simp [go_sem,cb_len,hk,cb_take hk,leaf_len hi',leaf_take2 hi',zlf,lft,zt]
    refine cl_eq alive16_fn (by simp) ?_
    simp [go_sem,leaf_len hi',leaf_take2 hi']
    refine cl_eq (same_ok hi' hp32' (by omega) hs) (by intro v hv;simp at hv;subst hv;exact leafC_deep _ _ _) ?_
    simp [go_sem,nb]
    refine cvS_nb c 5 hc (by simp [go_sem]) (by simp [go_sem]) Tryz.underlying5 ?_
    simp [go_sem,nb]
    refine cvS_nb c 5 hc (by simp [go_sem]) (by simp [go_sem]) Tryz.underlying5 ?_
    simp [go_sem,nb]
    refine cvS_nb s 5 hs (by simp [go_sem]) (by simp [go_sem]) Tryz.underlying5 ?_
    simp [go_sem,nb]
    refine cvS_nb s 5 hs (by simp [go_sem]) (by simp [go_sem]) Tryz.underlying5 ?_
    simp [go_sem,nb,resV]
    exact post_same (by simp [AV.deep,AV.deep1]) rfl
theorem leaf_hd2 {inner:List Nat} (hi:inner.length=32) (a b:AV):(List.drop 33 (leafC inner a b)).head?=some b:=by
  have hl:(cb inner).length=32:=by rw [cb_len,hi]
  unfold leafC
  rw [List.drop_append,List.drop_eq_nil_of_le (by omega),hl]
  rfl
theorem law_empty (c s key inner:List Nat) (ps:List (List Nat)) (o:Bool) (r:AV) (hc:bytes c) (hs:bytes s) (hk:key.length=32) (b1:c.length≤300) (b2:s.length≤300) (hr:r=noCheck ∨ ∃ inner ps,inner.length=32∧(∀ p,p ∈ ps→p.length=32)∧ps.length≤8∧r=.tup [.agg (leafC inner (.d (hs32 ps)) (.d (nb s))),.d (.int .i64 0)])
    (g1:Rets Tryz.prog 15 [.d (nb c),.d (nb s),.agg (cb key)] (fun v=>v=r)) (g2:Rets Tryz.prog 16 [.d (nb c),.d (nb s),.agg (cb key)] (fun v=>v=r)) (hi:inner.length=32) (hp32:∀ p,p ∈ ps→p.length=32) (hps:ps.length≤8) (h0:s=[])
    (f1:Rets Tryz.prog 12 [.d (nb c),.d (nb s)] (fun v=>v=.tup [.agg (leafC inner (.d (hs32 ps)) (.d (nb s))),.d (.bool o),.d (.int .i64 0)]))
    (f2:Rets Tryz.prog 13 [.d (nb c),.d (nb s)] (fun v=>v=.tup [.agg (leafC inner (.d (hs32 ps)) (.d (nb s))),.d (.bool o),.d (.int .i64 0)])) :
    Rets Tryz.prog 3 [.d (nb c),.d (nb s),.agg (cb key)] (fun r=>r=.d (.bool true)):=by
  refine fn_of_sem Tryz.func3 (by kernel_rfl) rfl Tryz.ntmps3 (rs:=[.tmp 6]) rfl (nlb rfl) (three_d _ _ _) ?_
  have i1:¬ (300:Int)<(c.length:Int):=by omega
  have i2:¬ (300:Int)<(s.length:Int):=by omega
  have zlf:(leafC z32 .nil .nil).length=34:=rfl
  have lft:List.drop 34 (leafC z32 .nil .nil)=[]:=rfl
  have zt:List.take 34 (leafC z32 .nil .nil)=leafC z32 .nil .nil:=rfl
  refine sem_seq (sem_of_awp ?_)
  simp [go_sem,nb,cb_len,hk,cb_take hk,i1,i2]
  simp only [SeqK]
  refine sem_seq (sem_of_awp ?_)
  simp [go_sem,nb,cb_len,hk,cb_take hk,i1,i2]
  simp only [SeqK]
  refine sem_seq (sem_of_awp ?_)
  simp [go_sem,nb,cb_len,hk,cb_take hk,i1,i2,rb_of,rb_len]
  simp only [SeqK]
  refine ⟨by omega,by omega,?_⟩
  refine sem_wk (st':=⟨[(7,.d (nb c)),(8,.d (nb s)),(0,.d (nb c)),(1,.d (nb s)),(5,.ptr 0 0 0 1)],[(0,⟨23,32,[cb key]⟩)],9000⟩) (weakF_of [320,416] [(7,.d (nb c)),(8,.d (nb s))] ?_ ?_) ?_
  · intro p hp
    simp only [List.mem_cons,List.mem_nil_iff,or_false] at hp
    rcases hp with rfl | rfl
    · exact .one (snap1_d (snap_full (L:=c) rfl rfl (by simp)))
    · exact .one (snap1_d (snap_full (L:=s) rfl rfl (by simp)))
  · simp [Weak,slotOk,fv,lk,dropH,AV.low,AV.low1,nb]
    exact cb_low _ _
  refine sem_of_awp ?_
  simp [go_sem,nb]
  refine cl_eq f1 (by simp [AV.deep,AV.deep1]) ?_
  simp [go_sem,leaf_len hi,leaf_take2 hi,zlf,lft]
  refine cl_eq f2 (by simp [AV.deep,AV.deep1]) ?_
  simp [go_sem,leaf_len hi,leaf_take2 hi,zlf,lft]
  refine cl_eq (same_ok hi hp32 (by omega) hs) (by intro v hv;simp at hv;subst hv;exact leafC_deep _ _ _) ?_
  simp [go_sem,leaf_len hi,leaf_take2 hi,zlf,lft]
  refine loop_of (fun _:Nat=>⟨[(9,.ptr 9224 0 0 1),(15,.d (.bool true)),(16,.d (.int .i64 0)),(7,.d (nb c)),(8,.d (nb s)),(0,.d (nb c)),(1,.d (nb s)),(5,.ptr 0 0 0 1)],[(9224,⟨27,34,[leafC inner (.d (hs32 ps)) (.d (nb s))]⟩),(0,⟨23,32,[cb key]⟩)],20000⟩) (fun k=>k=0) (fun _=>0) 0 rfl (by
    simp [Weak,slotOk,fv,lk,AV.low,AV.low1,nb]
    exact ⟨leafC_low _ _ _ _ trivial trivial,cb_low _ _⟩) ?_
  intro k hk0
  have h33:=fun J S=>leaf_hd2 hi J S
  have g33:∀ J S,(leafC inner J S)[33]?=some S:=fun J S=>leaf33 hi J S
  have hs0:s.length=0:=by rw [h0];rfl
  simp [go_sem,h33,g33,nb,hs0]
  simp [go_sem,cb_len,hk,cb_take hk]
  rcases hr with rfl | ⟨inner',ps',hi',hp32',hps',rfl⟩
  · refine cl_eq g1 (three_d _ _ _) ?_
    simp [go_sem,noCheck,cb_len,hk,cb_take hk,zlf,lft,zt]
    refine cl_eq g2 (three_d _ _ _) ?_
    simp [go_sem,noCheck,cb_len,hk,cb_take hk,zlf,lft,zt]
    refine cl_eq alive16_fn (by simp) ?_
    simp [go_sem,zlf,lft,zt]
    refine same_none ?_
    simp [go_sem,nb]
    refine cvS_nb c 5 hc (by simp [go_sem]) (by simp [go_sem]) Tryz.underlying5 ?_
    simp [go_sem,nb]
    refine cvS_nb c 5 hc (by simp [go_sem]) (by simp [go_sem]) Tryz.underlying5 ?_
    simp [go_sem,nb]
    refine cvS_nb s 5 hs (by simp [go_sem]) (by simp [go_sem]) Tryz.underlying5 ?_
    simp [go_sem,nb]
    refine cvS_nb s 5 hs (by simp [go_sem]) (by simp [go_sem]) Tryz.underlying5 ?_
    simp [go_sem,nb,resV]
    exact post_same (by simp [AV.deep,AV.deep1]) rfl
  · refine cl_eq g1 (three_d _ _ _) ?_
    simp [go_sem,cb_len,hk,cb_take hk,leaf_len hi',leaf_take2 hi',zlf,lft,zt]
    refine cl_eq g2 (three_d _ _ _) ?_
    simp [go_sem,cb_len,hk,cb_take hk,leaf_len hi',leaf_take2 hi',zlf,lft,zt]
    refine cl_eq alive16_fn (by simp) ?_
    simp [go_sem,leaf_len hi',leaf_take2 hi']
    refine cl_eq (same_ok hi' hp32' (by omega) hs) (by intro v hv;simp at hv;subst hv;exact leafC_deep _ _ _) ?_
    simp [go_sem,nb]
    refine cvS_nb c 5 hc (by simp [go_sem]) (by simp [go_sem]) Tryz.underlying5 ?_
    simp [go_sem,nb]
    refine cvS_nb c 5 hc (by simp [go_sem]) (by simp [go_sem]) Tryz.underlying5 ?_
    simp [go_sem,nb]
    refine cvS_nb s 5 hs (by simp [go_sem]) (by simp [go_sem]) Tryz.underlying5 ?_
    simp [go_sem,nb]
    refine cvS_nb s 5 hs (by simp [go_sem]) (by simp [go_sem]) Tryz.underlying5 ?_
    simp [go_sem,nb,resV]
    exact post_same (by simp [AV.deep,AV.deep1]) rfl
theorem law_own (c s key inner:List Nat) (ps:List (List Nat)) (o:Bool) (r:AV) (hc:bytes c) (hs:bytes s) (hk:key.length=32) (b1:c.length≤300) (b2:s.length≤300) (hr:r=noCheck ∨ ∃ inner ps,inner.length=32∧(∀ p,p ∈ ps→p.length=32)∧ps.length≤8∧r=.tup [.agg (leafC inner (.d (hs32 ps)) (.d (nb s))),.d (.int .i64 0)])
    (g1:Rets Tryz.prog 15 [.d (nb c),.d (nb s),.agg (cb key)] (fun v=>v=r)) (g2:Rets Tryz.prog 16 [.d (nb c),.d (nb s),.agg (cb key)] (fun v=>v=r)) (hi:inner.length=32) (hp32:∀ p,p ∈ ps→p.length=32) (hps:ps.length≤8) (h0:s ≠ []) (hcc:c=ctl o inner ps)
    (f2:Rets Tryz.prog 13 [.d (nb c),.d (nb s)] (fun v=>v=.tup [.agg (leafC inner (.d (hs32 ps)) (.d (nb s))),.d (.bool o),.d (.int .i64 0)])) :
    Rets Tryz.prog 3 [.d (nb c),.d (nb s),.agg (cb key)] (fun r=>r=.d (.bool true)):=by
  refine fn_of_sem Tryz.func3 (by kernel_rfl) rfl Tryz.ntmps3 (rs:=[.tmp 6]) rfl (nlb rfl) (three_d _ _ _) ?_
  have i1:¬ (300:Int)<(c.length:Int):=by omega
  have i2:¬ (300:Int)<(s.length:Int):=by omega
  have zlf:(leafC z32 .nil .nil).length=34:=rfl
  have lft:List.drop 34 (leafC z32 .nil .nil)=[]:=rfl
  have zt:List.take 34 (leafC z32 .nil .nil)=leafC z32 .nil .nil:=rfl
  refine sem_seq (sem_of_awp ?_)
  simp [go_sem,nb,cb_len,hk,cb_take hk,i1,i2]
  simp only [SeqK]
  refine sem_seq (sem_of_awp ?_)
  simp [go_sem,nb,cb_len,hk,cb_take hk,i1,i2]
  simp only [SeqK]
  refine sem_seq (sem_of_awp ?_)
  simp [go_sem,nb,cb_len,hk,cb_take hk,i1,i2,rb_of,rb_len]
  simp only [SeqK]
  refine ⟨by omega,by omega,?_⟩
  refine sem_wk (st':=⟨[(7,.d (nb c)),(8,.d (nb s)),(0,.d (nb c)),(1,.d (nb s)),(5,.ptr 0 0 0 1)],[(0,⟨23,32,[cb key]⟩)],9000⟩) (weakF_of [320,416] [(7,.d (nb c)),(8,.d (nb s))] ?_ ?_) ?_
  · intro p hp
    simp only [List.mem_cons,List.mem_nil_iff,or_false] at hp
    rcases hp with rfl | rfl
    · exact .one (snap1_d (snap_full (L:=c) rfl rfl (by simp)))
    · exact .one (snap1_d (snap_full (L:=s) rfl rfl (by simp)))
  · simp [Weak,slotOk,fv,lk,dropH,AV.low,AV.low1,nb]
    exact cb_low _ _
  refine sem_of_awp ?_
  simp [go_sem,nb]
  subst hcc
  refine cl_read (o:=o) (inner:=inner) (x:=s) (ps:=ps) hi hp32 hps (by omega) h0 ?_
  intro J HX hJ
  simp [go_sem,leaf_len hi,leaf_take2 hi,zlf,lft]
  refine cl_eq f2 (by simp [AV.deep,AV.deep1]) ?_
  simp [go_sem,leaf_len hi,leaf_take2 hi,zlf,lft]
  have hk0:lk 0 (HX ++ [(0,⟨23,32,[cb key]⟩)])=some ⟨23,32,[cb key]⟩:=by rcases hJ with ⟨rfl,rfl,rfl⟩ | ⟨rfl,rfl⟩ <;> simp [lk]
  refine cl_snap (same_ok hi hp32 (by omega) hs) rfl (snap_cons (.agg (leaf_snapC inner (path_snap hJ hp32 (by intro b hb;simp at hb;simp [lk,lk_app,hb])) (snap1_d (snap_full (L:=s) rfl rfl trivial)))) (snap_cons (.deep (leafC_deep _ _ _)) snap_nil)) trivial ?_
  simp [go_sem,leaf_len hi,leaf_take2 hi]
  refine loop_of (fun t:Nat × List Nat=>⟨[(9,.ptr 9224 0 0 1),(15,.d (.bool true)),(16,.d (.int .i64 (t.1:Int))),(7,.d (nb (ctl o inner ps))),(8,.d (nb s)),(0,.d (nb (ctl o inner ps))),(1,.d (nb s)),(5,.ptr 0 0 0 1)],[(9224,⟨27,34,[leafC inner J (.own 9064 0 s.length s.length)]⟩),(9064,⟨5,1,rb t.2⟩),(0,⟨23,32,[cb key]⟩)],20000⟩) (fun t=>t.1≤s.length∧t.2.length=s.length) (fun t=>s.length - t.1) (0,s) ⟨by simp,rfl⟩ (by
    simp [Weak,slotOk,fv,lk,AV.low,AV.low1,nb,hk0]
    exact ⟨leafC_low _ _ _ _ (path_low hJ (by omega)) (by simp [AV.low1]),rb_low _ _,cb_low _ _⟩) ?_
  rintro ⟨k,L⟩ ⟨hkl,hL⟩
  simp only at hkl hL
  have w:=next_i64 (k:=k) (by omega)
  have h33:=fun J S=>leaf_hd2 hi J S
  have g33:∀ J S,(leafC inner J S)[33]?=some S:=fun J S=>leaf33 hi J S
  by_cases hlt:k<s.length
  · have hkL:k<L.length:=by omega
    have hrow:∀ h,(rb L)[k]'h=[AV.d (.int .u8 ((L[k]'hkL:Nat):Int))]:=by intro h;simp [rb]
    have hset:(rb L).set k [AV.d (.int .u8 44)]=rb (L.set k 44):=by simp [rb,List.map_set]
    simp [go_sem,h33,g33,nb,rb_len,hL,hlt,w,hrow,hset]
    refine next_of (k+1,L.set k 44) ⟨by omega,by simp [hL]⟩ (by simp only;omega) ?_
    simp [Weak,slotOk,fv,lk,AV.low,AV.low1,nb]
    exact ⟨leafC_low _ _ _ _ (path_low hJ (by omega)) (by simp [AV.low1]),rb_low _ _,cb_low _ _⟩
  · simp [go_sem,h33,g33,nb,rb_len,hL,hlt]
    simp only [nb] at g1 g2
    simp [go_sem,cb_len,hk,cb_take hk]
    rcases hr with rfl | ⟨inner',ps',hi',hp32',hps',rfl⟩
    · refine cl_eq g1 (three_d _ _ _) ?_
      simp [go_sem,noCheck,cb_len,hk,cb_take hk,zlf,lft,zt]
      refine cl_eq g2 (three_d _ _ _) ?_
      simp [go_sem,noCheck,cb_len,hk,cb_take hk,zlf,lft,zt]
      refine cl_eq alive16_fn (by simp) ?_
      simp [go_sem,zlf,lft,zt]
      refine same_none ?_
      simp [go_sem,nb]
      refine cvS_nb (ctl o inner ps) 5 hc (by simp [go_sem]) (by simp [go_sem]) Tryz.underlying5 ?_
      simp [go_sem,nb]
      refine cvS_nb (ctl o inner ps) 5 hc (by simp [go_sem]) (by simp [go_sem]) Tryz.underlying5 ?_
      simp [go_sem,nb]
      refine cvS_nb s 5 hs (by simp [go_sem]) (by simp [go_sem]) Tryz.underlying5 ?_
      simp [go_sem,nb]
      refine cvS_nb s 5 hs (by simp [go_sem]) (by simp [go_sem]) Tryz.underlying5 ?_
      simp [go_sem,nb,resV]
      exact post_same (by simp [AV.deep,AV.deep1]) rfl
    · refine cl_eq g1 (three_d _ _ _) ?_
      simp [go_sem,cb_len,hk,cb_take hk,leaf_len hi',leaf_take2 hi',zlf,lft,zt]
      refine cl_eq g2 (three_d _ _ _) ?_
      simp [go_sem,cb_len,hk,cb_take hk,leaf_len hi',leaf_take2 hi',zlf,lft,zt]
      refine cl_eq alive16_fn (by simp) ?_
      simp [go_sem,leaf_len hi',leaf_take2 hi']
      refine cl_eq (same_ok hi' hp32' (by omega) hs) (by intro v hv;simp at hv;subst hv;exact leafC_deep _ _ _) ?_
      simp [go_sem,nb]
      refine cvS_nb (ctl o inner ps) 5 hc (by simp [go_sem]) (by simp [go_sem]) Tryz.underlying5 ?_
      simp [go_sem,nb]
      refine cvS_nb (ctl o inner ps) 5 hc (by simp [go_sem]) (by simp [go_sem]) Tryz.underlying5 ?_
      simp [go_sem,nb]
      refine cvS_nb s 5 hs (by simp [go_sem]) (by simp [go_sem]) Tryz.underlying5 ?_
      simp [go_sem,nb]
      refine cvS_nb s 5 hs (by simp [go_sem]) (by simp [go_sem]) Tryz.underlying5 ?_
      simp [go_sem,nb,resV]
      exact post_same (by simp [AV.deep,AV.deep1]) rfl
theorem law_big (c s key:List Nat) (hk:key.length=32) (h:300<c.length ∨ (¬ 300<c.length∧300<s.length)):Rets Tryz.prog 3 [.d (nb c),.d (nb s),.agg (cb key)] (fun r=>r=.d (.bool true)):=by
  refine fna Tryz.func3 Tryz.ntmps3 (rs:=[.tmp 6]) (three_d _ _ _) ?_
  rcases h with h | ⟨h,h2⟩
  · have i1:(300:Int)<(c.length:Int):=by omega
    simp [go_sem,nb,cb_len,hk,cb_take hk,i1]
    refine cl_eq alive16_fn (by simp) ?_
    simp [go_sem,resV]
    exact post_same (by simp [AV.deep,AV.deep1]) rfl
  · have i1:¬ (300:Int)<(c.length:Int):=by omega
    have i2:(300:Int)<(s.length:Int):=by omega
    simp [go_sem,nb,cb_len,hk,cb_take hk,i1,i2]
    refine cl_eq alive16_fn (by simp) ?_
    simp [go_sem,resV]
    exact post_same (by simp [AV.deep,AV.deep1]) rfl
theorem check_law (c s key:List Nat) (hc:bytes c) (hs:bytes s) (hk:key.length=32):Rets Tryz.prog 3 [.d (nb c),.d (nb s),.agg (cb key)] (fun r=>r=.d (.bool true)):=by
  by_cases b1:300<c.length
  · exact law_big c s key hk (.inl b1)
  by_cases b2:300<s.length
  · exact law_big c s key hk (.inr ⟨b1,b2⟩)
  obtain ⟨r,hr,g1,g2⟩:=both_check c s key hc (by omega) (by omega) hs hk
  by_cases hb:ctlOk c
  · obtain ⟨o,inner,ps,hcc,hi,hp32,hps⟩:=ctl_of hb
    have f1:=read_ok (x:=s) o hi hp32 hps (by omega)
    have f2:=rread_ok (x:=s) o hi hp32 hps (by omega)
    rw [← hcc] at f1 f2
    by_cases h0:s=[]
    · exact law_empty c s key inner ps o r hc hs hk (by omega) (by omega) hr g1 g2 hi hp32 hps h0 f1 f2
    · exact law_own c s key inner ps o r hc hs hk (by omega) (by omega) hr g1 g2 hi hp32 hps h0 hcc f2
  · exact law_bad c s key r hc hs hk (by omega) (by omega) hr g1 g2 hb
theorem check_args (l:List AV) (h:ArgTys Tryz.prog 6 [22,22,23] l):Rets Tryz.prog 3 l (fun r=>r=.d (.bool true)):=by
  obtain ⟨a0,r0,rfl,h0,a1,r1,rfl,h1,a2,r2,rfl,h2,rfl⟩:=h
  obtain ⟨d0,rfl,t0⟩:=arg_oneR Tryz.underlying22 (by simp) (by simp) h0
  obtain ⟨c,rfl,_,q0⟩:=ty_bytes t0
  obtain ⟨d1,rfl,t1⟩:=arg_oneR Tryz.underlying22 (by simp) (by simp) h1
  obtain ⟨s,rfl,_,q1⟩:=ty_bytes t1
  obtain ⟨key,rfl,q2,q3⟩:=arg_h32 h2
  exact check_law c s key q0 q1 q2
end Go.Proofs.YtldccnbokbieiaaGreat
