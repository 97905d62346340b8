/-
  Part 12 of what the claim rests on.
-/
import Derived.Test.YtldccnbokbieiaaGreatS2
import Derived.Test.YtldccnbokbieiaaGreatS7
set_option linter.unusedVariables false
set_option linter.unusedSimpArgs false
set_option maxRecDepth 100000
set_option maxHeartbeats 16000000
namespace Go.Proofs.YtldccnbokbieiaaGreat
open Go.Am Go.Sha
theorem clone_own (b:List Nat) (hl:b.length≤100000000000):RetsE Tryz.prog 52 0 [] [.d (nb b)] (fun r hp'=>(b=[]∧r=.nil) ∨ ∃ I,r=.own I 0 b.length b.length∧lk I hp'=some ⟨5,1,rb b⟩):=by
  refine fnE_of_awp Tryz.func52 (by kernel_rfl) rfl Tryz.ntmps52 (rs:=[.tmp 2]) rfl (nlb rfl) (by decide) ?_
  simp only [go_sem,nb,Nat.reduceEqDiff,Nat.reduceAdd,Nat.reduceLT,↓reduceIte]
  intro t hb
  cases t with
  | true =>
    have h0:b=[]:=List.eq_nil_of_length_eq_zero (by simpa using hb rfl)
    subst h0
    simp only [go_sem,Nat.reduceEqDiff,Nat.reduceAdd,Nat.reduceLT,↓reduceIte]
    exact .inl (by trivial)
  | false =>
    simp [go_sem,rb_of,rb_len]
    omega
theorem cl_clone {x:List Nat} (hx:x ≠ []) (hl:x.length≤100000000000) {hp:Hp} {N:Nat} {K:AV→Hp→Prop} (hK:K (.own N 0 x.length x.length) ((N,⟨5,1,rb x⟩) :: hp)):ClW Tryz.prog 52 [.d (nb x)] hp N K:=by
  refine cl_eff [] (clone_own x hl) rfl (by simp) (by simp) (by simp) (by simp [AV.renL,AV.ren,nb]) ?_
  rintro r hp' (⟨h,_⟩ | ⟨I,rfl,h0⟩)
  · exact absurd h hx
  · refine ⟨[(I,0)],by simp [newsB,prsB],?_⟩
    have e:hp.filter (fun _=>true)=hp:=List.filter_eq_self.2 (by simp)
    simpa [e,outH,outP,h0,Blk.ren,renR,rb_ren,AV.ren,rho,lk] using hK
def ReadQ (o:Bool) (inner x:List Nat) (ps:List (List Nat)) (r:AV) (hp':Hp):Prop :=
  ∃ J,r=.tup [.agg (leafC inner J (.own 1121 0 x.length x.length)),.d (.bool o),.d (.int .i64 0)]∧lk 1121 hp'=some ⟨5,1,rb x⟩ ∧
    ((ps=[]∧J=.nil) ∨ (ps ≠ []∧J=.own 9320 0 ps.length ps.length∧lk 9320 hp'=some ⟨23,32,ps.map cb⟩))
def pHE (inner x:List Nat) (ps:List (List Nat)):Nat→Hp
  | 0=>[(1185,⟨27,34,[leafC inner .nil (.own 1121 0 x.length x.length)]⟩),(1,⟨27,34,[leafC z32 .nil .nil]⟩),(1121,⟨5,1,rb x⟩)]
  | k+1=>[(9320,⟨23,32,(ps.take (k+1)).map cb⟩),(1185,⟨27,34,[leafC inner (.own 9320 0 (k+1) (k+1)) (.own 1121 0 x.length x.length)]⟩),(1,⟨27,34,[leafC z32 .nil .nil]⟩),(1121,⟨5,1,rb x⟩)]
theorem read_own {inner x:List Nat} {ps:List (List Nat)} (o:Bool) (hi:inner.length=32) (hp32:∀ p,p ∈ ps→p.length=32) (hps:ps.length≤8) (hx:x.length≤1000) (hx0:x ≠ []) :
    RetsE Tryz.prog 12 0 [] [.d (nb (ctl o inner ps)),.d (nb x)] (ReadQ o inner x ps):=by
  refine fnE_of_awp Tryz.func12 (by kernel_rfl) rfl Tryz.ntmps12 (rs:=[.cell 4 27,.tmp 5,.tmp 6]) rfl (nlb rfl) (by decide) ?_
  have hfl:=flat_len32 ps hp32
  have hcl:(ctl o inner ps).length=33+32*ps.length:=by unfold ctl;rw [List.length_cons,List.length_append,hi];omega
  have w1:IntKind.i64.wrap (((ctl o inner ps).length:Int) - 33)=((32*ps.length:Nat):Int):=by rw [IntWalk.i64_in _ (by omega)];omega
  have i1:¬ (((32*ps.length:Nat):Int)<0):=by omega
  have i2:(((32*ps.length:Nat):Int)) % 32=0:=by omega
  have i2b:(((32*ps.length:Nat):Int)).tmod 32=0:=i2
  have i3:¬ (256<((32*ps.length:Nat):Int)):=by omega
  have i4:¬ (1000<(x.length:Int)):=by omega
  generalize hN:32*ps.length=N at *
  have e2:(List.map (fun (b:Nat)=>[DV.int .u8 (b:Int)]) inner).flatten=cd inner:=by
    clear hfl hcl hi w1
    induction inner with
    | nil=>rfl
    | cons x r ih=>simp only [List.map_cons,List.flatten_cons,ih];rfl
  have zlf:(leafC z32 .nil .nil).length=34:=rfl
  have lft:List.drop 34 (leafC z32 .nil .nil)=[]:=rfl
  have lz:List.drop 32 (leafC z32 .nil .nil)=[.nil,.nil]:=rfl
  cases o
  · have hc0:(ctl false inner ps)[0]?=some 192:=rfl
    have hm:Go.bits .andNot .u8 192 1=192:=by decide
    have hb:Go.bits .and .u8 192 1=0:=by decide
    have e1:List.take 32 (List.drop 1 (List.map (fun (b:Nat)=>[DV.int .u8 (b:Int)]) (ctl false inner ps)))=List.map (fun (b:Nat)=>[DV.int .u8 (b:Int)]) inner:=by
      unfold ctl
      rw [List.map_cons,List.drop_succ_cons,List.drop_zero,List.map_append,List.take_left' (by simp [hi])]
    have e1b:(List.take 33 (List.map (fun (b:Nat)=>[DV.int .u8 (b:Int)]) (ctl false inner ps))).tail=List.map (fun (b:Nat)=>[DV.int .u8 (b:Int)]) inner:=by
      unfold ctl
      rw [List.map_cons,List.take_succ_cons,List.tail_cons,List.map_append,List.take_left' (by simp [hi])]
    have i5:(33:Int)≤33+(N:Int):=by omega
    simp [go_sem,nb,w1,i1,i2,i2b,i3,i4,hc0,hm]
    refine drw3 [0,1,2,3,4] [5,7,8] [0,1,2,3,4,6] (.alt (.step 5 [6] true (.step 7 [] true (.step 8 [] false .done))) (.step 7 [] true (.step 5 [6] true (.step 8 [] false .done)))) ⟨[(0,.d (nb (ctl false inner ps))),(4,.ptr 1 0 0 1),(8,.ptr 1185 0 0 1)],[(1185,⟨27,34,[leafC inner .nil (.own 1121 0 x.length x.length)]⟩),(1,⟨27,34,[leafC z32 .nil .nil]⟩),(1121,⟨5,1,rb x⟩)],9000⟩ (k:=9) ?h3 ?hq
    case h3 =>
      intro G hG
      have hW:∀ (fr:Fr) (hp:Hp),(fv 0 fr=.d (nb (ctl false inner ps))∧fv 4 fr=.ptr 1 0 0 1∧fv 8 fr=.ptr 1185 0 0 1∧lk 1185 hp=some ⟨27,34,[leafC inner .nil (.own 1121 0 x.length x.length)]⟩∧lk 1 hp=some ⟨27,34,[leafC z32 .nil .nil]⟩∧lk 1121 hp=some ⟨5,1,rb x⟩)→G fr hp:=by
        rintro fr hp ⟨q0,q1,q2,q3,q4,q5⟩
        exact hG _ _ wkA
      simp [go_sem,nb,e1,e1b,i5,e2,lz,leaf_bld hi,leaf_len hi,leaf_take2 hi,hi,hcl,cb_len,cd_len,cd_map,zlf,lft,-List.map_flatten,-List.length_flatten,SaW]
      repeat' first | exact hW _ _ ⟨rfl,rfl,rfl,rfl,rfl,rfl⟩ | (refine hW _ _ ?_;simp [fv,lk];done) | refine cl_clone hx0 (by omega) ?_ | apply And.intro | simp [go_sem,nb,e1,e1b,i5,e2,lz,leaf_bld hi,leaf_len hi,leaf_take2 hi,hi,hcl,cb_len,cd_len,cd_map,zlf,lft,-List.map_flatten,-List.length_flatten,SaW]
    case hq =>
      have e5:List.drop 33 (List.map (fun (b:Nat)=>[DV.int .u8 (b:Int)]) (ctl false inner ps))=List.map (fun (b:Nat)=>[DV.int .u8 (b:Int)]) ps.flatten:=by
        unfold ctl
        rw [List.map_cons,List.drop_succ_cons,List.map_append,List.drop_left' (by simp [hi])]
      have hd0:List.drop 0 ps=ps:=rfl
      have e6:List.take (33+(N:Int)).toNat (List.map (fun (b:Nat)=>[DV.int .u8 (b:Int)]) (ctl false inner ps))=List.map (fun (b:Nat)=>[DV.int .u8 (b:Int)]) (ctl false inner ps):=List.take_of_length_le (by rw [List.length_map,hcl];omega)
      simp [go_sem,nb,e5,e6,hcl,-List.map_flatten,-List.length_flatten]
      refine ⟨by omega,?_⟩
      refine loop_of (fun k:Nat=>⟨[(0,.d (nb (ctl false inner ps))),(4,.ptr 1 0 0 1),(8,.ptr 1185 0 0 1),(9,.d (nb (ps.drop k).flatten))],pHE inner x ps k,pN k⟩)
        (fun k=>k≤ps.length) (fun k=>ps.length - k) 0 (by omega) (by
          simp [Weak,slotOk,fv,lk,AV.low,AV.low1,pHE,pN,nb,-List.map_flatten]
          exact ⟨leafC_low _ _ _ _ trivial (by simp [AV.low1]),leafC_low _ _ _ _ trivial trivial,rb_low _ _⟩) ?_
      intro k hk
      simp only [go_sem,Nat.reduceEqDiff,Nat.reduceAdd,Nat.reduceLT,↓reduceIte]
      have hfk:=flat_len32 (ps.drop k) (fun p hp=>hp32 p (List.mem_of_mem_drop hp))
      rw [List.length_drop] at hfk
      by_cases hlt:k<ps.length
      · have hpos:(0:Int)<(((ps.drop k).flatten.length:Nat):Int):=by omega
        have hp:=List.getElem?_eq_getElem hlt
        have hdk:ps.drop k=ps[k] :: ps.drop (k+1):=List.drop_eq_getElem_cons hlt
        have htk:ps.take (k+1)=ps.take k ++ [ps[k]]:=List.take_succ_eq_append_getElem hlt
        generalize ps[k]=q at hp hdk htk
        have hq:q.length=32:=hp32 q (List.mem_of_getElem? hp)
        have g1:List.take 32 (List.map (fun (b:Nat)=>[DV.int .u8 (b:Int)]) (ps.drop k).flatten)=List.map (fun (b:Nat)=>[DV.int .u8 (b:Int)]) q:=by
          rw [hdk,List.flatten_cons,List.map_append,List.take_left' (by simp [hq])]
        have g2:List.drop 32 (List.map (fun (b:Nat)=>[DV.int .u8 (b:Int)]) (ps.drop k).flatten)=List.map (fun (b:Nat)=>[DV.int .u8 (b:Int)]) (ps.drop (k+1)).flatten:=by
          rw [hdk,List.flatten_cons,List.map_append,List.drop_left' (by simp [hq])]
        have g3:(List.map (fun (b:Nat)=>[DV.int .u8 (b:Int)]) q).flatten=cd q:=by
          clear hp hdk htk hq g1 g2
          induction q with
          | nil=>rfl
          | cons x r ih=>simp only [List.map_cons,List.flatten_cons,ih];rfl
        have hf32:32≤(ps.drop k).flatten.length:=by omega
        cases k with
        | zero =>
          refine ⟨fun _=>?_,fun h=>absurd hpos (by simpa only [nb,List.length_map] using h)⟩
          simp only [List.drop_zero] at g1 g2 hf32
          have hf32i:(32:Int)≤(ps.flatten.length:Int):=by omega
          have hmn:min 32 ps.flatten.length=32:=by omega
          simp only [pHE,pN]
          refine drw2 [0,1,2,3,4,5] [(6,[]),(7,[8]),(9,[])] 2 (k:=10) ?_
          intro G hG
          simp [go_sem,nb,hf32,hf32i,hmn,g1,g2,g3,leaf_hd hi,leaf_set hi,leaf_len hi,cd_len,hq,cd_map,cb_take hq,cb_len,-List.map_flatten,-List.length_flatten]
          refine hG _ _ ?_
          have hN':ps.flatten.length=32*(ps.length - 0):=by simpa using hfk
          have e7:List.take ps.flatten.length (List.map (fun (b:Nat)=>[DV.int .u8 (b:Int)]) ps.flatten)=List.map (fun (b:Nat)=>[DV.int .u8 (b:Int)]) ps.flatten:=List.take_of_length_le (by rw [List.length_map];omega)
          simp [go_sem,nb,hf32,hf32i,e7,g2,-List.map_flatten,-List.length_flatten]
          refine next_of (0+1) (by omega) (by omega) ?_
          have hc1:(ps.take (0+1)).map cb=(ps.take 0).map cb ++ [cb q]:=by rw [htk];simp
          simp [Weak,slotOk,fv,lk,AV.low,AV.low1,pHE,pN,nb,-List.map_flatten,-List.length_flatten,-List.map_take,-List.map_drop]
          have hc2:List.take 1 (List.map cb ps)=[cb q]:=by rw [← List.map_take];exact hc1
          rw [hc2]
          refine ⟨⟨rfl,fun r hr=>?_⟩,leafC_low _ _ _ _ (by simp [AV.low1]) (by simp [AV.low1]),leafC_low _ _ _ _ trivial trivial,rb_low _ _⟩
          simp at hr
          subst hr
          exact cb_low _ _
        | succ k =>
          refine ⟨fun _=>?_,fun h=>absurd hpos (by simpa only [nb,List.length_map] using h)⟩
          have hf32i:(32:Int)≤((ps.drop (k+1)).flatten.length:Int):=by omega
          have hlk:min (k+1) ps.length=k+1:=by omega
          have hle:k+1≤ps.length:=by omega
          have hbig:(k+1+1)*32≤140737488355328:=by omega
          have hlt2:k<ps.length:=by omega
          have hmn:min 32 (ps.drop (k+1)).flatten.length=32:=by omega
          simp only [pHE,pN]
          refine drw3 [0,1,2,3,4,5] [6,7,8,9] [0,1,2,3,4,5] (.step 6 [] true (.step 7 [] false (.step 8 [] false (.step 9 [] false .done)))) ⟨[(0,.d (nb (ctl false inner ps))),(4,.ptr 1 0 0 1),(8,.ptr 1185 0 0 1),(9,.d (nb (ps.drop (k+1)).flatten))],[(9320,⟨23,32,List.take (k+1) (List.map cb ps) ++ [cb q]⟩),(1185,⟨27,34,[leafC inner (.own 9320 0 (k+1+1) (k+1+1)) (.own 1121 0 x.length x.length)]⟩),(1,⟨27,34,[leafC z32 .nil .nil]⟩),(1121,⟨5,1,rb x⟩)],21000⟩ (k:=10) ?h3 ?hq
          case h3 =>
            intro G hG
            have hW:∀ (fr:Fr) (hp:Hp),(fv 0 fr=.d (nb (ctl false inner ps))∧fv 4 fr=.ptr 1 0 0 1∧fv 8 fr=.ptr 1185 0 0 1∧fv 9 fr=.d (nb (ps.drop (k+1)).flatten)∧lk 9320 hp=some ⟨23,32,List.take (k+1) (List.map cb ps) ++ [cb q]⟩∧lk 1185 hp=some ⟨27,34,[leafC inner (.own 9320 0 (k+1+1) (k+1+1)) (.own 1121 0 x.length x.length)]⟩∧lk 1 hp=some ⟨27,34,[leafC z32 .nil .nil]⟩∧lk 1121 hp=some ⟨5,1,rb x⟩)→G fr hp:=by
              rintro fr hp ⟨q0,q1,q2,q3,q4,q5,q6,q7⟩
              exact hG _ _ wkA
            simp [go_sem,nb,hbig,hf32,hf32i,hmn,hlk,hle,hlt2,g1,g2,g3,leaf_hd hi,leaf_set hi,leaf_len hi,cd_len,hq,cd_map,cb_take hq,cb_len,-List.map_flatten,-List.length_flatten,SaW]
            repeat' first | exact hW _ _ ⟨rfl,rfl,rfl,rfl,rfl,rfl,rfl,rfl⟩ | (refine hW _ _ ?_;simp [fv,lk];done) | fail | apply And.intro | simp [go_sem,nb,hbig,hf32,hf32i,hmn,hlk,hle,hlt2,g1,g2,g3,leaf_hd hi,leaf_set hi,leaf_len hi,cd_len,hq,cd_map,cb_take hq,cb_len,-List.map_flatten,-List.length_flatten,SaW]
          case hq =>
            have hN':(ps.drop (k+1)).flatten.length=32*(ps.length - (k+1)):=by simpa using hfk
            have e7:List.take (ps.drop (k+1)).flatten.length (List.map (fun (b:Nat)=>[DV.int .u8 (b:Int)]) (ps.drop (k+1)).flatten)=List.map (fun (b:Nat)=>[DV.int .u8 (b:Int)]) (ps.drop (k+1)).flatten:=List.take_of_length_le (by rw [List.length_map];omega)
            simp [go_sem,nb,hf32,hf32i,e7,g2,-List.map_flatten,-List.length_flatten]
            refine next_of ((k+1)+1) (by omega) (by omega) ?_
            have hc1:(ps.take ((k+1)+1)).map cb=(ps.take (k+1)).map cb ++ [cb q]:=by rw [htk];simp
            simp [Weak,slotOk,fv,lk,AV.low,AV.low1,pHE,pN,nb,-List.map_flatten,-List.length_flatten,-List.map_take,-List.map_drop]
            refine ⟨⟨?_,fun r hr=>?_⟩,leafC_low _ _ _ _ (by simp [AV.low1]) (by simp [AV.low1]),leafC_low _ _ _ _ trivial trivial,rb_low _ _⟩
            · rw [← List.map_take,← List.map_take];exact hc1.symm
            · exact rows_low _ ps r (List.mem_of_mem_take hr)
      · have hkn:k=ps.length:=by omega
        have hz:¬ ((0:Int)<(((ps.drop k).flatten.length:Nat):Int)):=by omega
        refine ⟨fun h=>absurd (by simpa only [nb,List.length_map] using h) hz,fun _=>?_⟩
        cases k with
        | zero =>
          have hps0:ps=[]:=List.eq_nil_of_length_eq_zero hkn.symm
          subst hps0
          simp only [pHE,pN]
          refine drw3 [0] [1,2,3,4,5,6,7,8] [0] (.alt (.step 1 [] true (.alt (.step 2 [] true (.alt (.step 3 [] true (.alt (.step 4 [] true (.alt (.step 5 [] true (.step 6 [] false (.step 7 [] false (.step 8 [] false .done)))) (.step 6 [] false (.step 5 [] false (.step 7 [] false (.step 8 [] false .done)))))) (.step 6 [] false (.step 4 [] false (.step 5 [] false (.step 7 [] false (.step 8 [] false .done))))))) (.step 6 [] false (.step 3 [] false (.step 4 [] false (.step 5 [] false (.step 7 [] false (.step 8 [] false .done)))))))) (.step 6 [] false (.step 2 [] false (.step 3 [] false (.step 4 [] false (.step 5 [] false (.step 7 [] false (.step 8 [] false .done))))))))) (.step 6 [] false (.step 1 [] false (.step 2 [] false (.step 3 [] false (.step 4 [] false (.step 5 [] false (.step 7 [] false (.step 8 [] false .done))))))))) ⟨[(4,.ptr 1 0 0 1),(5,.d (.bool false)),(6,.d (.int .i64 0))],[(1,⟨27,34,[leafC inner .nil (.own 1121 0 x.length x.length)]⟩),(1121,⟨5,1,rb x⟩)],30000⟩ (k:=9) ?h3 ?hq
          case h3 =>
            intro G hG
            have hW:∀ (fr:Fr) (hp:Hp),(fv 4 fr=.ptr 1 0 0 1∧fv 5 fr=.d (.bool false)∧fv 6 fr=.d (.int .i64 0)∧lk 1 hp=some ⟨27,34,[leafC inner .nil (.own 1121 0 x.length x.length)]⟩∧lk 1121 hp=some ⟨5,1,rb x⟩)→G fr hp:=by
              rintro fr hp ⟨q0,q1,q2,q3,q4⟩
              exact hG _ _ wkA
            simp (maxSteps:=2000000) [go_sem,nb,hc0,hb,leaf_len hi,leaf_take2 hi,zlf,lft,-List.map_flatten,-List.length_flatten,SaW]
            repeat' first | exact hW _ _ ⟨rfl,rfl,rfl,rfl,rfl⟩ | (refine hW _ _ ?_;simp [fv,lk];done) | fail | apply And.intro | simp (maxSteps:=2000000) [go_sem,nb,hc0,hb,leaf_len hi,leaf_take2 hi,zlf,lft,-List.map_flatten,-List.length_flatten,SaW]
          case hq =>
            simp only [go_sem,Nat.reduceEqDiff,Nat.reduceAdd,Nat.reduceLT,↓reduceIte,Nat.reduceBEq,List.take_zero,List.drop_zero,List.set_cons_zero,List.getElem?_cons_zero,leaf_len hi,leaf_take2 hi,resV]
            exact ⟨_,rfl,rfl,.inl ⟨rfl,rfl⟩⟩
        | succ k =>
          have htl:ps.take (k+1)=ps:=List.take_of_length_le (by omega)
          simp only [pHE,pN,htl]
          refine drw3 [0] [1,2,3,4,5,6,7,8] [0] (.alt (.step 1 [] true (.alt (.step 2 [] true (.alt (.step 3 [] true (.alt (.step 4 [] true (.alt (.step 5 [] true (.step 6 [] false (.step 7 [] false (.step 8 [] false .done)))) (.step 6 [] false (.step 5 [] false (.step 7 [] false (.step 8 [] false .done)))))) (.step 6 [] false (.step 4 [] false (.step 5 [] false (.step 7 [] false (.step 8 [] false .done))))))) (.step 6 [] false (.step 3 [] false (.step 4 [] false (.step 5 [] false (.step 7 [] false (.step 8 [] false .done)))))))) (.step 6 [] false (.step 2 [] false (.step 3 [] false (.step 4 [] false (.step 5 [] false (.step 7 [] false (.step 8 [] false .done))))))))) (.step 6 [] false (.step 1 [] false (.step 2 [] false (.step 3 [] false (.step 4 [] false (.step 5 [] false (.step 7 [] false (.step 8 [] false .done))))))))) ⟨[(4,.ptr 1 0 0 1),(5,.d (.bool false)),(6,.d (.int .i64 0))],[(9320,⟨23,32,ps.map cb⟩),(1,⟨27,34,[leafC inner (.own 9320 0 (k+1) (k+1)) (.own 1121 0 x.length x.length)]⟩),(1121,⟨5,1,rb x⟩)],30000⟩ (k:=9) ?h3 ?hq
          case h3 =>
            intro G hG
            have hW:∀ (fr:Fr) (hp:Hp),(fv 4 fr=.ptr 1 0 0 1∧fv 5 fr=.d (.bool false)∧fv 6 fr=.d (.int .i64 0)∧lk 9320 hp=some ⟨23,32,ps.map cb⟩∧lk 1 hp=some ⟨27,34,[leafC inner (.own 9320 0 (k+1) (k+1)) (.own 1121 0 x.length x.length)]⟩∧lk 1121 hp=some ⟨5,1,rb x⟩)→G fr hp:=by
              rintro fr hp ⟨q0,q1,q2,q3,q4,q5⟩
              exact hG _ _ wkA
            simp (maxSteps:=2000000) [go_sem,nb,hc0,hb,leaf_len hi,leaf_take2 hi,zlf,lft,-List.map_flatten,-List.length_flatten,SaW]
            repeat' first | exact hW _ _ ⟨rfl,rfl,rfl,rfl,rfl,rfl⟩ | (refine hW _ _ ?_;simp [fv,lk];done) | fail | apply And.intro | simp (maxSteps:=2000000) [go_sem,nb,hc0,hb,leaf_len hi,leaf_take2 hi,zlf,lft,-List.map_flatten,-List.length_flatten,SaW]
          case hq =>
            simp only [go_sem,Nat.reduceEqDiff,Nat.reduceAdd,Nat.reduceLT,↓reduceIte,Nat.reduceBEq,List.take_zero,List.drop_zero,List.set_cons_zero,List.getElem?_cons_zero,leaf_len hi,leaf_take2 hi,resV]
            exact ⟨_,rfl,rfl,.inr ⟨by rintro rfl;simp at hkn,by rw [← hkn],rfl⟩⟩
  · have hc0:(ctl true inner ps)[0]?=some 193:=rfl
    have hm:Go.bits .andNot .u8 193 1=192:=by decide
    have hb:Go.bits .and .u8 193 1=1:=by decide
    have e1:List.take 32 (List.drop 1 (List.map (fun (b:Nat)=>[DV.int .u8 (b:Int)]) (ctl true inner ps)))=List.map (fun (b:Nat)=>[DV.int .u8 (b:Int)]) inner:=by
      unfold ctl
      rw [List.map_cons,List.drop_succ_cons,List.drop_zero,List.map_append,List.take_left' (by simp [hi])]
    have e1b:(List.take 33 (List.map (fun (b:Nat)=>[DV.int .u8 (b:Int)]) (ctl true inner ps))).tail=List.map (fun (b:Nat)=>[DV.int .u8 (b:Int)]) inner:=by
      unfold ctl
      rw [List.map_cons,List.take_succ_cons,List.tail_cons,List.map_append,List.take_left' (by simp [hi])]
    have i5:(33:Int)≤33+(N:Int):=by omega
    simp [go_sem,nb,w1,i1,i2,i2b,i3,i4,hc0,hm]
    refine drw3 [0,1,2,3,4] [5,7,8] [0,1,2,3,4,6] (.alt (.step 5 [6] true (.step 7 [] true (.step 8 [] false .done))) (.step 7 [] true (.step 5 [6] true (.step 8 [] false .done)))) ⟨[(0,.d (nb (ctl true inner ps))),(4,.ptr 1 0 0 1),(8,.ptr 1185 0 0 1)],[(1185,⟨27,34,[leafC inner .nil (.own 1121 0 x.length x.length)]⟩),(1,⟨27,34,[leafC z32 .nil .nil]⟩),(1121,⟨5,1,rb x⟩)],9000⟩ (k:=9) ?h3 ?hq
    case h3 =>
      intro G hG
      have hW:∀ (fr:Fr) (hp:Hp),(fv 0 fr=.d (nb (ctl true inner ps))∧fv 4 fr=.ptr 1 0 0 1∧fv 8 fr=.ptr 1185 0 0 1∧lk 1185 hp=some ⟨27,34,[leafC inner .nil (.own 1121 0 x.length x.length)]⟩∧lk 1 hp=some ⟨27,34,[leafC z32 .nil .nil]⟩∧lk 1121 hp=some ⟨5,1,rb x⟩)→G fr hp:=by
        rintro fr hp ⟨q0,q1,q2,q3,q4,q5⟩
        exact hG _ _ wkA
      simp [go_sem,nb,e1,e1b,i5,e2,lz,leaf_bld hi,leaf_len hi,leaf_take2 hi,hi,hcl,cb_len,cd_len,cd_map,zlf,lft,-List.map_flatten,-List.length_flatten,SaW]
      repeat' first | exact hW _ _ ⟨rfl,rfl,rfl,rfl,rfl,rfl⟩ | (refine hW _ _ ?_;simp [fv,lk];done) | refine cl_clone hx0 (by omega) ?_ | apply And.intro | simp [go_sem,nb,e1,e1b,i5,e2,lz,leaf_bld hi,leaf_len hi,leaf_take2 hi,hi,hcl,cb_len,cd_len,cd_map,zlf,lft,-List.map_flatten,-List.length_flatten,SaW]
    case hq =>
      have e5:List.drop 33 (List.map (fun (b:Nat)=>[DV.int .u8 (b:Int)]) (ctl true inner ps))=List.map (fun (b:Nat)=>[DV.int .u8 (b:Int)]) ps.flatten:=by
        unfold ctl
        rw [List.map_cons,List.drop_succ_cons,List.map_append,List.drop_left' (by simp [hi])]
      have hd0:List.drop 0 ps=ps:=rfl
      have e6:List.take (33+(N:Int)).toNat (List.map (fun (b:Nat)=>[DV.int .u8 (b:Int)]) (ctl true inner ps))=List.map (fun (b:Nat)=>[DV.int .u8 (b:Int)]) (ctl true inner ps):=List.take_of_length_le (by rw [List.length_map,hcl];omega)
      simp [go_sem,nb,e5,e6,hcl,-List.map_flatten,-List.length_flatten]
      refine ⟨by omega,?_⟩
      refine loop_of (fun k:Nat=>⟨[(0,.d (nb (ctl true inner ps))),(4,.ptr 1 0 0 1),(8,.ptr 1185 0 0 1),(9,.d (nb (ps.drop k).flatten))],pHE inner x ps k,pN k⟩)
        (fun k=>k≤ps.length) (fun k=>ps.length - k) 0 (by omega) (by
          simp [Weak,slotOk,fv,lk,AV.low,AV.low1,pHE,pN,nb,-List.map_flatten]
          exact ⟨leafC_low _ _ _ _ trivial (by simp [AV.low1]),leafC_low _ _ _ _ trivial trivial,rb_low _ _⟩) ?_
      intro k hk
      simp only [go_sem,Nat.reduceEqDiff,Nat.reduceAdd,Nat.reduceLT,↓reduceIte]
      have hfk:=flat_len32 (ps.drop k) (fun p hp=>hp32 p (List.mem_of_mem_drop hp))
      rw [List.length_drop] at hfk
      by_cases hlt:k<ps.length
      · have hpos:(0:Int)<(((ps.drop k).flatten.length:Nat):Int):=by omega
        have hp:=List.getElem?_eq_getElem hlt
        have hdk:ps.drop k=ps[k] :: ps.drop (k+1):=List.drop_eq_getElem_cons hlt
        have htk:ps.take (k+1)=ps.take k ++ [ps[k]]:=List.take_succ_eq_append_getElem hlt
        generalize ps[k]=q at hp hdk htk
        have hq:q.length=32:=hp32 q (List.mem_of_getElem? hp)
        have g1:List.take 32 (List.map (fun (b:Nat)=>[DV.int .u8 (b:Int)]) (ps.drop k).flatten)=List.map (fun (b:Nat)=>[DV.int .u8 (b:Int)]) q:=by
          rw [hdk,List.flatten_cons,List.map_append,List.take_left' (by simp [hq])]
        have g2:List.drop 32 (List.map (fun (b:Nat)=>[DV.int .u8 (b:Int)]) (ps.drop k).flatten)=List.map (fun (b:Nat)=>[DV.int .u8 (b:Int)]) (ps.drop (k+1)).flatten:=by
          rw [hdk,List.flatten_cons,List.map_append,List.drop_left' (by simp [hq])]
        have g3:(List.map (fun (b:Nat)=>[DV.int .u8 (b:Int)]) q).flatten=cd q:=by
          clear hp hdk htk hq g1 g2
          induction q with
          | nil=>rfl
          | cons x r ih=>simp only [List.map_cons,List.flatten_cons,ih];rfl
        have hf32:32≤(ps.drop k).flatten.length:=by omega
        cases k with
        | zero =>
          refine ⟨fun _=>?_,fun h=>absurd hpos (by simpa only [nb,List.length_map] using h)⟩
          simp only [List.drop_zero] at g1 g2 hf32
          have hf32i:(32:Int)≤(ps.flatten.length:Int):=by omega
          have hmn:min 32 ps.flatten.length=32:=by omega
          simp only [pHE,pN]
          refine drw2 [0,1,2,3,4,5] [(6,[]),(7,[8]),(9,[])] 2 (k:=10) ?_
          intro G hG
          simp [go_sem,nb,hf32,hf32i,hmn,g1,g2,g3,leaf_hd hi,leaf_set hi,leaf_len hi,cd_len,hq,cd_map,cb_take hq,cb_len,-List.map_flatten,-List.length_flatten]
          refine hG _ _ ?_
          have hN':ps.flatten.length=32*(ps.length - 0):=by simpa using hfk
          have e7:List.take ps.flatten.length (List.map (fun (b:Nat)=>[DV.int .u8 (b:Int)]) ps.flatten)=List.map (fun (b:Nat)=>[DV.int .u8 (b:Int)]) ps.flatten:=List.take_of_length_le (by rw [List.length_map];omega)
          simp [go_sem,nb,hf32,hf32i,e7,g2,-List.map_flatten,-List.length_flatten]
          refine next_of (0+1) (by omega) (by omega) ?_
          have hc1:(ps.take (0+1)).map cb=(ps.take 0).map cb ++ [cb q]:=by rw [htk];simp
          simp [Weak,slotOk,fv,lk,AV.low,AV.low1,pHE,pN,nb,-List.map_flatten,-List.length_flatten,-List.map_take,-List.map_drop]
          have hc2:List.take 1 (List.map cb ps)=[cb q]:=by rw [← List.map_take];exact hc1
          rw [hc2]
          refine ⟨⟨rfl,fun r hr=>?_⟩,leafC_low _ _ _ _ (by simp [AV.low1]) (by simp [AV.low1]),leafC_low _ _ _ _ trivial trivial,rb_low _ _⟩
          simp at hr
          subst hr
          exact cb_low _ _
        | succ k =>
          refine ⟨fun _=>?_,fun h=>absurd hpos (by simpa only [nb,List.length_map] using h)⟩
          have hf32i:(32:Int)≤((ps.drop (k+1)).flatten.length:Int):=by omega
          have hlk:min (k+1) ps.length=k+1:=by omega
          have hle:k+1≤ps.length:=by omega
          have hbig:(k+1+1)*32≤140737488355328:=by omega
          have hlt2:k<ps.length:=by omega
          have hmn:min 32 (ps.drop (k+1)).flatten.length=32:=by omega
          simp only [pHE,pN]
          refine drw3 [0,1,2,3,4,5] [6,7,8,9] [0,1,2,3,4,5] (.step 6 [] true (.step 7 [] false (.step 8 [] false (.step 9 [] false .done)))) ⟨[(0,.d (nb (ctl true inner ps))),(4,.ptr 1 0 0 1),(8,.ptr 1185 0 0 1),(9,.d (nb (ps.drop (k+1)).flatten))],[(9320,⟨23,32,List.take (k+1) (List.map cb ps) ++ [cb q]⟩),(1185,⟨27,34,[leafC inner (.own 9320 0 (k+1+1) (k+1+1)) (.own 1121 0 x.length x.length)]⟩),(1,⟨27,34,[leafC z32 .nil .nil]⟩),(1121,⟨5,1,rb x⟩)],21000⟩ (k:=10) ?h3 ?hq
          case h3 =>
            intro G hG
            have hW:∀ (fr:Fr) (hp:Hp),(fv 0 fr=.d (nb (ctl true inner ps))∧fv 4 fr=.ptr 1 0 0 1∧fv 8 fr=.ptr 1185 0 0 1∧fv 9 fr=.d (nb (ps.drop (k+1)).flatten)∧lk 9320 hp=some ⟨23,32,List.take (k+1) (List.map cb ps) ++ [cb q]⟩∧lk 1185 hp=some ⟨27,34,[leafC inner (.own 9320 0 (k+1+1) (k+1+1)) (.own 1121 0 x.length x.length)]⟩∧lk 1 hp=some ⟨27,34,[leafC z32 .nil .nil]⟩∧lk 1121 hp=some ⟨5,1,rb x⟩)→G fr hp:=by
              rintro fr hp ⟨q0,q1,q2,q3,q4,q5,q6,q7⟩
              exact hG _ _ wkA
            simp [go_sem,nb,hbig,hf32,hf32i,hmn,hlk,hle,hlt2,g1,g2,g3,leaf_hd hi,leaf_set hi,leaf_len hi,cd_len,hq,cd_map,cb_take hq,cb_len,-List.map_flatten,-List.length_flatten,SaW]
            repeat' first | exact hW _ _ ⟨rfl,rfl,rfl,rfl,rfl,rfl,rfl,rfl⟩ | (refine hW _ _ ?_;simp [fv,lk];done) | fail | apply And.intro | simp [go_sem,nb,hbig,hf32,hf32i,hmn,hlk,hle,hlt2,g1,g2,g3,leaf_hd hi,leaf_set hi,leaf_len hi,cd_len,hq,cd_map,cb_take hq,cb_len,-List.map_flatten,-List.length_flatten,SaW]
          case hq =>
            have hN':(ps.drop (k+1)).flatten.length=32*(ps.length - (k+1)):=by simpa using hfk
            have e7:List.take (ps.drop (k+1)).flatten.length (List.map (fun (b:Nat)=>[DV.int .u8 (b:Int)]) (ps.drop (k+1)).flatten)=List.map (fun (b:Nat)=>[DV.int .u8 (b:Int)]) (ps.drop (k+1)).flatten:=List.take_of_length_le (by rw [List.length_map];omega)
            simp [go_sem,nb,hf32,hf32i,e7,g2,-List.map_flatten,-List.length_flatten]
            refine next_of ((k+1)+1) (by omega) (by omega) ?_
            have hc1:(ps.take ((k+1)+1)).map cb=(ps.take (k+1)).map cb ++ [cb q]:=by rw [htk];simp
            simp [Weak,slotOk,fv,lk,AV.low,AV.low1,pHE,pN,nb,-List.map_flatten,-List.length_flatten,-List.map_take,-List.map_drop]
            refine ⟨⟨?_,fun r hr=>?_⟩,leafC_low _ _ _ _ (by simp [AV.low1]) (by simp [AV.low1]),leafC_low _ _ _ _ trivial trivial,rb_low _ _⟩
            · rw [← List.map_take,← List.map_take];exact hc1.symm
            · exact rows_low _ ps r (List.mem_of_mem_take hr)
      · have hkn:k=ps.length:=by omega
        have hz:¬ ((0:Int)<(((ps.drop k).flatten.length:Nat):Int)):=by omega
        refine ⟨fun h=>absurd (by simpa only [nb,List.length_map] using h) hz,fun _=>?_⟩
        cases k with
        | zero =>
          have hps0:ps=[]:=List.eq_nil_of_length_eq_zero hkn.symm
          subst hps0
          simp only [pHE,pN]
          refine drw3 [0] [1,2,3,4,5,6,7,8] [0] (.alt (.step 1 [] true (.alt (.step 2 [] true (.alt (.step 3 [] true (.alt (.step 4 [] true (.alt (.step 5 [] true (.step 6 [] false (.step 7 [] false (.step 8 [] false .done)))) (.step 6 [] false (.step 5 [] false (.step 7 [] false (.step 8 [] false .done)))))) (.step 6 [] false (.step 4 [] false (.step 5 [] false (.step 7 [] false (.step 8 [] false .done))))))) (.step 6 [] false (.step 3 [] false (.step 4 [] false (.step 5 [] false (.step 7 [] false (.step 8 [] false .done)))))))) (.step 6 [] false (.step 2 [] false (.step 3 [] false (.step 4 [] false (.step 5 [] false (.step 7 [] false (.step 8 [] false .done))))))))) (.step 6 [] false (.step 1 [] false (.step 2 [] false (.step 3 [] false (.step 4 [] false (.step 5 [] false (.step 7 [] false (.step 8 [] false .done))))))))) ⟨[(4,.ptr 1 0 0 1),(5,.d (.bool true)),(6,.d (.int .i64 0))],[(1,⟨27,34,[leafC inner .nil (.own 1121 0 x.length x.length)]⟩),(1121,⟨5,1,rb x⟩)],30000⟩ (k:=9) ?h3 ?hq
          case h3 =>
            intro G hG
            have hW:∀ (fr:Fr) (hp:Hp),(fv 4 fr=.ptr 1 0 0 1∧fv 5 fr=.d (.bool true)∧fv 6 fr=.d (.int .i64 0)∧lk 1 hp=some ⟨27,34,[leafC inner .nil (.own 1121 0 x.length x.length)]⟩∧lk 1121 hp=some ⟨5,1,rb x⟩)→G fr hp:=by
              rintro fr hp ⟨q0,q1,q2,q3,q4⟩
              exact hG _ _ wkA
            simp (maxSteps:=2000000) [go_sem,nb,hc0,hb,leaf_len hi,leaf_take2 hi,zlf,lft,-List.map_flatten,-List.length_flatten,SaW]
            repeat' first | exact hW _ _ ⟨rfl,rfl,rfl,rfl,rfl⟩ | (refine hW _ _ ?_;simp [fv,lk];done) | fail | apply And.intro | simp (maxSteps:=2000000) [go_sem,nb,hc0,hb,leaf_len hi,leaf_take2 hi,zlf,lft,-List.map_flatten,-List.length_flatten,SaW]
          case hq =>
            simp only [go_sem,Nat.reduceEqDiff,Nat.reduceAdd,Nat.reduceLT,↓reduceIte,Nat.reduceBEq,List.take_zero,List.drop_zero,List.set_cons_zero,List.getElem?_cons_zero,leaf_len hi,leaf_take2 hi,resV]
            exact ⟨_,rfl,rfl,.inl ⟨rfl,rfl⟩⟩
        | succ k =>
          have htl:ps.take (k+1)=ps:=List.take_of_length_le (by omega)
          simp only [pHE,pN,htl]
          refine drw3 [0] [1,2,3,4,5,6,7,8] [0] (.alt (.step 1 [] true (.alt (.step 2 [] true (.alt (.step 3 [] true (.alt (.step 4 [] true (.alt (.step 5 [] true (.step 6 [] false (.step 7 [] false (.step 8 [] false .done)))) (.step 6 [] false (.step 5 [] false (.step 7 [] false (.step 8 [] false .done)))))) (.step 6 [] false (.step 4 [] false (.step 5 [] false (.step 7 [] false (.step 8 [] false .done))))))) (.step 6 [] false (.step 3 [] false (.step 4 [] false (.step 5 [] false (.step 7 [] false (.step 8 [] false .done)))))))) (.step 6 [] false (.step 2 [] false (.step 3 [] false (.step 4 [] false (.step 5 [] false (.step 7 [] false (.step 8 [] false .done))))))))) (.step 6 [] false (.step 1 [] false (.step 2 [] false (.step 3 [] false (.step 4 [] false (.step 5 [] false (.step 7 [] false (.step 8 [] false .done))))))))) ⟨[(4,.ptr 1 0 0 1),(5,.d (.bool true)),(6,.d (.int .i64 0))],[(9320,⟨23,32,ps.map cb⟩),(1,⟨27,34,[leafC inner (.own 9320 0 (k+1) (k+1)) (.own 1121 0 x.length x.length)]⟩),(1121,⟨5,1,rb x⟩)],30000⟩ (k:=9) ?h3 ?hq
          case h3 =>
            intro G hG
            have hW:∀ (fr:Fr) (hp:Hp),(fv 4 fr=.ptr 1 0 0 1∧fv 5 fr=.d (.bool true)∧fv 6 fr=.d (.int .i64 0)∧lk 9320 hp=some ⟨23,32,ps.map cb⟩∧lk 1 hp=some ⟨27,34,[leafC inner (.own 9320 0 (k+1) (k+1)) (.own 1121 0 x.length x.length)]⟩∧lk 1121 hp=some ⟨5,1,rb x⟩)→G fr hp:=by
              rintro fr hp ⟨q0,q1,q2,q3,q4,q5⟩
              exact hG _ _ wkA
            simp (maxSteps:=2000000) [go_sem,nb,hc0,hb,leaf_len hi,leaf_take2 hi,zlf,lft,-List.map_flatten,-List.length_flatten,SaW]
            repeat' first | exact hW _ _ ⟨rfl,rfl,rfl,rfl,rfl,rfl⟩ | (refine hW _ _ ?_;simp [fv,lk];done) | fail | apply And.intro | simp (maxSteps:=2000000) [go_sem,nb,hc0,hb,leaf_len hi,leaf_take2 hi,zlf,lft,-List.map_flatten,-List.length_flatten,SaW]
          case hq =>
            simp only [go_sem,Nat.reduceEqDiff,Nat.reduceAdd,Nat.reduceLT,↓reduceIte,Nat.reduceBEq,List.take_zero,List.drop_zero,List.set_cons_zero,List.getElem?_cons_zero,leaf_len hi,leaf_take2 hi,resV]
            exact ⟨_,rfl,rfl,.inr ⟨by rintro rfl;simp at hkn,by rw [← hkn],rfl⟩⟩
def ctlOk (c:List Nat):Prop:=33≤c.length∧(c.length - 33) % 32=0∧c.length≤289∧(c[0]?=some 192 ∨ c[0]?=some 193)
theorem chunks (m:Nat):∀ (l:List Nat),l.length=32*m→∃ ps:List (List Nat),l=ps.flatten∧(∀ p,p ∈ ps→p.length=32)∧ps.length=m:=by
  induction m with
  | zero=>intro l h;exact ⟨[],by simpa using h,by simp,rfl⟩
  | succ m ih =>
    intro l h
    obtain ⟨ps,h1,h2,h3⟩:=ih (l.drop 32) (by rw [List.length_drop];omega)
    refine ⟨l.take 32 :: ps,by rw [List.flatten_cons,← h1,List.take_append_drop],fun p hp=>?_,by rw [List.length_cons,h3]⟩
    rcases List.mem_cons.1 hp with rfl | hp
    · rw [List.length_take];omega
    · exact h2 p hp
theorem ctl_of {c:List Nat} (h:ctlOk c):∃ (o:Bool) (inner:List Nat) (ps:List (List Nat)),c=ctl o inner ps∧inner.length=32∧(∀ p,p ∈ ps→p.length=32)∧ps.length≤8:=by
  obtain ⟨h1,h2,h3,h4⟩:=h
  cases c with
  | nil=>simp at h1
  | cons b r =>
    rw [List.length_cons] at h1 h2 h3
    obtain ⟨ps,k1,k2,k3⟩:=chunks ((r.length - 32) / 32) (r.drop 32) (by rw [List.length_drop];omega)
    have hr:r.take 32 ++ ps.flatten=r:=by rw [← k1,List.take_append_drop]
    have hl:(r.take 32).length=32:=by rw [List.length_take];omega
    rcases h4 with h4 | h4
    · exact ⟨false,r.take 32,ps,by simp at h4;subst h4;unfold ctl;rw [hr];rfl,hl,k2,by omega⟩
    · exact ⟨true,r.take 32,ps,by simp at h4;subst h4;unfold ctl;rw [hr];rfl,hl,k2,by omega⟩
theorem andNot_192:∀ b:Nat,b<256→((Go.bits .andNot .u8 (b:Int) 1=192) ↔ (b=192 ∨ b=193)):=by decide +kernel
def noLeaf:AV:=.tup [.agg (leafC z32 .nil .nil),.d (.bool false),.d (.int .i64 26)]
theorem noLeaf_deep:noLeaf.deep:=by
  intro c hc
  simp at hc
  rcases hc with rfl | rfl | rfl
  · exact .inr ⟨_,rfl,fun x hx=>by
      unfold leafC at hx
      rcases List.mem_append.1 hx with h | h
      · exact cb_deep _ _ h
      · simp at h;subst h;trivial⟩
  · exact .inl trivial
  · exact .inl trivial
theorem read_bad (c x:List Nat) (hc:bytes c) (hl:c.length≤1000000) (hx:x.length≤1000) (hb:¬ ctlOk c):Rets Tryz.prog 12 [.d (nb c),.d (nb x)] (fun r=>r=noLeaf):=by
  refine fna Tryz.func12 Tryz.ntmps12 (rs:=[.cell 4 27,.tmp 5,.tmp 6]) (by simp [AV.deep,AV.deep1]) ?_
  have w1:IntKind.i64.wrap ((c.length:Int) - 33)=(c.length:Int) - 33:=IntWalk.i64_in _ (by omega)
  have zlf:(leafC z32 .nil .nil).length=34:=rfl
  have lft:List.drop 34 (leafC z32 .nil .nil)=[]:=rfl
  have zt:List.take 34 (leafC z32 .nil .nil)=leafC z32 .nil .nil:=rfl
  have i4:¬ (1000<(x.length:Int)):=by omega
  by_cases a1:(c.length:Int) - 33<0
  · simp [go_sem,nb,w1,a1,zlf,lft,zt,resV]
    exact post_same noLeaf_deep rfl
  by_cases a2':¬ ((c.length:Int) - 33).tmod 32=0
  · have a2:=a2'
    simp [go_sem,nb,w1,a1,a2,zlf,lft,zt,resV]
    exact post_same noLeaf_deep rfl
  have a2:=Classical.not_not.1 a2'
  clear a2'
  by_cases a3:256<(c.length:Int) - 33
  · simp [go_sem,nb,w1,a1,a2,a3,zlf,lft,zt,resV]
    exact post_same noLeaf_deep rfl
  · have hpos:0<c.length:=by omega
    have h0:=List.getElem?_eq_getElem hpos
    generalize c[0]=b at h0
    have hb8:b<256:=hc b (List.mem_of_getElem? h0)
    have ha:¬ Go.bits .andNot .u8 (b:Int) 1=192:=fun e=>hb ⟨by omega,by
      rw [Int.tmod_eq_emod_of_nonneg (by omega)] at a2;omega,by omega,by
      rw [h0];rcases (andNot_192 b hb8).1 e with rfl | rfl <;> simp⟩
    simp [go_sem,nb,w1,a1,a2,a3,h0,ha,zlf,lft,zt,resV]
    exact post_same noLeaf_deep rfl
theorem rread_bad (c x:List Nat) (hc:bytes c) (hl:c.length≤1000000) (hx:x.length≤1000) (hb:¬ ctlOk c):Rets Tryz.prog 13 [.d (nb c),.d (nb x)] (fun r=>r=noLeaf):=by
  refine fna Tryz.func13 Tryz.ntmps13 (rs:=[.cell 4 27,.tmp 5,.tmp 6]) (by simp [AV.deep,AV.deep1]) ?_
  have w1:IntKind.i64.wrap ((c.length:Int) - 33)=(c.length:Int) - 33:=IntWalk.i64_in _ (by omega)
  have zlf:(leafC z32 .nil .nil).length=34:=rfl
  have lft:List.drop 34 (leafC z32 .nil .nil)=[]:=rfl
  have zt:List.take 34 (leafC z32 .nil .nil)=leafC z32 .nil .nil:=rfl
  have i4:¬ (1000<(x.length:Int)):=by omega
  by_cases a1:(c.length:Int) - 33<0
  · simp [go_sem,nb,w1,a1,zlf,lft,zt,resV]
    exact post_same noLeaf_deep rfl
  by_cases a2':¬ ((c.length:Int) - 33).tmod 32=0
  · have a2:=a2'
    simp [go_sem,nb,w1,a1,a2,zlf,lft,zt,resV]
    exact post_same noLeaf_deep rfl
  have a2:=Classical.not_not.1 a2'
  clear a2'
  by_cases a3:256<(c.length:Int) - 33
  · simp [go_sem,nb,w1,a1,a2,a3,zlf,lft,zt,resV]
    exact post_same noLeaf_deep rfl
  · have hpos:0<c.length:=by omega
    have h0:=List.getElem?_eq_getElem hpos
    generalize c[0]=b at h0
    have hb8:b<256:=hc b (List.mem_of_getElem? h0)
    have ha:¬ (b:Int)=192:=fun e=>hb ⟨by omega,by
      rw [Int.tmod_eq_emod_of_nonneg (by omega)] at a2;omega,by omega,by
      rw [h0];exact .inl (by congr 1;omega)⟩
    have ha2:¬ (b:Int)=193:=fun e=>hb ⟨by omega,by
      rw [Int.tmod_eq_emod_of_nonneg (by omega)] at a2;omega,by omega,by
      rw [h0];exact .inr (by congr 1;omega)⟩
    have ha3:¬ b=192:=fun e=>ha (by omega)
    have ha4:¬ b=193:=fun e=>ha2 (by omega)
    simp [go_sem,nb,w1,a1,a2,a3,h0,ha,ha2,ha3,ha4,zlf,lft,zt,resV]
    exact post_same noLeaf_deep rfl
def noCheck:AV:=.tup [.agg (leafC z32 .nil .nil),.d (.int .i64 26)]
theorem noCheck_deep:noCheck.deep:=by
  intro c hc
  simp at hc
  rcases hc with rfl | rfl
  · exact .inr ⟨_,rfl,fun x hx=>by
      unfold leafC at hx
      rcases List.mem_append.1 hx with h | h
      · exact cb_deep _ _ h
      · simp at h;subst h;trivial⟩
  · exact .inl trivial
theorem check_gen {inner x k kk:List Nat} {ps:List (List Nat)} {o is:Bool} {e:Int} (hi:inner.length=32) (hp32:∀ p,p ∈ ps→p.length=32) (hps:ps.length≤8) (hx:x.length≤1000) (hk:k.length=32) (hkk:kk.length=32) (he:E1 e) (f:Rets Tryz.prog 54 [leafV inner ps x] (fun r=>r=.tup [.agg (cb k),.d (.bool is),.d (.int .i64 e)])) :
    Rets Tryz.prog 15 [.d (nb (ctl o inner ps)),.d (nb x),.agg (cb kk)] (fun r=>r=if e=0∧k=kk∧is=o then .tup [.agg (leafC inner (.d (hs32 ps)) (.d (nb x))),.d (.int .i64 0)] else noCheck):=by
  refine fna Tryz.func15 Tryz.ntmps15 (rs:=[.cell 6 27,.tmp 7]) (three_d _ _ _) ?_
  have zd:List.drop 32 (cb z32)=[]:=cb_drop rfl
  have zlf:(leafC z32 .nil .nil).length=34:=rfl
  have lft:List.drop 34 (leafC z32 .nil .nil)=[]:=rfl
  have zt:List.take 34 (leafC z32 .nil .nil)=leafC z32 .nil .nil:=rfl
  have f1:=read_ok o hi hp32 hps hx
  simp [go_sem,cb_len,hkk,cb_take hkk]
  refine cl_eq f1 (by simp [AV.deep,AV.deep1]) ?_
  simp [go_sem,leaf_len hi,leaf_take2 hi,zlf,lft]
  refine cl_eq f (leafV_deep _ _ _) ?_
  rcases he with rfl | rfl
  · by_cases q:k=kk
    · subst q
      cases o <;> cases is
      · simp [go_sem,cb_len,hk,cb_take hk,zd,ints_cb,leaf_len hi,leaf_take2 hi,zlf,lft,zt,resV]
        exact post_le rfl
      · simp [go_sem,cb_len,hk,cb_take hk,zd,ints_cb,leaf_len hi,leaf_take2 hi,zlf,lft,zt,resV]
        exact post_same noCheck_deep rfl
      · simp [go_sem,cb_len,hk,cb_take hk,zd,ints_cb,leaf_len hi,leaf_take2 hi,zlf,lft,zt,resV]
        exact post_same noCheck_deep rfl
      · simp [go_sem,cb_len,hk,cb_take hk,zd,ints_cb,leaf_len hi,leaf_take2 hi,zlf,lft,zt,resV]
        exact post_le rfl
    · have q2:¬ (List.map (fun (x:Nat)=>(x:Int)) k=List.map (fun (x:Nat)=>(x:Int)) kk):=fun h=>q (natmap_inj.1 h)
      simp [go_sem,cb_len,hk,hkk,cb_take hk,cb_take hkk,zd,ints_cb,q,q2,zlf,lft,zt,resV]
      exact post_same noCheck_deep rfl
  · simp [go_sem,cb_len,hk,hkk,cb_take hk,cb_take hkk,zd,ints_cb,zlf,lft,zt,resV]
    exact post_same noCheck_deep rfl
theorem check_bad (c x kk:List Nat) (hc:bytes c) (hl:c.length≤1000000) (hx:x.length≤1000) (hkk:kk.length=32) (hb:¬ ctlOk c) :
    Rets Tryz.prog 15 [.d (nb c),.d (nb x),.agg (cb kk)] (fun r=>r=noCheck):=by
  refine fna Tryz.func15 Tryz.ntmps15 (rs:=[.cell 6 27,.tmp 7]) (three_d _ _ _) ?_
  have zd:List.drop 32 (cb z32)=[]:=cb_drop rfl
  have zlf:(leafC z32 .nil .nil).length=34:=rfl
  have lft:List.drop 34 (leafC z32 .nil .nil)=[]:=rfl
  have zt:List.take 34 (leafC z32 .nil .nil)=leafC z32 .nil .nil:=rfl
  simp [go_sem,cb_len,hkk,cb_take hkk]
  refine cl_eq (read_bad c x hc hl hx hb) (by simp [AV.deep,AV.deep1]) ?_
  simp [go_sem,noLeaf,zlf,lft,zt,resV]
  exact post_same noCheck_deep rfl
theorem rcheck_bad (c x kk:List Nat) (hc:bytes c) (hl:c.length≤1000000) (hx:x.length≤1000) (hkk:kk.length=32) (hb:¬ ctlOk c) :
    Rets Tryz.prog 16 [.d (nb c),.d (nb x),.agg (cb kk)] (fun r=>r=noCheck):=by
  refine fna Tryz.func16 Tryz.ntmps16 (rs:=[.cell 6 27,.tmp 7]) (three_d _ _ _) ?_
  have zd:List.drop 32 (cb z32)=[]:=cb_drop rfl
  have zlf:(leafC z32 .nil .nil).length=34:=rfl
  have lft:List.drop 34 (leafC z32 .nil .nil)=[]:=rfl
  have zt:List.take 34 (leafC z32 .nil .nil)=leafC z32 .nil .nil:=rfl
  simp [go_sem,cb_len,hkk,cb_take hkk]
  refine cl_eq (rread_bad c x hc hl hx hb) (by simp [AV.deep,AV.deep1]) ?_
  simp [go_sem,noLeaf,zlf,lft,zt,resV]
  exact post_same noCheck_deep rfl
end Go.Proofs.YtldccnbokbieiaaGreat
