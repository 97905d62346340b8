/-
 Part 12 of what the claim rests on.
-/
import Derived.Test.YtmfnimjnneflnaaGreatP5
import Derived.Test.YtmfnimjnneflnaaGreatP6
import Derived.Test.YtmfnimjnneflnaaGreatP7
import Derived.Test.YtmfnimjnneflnaaGreatP10
set_option linter.unusedVariables false
set_option linter.unusedSimpArgs false
set_option maxRecDepth 100000
set_option maxHeartbeats 16000000
namespace Go.Proofs.YtmfnimjnneflnaaGreat
open Go.Am Go.Sha
theorem AG(r:Rn):(bp r).2.cl=r.cl:=by
 unfold bp
 split
 ·split
  ·unfold az;split<;>rfl
  ·rfl
 ·rfl
theorem sL(most:Nat)(r:Rn):(dP most r).2.cl=r.cl:=by
 have h:=AG r;unfold dP;generalize bp r=p at *;simp only
 split
 ·cases fN most p.1 with
  |none=>simp only;unfold az;split<;>exact h
  |some n=>exact h
 ·exact h
theorem lQ{most:Nat}{r:Rn}(h:StOk r.main r.alt):StOk (dP most r).2.main (dP most r).2.alt:=by
 have h:=(dG h).1;unfold dP;generalize bp r=p at *;simp only
 split
 ·cases fN most p.1 with
  |none=>exact ga h
  |some n=>exact h
 ·exact h
theorem ES{hp:Hp}{I:Nat→Prop}{id:Nat}{ty:TypeId}{cs:List (Int×Int)}(hb:lk id hp=some ⟨ty,2,cs.map Ui⟩)(hI:I id):SnapD hp I (.own id 0 cs.length cs.length) (.ro 2 (cs.map cJ)):=by
 refine iG hb hI aw ?_ aw (fun r hr=>by
  obtain⟨x,_,rfl⟩:=List.mem_map.1 hr
  rfl)
 rw[List.drop_zero,cA aw]
 have e:cs.map Ui=(cs.map cJ).map fun r=>r.map AV.d:=by
  rw[List.map_map];rfl
 rw[e];exact mC _
theorem Tu (F:RnF) (x:Rx) (hi:F.inner.length=32) (htl:x.tpl.length=32) (htb:bytes x.tpl) (te:Int) (hT:ay Tryz.prog 18 [.agg (eT F.t),.d (.int .i64 (F.n:Int))] (fun v=>v=.tup [.agg (cb x.tpl),.d (.int .i64 te)])) (r:Rn) (J:List Bool) (H:Nat) (hk:StOk r.main r.alt) :
    cX Tryz.prog 3 (aH (gA F)) 201 ⟨r,J,H⟩ [.ptr 0 0 0 1] (fun v s'=>s'=⟨CB x r,J,H⟩):=by
  refine al Tryz.func201 (by kernel_rfl) rfl Tryz.ntmps201 (rs:=[]) rfl (dV rfl) (by decide) ?_;have hC:=eo (F:=F) hi;have hz:z32.length=32:=rfl;obtain⟨hk2,hb1,hb2⟩:=yt hk;have hto:=Ju hC r J H hk;unfold CB;generalize mi r=p at *;obtain⟨b,r2⟩:=p;simp only at hto hk2 hb1 hb2⊢;simp[go_sem];refine dQ (Pp:=[]) hC hto aq aw (by simp[AV.renL,AV.ren]) ?_;rintro v s' ρ ⟨rfl,rfl⟩ hρ;rw[bD];simp only[aH,bF,bE,id,gA,eS];simp only[eT]at hT;simp[go_sem,AV.ren];refine ep [0,1,2,3,4,5,6,7,8,9] [10,14,15] [0,1,2,3,4,5,6,7,8,9,11,12,13,16] (.alt (.step 10 [11,12,13] true (bt 14 (.step 15 [16] true .done))) (bt 14 (.step 10 [11,12,13] true (.step 15 [16] true .done)))) ⟨[(0,.ptr 0 0 0 1),(2,.d (nb b)),(3,.ptr 548 0 0 1)],(548,⟨29,32,[cb x.tpl]⟩)::ia 3 (aH (gA F)) ⟨r2,J,H⟩ id,9000⟩ (k:=17) ?h3 ?hq
  case h3 =>
    intro G hG;simp (config := { maxSteps := 3000000 }) [go_sem]
    repeat' first
      |apply And.intro
      | (refine ag hT a9 ?_
         simp (config := { maxSteps := 3000000 }) [go_sem,am,htl])
      | (refine hG _ _ (cB ⟨by simp [ai,fv,lk,AV.low,AV.low1],?_,aw⟩)
         intro p hp;rcases et.1 hp with rfl|hp
         · refine ⟨.inl (by simp [lk,am,hz]),by show 548<9000;omega,?_⟩
           intro r hr v hv;simp only[et,List.mem_nil_iff,or_false]at hr;subst hr;obtain⟨y,_,rfl⟩:=List.mem_map.1 hv
           trivial
         · exact WV hC (dV rfl) (qd (by simp[lk,aH,bF,bE,gA,eS]) (by simp[lk,aH]) (by simp[lk,aH])) p hp)
  case hq =>
    simp[go_sem];refine iT (ii b x.tpl hb2 htb) rfl (aj (.deep trivial) (aj (.one (ak (ef rfl trivial htl))) aD)) trivial ?_;by_cases hq:b=x.tpl
    · simp [go_sem,hq]
      rw[bD];exact aC (by simp[lk,aH,bF,bE,gA,eS]) rfl rfl
    · simp [go_sem,hq]
      refine aR (Pp:=[(548,⟨29,32,[cb x.tpl]⟩)]) hC (bz hC r2 J H 23) rfl (dV rfl) (by intro p hp;simp at hp;subst hp;simp) (by simp[AV.renL,AV.ren]) ?_;rintro v s' ρ rfl hρ;rw[bD];generalize az 23 r2=r';simp only[aH,bF,bE,id,gA,eS];simp[go_sem,ah];exact aC (by simp[lk,aH,bF,bE]) rfl rfl
theorem P7{C:List AV}(hC:iC C)(ids:List Nat)(Pp:Hp){N:Nat}{hp:Hp}{g:FuncId}{s:RnS}{ars ars2:List AV}{R:AV→RnS→Prop}{K:AV→Hp→Prop}(h:cX Tryz.prog 3 (aH C) g s (.ptr 0 0 0 1::ars2) R)(hN:3≤N)
  (hd:∀p,p∈Pp++ia 3 (aH C) s id→lk p.1 (aE ids hp)=some p.2) (hl:ars.length=ars2.length) (hs:∀(i:Nat)(v v':AV),ars[i]?=some v→ars2[i]?=some v'→v'=v∨Snap hp (fun id=>id∈ids) v v') (hP:∀p,p∈Pp→p.1<N∧3≤p.1) (has:∀ ρ,AV.renL ρ ars2=ars2)
  (hK:∀v s' ρ,R v s'→(∀j,j<3→ρ j=j)→K (v.ren ρ) (Pp++ia 3 (aH C) s' id)):sn Tryz.prog g (.ptr 0 0 0 1::ars) hp N K:=by
 refine cq ids Pp (args':=.ptr 0 0 0 1::ars2) (rf hC) id h (aU 3) (fun j hj=>by show j<N;omega) hd (by simp[hl]) ?_ (fun p hp=>⟨(hP p hp).1,fun j hj=>by have:=(hP p hp).2;show j≠p.1;omega⟩) ?_ hK
 ·intro i v v' h1 h2
  match i with
  |0=>simp at h1 h2;subst h1;subst h2;exact .inl rfl
  |i+1=>exact hs i v v' h1 h2
 ·rw[AV.renL,has,AV.ren];rfl
theorem ET{hp:Hp}{I:Nat→Prop}{l:List AV}:∀(i:Nat)(v v':AV),([]:List AV)[i]?=some v→l[i]?=some v'→v'=v∨Snap hp I v v':=by intro i v v' h;simp at h
theorem qe{hp:Hp}{I:Nat→Prop}{a a':AV}{args args':List AV}(h:a'=a∨Snap hp I a a')(t:∀(i:Nat)(v v':AV),args[i]?=some v→args'[i]?=some v'→v'=v∨Snap hp I v v'):∀(i:Nat)(v v':AV),(a::args)[i]?=some v→(a'::args')[i]?=some v'→v'=v∨Snap hp I v v':=by
 intro i v v' h1 h2
 match i with
 |0=>simp at h1 h2;subst h1;subst h2;exact h
 |i+1=>exact t i v v' h1 h2
theorem OG(F:RnF)(x:Rx)(hi:F.inner.length=32)(hR:∀(h:a8)(o:Int),bytes h→h.length≤1000→ay Tryz.prog 234 [.agg (eS F.t (F.n:Int) F.coins),.d (nb h),.d (.int .i64 o)] (fun v=>v=NE (x.rcv h o)))(r:Rn)(J:List Bool)(hk:StOk r.main r.alt)(hc:r.cl.length≤100000) :
  cX Tryz.prog 3 (aH (gA F)) 203 ⟨r,J,0⟩ [.ptr 0 0 0 1] (fun v s'=>s'=⟨CC x r,J,0⟩):=by
 refine al Tryz.func203 (by kernel_rfl) rfl Tryz.ntmps203 (rs:=[]) rfl (dV rfl) (by decide) ?_;have hC:=eo (F:=F) hi;obtain⟨hk2,hb1,hb2⟩:=dG hk;have hcl:(bp r).2.cl=r.cl:=AG r;have hta:=j7 hC r J 0 hk;unfold CC;generalize bp r=p at *;obtain⟨h,r2⟩:=p;simp only at hta hk2 hb1 hb2 hcl⊢;have htn:=rS hC r2 J 0 hk2 4 aq;have hk3:=lQ (most:=4) hk2;have hcl2:(dP 4 r2).2.cl=r2.cl:=sL 4 r2;generalize dP 4 r2=p at *;obtain⟨o,r3⟩:=p;simp only at htn hk3 hcl2⊢;have hR:=hR h o hb2 hb1;simp only[eS]at hR;generalize x.rcv h o=q at *;obtain⟨c1,c2,e⟩:=q;simp[go_sem];refine dQ (Pp:=[]) hC hta aq aw (by simp[AV.renL,AV.ren]) ?_;rintro v s' ρ ⟨rfl,rfl⟩ hρ;simp[go_sem,AV.ren];refine dQ (Pp:=[]) hC htn aq aw (by simp[AV.renL,AV.ren]) ?_;rintro v s' ρ ⟨rfl,rfl⟩ hρ;simp[go_sem,AV.ren];refine dQ (Pp:=[]) hC (eG hC r3 J 0) aq aw (by simp[AV.renL,AV.ren]) ?_;rintro v s' ρ' ⟨rfl,rfl⟩ hρ';by_cases he:r3.e=0
 ·rw[bD];simp only[aH,bF,bE,id,gA,eS];simp[go_sem,AV.ren,he];refine ag hR a9 ?_;simp[go_sem,NE];refine P7 hC [772] [] (s:=⟨r3,J,0⟩) (ars2:=[.d (.ro 2 ([(c1,c2)].map cJ)),.d (.int .i64 e)]) (EQ hC r3 J hk3 [(c1,c2)] e (by rw[hcl2,hcl];exact hc) aw) aq ?_ rfl (qe (.inr (.one (ak (ES (cs:=[(c1,c2)]) rfl aw)))) (qe (.inl rfl) ET)) aw (by simp[AV.renL,AV.ren]) ?_
  ·exact qd (by simp[aE,lk,aH,bF,bE,gA,eS,he]) (by simp[aE,lk,aH]) (by simp[aE,lk,aH])
  rintro v s' ρ rfl hρ;rw[bD];generalize xY [(c1,c2)] e r3=r';simp only[aH,bF,bE,id,gA,eS];simp[go_sem,ah];exact aC (by simp[lk,aH,bF,bE]) rfl rfl
 ·simp[go_sem,AV.ren,he,ah];rw[bD];exact aC rfl rfl rfl
theorem Tv (F:RnF) (x:Rx) (hi:F.inner.length=32) (hs:F.script.length≤100000) (hml:x.msg.length=32) (me:Int)
    (hM:ay Tryz.prog 43 [.agg (eS F.t (F.n:Int) F.coins),.d (nb (jU F.script)),.d (nb F.annex)] (fun v=>v=.tup [.agg (cb x.msg),.d (.int .i64 me)])) (r:Rn) (J:List Bool) (H:Nat) :
    cj Tryz.prog 226 3 (ia 3 (aH (gA F)) ⟨r,J,H⟩ id) [.ptr 0 0 0 1] (fun v hp'=>v=.sub 708 0 0 1 32 32 1∧lk 708 hp'=some ⟨29,32,[cb x.msg]⟩∧rZ 3 (aH (gA F)) ⟨r,J,H⟩ id hp'):=by
  refine al Tryz.func226 (by kernel_rfl) rfl Tryz.ntmps226 (rs:=[.tmp 2]) rfl (dV rfl) (by decide) ?_;have hC:=eo (F:=F) hi;have hz:z32.length=32:=rfl;have hth:=rL F.script hs;have hbl:(fi [84,97,112,76,101,97,102] (192::(au F.script.length++F.script))).length=32:=qL F.script;rw[bD];simp only[aH,bF,bE,id,gA,eS,aL]
  have h39:∀l:List AV,(cb F.inner++(AV.d (cH F.path)::AV.d (nb F.script)::l))[33]?=some (.d (nb F.script)):=fun l=>by
    rw[dz (by rw[am,hi];omega),am,hi];rfl
  have h40:∀l:List AV,(cb F.inner++(AV.d (cH F.path)::AV.d (nb F.script)::AV.d (nb F.annex)::l))[34]?=some (.d (nb F.annex)):=fun l=>by
    rw[dz (by rw[am,hi];omega),am,hi];rfl
  simp[go_sem,h39];refine ag hth a9 ?_;have hd0:List.drop 32 (cb z32)=[]:=rfl;have hlB:fi [84,97,112,76,101,97,102] (192::(au F.script.length++F.script))=jU F.script:=rfl;rw[hlB]at hbl⊢;generalize jU F.script=lb at *;simp only[eS]at hM;simp[go_sem,am,hz,hbl,hd0]
  have hfl:(AV.tup [.agg (cb x.msg),.d (.int .i64 me)]).flat:=by
    intro c hc;simp at hc;rcases hc with rfl|rfl
    · refine .inr ⟨_,rfl,fun y hy=>?_⟩
      obtain⟨z,_,rfl⟩:=List.mem_map.1 hy
      trivial
    · exact .inl trivial
  refine ep [0,1,2,3,4,5,6,7,8] [9,13,14] [0,1,2,3,4,5,6,7,8,10,11,12,15] (.alt (.step 9 [10,11,12] true (bt 13 (.step 14 [15] true .done))) (bt 13 (.step 9 [10,11,12] true (.step 14 [15] true .done)))) ⟨[(4,.ptr 708 0 0 1)],(708,⟨29,32,[cb x.msg]⟩)::ia 3 (aH (gA F)) ⟨r,J,H⟩ id,9000⟩ (k:=16) ?h3 ?hq
  case h3 =>
    intro G hG;simp (config := { maxSteps := 3000000 }) [go_sem,h40,am,hbl]
    repeat' first
      |apply And.intro
      | (refine iT hM rfl (aj (.deep a9) (aj (.one (ak (ef rfl trivial hbl))) (aj (.deep trivial) aD))) hfl ?_
         simp (config := { maxSteps := 3000000 }) [go_sem,am,hml,hz])
      | (refine hG _ _ (cB ⟨by simp [ai,fv,lk,AV.low,AV.low1],?_,aw⟩)
         intro p hp;rcases et.1 hp with rfl|hp
         · refine ⟨.inl (by simp [lk,am,hz,hd0]),by show 708<9000;omega,?_⟩
           intro r hr v hv;simp only[et,List.mem_nil_iff,or_false]at hr;subst hr;obtain⟨y,_,rfl⟩:=List.mem_map.1 hv
           trivial
         · exact WV hC (dV rfl) (qd (by simp[lk,aH,bF,bE,gA,eS,aL]) (by simp[lk,aH]) (by simp[lk,aH])) p hp)
  case hq =>
    simp[go_sem,ah];rw[bD];exact aC (by simp[lk,aH,bF,bE,gA,eS,aL]) rfl rfl
theorem Tz(F:RnF)(x:Rx)(hi:F.inner.length=32)(hs:F.script.length≤100000)(hml:x.msg.length=32)(me:Int)
  (hM:ay Tryz.prog 43 [.agg (eS F.t (F.n:Int) F.coins),.d (nb (jU F.script)),.d (nb F.annex)] (fun v=>v=.tup [.agg (cb x.msg),.d (.int .i64 me)])) {s:RnS} {N:Nat} {K:AV→Hp→Prop} (hN:3≤N)
  (hK:K (.sub N 0 0 1 32 32 1) ((N,⟨29,32,[cb x.msg]⟩)::ia 3 (aH (gA F)) s id)):sn Tryz.prog 226 [.ptr 0 0 0 1] (ia 3 (aH (gA F)) s id) N K:=by
 have hC:=eo (F:=F) hi;have ho:=rf hC;have hid:∀j,j<3→bQ (jX 3 id id) 3 (id j)=j:=fun j hj=>sC id 3 (aU 3) hj;have hnw:cy (jX 3 id id) [(708,0)]=true:=BW aq;have h708:v6 3 id [(708,0)] N 708=N:=xF (c:=708) (j:=0) hnw aw
 refine .inl (nE (n:=3) (b0:=aH (gA F) s id) id (Tv F x hi hs hml me hM s.r s.J s.H) (fun i x hi=>D1 i x hi) (aU 3) (fun j hj=>by show j<N;omega)
  (fun j hj=>⟨_,xC _ (aU 3) hj,ho.2 _ _ _ hj,(ho.1 s id _ id j hj hid).symm⟩) ?_ [(708,0)] hnw ?_)
 ·rw[AV.renL,AV.renL,AV.ren];rfl
 ·rintro r' hp'⟨rfl,hb,hs'⟩hpX q1 q2 q3;have hro:∀j,j<3→v6 3 id [(708,0)] N (id j)=id j:=fun j hj=>xE hnw hj;refine⟨(N,⟨29,32,[cb x.msg]⟩)::ia 3 (aH (gA F)) s id,fun i b h=>?_,?_⟩
  ·simp only[lk]at h
   split at h
   ·rename_i e;subst e
    cases h
    have h2:=q2 708 0 aw _ hb
    have e:Blk.ren (v6 3 id [(708,0)] N) ⟨29,32,[cb x.msg]⟩=⟨29,32,[cb x.msg]⟩:=by
     simp only[Blk.ren,aM,List.map_cons,List.map_nil,pL,cb,List.map_map];rfl
    rw[e]at h2;exact h2
   ·obtain⟨j,hj,e⟩:=lC.1 (bK h)
    cases e
    have h2:=q1 j hj _ (hs' j hj);rw[ho.1 s id _ id j hj hro]at h2;exact h2
  ·rw[AV.ren,h708];exact hK
theorem EU(m:a8):ay Tryz.prog 228 [.rop [nb m]] (fun v=>v=.d (nb m)):=by
 refine bL Tryz.func228 Tryz.ntmps228 (rs:=[.tmp 1]) a9 ?_;simp[go_sem,ah];exact aa trivial rfl
def TA(sg:a8→a8→a8→Bool):Prop:=∀key msg sig:a8,key.length=32→bytes key→bytes msg→bytes sig→msg.length≤1000→sig.length≤1000→ay Tryz.prog 156 [.agg (cb key),.d (nb msg),.d (nb sig)] (fun v=>v=.d (.bool (sg key sig msg)))
theorem qf(key:a8):(key.map fun(b:Nat)=>[DV.int .u8 (b:Int)]).flatten=cd key:=by
 unfold cd
 induction key with
 |nil=>rfl
 |cons a l ih=>simp only[List.map_cons,List.flatten_cons,ih];rfl
theorem EV{hp:Hp}{key:a8}:Snap hp (fun _=>True) (.agg (cb key)) (.agg (cb key)):=.deep (dF _)
theorem KG{C:List AV}(hC:iC C)(msg:a8)(hmb:bytes msg)(hml:msg.length≤1000)(sg:a8→a8→a8→Bool)(hV:TA sg)(r:Rn)(J:List Bool)(H:Nat)(key sig:a8)(hkb:bytes key)(hsb:bytes sig)(hkl:key.length≤1000)(hsl:sig.length≤1000)(hbd:-9223372036854775808≤r.bud)(hbd2:r.bud<9223372036854775808) :
  cX Tryz.prog 3 (aH C) 225 ⟨r,J,H⟩ [.ptr 0 0 0 1,.d (nb key),.d (nb sig),.fn 228 [.rop [nb msg]]] (fun v s'=>v=.d (.bool (fA sg key sig msg r).1)∧s'=⟨(fA sg key sig msg r).2,J,H⟩):=by
 refine al Tryz.func225 (by kernel_rfl) rfl Tryz.ntmps225 (rs:=[.tmp 8]) rfl (dV rfl) (by decide) ?_;have hl:=hC.2.2;simp[go_sem];refine dQ (Pp:=[]) hC (eG hC r J H) aq aw (by simp[AV.renL,AV.ren]) ?_;rintro v s' ρ ⟨rfl,rfl⟩ hρ;by_cases he:r.e=0
 ·by_cases hs0:sig.length=0
  ·have hv:fA sg key sig msg r=(false,r):=by simp[fA,hs0]
   rw[hv];have hs0i:(sig.length:Int)=0:=aq;simp[go_sem,AV.ren,he,nb,hs0,hs0i,ah];rw[bD];exact aC rfl rfl rfl
  ·have hs0i:¬(sig.length:Int)=0:=aq;by_cases hb5:r.bud<50
   ·have hv:fA sg key sig msg r=(false,az 21 r):=by simp[fA,hs0,he,hb5]
    rw[hv];simp[go_sem,AV.ren,he,nb,hs0,hs0i];rw[bD];simp only[aH,bF,bE,id];simp[go_sem,hl,hb5];refine aR (Pp:=[]) (s:=⟨r,J,H⟩) hC (bz hC r J H 21) (by simp[bD,aH,bF,bE,he]) aq aw (by simp[AV.renL,AV.ren]) ?_;rintro v s' ρ rfl hρ;rw[bD];generalize az 21 r=r';simp only[aH,bF,bE,id];simp[go_sem,ah];exact aC rfl rfl rfl
   ·have hv:fA sg key sig msg r=if key.length=32∧sg key sig msg=true then(true,{ r with bud:=r.bud-50 })else(false,az 20 { r with bud:=r.bud-50 }):=by
     simp only[fA,hs0,he,hb5,if_false,ne_eq,not_false_eq_true,and_self,if_true]
    rw[hv];have w1:IntKind.i64.wrap (r.bud-50)=r.bud-50:=IntWalk.i64_in _ aq;simp[go_sem,AV.ren,he,nb,hs0,hs0i];rw[bD];simp only[aH,bF,bE,id];simp[go_sem,hl,hb5,w1];have hsh:∀l:List AV,l=l:=fun _=>rfl;obtain⟨main,alt,br,bud,cl,e⟩:=r;simp only at he hb5 w1 hbd hbd2⊢;subst he;have hid2:gG ⟨main,alt,br,bud,cl,0⟩=gG ⟨main,alt,br,bud-50,cl,0⟩:=rfl;rw[hid2];have hfl:=bz hC ⟨main,alt,br,bud-50,cl,0⟩ J H 20;by_cases h32:key.length=32
    ·have hve:=hV key msg sig h32 hkb hmb hsb;have h32i:(key.length:Int)=32:=aq
     cases hg:sg key sig msg with
     |true =>
      rw[hg]at hve;rw[if_pos ⟨h32,rfl⟩];simp[go_sem,h32,h32i];refine b7 [0,1,2,3,4,5,6,7,9] [(8,[]),(10,[11,12])] 2 (k:=13) ?_;intro G hG;simp[go_sem,h32,h32i,AV.ren,qf,lv,av h32,am];refine ag (EU msg) a9 ?_;simp[go_sem];refine ag (hve hml hsl) (by intro v hv;simp at hv;rcases hv with rfl|rfl|rfl;exact dF _;trivial;trivial) ?_;simp[go_sem];refine hG _ _ ?_;clear hG G;simp[go_sem,ah];exact aC rfl rfl rfl
     |false =>
      rw[hg]at hve;rw[if_neg (fun h=>by cases h.2)];simp[go_sem,h32,h32i];refine b7 [0,1,2,3,4,5,6,7,9] [(8,[]),(10,[11,12])] 2 (k:=13) ?_;intro G hG;simp[go_sem,h32,h32i,AV.ren,qf,lv,av h32,am];refine ag (EU msg) a9 ?_;simp[go_sem];refine ag (hve hml hsl) (by intro v hv;simp at hv;rcases hv with rfl|rfl|rfl;exact dF _;trivial;trivial) ?_;simp[go_sem];refine hG _ _ ?_;clear hG G;simp[go_sem];refine aR (Pp:=[]) (s:=⟨⟨main,alt,br,bud-50,cl,0⟩,J,H⟩) hC hfl (by simp[bD,aH,bF,bE]) aq aw (by simp[AV.renL,AV.ren]) ?_;rintro v s' ρ rfl hρ;rw[bD];generalize az 20 ⟨main,alt,br,bud-50,cl,0⟩=r';simp only[aH,bF,bE,id];simp[go_sem,ah];exact aC rfl rfl rfl
    ·have h32i:¬(key.length:Int)=32:=aq;rw[if_neg (fun h=>h32 h.1)];simp[go_sem,h32,h32i];refine b7 [0,1,2,3,4,5,6,7,9] [(8,[]),(10,[11,12])] 2 (k:=13) ?_;intro G hG;simp[go_sem,h32,h32i,AV.ren];refine hG _ _ ?_;clear hG G;simp[go_sem];refine aR (Pp:=[]) (s:=⟨⟨main,alt,br,bud-50,cl,0⟩,J,H⟩) hC hfl (by simp[bD,aH,bF,bE]) aq aw (by simp[AV.renL,AV.ren]) ?_;rintro v s' ρ rfl hρ;rw[bD];generalize az 20 ⟨main,alt,br,bud-50,cl,0⟩=r';simp only[aH,bF,bE,id];simp[go_sem,ah];exact aC rfl rfl rfl
 ·have hv:fA sg key sig msg r=(false,r):=by simp[fA,he]
  rw[hv];simp[go_sem,AV.ren,he,ah];rw[bD];exact aC rfl rfl rfl
theorem EW(F:RnF)(x:Rx)(hi:F.inner.length=32)(hs:F.script.length≤100000)(hml:x.msg.length=32)(me:Int)
  (hM:ay Tryz.prog 43 [.agg (eS F.t (F.n:Int) F.coins),.d (nb (jU F.script)),.d (nb F.annex)] (fun v=>v=.tup [.agg (cb x.msg),.d (.int .i64 me)])) {s:RnS} {N:Nat} {hp:Hp} {K:AV→Hp→Prop} (he:hp=ia 3 (aH (gA F)) s id) (hN:3≤N)
  (hK:K (.sub N 0 0 1 32 32 1) ((N,⟨29,32,[cb x.msg]⟩)::ia 3 (aH (gA F)) s id)):sn Tryz.prog 226 [.ptr 0 0 0 1] hp N K:=he▸Tz F x hi hs hml me hM hN hK
theorem uu(F:RnF)(x:Rx)(hi:F.inner.length=32)(hs:F.script.length≤100000)(hml:x.msg.length=32)(hmb:bytes x.msg)(me:Int)(hM:ay Tryz.prog 43 [.agg (eS F.t (F.n:Int) F.coins),.d (nb (jU F.script)),.d (nb F.annex)] (fun v=>v=.tup [.agg (cb x.msg),.d (.int .i64 me)]))(sg:a8→a8→a8→Bool)(hV:TA sg)(r:Rn)(J:List Bool)(H:Nat)(key sig:a8)(hkb:bytes key)(hsb:bytes sig)(hkl:key.length≤1000)(hsl:sig.length≤1000)(hbd:-9223372036854775808≤r.bud)(hbd2:r.bud<9223372036854775808) :
  cX Tryz.prog 3 (aH (gA F)) 225 ⟨r,J,H⟩ [.ptr 0 0 0 1,.d (nb key),.d (nb sig),.mth 226 [.ptr 0 0 0 1]] (fun v s'=>v=.d (.bool (fA sg key sig x.msg r).1)∧s'=⟨(fA sg key sig x.msg r).2,J,H⟩):=by
 have hC:=eo (F:=F) hi;generalize hCF:gA F=C at *;refine al Tryz.func225 (by kernel_rfl) rfl Tryz.ntmps225 (rs:=[.tmp 8]) rfl (dV rfl) (by decide) ?_;have hl:=hC.2.2;simp[go_sem];refine dQ (Pp:=[]) hC (eG hC r J H) aq aw (by simp[AV.renL,AV.ren]) ?_;rintro v s' ρ ⟨rfl,rfl⟩ hρ;by_cases he:r.e=0
 ·by_cases hs0:sig.length=0
  ·have hv:fA sg key sig x.msg r=(false,r):=by simp[fA,hs0]
   rw[hv];have hs0i:(sig.length:Int)=0:=aq;simp[go_sem,AV.ren,he,nb,hs0,hs0i,ah];rw[bD];exact aC rfl rfl rfl
  ·have hs0i:¬(sig.length:Int)=0:=aq;by_cases hb5:r.bud<50
   ·have hv:fA sg key sig x.msg r=(false,az 21 r):=by simp[fA,hs0,he,hb5]
    rw[hv];simp[go_sem,AV.ren,he,nb,hs0,hs0i];rw[bD];simp only[aH,bF,bE,id];simp[go_sem,hl,hb5];refine aR (Pp:=[]) (s:=⟨r,J,H⟩) hC (bz hC r J H 21) (by simp[bD,aH,bF,bE,he]) aq aw (by simp[AV.renL,AV.ren]) ?_;rintro v s' ρ rfl hρ;rw[bD];generalize az 21 r=r';simp only[aH,bF,bE,id];simp[go_sem,ah];exact aC rfl rfl rfl
   ·have hv:fA sg key sig x.msg r=if key.length=32∧sg key sig x.msg=true then(true,{ r with bud:=r.bud-50 })else(false,az 20 { r with bud:=r.bud-50 }):=by
     simp only[fA,hs0,he,hb5,if_false,ne_eq,not_false_eq_true,and_self,if_true]
    rw[hv];have w1:IntKind.i64.wrap (r.bud-50)=r.bud-50:=IntWalk.i64_in _ aq;simp[go_sem,AV.ren,he,nb,hs0,hs0i];rw[bD];simp only[aH,bF,bE,id];simp[go_sem,hl,hb5,w1];have hsh:∀l:List AV,l=l:=fun _=>rfl;obtain⟨main,alt,br,bud,cl,e⟩:=r;simp only at he hb5 w1 hbd hbd2⊢;subst he;have hid2:gG ⟨main,alt,br,bud,cl,0⟩=gG ⟨main,alt,br,bud-50,cl,0⟩:=rfl;rw[hid2];have hfl:=bz hC ⟨main,alt,br,bud-50,cl,0⟩ J H 20;by_cases h32:key.length=32
    ·have hve:=hV key x.msg sig h32 hkb hmb hsb;have h32i:(key.length:Int)=32:=aq
     cases hg:sg key sig x.msg with
     |true =>
      rw[hg]at hve;rw[if_pos ⟨h32,rfl⟩];simp[go_sem,h32,h32i];refine b7 [0,1,2,3,4,5,6,7,9] [(8,[]),(10,[11,12])] 2 (k:=13) ?_;intro G hG;simp[go_sem,h32,h32i,AV.ren,qf,lv,av h32,am];refine EW F x hi hs hml me hM (s:=⟨⟨main,alt,br,bud-50,cl,0⟩,J,H⟩) (by simp[hCF,bD,aH,bF,bE]) aq ?_;rw[bD,hCF];simp only[aH,bF,bE,id];simp[go_sem];refine iT (hve aq hsl) rfl (aj EV (aj (.one (ak (ef rfl trivial hml))) (aj (.deep trivial) aD))) trivial ?_;simp[go_sem];refine hG _ _ ?_;clear hG G;simp[go_sem,ah];exact aC rfl rfl rfl
     |false =>
      rw[hg]at hve;rw[if_neg (fun h=>by cases h.2)];simp[go_sem,h32,h32i];refine b7 [0,1,2,3,4,5,6,7,9] [(8,[]),(10,[11,12])] 2 (k:=13) ?_;intro G hG;simp[go_sem,h32,h32i,AV.ren,qf,lv,av h32,am];refine EW F x hi hs hml me hM (s:=⟨⟨main,alt,br,bud-50,cl,0⟩,J,H⟩) (by simp[hCF,bD,aH,bF,bE]) aq ?_;rw[bD,hCF];simp only[aH,bF,bE,id];simp[go_sem];refine iT (hve aq hsl) rfl (aj EV (aj (.one (ak (ef rfl trivial hml))) (aj (.deep trivial) aD))) trivial ?_;simp[go_sem];refine hG _ _ ?_;clear hG G;simp[go_sem];refine aR (Pp:=[(964,⟨29,32,[cb x.msg]⟩)]) (s:=⟨⟨main,alt,br,bud-50,cl,0⟩,J,H⟩) hC hfl (by simp[bD,aH,bF,bE]) aq aw (by simp[AV.renL,AV.ren]) ?_;rintro v s' ρ rfl hρ;rw[bD];generalize az 20 ⟨main,alt,br,bud-50,cl,0⟩=r';simp only[aH,bF,bE,id];simp[go_sem,ah];exact aC rfl rfl rfl
    ·have h32i:¬(key.length:Int)=32:=aq;rw[if_neg (fun h=>h32 h.1)];simp[go_sem,h32,h32i];refine b7 [0,1,2,3,4,5,6,7,9] [(8,[]),(10,[11,12])] 2 (k:=13) ?_;intro G hG;simp[go_sem,h32,h32i,AV.ren];refine hG _ _ ?_;clear hG G;simp[go_sem];refine aR (Pp:=[]) (s:=⟨⟨main,alt,br,bud-50,cl,0⟩,J,H⟩) hC hfl (by simp[bD,aH,bF,bE]) aq aw (by simp[AV.renL,AV.ren]) ?_;rintro v s' ρ rfl hρ;rw[bD];generalize az 20 ⟨main,alt,br,bud-50,cl,0⟩=r';simp only[aH,bF,bE,id];simp[go_sem,ah];exact aC rfl rfl rfl
 ·have hv:fA sg key sig x.msg r=(false,r):=by simp[fA,he]
  rw[hv];simp[go_sem,AV.ren,he,ah];rw[bD];exact aC rfl rfl rfl
structure RnL(r r':Rn):Prop where
 br:r'.br=r.br
 cl:r'.cl=r.cl
 bud:r'.bud=r.bud
theorem mZ(x:Int)(r:Rn):RnL r (az x r):=by unfold az;split<;>exact⟨rfl,rfl,rfl⟩
theorem RnL.trans{a b c:Rn}(h:RnL a b)(h2:RnL b c):RnL a c:=⟨h2.br.trans h.br,h2.cl.trans h.cl,h2.bud.trans h.bud⟩
theorem kL(r:Rn):RnL r (bp r).2:=by
 unfold bp
 split
 ·split
  ·exact mZ _ _
  ·exact⟨rfl,rfl,rfl⟩
 ·exact⟨rfl,rfl,rfl⟩
theorem wI(most:Nat)(r:Rn):RnL r (dP most r).2:=by
 have h:=kL r;unfold dP;generalize bp r=p at *;simp only
 split
 ·cases fN most p.1 with
  |none=>exact h.trans (mZ _ _)
  |some n=>exact h
 ·exact h
theorem WW(b:a8)(r:Rn):RnL r (dB b r):=by
 unfold dB
 split
 ·split
  ·exact⟨rfl,rfl,rfl⟩
  ·exact mZ _ _
 ·exact⟨rfl,rfl,rfl⟩
def gi(b:Int):Prop:=-9223372036854775808≤b∧b<9223372036854775808
theorem uv(sg:a8→a8→a8→Bool)(key sig msg:a8)(r:Rn)(h:gi r.bud)(hk:StOk r.main r.alt):(fA sg key sig msg r).2.br=r.br∧(fA sg key sig msg r).2.cl=r.cl∧gi (fA sg key sig msg r).2.bud∧StOk (fA sg key sig msg r).2.main (fA sg key sig msg r).2.alt:=by
 have bd:¬r.bud<50→gi (r.bud-50):=fun hh=>⟨by have:=h.2;omega,by have:=h.2;omega⟩;unfold fA
 split
 ·split
  ·have:=mZ 21 r;exact⟨this.br,this.cl,by rw[this.bud];exact h,ga hk⟩
  ·split
   ·exact⟨rfl,rfl,bd ‹_›,hk⟩
   ·have:=mZ 20 { r with bud:=r.bud-50 };exact⟨this.br,this.cl,by rw[this.bud];exact bd ‹_›,ga hk⟩
 ·exact⟨rfl,rfl,h,hk⟩
theorem EX{r:Rn}(h:StOk r.main r.alt):-2147483648<(dP 4 r).1∧(dP 4 r).1<2147483648:=by
 obtain⟨_,_,hb⟩:=dG h;unfold dP;generalize bp r=p at *;simp only
 split
 ·cases hd:fN 4 p.1 with
  |none=>simp only;omega
  |some n=>exact Eg hb hd
 ·simp only;omega
structure RnE(F:RnF)(x:Rx):Prop where
 hi:F.inner.length=32
 hs:F.script.length≤100000
 ml:x.msg.length=32
 mb:bytes x.msg
 mg:∃me:Int,ay Tryz.prog 43 [.agg (eS F.t (F.n:Int) F.coins),.d (nb (jU F.script)),.d (nb F.annex)] (fun v=>v=.tup [.agg (cb x.msg),.d (.int .i64 me)])
 vf:TA x.sg
 tl:x.tpl.length=32
 tb:bytes x.tpl
 tg:∃te:Int,ay Tryz.prog 18 [.agg (eT F.t),.d (.int .i64 (F.n:Int))] (fun v=>v=.tup [.agg (cb x.tpl),.d (.int .i64 te)])
 rc:∀(h:a8)(o:Int),bytes h→h.length≤1000→ay Tryz.prog 234 [.agg (eS F.t (F.n:Int) F.coins),.d (nb h),.d (.int .i64 o)] (fun v=>v=NE (x.rcv h o))
 tr:∀(s:a8)(o0 o1 back:Int),bytes s→s.length≤100000→-9223372036854775808≤back→back<9223372036854775808→ay Tryz.prog 27 [.agg (eS F.t (F.n:Int) F.coins),cM F.inner F.path F.script,.d (nb s),.agg [.d (.int .i64 o0),.d (.int .i64 o1)],.d (.int .i64 back)]
  (fun v=>v=.tup [.d (.ro 2 ((x.trg s o0 o1 back).1.map cJ)),.d (.int .i64 (x.trg s o0 o1 back).2)])∧(x.trg s o0 o1 back).1.length≤2
 sq:∃i:Ip,F.t.ins[F.n]?=some i∧i.ok∧x.seq=(i.seq:Int)
 lk:F.t.lock<4294967296∧x.lock=(F.t.lock:Int)
 vr:F.t.ver<4294967296∧x.ver=(F.t.ver:Int)
 hh:x.h1=bu∧x.h2=dY
theorem KH{C:List AV}(hC:iC C){N:Nat}{g:FuncId}{s:RnS}{ars:List AV}{R:AV→RnS→Prop}{K:AV→Hp→Prop}(h:cX Tryz.prog 3 (aH C) g s (.ptr 0 0 0 1::ars) R)(hN:3≤N)(has:AV.renL (bQ (jX 3 id id) 3) ars=ars)
  (hK:∀v s' ρ,R v s'→(∀j,j<3→ρ j=j)→K (v.ren ρ) (ia 3 (aH C) s' id)):sn Tryz.prog g (.ptr 0 0 0 1::ars) (ia 3 (aH C) s id) N K:=by
 refine sD (Pp:=[]) (rf hC) h (aU 3) (fun j hj=>by show j<N;omega) aw ?_ hK;rw[AV.renL,has,AV.ren];rfl
theorem sM(F:RnF)(x:Rx)(E:RnE F x)(op:Nat)(ho:op=172∨op=173∨op=186∨op=204)(r:Rn)(J:List Bool)(H:Nat)(hk:StOk r.main r.alt)(hbd:gi r.bud) :
  cX Tryz.prog 3 (aH (gA F)) 198 ⟨r,J,H⟩ [.ptr 0 0 0 1,.d (.int .u8 (op:Int))] (fun v s'=>s'=⟨qY x op r,J,H⟩):=by
 refine al Tryz.func198 (by kernel_rfl) rfl Tryz.ntmps198 (rs:=[]) rfl (dV rfl) (by decide) ?_;have hC:=eo (F:=F) E.hi;have hl:=hC.2.2;obtain⟨me,hM⟩:=E.mg;have hta:=j7 hC r J H hk;obtain⟨hk2,hb1,hb2⟩:=dG hk;have hbd2:gi (bp r).2.bud:=by rw[(kL r).bud];exact hbd
 unfold qY;generalize bp r=p at *;obtain⟨key,r2⟩:=p;simp only at hta hk2 hb1 hb2 hbd2⊢;rcases ho with rfl|rfl|rfl|rfl
 ·have hT:=True.intro;have htb:=j7 hC r2 J H hk2;obtain⟨hk3,hc21,hc22⟩:=dG hk2;have hbd3:gi (bp r2).2.bud:=by rw[(kL r2).bud];exact hbd2
  generalize bp r2=p at *;obtain⟨sig,r3⟩:=p;simp only at htb hk3 hc21 hc22 hbd3⊢;have hsg:=uu F x E.hi E.hs E.ml E.mb me hM x.sg E.vf r3 J H key sig hb2 hc22 hb1 hc21 hbd3.1 hbd3.2;obtain⟨_,_,_,hk9⟩:=uv x.sg key sig x.msg r3 hbd3 hk3;generalize fA x.sg key sig x.msg r3=p at *;obtain⟨b,r9⟩:=p;simp only at hsg hk9⊢;have hpu:=oO hC r9 J H hk9 (iM b) (by cases b<;>simp[iM]);simp[go_sem];refine dQ (Pp:=[]) hC hta aq aw (by simp[AV.renL,AV.ren]) ?_;rintro v s' ρ ⟨rfl,rfl⟩ hρ;simp[go_sem,AV.ren,pA];refine dQ (Pp:=[]) hC htb aq aw (by simp[AV.renL,AV.ren]) ?_;rintro v s' ρ ⟨rfl,rfl⟩ hρ;simp[go_sem,AV.ren,pA];refine KH hC hsg aq rfl ?_;rintro v s' ρ ⟨rfl,rfl⟩ hρ;simp[go_sem,AV.ren];refine ag (lG b) a9 ?_;simp[go_sem];refine aR (Pp:=[]) hC hpu (List.nil_append _).symm aq aw (by simp[AV.renL,AV.ren]) ?_;rintro v s' ρ rfl hρ;rw[bD];generalize dB (iM b) r9=r';simp only[aH,bF,bE,id];simp[go_sem,ah];exact aC rfl rfl rfl
 ·have hT:=True.intro;have htb:=j7 hC r2 J H hk2;obtain⟨hk3,hc21,hc22⟩:=dG hk2;have hbd3:gi (bp r2).2.bud:=by rw[(kL r2).bud];exact hbd2
  generalize bp r2=p at *;obtain⟨sig,r3⟩:=p;simp only at htb hk3 hc21 hc22 hbd3⊢;have hsg:=uu F x E.hi E.hs E.ml E.mb me hM x.sg E.vf r3 J H key sig hb2 hc22 hb1 hc21 hbd3.1 hbd3.2;obtain⟨_,_,_,hk9⟩:=uv x.sg key sig x.msg r3 hbd3 hk3;generalize fA x.sg key sig x.msg r3=p at *;obtain⟨b,r9⟩:=p;simp only at hsg hk9⊢;simp[go_sem];refine dQ (Pp:=[]) hC hta aq aw (by simp[AV.renL,AV.ren]) ?_;rintro v s' ρ ⟨rfl,rfl⟩ hρ;simp[go_sem,AV.ren,pA];refine dQ (Pp:=[]) hC htb aq aw (by simp[AV.renL,AV.ren]) ?_;rintro v s' ρ ⟨rfl,rfl⟩ hρ;simp[go_sem,AV.ren,pA];refine KH hC hsg aq rfl ?_;rintro v s' ρ ⟨rfl,rfl⟩ hρ
  cases b with
  |true =>
   simp[go_sem,AV.ren];rw[bD];exact aC rfl rfl rfl
  |false =>
   simp[go_sem,AV.ren];refine aR (Pp:=[]) hC (bz hC r9 J H 16) (List.nil_append _).symm aq aw (by simp[AV.renL,AV.ren]) ?_;rintro v s' ρ rfl hρ;rw[bD];generalize az 16 r9=r';simp only[aH,bF,bE,id];simp[go_sem,ah];exact aC rfl rfl rfl
 ·have hT:=True.intro;have hnb:=rS hC r2 J H hk2 4 aq;have hk3:=lQ (most:=4) hk2;have hbd3:gi (dP 4 r2).2.bud:=by rw[(wI 4 r2).bud];exact hbd2
  have hn31:=EX hk2;generalize dP 4 r2=p at *;obtain⟨n,r3⟩:=p;simp only at hnb hk3 hbd3 hn31⊢;have htb:=j7 hC r3 J H hk3;obtain⟨hk4,hc31,hc32⟩:=dG hk3;have hbd4:gi (bp r3).2.bud:=by rw[(kL r3).bud];exact hbd3
  generalize bp r3=p at *;obtain⟨sig,r4⟩:=p;simp only at htb hk4 hc31 hc32 hbd4⊢;have hsg:=uu F x E.hi E.hs E.ml E.mb me hM x.sg E.vf r4 J H key sig hb2 hc32 hb1 hc31 hbd4.1 hbd4.2;obtain⟨_,_,_,hk9⟩:=uv x.sg key sig x.msg r4 hbd4 hk4;generalize fA x.sg key sig x.msg r4=p at *;obtain⟨b,r9⟩:=p;simp only at hsg hk9⊢;have w1:IntKind.i64.wrap (n+1)=n+1:=IntWalk.i64_in _ (by have:=hn31.1;have:=hn31.2;omega);simp[go_sem];refine dQ (Pp:=[]) hC hta aq aw (by simp[AV.renL,AV.ren]) ?_;rintro v s' ρ ⟨rfl,rfl⟩ hρ;simp[go_sem,AV.ren,pA];refine dQ (Pp:=[]) hC hnb aq aw (by simp[AV.renL,AV.ren]) ?_;rintro v s' ρ ⟨rfl,rfl⟩ hρ;simp[go_sem,AV.ren,pA];refine dQ (Pp:=[]) hC htb aq aw (by simp[AV.renL,AV.ren]) ?_;rintro v s' ρ ⟨rfl,rfl⟩ hρ;simp[go_sem,AV.ren,pA];refine KH hC hsg aq rfl ?_;rintro v s' ρ ⟨rfl,rfl⟩ hρ
  cases b with
  |true =>
   have hpu:=oO hC r9 J H hk9 (dN (n+1)) (by have:=hJ (n+1);omega);simp[go_sem,AV.ren,w1];refine ag (kG (n+1) (by have:=hn31.1;omega) (by have:=hn31.2;omega)) a9 ?_;simp[go_sem];refine aR (Pp:=[]) hC hpu (List.nil_append _).symm aq aw (by simp[AV.renL,AV.ren]) ?_;rintro v s' ρ rfl hρ;rw[bD];generalize dB (dN (n+1)) r9=r';simp only[aH,bF,bE,id];simp[go_sem,ah];exact aC rfl rfl rfl
  |false =>
   have hpu:=oO hC r9 J H hk9 (dN (n)) (by have:=hJ (n);omega);simp[go_sem,AV.ren,w1];refine ag (kG (n) (by have:=hn31.1;omega) (by have:=hn31.2;omega)) a9 ?_;simp[go_sem];refine aR (Pp:=[]) hC hpu (List.nil_append _).symm aq aw (by simp[AV.renL,AV.ren]) ?_;rintro v s' ρ rfl hρ;rw[bD];generalize dB (dN (n)) r9=r';simp only[aH,bF,bE,id];simp[go_sem,ah];exact aC rfl rfl rfl
 ·have hT:=True.intro;have hmb:=j7 hC r2 J H hk2;obtain⟨hk3,hc21,hc22⟩:=dG hk2;have hbd3:gi (bp r2).2.bud:=by rw[(kL r2).bud];exact hbd2
  generalize bp r2=p at *;obtain⟨msg,r3⟩:=p;simp only at hmb hk3 hc21 hc22 hbd3⊢;have htb:=j7 hC r3 J H hk3;obtain⟨hk4,hc31,hc32⟩:=dG hk3;have hbd4:gi (bp r3).2.bud:=by rw[(kL r3).bud];exact hbd3
  generalize bp r3=p at *;obtain⟨sig,r4⟩:=p;simp only at htb hk4 hc31 hc32 hbd4⊢;have hsg:=KG hC msg hc22 hc21 x.sg E.vf r4 J H key sig hb2 hc32 hb1 hc31 hbd4.1 hbd4.2;obtain⟨_,_,_,hk9⟩:=uv x.sg key sig msg r4 hbd4 hk4;generalize fA x.sg key sig msg r4=p at *;obtain⟨b,r9⟩:=p;simp only at hsg hk9⊢;have hpu:=oO hC r9 J H hk9 (iM b) (by cases b<;>simp[iM]);simp[go_sem];refine dQ (Pp:=[]) hC hta aq aw (by simp[AV.renL,AV.ren]) ?_;rintro v s' ρ ⟨rfl,rfl⟩ hρ;simp[go_sem,AV.ren,pA];refine dQ (Pp:=[]) hC hmb aq aw (by simp[AV.renL,AV.ren]) ?_;rintro v s' ρ ⟨rfl,rfl⟩ hρ;simp[go_sem,AV.ren,pA];refine aR (Pp:=[(452,⟨31,1,[[.d (nb msg)]]⟩)]) hC htb rfl aq (by intro p hp;simp at hp;subst hp;simp) (by simp[AV.renL,AV.ren]) ?_;rintro v s' ρ ⟨rfl,rfl⟩ hρ;simp[go_sem,AV.ren,UT]
  refine P7 hC [452] [] (s:=⟨r4,J,H⟩) (ars2:=[.d (nb key),.d (nb sig),.fn 228 [.rop [nb msg]]]) hsg aq (qd rfl rfl rfl) rfl
   (qe (.inl rfl) (qe (.inl rfl) (qe (.inr (.fnp (b:=⟨31,1,[[.d (nb msg)]]⟩) aw rfl rfl rfl (qC [nb msg]))) ET))) aw (fun ρ=>rfl) ?_
  rintro v s' ρ ⟨rfl,rfl⟩ hρ;simp[go_sem,AV.ren];refine ag (lG b) a9 ?_;simp[go_sem];refine aR (Pp:=[]) hC hpu (List.nil_append _).symm aq aw (by simp[AV.renL,AV.ren]) ?_;rintro v s' ρ rfl hρ;rw[bD];generalize dB (iM b) r9=r';simp only[aH,bF,bE,id];simp[go_sem,ah];exact aC rfl rfl rfl
theorem kg:∀(j:Nat)(r:Rn),cv (j+1) r=((bp (cv j r).2).1::(cv j r).1,(bp (cv j r).2).2)
 |0,r=>rfl
 |j+1,r=>by
  have h:=kg j (bp r).2;rw[cv,h];rfl
theorem nR:∀(j:Nat)(r:Rn),(cv j r).1.length=j
 |0,r=>rfl
 |j+1,r=>by rw[kg,List.length_cons,nR j r]
theorem uw{r:Rn}(h:StOk r.main r.alt):∀j,StOk (cv j r).2.main (cv j r).2.alt∧∀x,x∈(cv j r).1→x.length≤1000∧bytes x
 |0=>⟨h,fun x hx=>by cases hx⟩
 |j+1=>by
  obtain⟨h1,h2⟩:=uw h j;obtain⟨h3,h4,h5⟩:=dG h1;rw[kg];refine⟨h3,fun x hx=>?_⟩;rcases et.1 hx with rfl|hx
  ·exact⟨h4,h5⟩
  ·exact h2 x hx
theorem EY:∀(j:Nat)(r:Rn),RnL r (cv j r).2
 |0,r=>⟨rfl,rfl,rfl⟩
 |j+1,r=>by rw[kg];exact(EY j r).trans (kL _)
def yv(k:Nat)(l:List a8):List (List AV):=List.replicate k [AV.nil]++l.map nF
theorem OH(k:Nat)(x:a8)(l:List a8):(yv (k+1) l).set k [.d (nb x)]=yv k (x::l):=by
 unfold yv;rw[List.set_append_left _ _ aw];rw[List.replicate_succ',List.set_append_right _ _ aw];simp[nF]
theorem OI(l:List a8):yv 0 l=cQ l []:=by simp[yv,cQ]
theorem KI{C:List AV}(hC:iC C)(r:Rn)(J:List Bool)(H:Nat)(hk:StOk r.main r.alt)(n:Int)(hn1:-2147483648<n)(hn2:n<2147483648) :
  cj Tryz.prog 232 3 (ia 3 (aH C) ⟨r,J,H⟩ id) [.ptr 0 0 0 1,.d (.int .i64 n)] (fun v hp'=>rZ 3 (aH C) ⟨(gr n r).2,J,H⟩ id hp' ∧
   ((v=.nil∧(gr n r).2.e≠0)∨(v=.own 548 0 (gr n r).1.length (gr n r).1.length∧lk 548 hp'=some ⟨31,1,cQ (gr n r).1 []⟩))):=by
 refine al Tryz.func232 (by kernel_rfl) rfl Tryz.ntmps232 (rs:=[.tmp 4]) rfl (dV rfl) (by decide) ?_;have hl:=hC.2.2;by_cases h0:n<0∨(r.main.length:Int)<n
 ·have hv:gr n r=([],az 12 r):=by
   unfold gr;rw[if_pos h0];exact if_neg (x6 aq)
  have hne:(az 12 r).e≠0:=x6 aq;have hf:=bz hC r J H 12;rw[hv];generalize az 12 r=r2 at *;rw[bD];simp only[aH,bF,bE,id];have tail:True:=trivial;by_cases hn0:n<0
  ·simp[go_sem,hl,hn0];refine aR (Pp:=[]) (s:=⟨r,J,H⟩) hC hf (by simp[bD,aH,bF,bE]) aq aw (by simp[AV.renL,AV.ren]) ?_;rintro v s' ρ rfl hρ;simp[go_sem];refine dQ (Pp:=[]) hC (eG hC r2 J H) aq aw (by simp[AV.renL,AV.ren]) ?_;rintro v s' ρ ⟨rfl,rfl⟩ hρ;simp[go_sem,AV.ren,hne,ah];rw[bD];exact aC rfl rfl rfl
  ·have hn3:(r.main.length:Int)<n:=h0.resolve_left hn0;simp[go_sem,hl,hn0,hn3];refine aR (Pp:=[]) (s:=⟨r,J,H⟩) hC hf (by simp[bD,aH,bF,bE]) aq aw (by simp[AV.renL,AV.ren]) ?_;rintro v s' ρ rfl hρ;simp[go_sem];refine dQ (Pp:=[]) hC (eG hC r2 J H) aq aw (by simp[AV.renL,AV.ren]) ?_;rintro v s' ρ ⟨rfl,rfl⟩ hρ;simp[go_sem,AV.ren,hne,ah];rw[bD];exact aC rfl rfl rfl
 ·have hn0:¬n<0:=fun h=>h0 (.inl h);have hn3:¬(r.main.length:Int)<n:=fun h=>h0 (.inr h);obtain⟨m,rfl⟩:∃m:Nat,n=(m:Int):=⟨n.toNat,aq⟩;have hm:m≤1000:=by have:=hk.m;omega
  have hn4:¬r.main.length<m:=aq;rw[bD];simp only[aH,bF,bE,id];simp[go_sem,hl,hn0,hn3,hn4];refine aR (Pp:=[]) (s:=⟨r,J,H⟩) hC (eG hC r J H) (by simp[bD,aH,bF,bE]) aq aw (by simp[AV.renL,AV.ren]) ?_;rintro v s' ρ ⟨rfl,rfl⟩ hρ;by_cases he:r.e=0
  ·have hv:gr (m:Int) r=cv m r:=by
    unfold gr;rw[if_neg h0];exact if_pos he
   rw[hv];have w1:IntKind.i64.wrap ((m:Int)-1)=(m:Int)-1:=IntWalk.i64_in _ aq;simp[go_sem,AV.ren,he,w1];refine⟨aq,aq,aq,?_⟩
   have hlw:∀k l,∀q,q∈yv k l→∀v,v∈q→v.low1 9000:=by
    intro k l q hq v hv;rcases cL.1 hq with h|h
    ·rw[List.eq_of_mem_replicate h]at hv;simp only[et,List.mem_nil_iff,or_false]at hv;subst hv;trivial
    ·obtain⟨x,_,rfl⟩:=List.mem_map.1 h;simp only[nF,et,List.mem_nil_iff,or_false]at hv;subst hv;trivial
   have hwk:∀(fr:Fr)(hp:Hp)(nx j:Nat),(fv 0 fr=.ptr 0 0 0 1∧fv 5 fr=.own 548 0 m m∧fv 6 fr=.d (.int .i64 ((m:Int)-1-(j:Int))))→lk 548 hp=some ⟨31,1,yv (m-j) (cv j r).1⟩→(∀p,p∈ia 3 (aH C) ⟨(cv j r).2,J,H⟩ id→lk p.1 hp=some p.2) →
     aA ⟨fr,hp,nx⟩ ⟨[(0,.ptr 0 0 0 1),(5,.own 548 0 m m),(6,.d (.int .i64 ((m:Int)-1-(j:Int))))],(548,⟨31,1,yv (m-j) (cv j r).1⟩)::ia 3 (aH C) ⟨(cv j r).2,J,H⟩ id,9000⟩:=by
    rintro fr hp nx j⟨q0,q1,q2⟩h1 h2;refine⟨?_,fun p hp'=>?_,.inr (by show 64≤9000;omega)⟩
    ·intro p hp';simp only[et,List.mem_nil_iff,or_false]at hp';rcases hp' with rfl|rfl|rfl
     ·exact⟨.inl q0.symm,by simp[AV.low,AV.low1]⟩
     ·exact⟨.inl q1.symm,by simp[AV.low,AV.low1]⟩
     ·exact⟨.inl q2.symm,by simp[AV.low,AV.low1]⟩
    ·rcases et.1 hp' with rfl|hp'
     ·exact⟨.inl h1,by show 548<9000;omega,hlw _ _⟩
     ·exact WV hC (dV rfl) h2 p hp'
   refine ar (fun j:Nat=>⟨[(0,.ptr 0 0 0 1),(5,.own 548 0 m m),(6,.d (.int .i64 ((m:Int)-1-(j:Int))))],(548,⟨31,1,yv (m-j) (cv j r).1⟩)::ia 3 (aH C) ⟨(cv j r).2,J,H⟩ id,9000⟩)
    (fun j=>j≤m) (fun j=>m-j) 0 aq (hwk _ _ _ 0 (by simp[fv,lk]) (by simp[lk,yv,cv]) (qd rfl rfl rfl)) ?_
   intro j hj;by_cases hjm:j=m
   ·subst hjm;have c0:¬(0:Int)≤(j:Int)-1-(j:Int):=aq;have c1:((j:Int)-1-(j:Int))<0:=aq;simp[go_sem,c0,c1,ah];refine⟨fun h=>aq,fun _=>⟨?_,(nR _ _).symm,OI _⟩⟩;rw[bD];exact aC rfl rfl rfl
   ·have hjm2:j<m:=aq;have e1:(m:Int)-1-(j:Int)=((m-(j+1):Nat):Int):=aq;obtain⟨hkj,hxj⟩:=uw hk j;have hsn:=kg j r;have hlen:(yv (m-j) (cv j r).1).length=m:=by simp[yv,nR];omega
    have hset:(yv (m-j) (cv j r).1).set (m-(j+1)) [.d (nb (bp (cv j r).2).1)]=yv (m-(j+1)) (cv (j+1) r).1:=by
     rw[hsn,show m-j=(m-(j+1))+1 by omega];exact OH _ _ _
    have hat:(yv (m-j) (cv j r).1)[m-(j+1)]?=some [.nil]:=by
     unfold yv;rw[List.getElem?_append_left (by simp;omega),List.getElem?_replicate,if_pos aq]
    have hsg:∀h:m-(j+1)<(yv (m-j) (cv j r).1).length,(yv (m-j) (cv j r).1)[m-(j+1)]=[.nil]:=fun h=>Option.some.inj ((cm h).symm.trans hat);have hta:=j7 hC (cv j r).2 J H hkj;have w2:IntKind.i64.wrap (((m-(j+1):Nat):Int)-1)=(m:Int)-1-((j+1:Nat):Int):=by rw[IntWalk.i64_in _ aq];omega
    have hlt:m-(j+1)<m:=aq;have hlti:((m-(j+1):Nat):Int)<(m:Int):=aq;rw[e1];generalize hq:m-(j+1)=q at *;simp[go_sem];refine aR (Pp:=[(548,⟨31,1,yv (m-j) (cv j r).1⟩)]) hC hta rfl aq (by intro p hp;simp at hp;subst hp;simp) (by simp[AV.renL,AV.ren]) ?_;rintro v s' ρ ⟨rfl,rfl⟩ hρ;simp[go_sem,AV.ren,hlen,hlt,hlti,w2,hat,hsg,hset];refine ao (j+1) aq aq (hwk _ _ _ (j+1) (by simp[fv,lk]) ?_ ?_)
    ·rw[hq];simp[lk,hset]
    ·rw[hsn];exact qd rfl rfl rfl
  ·have hv:gr (m:Int) r=([],r):=by
    unfold gr;rw[if_neg h0];exact if_neg he
   rw[hv];simp[go_sem,AV.ren,he,ah];rw[bD];exact aC rfl rfl rfl
theorem TB{C:List AV}(hC:iC C)(r:Rn)(J:List Bool)(H:Nat)(hk:StOk r.main r.alt)(n:Int)(hn1:-2147483648<n)(hn2:n<2147483648){N:Nat}{K:AV→Hp→Prop}(hN:3≤N)
  (h1:(gr n r).2.e≠0→K .nil (ia 3 (aH C) ⟨(gr n r).2,J,H⟩ id))
  (h2:K (.own N 0 (gr n r).1.length (gr n r).1.length) ((N,⟨31,1,cQ (gr n r).1 []⟩)::ia 3 (aH C) ⟨(gr n r).2,J,H⟩ id)):sn Tryz.prog 232 [.ptr 0 0 0 1,.d (.int .i64 n)] (ia 3 (aH C) ⟨r,J,H⟩ id) N K:=by
 have ho:=rf hC;have hid:∀j,j<3→bQ (jX 3 id id) 3 (id j)=j:=fun j hj=>sC id 3 (aU 3) hj;have hnw:cy (jX 3 id id) [(548,0)]=true:=BW aq;have h548:v6 3 id [(548,0)] N 548=N:=xF (c:=548) (j:=0) hnw aw
 refine .inl (nE (n:=3) (b0:=aH C ⟨r,J,H⟩ id) id (KI hC r J H hk n hn1 hn2) (fun i x hi=>D1 i x hi) (aU 3) (fun j hj=>by show j<N;omega)
  (fun j hj=>⟨_,xC _ (aU 3) hj,ho.2 _ _ _ hj,(ho.1 _ id _ id j hj hid).symm⟩) ?_ [(548,0)] hnw ?_)
 ·rw[AV.renL,AV.renL,AV.renL,AV.ren];rfl
 ·rintro r' hp'⟨hs',hv⟩hpX q1 q2 q3;have hro:∀j,j<3→v6 3 id [(548,0)] N (id j)=id j:=fun j hj=>xE hnw hj
  have ob:∀i b,lk i (ia 3 (aH C) ⟨(gr n r).2,J,H⟩ id)=some b→lk i hpX=some b:=by
   intro i b h;obtain⟨j,hj,e⟩:=lC.1 (bK h)
   cases e
   have h2:=q1 j hj _ (hs' j hj);rw[ho.1 _ id _ id j hj hro]at h2;exact h2
  rcases hv with ⟨rfl,he⟩|⟨rfl,hb⟩
  ·exact⟨_,ob,h1 he⟩
  ·refine⟨_,fun i b h=>?_,by rw[AV.ren,h548];exact h2⟩;simp only[lk]at h
   split at h
   ·rename_i e;subst e
    cases h
    have h3:=q2 548 0 aw _ hb
    have e:Blk.ren (v6 3 id [(548,0)] N) ⟨31,1,cQ (gr n r).1 []⟩=⟨31,1,cQ (gr n r).1 []⟩:=by
     simp only[Blk.ren,kr]
    rw[e]at h3;exact h3
   ·exact ob i b h
theorem WX{b:a8}{n:Int}(hb:bytes b)(h:fN 8 b=some n):-9223372036854775808≤n∧n<9223372036854775808:=by
 unfold fN at h
 split at h
 ·rename_i h1;obtain rfl:=Option.some.inj h;have hl:b.length≤8:=aq;rcases eD b with rfl|⟨a,x,rfl⟩
  ·decide
  ·have hx:x<256:=hb x aw;have ha:=qR (b:=a) (fun y hy=>hb y (List.mem_append_left _ hy));simp at hl;rw[nD];have hc:a.length=0∨a.length=1∨a.length=2∨a.length=3∨a.length=4∨a.length=5∨a.length=6∨a.length=7:=aq;rcases hc with e|e|e|e|e|e|e|e<;>rw[e]at ha⊢<;>simp at ha⊢<;>split<;>omega
 ·cases h
theorem KJ{r:Rn}(h:StOk r.main r.alt):-9223372036854775808≤(dP 8 r).1∧(dP 8 r).1<9223372036854775808:=by
 obtain⟨_,_,hb⟩:=dG h;unfold dP;generalize bp r=p at *;simp only
 split
 ·cases hd:fN 8 p.1 with
  |none=>simp only;omega
  |some n=>exact WX hb hd
 ·simp only;omega
theorem KL{most:Nat}{r:Rn}(h:r.e≠0):dP most r=(0,r):=by
 have ht:bp r=([],r):=if_neg h;unfold dP;rw[ht];exact if_neg h
theorem KN{r:Rn}(h:StOk r.main r.alt)(n:Int):StOk (gr n r).2.main (gr n r).2.alt∧(∀x,x∈(gr n r).1→x.length≤1000∧bytes x)∧(gr n r).1.length≤1000∧RnL r (gr n r).2:=by
 unfold gr;simp only
 split
 ·rename_i hb
  split
  ·rename_i he;exact absurd he (x6 aq)
  ·exact⟨ga h,fun x hx=>(by cases hx),aw,mZ _ _⟩
 ·rename_i hb
  split
  ·obtain⟨h1,h2⟩:=uw h n.toNat
   exact⟨h1,h2,by rw[nR];have:=h.m;omega,EY _ _⟩
  ·exact⟨h,fun x hx=>(by cases hx),aw,⟨rfl,rfl,rfl⟩⟩
theorem C9{l:List a8}{b:a8}(h:(gZ l b).2=0):(gZ l b).1.length≤1000:=by
 unfold gZ at h⊢
 cases hu:tq [] l with
 |none=>rw[hu]at h;simp at h
 |some out =>
  rw[hu]at h;simp only at h⊢
  split at h
  ·simp at h
  ·rename_i h2;rw[if_neg h2];simp only;omega
theorem OJ(F:RnF)(x:Rx)(E:RnE F x)(r:Rn)(J:List Bool)(hk:StOk r.main r.alt)(hc:r.cl.length≤100000) :
  cX Tryz.prog 3 (aH (gA F)) 202 ⟨r,J,0⟩ [.ptr 0 0 0 1] (fun v s'=>s'=⟨xZ x r,J,0⟩):=by
 refine al Tryz.func202 (by kernel_rfl) rfl Tryz.ntmps202 (rs:=[]) rfl (dV rfl) (by decide) ?_;have hC:=eo (F:=F) E.hi;have hl:=hC.2.2;unfold xZ;have h1:=rS hC r J 0 hk 4 aq;have k1:=lQ (most:=4) hk;have n1:=EX hk;have l1:=wI 4 r;generalize dP 4 r=p1 at *;obtain⟨n,r1⟩:=p1;simp only at h1 k1 n1 l1⊢;have h2:=j7 hC r1 J 0 k1;obtain⟨k2,b1,b2⟩:=dG k1;have l2:=kL r1;generalize bp r1=p2 at *;obtain⟨b,r2⟩:=p2;simp only at h2 k2 b1 b2 l2⊢;obtain⟨k3,t1,t2,l3⟩:=KN k2 n;have h3:=fun{N:Nat}{K:AV→Hp→Prop}(hN:3≤N)=>TB hC r2 J 0 k2 n n1.1 n1.2 (K:=K) hN;generalize gr n r2=p3 at *;obtain⟨l,r3⟩:=p3;simp only at h3 k3 t1 t2 l3⊢;simp[go_sem];refine dQ (Pp:=[]) hC h1 aq aw (by simp[AV.renL,AV.ren]) ?_;rintro v s' ρ ⟨rfl,rfl⟩ hρ;simp[go_sem,AV.ren];refine dQ (Pp:=[]) hC h2 aq aw (by simp[AV.renL,AV.ren]) ?_;rintro v s' ρ ⟨rfl,rfl⟩ hρ;simp[go_sem,AV.ren];refine h3 aq (fun he=>?_) ?_
 ·have e1:dP 4 r3=(0,r3):=KL he;have e2:dP 8 r3=(0,r3):=KL he;have m1:=rS hC r3 J 0 k3 4 aq;have m2:=rS hC r3 J 0 k3 8 aq;rw[e1]at m1;rw[e2]at m2;simp only[e1,e2];rw[if_neg he];simp[go_sem];refine aR (Pp:=[]) hC m1 (List.nil_append _).symm aq aw (by simp[AV.renL,AV.ren]) ?_;rintro v s' ρ ⟨rfl,rfl⟩ hρ;simp[go_sem,AV.ren];refine aR (Pp:=[]) hC m1 (List.nil_append _).symm aq aw (by simp[AV.renL,AV.ren]) ?_;rintro v s' ρ ⟨rfl,rfl⟩ hρ;simp[go_sem,AV.ren];refine aR (Pp:=[]) hC m2 (List.nil_append _).symm aq aw (by simp[AV.renL,AV.ren]) ?_;rintro v s' ρ ⟨rfl,rfl⟩ hρ;simp[go_sem,AV.ren];refine aR (Pp:=[]) hC (eG hC r3 J 0) (List.nil_append _).symm aq aw (by simp[AV.renL,AV.ren]) ?_;rintro v s' ρ ⟨rfl,rfl⟩ hρ;simp[go_sem,AV.ren,he];rw[bD];exact aC rfl rfl rfl
 ·have h4:=rS hC r3 J 0 k3 4 aq;have k4:=lQ (most:=4) k3;have l4:=wI 4 r3;generalize dP 4 r3=p4 at *;obtain⟨o,r4⟩:=p4;simp only at h4 k4 l4⊢;have h5:=rS hC r4 J 0 k4 4 aq;have k5:=lQ (most:=4) k4;have l5:=wI 4 r4;generalize dP 4 r4=p5 at *;obtain⟨t,r5⟩:=p5;simp only at h5 k5 l5⊢;have h6:=rS hC r5 J 0 k5 8 aq;have k6:=lQ (most:=8) k5;have l6:=wI 8 r5;have n6:=KJ k5;generalize dP 8 r5=p6 at *;obtain⟨bk,r6⟩:=p6;simp only at h6 k6 l6 n6⊢;have hcl:r6.cl.length≤100000:=by rw[l6.cl,l5.cl,l4.cl,l3.cl,l2.cl,l1.cl];exact hc
  have hPB:∀(N:Nat),261≤N→∀p,p∈[((260:Nat),(⟨31,1,cQ l []⟩:Blk))]→p.1<N∧3≤p.1:=by
   intro N hN p hp;simp at hp;subst hp;exact⟨by show 260<N;omega,by show 3≤260;omega⟩
  simp[go_sem];refine aR (Pp:=[(260,⟨31,1,cQ l []⟩)]) hC h4 rfl aq (hPB _ aq) (by simp[AV.renL,AV.ren]) ?_;rintro v s' ρ ⟨rfl,rfl⟩ hρ;simp[go_sem,AV.ren];refine aR (Pp:=[(260,⟨31,1,cQ l []⟩)]) hC h5 rfl aq (hPB _ aq) (by simp[AV.renL,AV.ren]) ?_;rintro v s' ρ ⟨rfl,rfl⟩ hρ;simp[go_sem,AV.ren];refine aR (Pp:=[(260,⟨31,1,cQ l []⟩)]) hC h6 rfl aq (hPB _ aq) (by simp[AV.renL,AV.ren]) ?_;rintro v s' ρ ⟨rfl,rfl⟩ hρ;simp[go_sem,AV.ren];refine aR (Pp:=[(260,⟨31,1,cQ l []⟩)]) hC (eG hC r6 J 0) rfl aq (hPB _ aq) (by simp[AV.renL,AV.ren]) ?_;rintro v s' ρ ⟨rfl,rfl⟩ hρ;by_cases he:r6.e=0
  ·rw[if_pos he];have hup:=tu l b t2 (fun y hy=>⟨by have:=(t1 y hy).1;omega,(t1 y hy).2⟩) aq;have hub:=BU (things:=l) b2 (fun y hy=>⟨by have:=(t1 y hy).1;omega,(t1 y hy).2⟩);have hus:=@C9 l b;simp[go_sem,AV.ren,he];refine bN [260] hup rfl (aj (.one (ak (ik (J:=[]) rfl aw))) (aj (.deep trivial) aD)) ?_;have hdr:aE [260] ((260,(⟨31,1,cQ l []⟩:Blk))::ia 3 (aH (gA F)) ⟨r6,J,0⟩ id)=ia 3 (aH (gA F)) ⟨r6,J,0⟩ id:=rfl;rw[hdr];generalize gZ l b=u at *;obtain⟨s,ue⟩:=u;simp only at hub hus⊢;by_cases hu:ue=0
   ·subst hu;obtain⟨hT,hT2⟩:=E.tr s o t bk hub (by have:=hus rfl;omega) n6.1 n6.2;generalize x.trg s o t bk=q at *;obtain⟨cs,ce⟩:=q;simp only at hT hT2⊢;simp only[if_true];have hcm:=EQ hC r6 J k6 cs ce hcl aq;simp only[eS,cM]at hT;rw[bD];simp only[aH,bF,bE,id,gA,eS];simp[go_sem];refine b7 [0,1,2,3,4,5,6,7,8,9,10,11,12,13] [(14,[15,16]),(17,[])] 1 (k:=18) ?_;intro G hG;have hlf:(aL F.inner (AV.d (cH F.path)) (AV.d (nb F.script))).length=34:=by simp[aL,am,E.hi]
    have hlt:∀l:List AV,List.take 34 (aL F.inner (AV.d (cH F.path)) (AV.d (nb F.script))++l)=aL F.inner (AV.d (cH F.path)) (AV.d (nb F.script)):=fun l=>by rw[←hlf,List.take_left]
    simp[go_sem,hlf,hlt];refine ag hT (by intro v hv;simp at hv;rcases hv with rfl|rfl|rfl|rfl|rfl;simp[AV.deep,AV.deep1];exact cN F.inner F.path F.script _ (List.mem_singleton.2 rfl);trivial;simp[AV.deep,AV.deep1];trivial) ?_;simp[go_sem];refine aR (Pp:=[]) (s:=⟨r6,J,0⟩) hC hcm (by simp[bD,aH,bF,bE,gA,eS]) aq aw (by simp[AV.renL,AV.ren]) ?_;rintro v s' ρ rfl hρ;simp[go_sem];refine hG _ _ ?_;clear hG G;simp[go_sem];rw[bD];exact aC (by simp[lk,aH,bF,bE,gA,eS]) rfl rfl
   ·rw[if_neg hu];simp[go_sem,hu];refine aR (Pp:=[]) hC (bz hC r6 J 0 ue) (List.nil_append _).symm aq aw (by simp[AV.renL,AV.ren]) ?_;rintro v s' ρ rfl hρ;rw[bD];generalize az ue r6=r';simp only[aH,bF,bE,id];simp[go_sem,ah];exact aC rfl rfl rfl
  ·rw[if_neg he];simp[go_sem,AV.ren,he];rw[bD];exact aC rfl rfl rfl
theorem OK(F:RnF)(x:Rx)(E:RnE F x)(op:Nat)(h8:op<256)(r:Rn)(J:List Bool)(hk:StOk r.main r.alt)(hc:r.cl.length≤100000)(hbd:gi r.bud) :
  cX Tryz.prog 3 (aH (gA F)) 172 ⟨r,J,0⟩ [.ptr 0 0 0 1,.d (.int .u8 (op:Int))] (fun v s'=>s'=⟨pQ x op r,J,0⟩):=by
 refine al Tryz.func172 (by kernel_rfl) rfl Tryz.ntmps172 (rs:=[]) rfl (dV rfl) (by decide) ?_;have hC:=eo (F:=F) E.hi;have hl:=hC.2.2;obtain⟨i,hn,hio,hxs⟩:=E.sq;obtain⟨te,hte⟩:=E.tg;by_cases h106:op=106
 ·subst h106;have hv:pQ x 106 r=az 17 r:=rfl;rw[hv];simp[go_sem];refine aR (Pp:=[]) hC (bz hC r J 0 17) (List.nil_append _).symm aq aw (by simp[AV.renL,AV.ren]) ?_;rintro v s' ρ rfl hρ;rw[bD];generalize az 17 r=r';simp only[aH,bF,bE,id];simp[go_sem,ah];exact aC rfl rfl rfl
 by_cases h172:op=172
 ·subst h172;have hv:pQ x 172 r=qY x 172 r:=rfl;rw[hv];simp[go_sem];refine aR (Pp:=[]) hC (sM F x E 172 aq r J 0 hk hbd) (List.nil_append _).symm aq aw (by simp[AV.renL,AV.ren]) ?_;rintro v s' ρ rfl hρ;rw[bD];generalize qY x 172 r=r';simp only[aH,bF,bE,id];simp[go_sem,ah];exact aC rfl rfl rfl
 by_cases h173:op=173
 ·subst h173;have hv:pQ x 173 r=qY x 173 r:=rfl;rw[hv];simp[go_sem];refine aR (Pp:=[]) hC (sM F x E 173 aq r J 0 hk hbd) (List.nil_append _).symm aq aw (by simp[AV.renL,AV.ren]) ?_;rintro v s' ρ rfl hρ;rw[bD];generalize qY x 173 r=r';simp only[aH,bF,bE,id];simp[go_sem,ah];exact aC rfl rfl rfl
 by_cases h186:op=186
 ·subst h186;have hv:pQ x 186 r=qY x 186 r:=rfl;rw[hv];simp[go_sem];refine aR (Pp:=[]) hC (sM F x E 186 aq r J 0 hk hbd) (List.nil_append _).symm aq aw (by simp[AV.renL,AV.ren]) ?_;rintro v s' ρ rfl hρ;rw[bD];generalize qY x 186 r=r';simp only[aH,bF,bE,id];simp[go_sem,ah];exact aC rfl rfl rfl
 by_cases h204:op=204
 ·subst h204;have hv:pQ x 204 r=qY x 204 r:=rfl;rw[hv];simp[go_sem];refine aR (Pp:=[]) hC (sM F x E 204 aq r J 0 hk hbd) (List.nil_append _).symm aq aw (by simp[AV.renL,AV.ren]) ?_;rintro v s' ρ rfl hρ;rw[bD];generalize qY x 204 r=r';simp only[aH,bF,bE,id];simp[go_sem,ah];exact aC rfl rfl rfl
 by_cases h177:op=177
 ·subst h177;have hv:pQ x 177 r=t6 x r:=rfl;rw[hv];simp[go_sem];refine aR (Pp:=[]) hC (KB F x E.hi i hn hio E.lk.1 E.lk.2 hxs r J 0 hk) (List.nil_append _).symm aq aw (by simp[AV.renL,AV.ren]) ?_;rintro v s' ρ rfl hρ;rw[bD];generalize t6 x r=r';simp only[aH,bF,bE,id];simp[go_sem,ah];exact aC rfl rfl rfl
 by_cases h178:op=178
 ·subst h178;have hv:pQ x 178 r=Cm x r:=rfl;rw[hv];simp[go_sem];refine aR (Pp:=[]) hC (OF F x E.hi i hn hio E.vr.1 E.vr.2 hxs r J 0 hk) (List.nil_append _).symm aq aw (by simp[AV.renL,AV.ren]) ?_;rintro v s' ρ rfl hρ;rw[bD];generalize Cm x r=r';simp only[aH,bF,bE,id];simp[go_sem,ah];exact aC rfl rfl rfl
 by_cases h179:op=179
 ·subst h179;have hv:pQ x 179 r=CB x r:=rfl;rw[hv];simp[go_sem];refine aR (Pp:=[]) hC (Tu F x E.hi E.tl E.tb te hte r J 0 hk) (List.nil_append _).symm aq aw (by simp[AV.renL,AV.ren]) ?_;rintro v s' ρ rfl hρ;rw[bD];generalize CB x r=r';simp only[aH,bF,bE,id];simp[go_sem,ah];exact aC rfl rfl rfl
 by_cases h187:op=187
 ·subst h187;have hv:pQ x 187 r=xZ x r:=rfl;rw[hv];simp[go_sem];refine aR (Pp:=[]) hC (OJ F x E r J hk hc) (List.nil_append _).symm aq aw (by simp[AV.renL,AV.ren]) ?_;rintro v s' ρ rfl hρ;rw[bD];generalize xZ x r=r';simp only[aH,bF,bE,id];simp[go_sem,ah];exact aC rfl rfl rfl
 by_cases h188:op=188
 ·subst h188;have hv:pQ x 188 r=CC x r:=rfl;rw[hv];simp[go_sem];refine aR (Pp:=[]) hC (OG F x E.hi E.rc r J hk hc) (List.nil_append _).symm aq aw (by simp[AV.renL,AV.ren]) ?_;rintro v s' ρ rfl hρ;rw[bD];generalize CC x r=r';simp only[aH,bF,bE,id];simp[go_sem,ah];exact aC rfl rfl rfl
 have i106:¬(op:Int)=106:=aq;have i172:¬(op:Int)=172:=aq;have i173:¬(op:Int)=173:=aq;have i186:¬(op:Int)=186:=aq;have i204:¬(op:Int)=204:=aq;have i177:¬(op:Int)=177:=aq;have i178:¬(op:Int)=178:=aq;have i179:¬(op:Int)=179:=aq;have i187:¬(op:Int)=187:=aq;have i188:¬(op:Int)=188:=aq
 have hv:pQ x op r={ az (vZ bu dY op r.main r.alt).2.2 r with main:=(vZ bu dY op r.main r.alt).1,alt:=(vZ bu dY op r.main r.alt).2.1 }:=by
  unfold pQ;rw[E.hh.1,E.hh.2,if_neg h106,if_neg aq,if_neg h177,if_neg h178,if_neg h179,if_neg h187,if_neg h188]
 rw[hv];have hdo:=NP op h8 r.main r.alt hk.m hk.a (fun y hy=>by have:=(hk.mb y hy).1;omega) (fun y hy=>by have:=(hk.ab y hy).1;omega) (fun y hy=>(hk.mb y hy).2);unfold yM at hdo
 generalize vZ bu dY op r.main r.alt=d at *;obtain⟨m2,a2,e2⟩:=d;simp only at hdo⊢;have hf:=bz hC r J 0 e2;rw[bD];simp only[aH,bF,bE,id,jB]at *;simp[go_sem,h106,i106,h172,i172,h173,i173,h186,i186,h204,i204,h177,i177,h178,i178,h179,i179,h187,i187,h188,i188,hl];refine ag hdo (by intro v hv;simp at hv;rcases hv with rfl|rfl;trivial;exact eK r.main r.alt) ?_;simp[go_sem];refine aR (Pp:=[(964,⟨155,2,[[.d (.ro 1 (m2.map bC)),.d (.ro 1 (a2.map bC))]]⟩)]) (s:=⟨r,J,0⟩) hC hf (by simp[bD,aH,bF,bE]) aq (by intro p hp;simp at hp;subst hp;simp) (by simp[AV.renL,AV.ren]) ?_;rintro v s' ρ rfl hρ;rw[bD];generalize az e2 r=r';have hid2:gG r'=gG { r' with main:=m2,alt:=a2 }:=rfl;simp only[aH,bF,bE,id];simp[go_sem,hl,CE,ah];exact aC rfl rfl rfl
def P8(l:List a8):Prop:=∀x,x∈l→bytes x
def lg(m:Mc):Prop:=P8 m.main∧P8 m.alt
theorem yw:bytes []:=fun x hx=>(by cases hx)
theorem sN{l:List a8}(h:P8 l):bytes (l.getLastD []):=by
 rcases l.eq_nil_or_concat with rfl|⟨a,x,rfl⟩
 ·exact yw
 ·rw[List.concat_eq_append]at h⊢;rw[List.getLastD_concat];exact h x aw
theorem yx{l:List a8}(h:P8 l)(i:Nat):bytes (l.getD i []):=by
 rw[cS]
 cases hq:l[i]? with
 |none=>exact yw
 |some x=>exact h x (cr hq)
theorem uy{m:Mc}(x:Int)(h:lg m):lg (gB x m):=by unfold gB;split<;>exact h
theorem kC{m:Mc}(n:Nat)(h:lg m):lg (aQ n m):=by unfold aQ;split;exact uy 12 h;exact h
theorem uz{m:Mc}(h:lg m):lg (dj m).2∧bytes (dj m).1:=by
 unfold dj
 split
 ·exact⟨⟨fun x hx=>h.1 x ((List.dropLast_sublist _).mem hx),h.2⟩,sN h.1⟩
 ·exact⟨kC 1 h,yw⟩
theorem kM{m:Mc}{l:List a8}(hl:P8 l)(h:lg m):lg (dX l m):=⟨fun x hx=>(cL.1 hx).elim (h.1 x) (hl x),h.2⟩
theorem EZ{m:Mc}(most:Nat)(x:a8)(h:lg m):lg (fq most x m).2:=by
 unfold fq
 split
 ·cases fN most x with
  |none=>exact uy 15 h
  |some n=>exact h
 ·exact h
theorem yA{m:Mc}(k:Nat)(put:List Nat)(h:lg m):lg (cn k put m):=by
 unfold cn
 split
 ·refine⟨fun x hx=>?_,h.2⟩;rcases cL.1 hx with q|q
  ·exact h.1 x (List.mem_of_mem_take q)
  ·obtain⟨i,_,rfl⟩:=List.mem_map.1 q;exact yx (fun y hy=>h.1 y (List.mem_of_mem_drop hy)) i
 ·exact kC k h
theorem iO{x:a8}(h:bytes x):P8 [x]:=fun y hy=>by simp at hy;subst hy;exact h
theorem KO{m:Mc}(h:lg m):lg (lB m):=by
 obtain⟨h1,h2⟩:=uz h;exact⟨h1.1,fun x hx=>(cL.1 hx).elim (h1.2 x) (iO h2 x)⟩
theorem OL{m:Mc}(h:lg m):lg (nY m):=by
 unfold nY
 split
 ·exact uy 12 h
 ·exact⟨fun x hx=>(cL.1 hx).elim (h.1 x) (iO (sN h.2) x),fun x hx=>h.2 x ((List.dropLast_sublist _).mem hx)⟩
theorem yB{m:Mc}(c:Bool)(h:lg m):lg (js c m):=by unfold js;split;exact h;exact uy 16 h
theorem E0{m:Mc}(h:lg m):lg (fZ m).2:=by
 unfold fZ
 split
 ·exact yA 2 [] h
 ·exact kC 2 h
theorem OM{m:Mc}(h:lg m):lg (nZ m):=by
 unfold nZ
 split
 ·exact kM (iO (qO (yx h.1 _) (sN h.1))) (yA 2 [] h)
 ·exact kC 2 h
theorem E2{m:Mc}(f:a8→a8)(hf:∀x,bytes (f x))(h:lg m):lg (kq f m):=by
 unfold kq
 split
 ·exact kM (iO (hf _)) (uz h).1
 ·exact kC 1 h
theorem E3{m:Mc}(r:Bool)(h:lg m):lg (jr r m):=by
 have h1:=EZ 4 (dj m).1 (uz h).1;unfold jr;simp only
 split
 ·split
  ·exact uy 12 h1
  ·refine kM (iO (yx h1.1 _)) ⟨fun x hx=>?_,h1.2⟩
   cases r
   ·exact h1.1 x hx
   ·exact h1.1 x (List.mem_of_mem_eraseIdx hx)
 ·exact h1
theorem KP:∀(k:Nat)(m:Mc),lg m→lg (ma k m).2
 |0,m,h=>h
 |k+1,m,h=>KP k _ (EZ 4 _ (uz h).1)
theorem sO{m:Mc}(n:Nat)(h:lg m):lg (dA n m).2:=by
 unfold dA
 split
 ·exact KP n m h
 ·exact kC n h
theorem uA(b:Bool):bytes (iM b):=by cases b;exact yw;intro x hx;simp[iM]at hx;omega
theorem eJ{c:Prop}[Decidable c]{x y:Mc}{r:Option Mc}(h:(if c then some x else r)=some y)(hx:lg x)(hr:r=some y→lg y):lg y:=by
 split at h
 ·cases h;exact hx
 ·exact hr h
theorem TC{op:Nat}{m m':Mc}(h:iN op m=some m')(hs:lg m):lg m':=by
 unfold iN at h;refine eJ h hs fun h=>?_;refine eJ h (KO hs) fun h=>?_;refine eJ h (OL hs) fun h=>?_
 iterate 13 refine eJ h (yA _ _ hs) fun h=>?_
 cases h
theorem WY{op:Nat}{m m':Mc}(h:uM bu dY op m=some m')(hs:lg m):lg m':=by
 unfold uM at h;refine eJ h (E3 _ hs) fun h=>?_;refine eJ h (E3 _ hs) fun h=>?_;refine eJ h (yB _ (uz hs).1) fun h=>?_;refine eJ h ?_ fun h=>?_
 ·split
  ·split
   ·exact kM (iO (sN hs.1)) hs
   ·exact hs
  ·exact kC 1 hs
 refine eJ h (kM (iO (d5 _)) hs) fun h=>?_;refine eJ h (OM hs) fun h=>?_;refine eJ h ?_ fun h=>?_
 ·split
  ·exact kM (iO (d5 _)) hs
  ·exact kC 1 hs
 refine eJ h (kM (iO (uA _)) (E0 hs)) fun h=>?_;refine eJ h (yB _ (E0 hs)) fun h=>?_;refine eJ h (E2 _ iL hs) fun h=>?_;refine eJ h (E2 _ (fun _=>iL _) hs) fun h=>?_
 cases h
theorem TD{op:Nat}{m m':Mc}(h:nV op m=some m')(hs:lg m):lg m':=by
 unfold nV at h
 split at h
 ·obtain rfl:=Option.some.inj h;exact kM (iO (uA _)) (sO 3 hs)
 ·split at h
  ·obtain rfl:=Option.some.inj h;exact kM (iO (d5 _)) (sO 1 hs)
  ·split at h
   ·cases h
   ·obtain rfl:=Option.some.inj h;simp only
    split
    ·exact yB _ (sO 2 hs)
    ·exact kM (iO (d5 _)) (sO 2 hs)
theorem iq{main alt:List a8}(h:fu main alt=0):(∀x,x∈main→x.length≤520)∧(∀x,x∈alt→x.length≤520)∧main.length+alt.length≤100:=by
 unfold fu at h
 split at h
 ·rename_i hc;simp only[Bool.and_eq_true,d9,decide_eq_true_eq]at hc
  split at h
  ·exact⟨hc.1,hc.2,‹_›⟩
  ·simp at h
 ·simp at h
theorem KQ{main alt:List a8}(h:fu main alt=0)(h1:P8 main)(h2:P8 alt):StOk main alt:=by
 obtain⟨a,b,c⟩:=iq h;exact⟨aq,aq,fun x hx=>⟨by have:=a x hx;omega,h1 x hx⟩,fun x hx=>⟨by have:=b x hx;omega,h2 x hx⟩⟩
theorem Da:StOk [] []:=⟨aw,aw,fun x hx=>(by cases hx),fun x hx=>(by cases hx)⟩
theorem yC{m:Mc}(h:lg m):StOk (dp m).1 (dp m).2.1:=by
 unfold dp
 split
 ·split
  ·exact KQ ‹_› h.1 h.2
  ·exact Da
 ·exact Da
theorem WZ{main alt:List a8}(h:StOk main alt)(op:Nat):StOk (vZ bu dY op main alt).1 (vZ bu dY op main alt).2.1:=by
 have hs:lg ⟨main,alt,0⟩:=⟨fun x hx=>(h.mb x hx).2,fun x hx=>(h.ab x hx).2⟩;unfold vZ
 cases h1:iN op ⟨main,alt,0⟩with
 |some m=>exact yC (TC h1 hs)
 | none =>
  cases h2:uM bu dY op ⟨main,alt,0⟩with
  |some m=>exact yC (WY h2 hs)
  |none =>
   cases h3:nV op ⟨main,alt,0⟩with
   |some m=>exact yC (TD h3 hs)
   |none=>exact Da
structure RnG(r r':Rn):Prop where
 st:StOk r'.main r'.alt
 bd:gi r'.bud
 br:r'.br=r.br
 cl:r'.cl=r.cl
theorem RnG.trans{a b c:Rn}(h:RnG a b)(h2:RnG b c):RnG a c:=⟨h2.st,h2.bd,h2.br.trans h.br,h2.cl.trans h.cl⟩
theorem KR{r r':Rn}(h:gi r.bud)(l:RnL r r')(s:StOk r'.main r'.alt):RnG r r':=⟨s,by rw[l.bud];exact h,l.br,l.cl⟩
theorem TE{r:Rn}(h:StOk r.main r.alt)(hb:gi r.bud):RnG r r:=⟨h,hb,rfl,rfl⟩
theorem fS{r:Rn}(h:StOk r.main r.alt)(hb:gi r.bud)(x:Int):RnG r (az x r):=KR hb (mZ x r) (ga h)
theorem oW{r:Rn}(h:StOk r.main r.alt)(hb:gi r.bud):RnG r (bp r).2:=KR hb (kL r) (dG h).1
theorem wJ{r:Rn}(h:StOk r.main r.alt)(hb:gi r.bud)(most:Nat):RnG r (dP most r).2:=KR hb (wI most r) (lQ h)
theorem AH{r:Rn}(h:StOk r.main r.alt)(hb:gi r.bud){b:a8}(hbb:bytes b):RnG r (dB b r):=by
 refine KR hb (WW b r) ?_;unfold dB
 split
 ·split
  ·exact KQ ‹_› (fun x hx=>(cL.1 hx).elim (fun q=>(h.mb x q).2) (iO hbb x)) (fun x hx=>(h.ab x hx).2)
  ·exact ga h
 ·exact h
theorem E4{r:Rn}(h:StOk r.main r.alt)(hb:gi r.bud)(sg:a8→a8→a8→Bool)(key sig msg:a8):RnG r (fA sg key sig msg r).2:=by
 obtain⟨h1,h2,h3,h4⟩:=uv sg key sig msg r hb h;exact⟨h4,h3,h1,h2⟩
theorem P9{r:Rn}(h:StOk r.main r.alt)(hb:gi r.bud):RnG r (mi r).2:=by
 unfold mi
 split
 ·exact fS h hb 12
 ·exact TE h hb
theorem KT{r:Rn}(h:StOk r.main r.alt)(hb:gi r.bud):RnG r (lV r).2:=by
 have g:=P9 h hb;unfold lV;generalize mi r=p at *;simp only
 split
 ·cases fN 5 p.1 with
  |none=>exact g.trans (fS g.st g.bd 15)
  |some n =>
   simp only
   split
   ·exact g.trans (fS g.st g.bd 22)
   ·exact g
 ·exact g
theorem TF{r:Rn}(h:StOk r.main r.alt)(hb:gi r.bud):RnG r (lU r).2:=by
 have g:=oW h hb;unfold lU;simp only
 split
 ·exact g.trans (fS g.st g.bd 19)
 ·exact g
theorem W0{r:Rn}(h:StOk r.main r.alt)(hb:gi r.bud)(x:Rx)(op:Nat):RnG r (qY x op r):=by
 have g1:=oW h hb;unfold qY;simp only;generalize bp r=k at *;have g2:=oW g1.st g1.bd
 split
 ·generalize bp k.2=s at *;have g3:=E4 g2.st g2.bd x.sg k.1 s.1 x.msg;exact g1.trans (g2.trans (g3.trans (AH g3.st g3.bd (uA _))))
 ·split
  ·generalize bp k.2=s at *;have g3:=E4 g2.st g2.bd x.sg k.1 s.1 x.msg
   split
   ·exact g1.trans (g2.trans g3)
   ·exact g1.trans (g2.trans (g3.trans (fS g3.st g3.bd 16)))
  ·split
   ·have g2:=wJ g1.st g1.bd 4;generalize dP 4 k.2=n at *;have g3:=oW g2.st g2.bd;generalize bp n.2=s at *;have g4:=E4 g3.st g3.bd x.sg k.1 s.1 x.msg;exact g1.trans (g2.trans (g3.trans (g4.trans (AH g4.st g4.bd (d5 _)))))
   ·split
    ·generalize bp k.2=m at *;have g3:=oW g2.st g2.bd;generalize bp m.2=s at *;have g4:=E4 g3.st g3.bd x.sg k.1 s.1 m.1;exact g1.trans (g2.trans (g3.trans (g4.trans (AH g4.st g4.bd (uA _)))))
    ·exact g1
theorem TG{r:Rn}(h:StOk r.main r.alt)(hb:gi r.bud)(x:Rx):RnG r (t6 x r):=by
 have g:=KT h hb;unfold t6;simp only
 split
 ·exact g.trans (fS g.st g.bd 22)
 ·exact g
theorem W4{r:Rn}(h:StOk r.main r.alt)(hb:gi r.bud)(x:Rx):RnG r (Cm x r):=by
 have g:=KT h hb;unfold Cm;simp only
 split
 ·exact g
 ·split
  ·exact g.trans (fS g.st g.bd 22)
  ·exact g
theorem W5{r:Rn}(h:StOk r.main r.alt)(hb:gi r.bud)(x:Rx):RnG r (CB x r):=by
 have g:=P9 h hb;unfold CB;simp only
 split
 ·exact g
 ·exact g.trans (fS g.st g.bd 23)
structure RnOk(r:Rn)(k:Nat):Prop where
 st:StOk r.main r.alt
 bd:gi r.bud
 br:r.br.length≤k
 cl:r.cl.length≤2*k
theorem na{r r':Rn}{k:Nat}(h:RnOk r k)(g:RnG r r'):RnOk r' k:=⟨g.st,g.bd,by rw[g.br];exact h.br,by rw[g.cl];exact h.cl⟩
theorem lh{r:Rn}{k m:Nat}(h:RnOk r k)(hm:k≤m):RnOk r m:=⟨h.st,h.bd,by have:=h.br;omega,by have:=h.cl;omega⟩
theorem KU{r:Rn}{k:Nat}(h:RnOk r k)(l:List (Int×Int))(hl:l.length≤2)(e:Int):RnOk (xY l e r) (k+1):=by
 unfold xY
 split
 ·have g:=fS h.st h.bd e;have g2:RnG { az e r with cl:=r.cl++l } (dB (iM true) { az e r with cl:=r.cl++l }):=AH (r:={ az e r with cl:=r.cl++l }) g.st g.bd (uA true);refine⟨g2.st,g2.bd,?_,?_⟩
  ·rw[g2.br];show(az e r).br.length≤k+1;rw[g.br];have:=h.br;omega
  ·rw[g2.cl];show(r.cl++l).length≤2*(k+1);have:=h.cl;simp;omega
 ·exact lh h aq
theorem TJ{r:Rn}{k:Nat}(h:RnOk r k)(x:Rx):RnOk (CC x r) (k+1):=by
 have h1:=na h (oW h.st h.bd);unfold CC;simp only;generalize bp r=p at *;have h2:=na h1 (wJ h1.st h1.bd 4)
 split
 ·exact KU h2 _ aw _
 ·exact lh h2 aq
theorem TL{r:Rn}{k:Nat}(h:RnOk r k)(x:Rx)(hx:∀s o0 o1 bk,(x.trg s o0 o1 bk).1.length≤2):RnOk (xZ x r) (k+1):=by
 have h1:=na h (wJ h.st h.bd 4);unfold xZ;simp only;generalize dP 4 r=p1 at *;have h2:=na h1 (oW h1.st h1.bd);generalize bp p1.2=p2 at *;obtain⟨s3,_,_,l3⟩:=KN h2.st p1.1;have h3:=na h2 (KR h2.bd l3 s3);generalize gr p1.1 p2.2=p3 at *;have h4:=na h3 (wJ h3.st h3.bd 4);generalize dP 4 p3.2=p4 at *;have h5:=na h4 (wJ h4.st h4.bd 4);generalize dP 4 p4.2=p5 at *;have h6:=na h5 (wJ h5.st h5.bd 8);generalize dP 8 p5.2=p6 at *
 split
 ·split
  ·exact KU h6 _ (hx _ _ _ _) _
  ·exact lh (na h6 (fS h6.st h6.bd _)) aq
 ·exact lh h6 aq
theorem W6{r:Rn}{k:Nat}(h:RnOk r k)(x:Rx)(h1:x.h1=bu)(h2:x.h2=dY)(hx:∀s o0 o1 bk,(x.trg s o0 o1 bk).1.length≤2)(op:Nat):RnOk (pQ x op r) (k+1):=by
 have le:∀{r':Rn},RnG r r'→RnOk r' (k+1):=fun g=>lh (na h g) aq;unfold pQ;rw[h1,h2]
 split
 ·exact le (fS h.st h.bd 17)
 split
 ·exact le (W0 h.st h.bd x op)
 split
 ·exact le (TG h.st h.bd x)
 split
 ·exact le (W4 h.st h.bd x)
 split
 ·exact le (W5 h.st h.bd x)
 split
 ·exact TL h x hx
 split
 ·exact TJ h x
 ·have hd:=WZ h.st op;have hl:=mZ (vZ bu dY op r.main r.alt).2.2 r;exact le ⟨hd,by show gi (az _ r).bud;rw[hl.bud];exact h.bd,hl.br,hl.cl⟩
theorem Db{r:Rn}{k:Nat}(h:RnOk r k)(b:Bool):RnOk (kY b r) (k+1):=⟨h.st,h.bd,by have:=h.br;simp[kY];omega,by have:=h.cl;show r.cl.length≤_;omega⟩
theorem KV{r:Rn}{k:Nat}(h:RnOk r k):RnOk (lJ r).2 k∧((lJ r).1≠none→(lJ r).2.br.length+1≤k):=by
 unfold lJ
 split
 ·exact⟨na h (fS h.st h.bd 18),fun q=>absurd rfl q⟩
 ·rename_i hb;have:=h.br;exact⟨⟨h.st,h.bd,by simp;omega,h.cl⟩,fun _=>by simp;omega⟩
theorem TM{r r':Rn}{k op:Nat}(h:RnOk r k)(hb:mT op r=some r'):RnOk r' (k+1):=by
 unfold mT at hb
 split at hb
 ·obtain rfl:=Option.some.inj hb
  split
  ·exact Db (na h (TF h.st h.bd)) _
  ·exact Db h false
 ·split at hb
  ·obtain rfl:=Option.some.inj hb;obtain⟨h1,h2⟩:=KV h;generalize lJ r=p at *;obtain⟨o,r2⟩:=p
   cases o with
   |none=>exact lh h1 aq
   |some b=>exact Db h1 _
  ·split at hb
   ·obtain rfl:=Option.some.inj hb;exact lh (KV h).1 aq
   ·cases hb
theorem KW{r:Rn}{k:Nat}(h:RnOk r k)(x:Rx)(h1:x.h1=bu)(h2:x.h2=dY)(hx:∀s o0 o1 bk,(x.trg s o0 o1 bk).1.length≤2)(w:Wd)(h8:w.1<256)(hb:bytes w.2):RnOk (mj x w r) (k+1):=by
 unfold mj
 split
 ·exact lh (na h (fS h.st h.bd 10)) aq
 ·cases hbr:mT w.1 r with
  |some r'=>exact TM h hbr
  | none =>
   simp only
   split
   ·exact lh h aq
   ·cases hp:eN w with
    |none=>exact W6 h x h1 h2 hx w.1
    |some b =>
     simp only
     split
     ·exact lh (na h (AH h.st h.bd (ua hb h8 hp))) aq
     ·exact lh (na h (fS h.st h.bd 11)) aq
theorem TN(F:RnF)(x:Rx)(E:RnE F x)(w:Wd)(h8:w.1<256)(hwb:bytes w.2)(hwl:w.2.length≤50000)(r:Rn)(J:List Bool)(k:Nat)(hk:RnOk r k)(hk2:k≤10000) :
  cX Tryz.prog 3 (aH (gA F)) 140 ⟨r,J,0⟩ [.ptr 0 0 0 1,.agg (uV w)] (fun v s'=>∃J',s'=⟨mj x w r,J',0⟩):=by
 refine al Tryz.func140 (by kernel_rfl) rfl Tryz.ntmps140 (rs:=[]) rfl (dV rfl) (by decide) ?_;have hC:=eo (F:=F) E.hi;have hl:=hC.2.2;have hbr:=hk.br;have hcl:=hk.cl;have hps:=t7 w h8 aq;have hnm:=NR w.1 h8;have hsh:=Gs w h8 hwb hwl;have hbn:=Jw hC w.1 h8 r J 0 hk.st aq
 have hdw:∀v,v∈[AV.agg (uV w)]→v.deep:=by
  intro v hv;simp at hv;subst hv;exact j5 w
 obtain⟨op,wb⟩:=w;simp only[uV]at *
 have hPB:∀(N:Nat),5≤N→∀p,p∈[((4:Nat),(⟨42,2,[[.d (.int .u8 (op:Int)),.d (nb wb)]]⟩:Blk))]→p.1<N∧3≤p.1:=by
  intro N hN p hp;simp at hp;subst hp;exact⟨by show 4<N;omega,by show 3≤4;omega⟩
 simp[go_sem];refine ag hps hdw ?_;have hpA:Jr (eN (op,wb))=.tup [.d (nb ((eN (op,wb)).getD [])),.d (.bool (eN (op,wb)).isSome)]:=by cases eN (op,wb)<;>rfl
 rw[hpA];simp[go_sem];refine ag hnm a9 ?_;by_cases hA:(!mh op&&(eN (op,wb)).isNone)=true
 ·have hv:mj x (op,wb) r=az 10 r:=if_pos hA;rw[hv];have hA1:mh op=false:=by simp at hA;exact hA.1
  have hA2:eN (op,wb)=none:=by simp at hA;exact hA.2
  simp[go_sem,hA1,hA2];refine aR (Pp:=[(4,⟨42,2,[[.d (.int .u8 (op:Int)),.d (nb wb)]]⟩)]) hC (bz hC r J 0 10) rfl aq (hPB _ aq) (by simp[AV.renL,AV.ren]) ?_;rintro v s' ρ rfl hρ;rw[bD];generalize az 10 r=r';simp only[aH,bF,bE,id];simp[go_sem,ah];exact⟨_,⟨J,rfl⟩,aC rfl rfl rfl⟩
 ·have hA':(mh op=true∧(eN (op,wb)).isSome=true)∨(mh op=true∧eN (op,wb)=none)∨(mh op=false∧(eN (op,wb)).isSome=true):=by
   cases h1:mh op
   ·cases h2:eN (op,wb)
    ·rw[h1,h2]at hA;simp at hA
    ·exact .inr (.inr ⟨rfl,rfl⟩)
   ·cases h2:eN (op,wb)
    ·exact .inr (.inl ⟨rfl,rfl⟩)
    ·exact .inl ⟨rfl,rfl⟩
  have hv0:mj x (op,wb) r=(match mT op r with
    |some r'=>r'
    |none=>if 0<gG r then r else match eN (op,wb)with
     |some b=>if rQ (op,wb)then dB b r else az 11 r
     |none=>pQ x op r):=if_neg hA
  cases hb:mT op r with
  |some r1 =>
   have hv:mj x (op,wb) r=r1:=by rw[hv0,hb]
   rw[hv];rw[hb]at hbn;rcases hA' with ⟨hn,hp⟩|⟨hn,hp⟩|⟨hn,hp⟩
   ·simp[go_sem,hn,hp];refine aR (Pp:=[(4,⟨42,2,[[.d (.int .u8 (op:Int)),.d (nb wb)]]⟩)]) hC hbn (by first|rfl|simp[bD,aH,bF,bE]) aq (hPB _ aq) (by simp[AV.renL,AV.ren]) ?_;rintro v s' ρ ⟨rfl,J2,rfl⟩ hρ;simp[go_sem,AV.ren];rw[bD];exact⟨_,⟨J2,rfl⟩,aC rfl rfl rfl⟩
   ·simp[go_sem,hn,hp];refine aR (Pp:=[(4,⟨42,2,[[.d (.int .u8 (op:Int)),.d (nb wb)]]⟩)]) hC hbn (by first|rfl|simp[bD,aH,bF,bE]) aq (hPB _ aq) (by simp[AV.renL,AV.ren]) ?_;rintro v s' ρ ⟨rfl,J2,rfl⟩ hρ;simp[go_sem,AV.ren];rw[bD];exact⟨_,⟨J2,rfl⟩,aC rfl rfl rfl⟩
   ·simp[go_sem,hn,hp];refine aR (Pp:=[(4,⟨42,2,[[.d (.int .u8 (op:Int)),.d (nb wb)]]⟩)]) hC hbn (by first|rfl|simp[bD,aH,bF,bE]) aq (hPB _ aq) (by simp[AV.renL,AV.ren]) ?_;rintro v s' ρ ⟨rfl,J2,rfl⟩ hρ;simp[go_sem,AV.ren];rw[bD];exact⟨_,⟨J2,rfl⟩,aC rfl rfl rfl⟩
  | none =>
   rw[hb]at hv0 hbn;by_cases hid:0<gG r
   ·have hv:mj x (op,wb) r=r:=by rw[hv0];exact if_pos hid
    rw[hv];have hidi:(0:Int)<(gG r:Int):=aq;rcases hA' with ⟨hn,hp⟩|⟨hn,hp⟩|⟨hn,hp⟩
    ·simp[go_sem,hn,hp];refine aR (Pp:=[(4,⟨42,2,[[.d (.int .u8 (op:Int)),.d (nb wb)]]⟩)]) hC hbn (by first|rfl|simp[bD,aH,bF,bE]) aq (hPB _ aq) (by simp[AV.renL,AV.ren]) ?_;rintro v s' ρ ⟨rfl,J2,rfl⟩ hρ;rw[bD];simp only[aH,bF,bE,id];simp[go_sem,AV.ren,hl,hid];exact⟨_,⟨J2,rfl⟩,aC rfl rfl rfl⟩
    ·simp[go_sem,hn,hp];refine aR (Pp:=[(4,⟨42,2,[[.d (.int .u8 (op:Int)),.d (nb wb)]]⟩)]) hC hbn (by first|rfl|simp[bD,aH,bF,bE]) aq (hPB _ aq) (by simp[AV.renL,AV.ren]) ?_;rintro v s' ρ ⟨rfl,J2,rfl⟩ hρ;rw[bD];simp only[aH,bF,bE,id];simp[go_sem,AV.ren,hl,hid];exact⟨_,⟨J2,rfl⟩,aC rfl rfl rfl⟩
    ·simp[go_sem,hn,hp];refine aR (Pp:=[(4,⟨42,2,[[.d (.int .u8 (op:Int)),.d (nb wb)]]⟩)]) hC hbn (by first|rfl|simp[bD,aH,bF,bE]) aq (hPB _ aq) (by simp[AV.renL,AV.ren]) ?_;rintro v s' ρ ⟨rfl,J2,rfl⟩ hρ;rw[bD];simp only[aH,bF,bE,id];simp[go_sem,AV.ren,hl,hid];exact⟨_,⟨J2,rfl⟩,aC rfl rfl rfl⟩
   ·have hid0:gG r=0:=aq;have hnI:mh op=true∨mh op=false:=by cases mh op;exact .inr rfl;exact .inl rfl
    cases hpw:eN (op,wb)with
    |none =>
     have hn:mh op=true:=by rcases hA' with ⟨hn,hp⟩|⟨hn,hp⟩|⟨hn,hp⟩<;>first|exact hn|(rw[hpw]at hp;simp at hp)
     have hv:mj x (op,wb) r=pQ x op r:=by rw[hv0,hpw];exact if_neg hid
     rw[hv];simp[go_sem,hn,hpw];refine aR (Pp:=[(4,⟨42,2,[[.d (.int .u8 (op:Int)),.d (nb wb)]]⟩)]) hC hbn (by first|rfl|simp[bD,aH,bF,bE]) aq (hPB _ aq) (by simp[AV.renL,AV.ren]) ?_;rintro v s' ρ ⟨rfl,J2,rfl⟩ hρ;rw[bD];simp only[aH,bF,bE,id];simp[go_sem,AV.ren,hl,hid0];refine aR (Pp:=[(4,⟨42,2,[[.d (.int .u8 (op:Int)),.d (nb wb)]]⟩)]) (s:=⟨r,J2,0⟩) hC (OK F x E op h8 r J2 hk.st aq hk.bd) (by simp[bD,aH,bF,bE,hid0]) aq (hPB _ aq) (by simp[AV.renL,AV.ren]) ?_;rintro v s' ρ rfl hρ;rw[bD];generalize pQ x op r=r';simp only[aH,bF,bE,id];simp[go_sem,ah];exact⟨_,⟨J2,rfl⟩,aC rfl rfl rfl⟩
    | some b =>
     have hble:=En hpw;simp only at hble;by_cases hs:rQ (op,wb)=true
     ·have hv:mj x (op,wb) r=dB b r:=by rw[hv0,hpw];exact(if_neg hid).trans (if_pos hs)
      rw[hv];rw[hs]at hsh;rcases hnI with hn|hn
      ·simp[go_sem,hn,hpw];refine aR (Pp:=[(4,⟨42,2,[[.d (.int .u8 (op:Int)),.d (nb wb)]]⟩)]) hC hbn (by first|rfl|simp[bD,aH,bF,bE]) aq (hPB _ aq) (by simp[AV.renL,AV.ren]) ?_;rintro v s' ρ ⟨rfl,J2,rfl⟩ hρ;rw[bD];simp only[aH,bF,bE,id];simp[go_sem,AV.ren,hl,hid0];refine ag hsh hdw ?_;simp[go_sem];refine aR (Pp:=[(4,⟨42,2,[[.d (.int .u8 (op:Int)),.d (nb wb)]]⟩)]) (s:=⟨r,J2,0⟩) hC (oO hC r J2 0 hk.st b aq) (by simp[bD,aH,bF,bE,hid0]) aq (hPB _ aq) (by simp[AV.renL,AV.ren]) ?_;rintro v s' ρ rfl hρ;rw[bD];generalize dB b r=r';simp only[aH,bF,bE,id];simp[go_sem,ah];exact⟨_,⟨J2,rfl⟩,aC rfl rfl rfl⟩
      ·simp[go_sem,hn,hpw];refine aR (Pp:=[(4,⟨42,2,[[.d (.int .u8 (op:Int)),.d (nb wb)]]⟩)]) hC hbn (by first|rfl|simp[bD,aH,bF,bE]) aq (hPB _ aq) (by simp[AV.renL,AV.ren]) ?_;rintro v s' ρ ⟨rfl,J2,rfl⟩ hρ;rw[bD];simp only[aH,bF,bE,id];simp[go_sem,AV.ren,hl,hid0];refine ag hsh hdw ?_;simp[go_sem];refine aR (Pp:=[(4,⟨42,2,[[.d (.int .u8 (op:Int)),.d (nb wb)]]⟩)]) (s:=⟨r,J2,0⟩) hC (oO hC r J2 0 hk.st b aq) (by simp[bD,aH,bF,bE,hid0]) aq (hPB _ aq) (by simp[AV.renL,AV.ren]) ?_;rintro v s' ρ rfl hρ;rw[bD];generalize dB b r=r';simp only[aH,bF,bE,id];simp[go_sem,ah];exact⟨_,⟨J2,rfl⟩,aC rfl rfl rfl⟩
     ·have hs0:rQ (op,wb)=false:=by simpa using hs
      have hv:mj x (op,wb) r=az 11 r:=by rw[hv0,hpw];exact(if_neg hid).trans (if_neg hs)
      rw[hv];rw[hs0]at hsh;rcases hnI with hn|hn
      ·simp[go_sem,hn,hpw];refine aR (Pp:=[(4,⟨42,2,[[.d (.int .u8 (op:Int)),.d (nb wb)]]⟩)]) hC hbn (by first|rfl|simp[bD,aH,bF,bE]) aq (hPB _ aq) (by simp[AV.renL,AV.ren]) ?_;rintro v s' ρ ⟨rfl,J2,rfl⟩ hρ;rw[bD];simp only[aH,bF,bE,id];simp[go_sem,AV.ren,hl,hid0];refine ag hsh hdw ?_;simp[go_sem];refine aR (Pp:=[(4,⟨42,2,[[.d (.int .u8 (op:Int)),.d (nb wb)]]⟩)]) (s:=⟨r,J2,0⟩) hC (bz hC r J2 0 11) (by simp[bD,aH,bF,bE,hid0]) aq (hPB _ aq) (by simp[AV.renL,AV.ren]) ?_;rintro v s' ρ rfl hρ;rw[bD];generalize az 11 r=r';simp only[aH,bF,bE,id];simp[go_sem,ah];exact⟨_,⟨J2,rfl⟩,aC rfl rfl rfl⟩
      ·simp[go_sem,hn,hpw];refine aR (Pp:=[(4,⟨42,2,[[.d (.int .u8 (op:Int)),.d (nb wb)]]⟩)]) hC hbn (by first|rfl|simp[bD,aH,bF,bE]) aq (hPB _ aq) (by simp[AV.renL,AV.ren]) ?_;rintro v s' ρ ⟨rfl,J2,rfl⟩ hρ;rw[bD];simp only[aH,bF,bE,id];simp[go_sem,AV.ren,hl,hid0];refine ag hsh hdw ?_;simp[go_sem];refine aR (Pp:=[(4,⟨42,2,[[.d (.int .u8 (op:Int)),.d (nb wb)]]⟩)]) (s:=⟨r,J2,0⟩) hC (bz hC r J2 0 11) (by simp[bD,aH,bF,bE,hid0]) aq (hPB _ aq) (by simp[AV.renL,AV.ren]) ?_;rintro v s' ρ rfl hρ;rw[bD];generalize az 11 r=r';simp only[aH,bF,bE,id];simp[go_sem,ah];exact⟨_,⟨J2,rfl⟩,aC rfl rfl rfl⟩
theorem E5{s:a8}{a b:Nat}{w:Wd}(hb:bytes s)(ha:a<s.length)(h:mS s a=some (w,b)):a<b∧b≤s.length∧w.1<256∧bytes w.2∧w.2.length≤s.length:=by
 obtain⟨op,r,hd⟩:∃op r,s.drop a=op::r:=by
  rcases h:s.drop a with _|⟨op,r⟩
  ·have:=congrArg List.length h;simp at this;omega
  ·exact⟨op,r,rfl⟩
 have hdb:bytes (op::r):=fun x hx=>hb x (by rw[←hd]at hx;exact List.mem_of_mem_drop hx)
 have hrs:a+(r.length+1)=s.length:=by
  have:=congrArg List.length hd;simp at this;omega
 unfold mS at h;rw[hd]at h
 cases hw:im (op::r)with
 |none=>rw[hw]at h;cases h
 |some p =>
  obtain⟨n,hh⟩:=p;obtain⟨t1,t2,t3⟩:=Ae hdb hw;rw[hw]at h;simp only[List.length_cons,List.headD_cons]at h
  split at h
  ·cases h
  ·rename_i hq;simp only[Option.some.injEq,Prod.mk.injEq]at h;obtain⟨rfl,rfl⟩:=h;refine⟨aq,aq,hdb op aw,fun y hy=>hdb y (List.mem_of_mem_drop (List.mem_of_mem_take hy)),?_⟩;simp;omega
theorem ON(F:RnF)(x:Rx)(E:RnE F x)(hsb:bytes F.script)(hsl:F.script.length≤1000)(hx:∀s o0 o1 bk,(x.trg s o0 o1 bk).1.length≤2)(r:Rn)(J:List Bool)(hk:RnOk r 0) :
  cX Tryz.prog 3 (aH (gA F)) 98 ⟨r,J,0⟩ [.ptr 0 0 0 1] (fun v s'=>∃J',s'=⟨jf x F.script (F.script.length+1) 0 r,J',0⟩):=by
 refine al Tryz.func98 (by kernel_rfl) rfl Tryz.ntmps98 (rs:=[]) rfl (dV rfl) (by decide) ?_;have hC:=eo (F:=F) E.hi;have hl:=hC.2.2
 have h39:∀l:List AV,(gA F++l)[39]?=some (.d (.ro 1 (F.script.map fun(b:Nat)=>[.int .u8 (b:Int)]))):=fun l=>by
  unfold gA aL;rw[cD,dz (by simp[eS])];simp only[eS,List.length_cons,List.length_nil,cD];rw[dz (by rw[am,E.hi];omega),am,E.hi];rfl
 generalize hW:jf x F.script (F.script.length+1) 0 r=W;simp[go_sem]
 have hwk:∀(fr:Fr)(hp:Hp)(nx a:Nat)(r':Rn)(J':List Bool),(fv 0 fr=.ptr 0 0 0 1∧fv 2 fr=.d (.int .i64 (a:Int)))→(∀p,p∈ia 3 (aH (gA F)) ⟨r',J',0⟩ id→lk p.1 hp=some p.2) →
   aA ⟨fr,hp,nx⟩ ⟨[(0,.ptr 0 0 0 1),(2,.d (.int .i64 (a:Int)))],ia 3 (aH (gA F)) ⟨r',J',0⟩ id,9000⟩:=by
  rintro fr hp nx a r' J'⟨q0,q1⟩h2;refine⟨?_,WV hC (dV rfl) h2,.inr (by show 64≤9000;omega)⟩;intro p hp';simp only[et,List.mem_nil_iff,or_false]at hp';rcases hp' with rfl|rfl
  ·exact⟨.inl q0.symm,by simp[AV.low,AV.low1]⟩
  ·exact⟨.inl q1.symm,by simp[AV.low,AV.low1]⟩
 refine ar (fun u:Nat×Nat×Rn×List Bool=>⟨[(0,.ptr 0 0 0 1),(2,.d (.int .i64 (u.1:Int)))],ia 3 (aH (gA F)) ⟨u.2.2.1,u.2.2.2,0⟩ id,9000⟩)
  (fun u=>u.1≤F.script.length∧F.script.length+1≤u.2.1+u.1∧RnOk u.2.2.1 u.1∧jf x F.script u.2.1 u.1 u.2.2.1=W) (fun u=>F.script.length-u.1) (0,F.script.length+1,r,J) ⟨aq,by show _≤F.script.length+1+0;omega,hk,hW⟩
  (hwk _ _ _ 0 r J (by simp[fv,lk]) (qd rfl rfl rfl)) ?_
 rintro⟨a,f,r',J'⟩⟨ha,hf,hr,hw⟩;simp only at ha hf hr hw;obtain⟨f,rfl⟩:∃f',f=f'+1:=⟨f-1,aq⟩;rw[jf]at hw;simp only;by_cases hlt:a<F.script.length
 ·have hlti:(a:Int)<(F.script.length:Int):=aq;rw[bD];simp only[aH,bF,bE,id];simp[go_sem,hlt,hlti,h39];refine aR (Pp:=[]) (s:=⟨r',J',0⟩) hC (eG hC r' J' 0) (by simp[bD,aH,bF,bE]) aq aw (by simp[AV.renL,AV.ren]) ?_;rintro v s' ρ ⟨rfl,rfl⟩ hρ;by_cases he:r'.e=0
  ·rw[if_pos ⟨hlt,he⟩]at hw;have hnx:=Jq F.script a hsb aq hlt;rw[bD];simp only[aH,bF,bE,id];simp[go_sem,AV.ren,he,h39];refine ag hnx a9 ?_
   cases hq:mS F.script a with
   |none =>
    rw[hq]at hw;subst hw;simp[go_sem,Jp,uV];refine aR (Pp:=[(9736,⟨42,2,[[.d (.int .u8 0),.d (nb [])]]⟩)]) (s:=⟨r',J',0⟩) hC (bz hC r' J' 0 2) (by simp[bD,aH,bF,bE,he]) aq (by intro p hp;simp at hp;subst hp;simp) (by simp[AV.renL,AV.ren]) ?_;rintro v s' ρ rfl hρ;rw[bD];generalize az 2 r'=r2;simp only[aH,bF,bE,id];simp[go_sem,ah];exact⟨_,⟨J',rfl⟩,aC rfl rfl rfl⟩
   |some p =>
    obtain⟨w,b⟩:=p;rw[hq]at hw;obtain⟨n1,n2,n3,n4,n5⟩:=E5 hsb hlt hq;have hwm:=TN F x E w n3 n4 aq r' J' a hr aq;have hok:=lh (KW hr x E.hh.1 E.hh.2 hx w n3 n4) (show a+1≤b by omega);simp only[uV]at hwm;simp[go_sem,Jp,uV];refine aR (Pp:=[(9736,⟨42,2,[[.d (.int .u8 (w.1:Int)),.d (nb w.2)]]⟩)]) (s:=⟨r',J',0⟩) hC hwm (by simp[bD,aH,bF,bE,he]) aq (by intro p hp;simp at hp;subst hp;simp) (fun ρ=>rfl) ?_;rintro v s' ρ ⟨J2,rfl⟩ hρ;simp[go_sem];refine ao (b,f,mj x w r',J2) ⟨n2,by show _≤f+b;omega,hok,hw⟩ (by show F.script.length-b<F.script.length-a;omega) (hwk _ _ _ b _ _ (by simp[fv,lk]) (qd rfl rfl rfl))
  ·rw[if_neg (fun h=>he h.2)]at hw;subst hw;simp[go_sem,AV.ren,he];rw[bD];exact⟨_,⟨J',rfl⟩,aC rfl rfl rfl⟩
 ·rw[if_neg (fun h=>hlt h.1)]at hw;subst hw;have hlti:¬(a:Int)<(F.script.length:Int):=aq;rw[bD];simp only[aH,bF,bE,id];simp[go_sem,hlt,hlti,h39];exact⟨_,⟨J',rfl⟩,aC rfl rfl rfl⟩
def se(r1:Rn):Rn:=if r1.main.length=1∧jW (r1.main.headD [])=true then r1 else az 25 r1
theorem W7{C:List AV}(hC:iC C)(r:Rn)(J:List Bool)(H:Nat)(hk:StOk r.main r.alt):cX Tryz.prog 3 (aH C) 99 ⟨r,J,H⟩ [.ptr 0 0 0 1] (fun v s'=>s'=⟨jD r,J,H⟩):=by
 refine al Tryz.func99 (by kernel_rfl) rfl Tryz.ntmps99 (rs:=[]) rfl (dV rfl) (by decide) ?_;have hl:=hC.2.2;by_cases hb:0<r.br.length
 ·have hR:jD r=se (az 18 r):=by simp only[jD,if_pos hb,se]
  rw[hR];have hkb:StOk (az 18 r).main (az 18 r).alt:=ga hk;have hbi:(0:Int)<(r.br.length:Int):=aq;have hf:=bz hC r J H 18;generalize az 18 r=r1 at *;rw[bD];simp only[aH,bF,bE,id];simp[go_sem,hl,hb,hbi];refine aR (Pp:=[]) (s:=⟨r,J,H⟩) hC hf (by simp[bD,aH,bF,bE]) aq aw (by simp[AV.renL,AV.ren]) ?_;rintro v s' ρ rfl hρ;obtain⟨main,alt,br,bud,cl,e⟩:=r1;simp only at hkb;rcases main with _|⟨y,_|⟨z,l⟩⟩
  ·have hv:se ⟨[],alt,br,bud,cl,e⟩=az 25 ⟨[],alt,br,bud,cl,e⟩:=rfl;rw[hv,bD];simp only[aH,bF,bE,id];simp[go_sem,hl];refine aR (Pp:=[]) (s:=⟨⟨[],alt,br,bud,cl,e⟩,J,H⟩) hC (bz hC ⟨[],alt,br,bud,cl,e⟩ J H 25) (by simp[bD,aH,bF,bE,bC]) aq aw (by simp[AV.renL,AV.ren]) ?_;rintro v s' ρ rfl hρ;rw[bD];generalize az 25 ⟨[],alt,br,bud,cl,e⟩=r';simp only[aH,bF,bE,id];simp[go_sem,ah];exact aC rfl rfl rfl
  ·obtain⟨y1,y2⟩:=hkb.mb y aw;have htr:=mQ y y2 aq;rw[bD];simp only[aH,bF,bE,id];by_cases ht:jW y=true
   ·have hv:se ⟨[y],alt,br,bud,cl,e⟩=⟨[y],alt,br,bud,cl,e⟩:=if_pos ⟨rfl,ht⟩;rw[hv];rw[ht]at htr;simp[go_sem,hl,bC];refine ag htr a9 ?_;simp[go_sem,ah];exact aC rfl rfl rfl
   ·have hv:se ⟨[y],alt,br,bud,cl,e⟩=az 25 ⟨[y],alt,br,bud,cl,e⟩:=if_neg (fun h=>ht h.2);rw[hv];rw[show jW y=false by simpa using ht]at htr;simp[go_sem,hl,bC];refine ag htr a9 ?_;simp[go_sem];refine aR (Pp:=[]) (s:=⟨⟨[y],alt,br,bud,cl,e⟩,J,H⟩) hC (bz hC ⟨[y],alt,br,bud,cl,e⟩ J H 25) (by simp[bD,aH,bF,bE,bC]) aq aw (by simp[AV.renL,AV.ren]) ?_;rintro v s' ρ rfl hρ;rw[bD];generalize az 25 ⟨[y],alt,br,bud,cl,e⟩=r';simp only[aH,bF,bE,id];simp[go_sem,ah];exact aC rfl rfl rfl
  ·have hv:se ⟨y::z::l,alt,br,bud,cl,e⟩=az 25 ⟨y::z::l,alt,br,bud,cl,e⟩:=if_neg (fun h=>by simp at h);have hn2:¬(l.length:Int)+1+1=1:=aq;rw[hv,bD];simp only[aH,bF,bE,id];simp[go_sem,hl,hn2];refine aR (Pp:=[]) (s:=⟨⟨y::z::l,alt,br,bud,cl,e⟩,J,H⟩) hC (bz hC ⟨y::z::l,alt,br,bud,cl,e⟩ J H 25) (by simp[bD,aH,bF,bE,bC]) aq aw (by simp[AV.renL,AV.ren]) ?_;rintro v s' ρ rfl hρ;rw[bD];generalize az 25 ⟨y::z::l,alt,br,bud,cl,e⟩=r';simp only[aH,bF,bE,id];simp[go_sem,ah];exact aC rfl rfl rfl
 ·have hR:jD r=se r:=by simp only[jD,if_neg hb,se]
  rw[hR];have hkb:=hk;have hbi:¬(0:Int)<(r.br.length:Int):=aq;obtain⟨r1,rfl⟩:∃r1,r1=r:=⟨r,rfl⟩;obtain⟨main,alt,br,bud,cl,e⟩:=r1;simp only at hkb hb hbi;rcases main with _|⟨y,_|⟨z,l⟩⟩
  ·have hv:se ⟨[],alt,br,bud,cl,e⟩=az 25 ⟨[],alt,br,bud,cl,e⟩:=rfl;rw[hv,bD];simp only[aH,bF,bE,id];simp[go_sem,hl,hb,hbi];refine aR (Pp:=[]) (s:=⟨⟨[],alt,br,bud,cl,e⟩,J,H⟩) hC (bz hC ⟨[],alt,br,bud,cl,e⟩ J H 25) (by simp[bD,aH,bF,bE,bC]) aq aw (by simp[AV.renL,AV.ren]) ?_;rintro v s' ρ rfl hρ;rw[bD];generalize az 25 ⟨[],alt,br,bud,cl,e⟩=r';simp only[aH,bF,bE,id];simp[go_sem,ah];exact aC rfl rfl rfl
  ·obtain⟨y1,y2⟩:=hkb.mb y aw;have htr:=mQ y y2 aq;rw[bD];simp only[aH,bF,bE,id];by_cases ht:jW y=true
   ·have hv:se ⟨[y],alt,br,bud,cl,e⟩=⟨[y],alt,br,bud,cl,e⟩:=if_pos ⟨rfl,ht⟩;rw[hv];rw[ht]at htr;simp[go_sem,hl,bC,hb,hbi];refine ag htr a9 ?_;simp[go_sem,ah];exact aC rfl rfl rfl
   ·have hv:se ⟨[y],alt,br,bud,cl,e⟩=az 25 ⟨[y],alt,br,bud,cl,e⟩:=if_neg (fun h=>ht h.2);rw[hv];rw[show jW y=false by simpa using ht]at htr;simp[go_sem,hl,bC,hb,hbi];refine ag htr a9 ?_;simp[go_sem];refine aR (Pp:=[]) (s:=⟨⟨[y],alt,br,bud,cl,e⟩,J,H⟩) hC (bz hC ⟨[y],alt,br,bud,cl,e⟩ J H 25) (by simp[bD,aH,bF,bE,bC]) aq aw (by simp[AV.renL,AV.ren]) ?_;rintro v s' ρ rfl hρ;rw[bD];generalize az 25 ⟨[y],alt,br,bud,cl,e⟩=r';simp only[aH,bF,bE,id];simp[go_sem,ah];exact aC rfl rfl rfl
  ·have hv:se ⟨y::z::l,alt,br,bud,cl,e⟩=az 25 ⟨y::z::l,alt,br,bud,cl,e⟩:=if_neg (fun h=>by simp at h);have hn2:¬(l.length:Int)+1+1=1:=aq;rw[hv,bD];simp only[aH,bF,bE,id];simp[go_sem,hl,hn2,hb,hbi];refine aR (Pp:=[]) (s:=⟨⟨y::z::l,alt,br,bud,cl,e⟩,J,H⟩) hC (bz hC ⟨y::z::l,alt,br,bud,cl,e⟩ J H 25) (by simp[bD,aH,bF,bE,bC]) aq aw (by simp[AV.renL,AV.ren]) ?_;rintro v s' ρ rfl hρ;rw[bD];generalize az 25 ⟨y::z::l,alt,br,bud,cl,e⟩=r';simp only[aH,bF,bE,id];simp[go_sem,ah];exact aC rfl rfl rfl
def GK(F:RnF)(x:Rx)(start:List a8)(bud:Int):AV :=
 if bM F.t (F.n:Int) F.coins≠0∨1000<F.script.length then .tup [.d (.ro 2 []),.d (.int .i64 1)]
 else .tup [.d (.ro 2 ((mn x F.script start bud).1.map cJ)),.d (.int .i64 (mn x F.script start bud).2)]
theorem ru(t:Tn)(n:Int)(coins:List (Nat×List Nat)):bM t n coins=0∨bM t n coins=1:=by
 rcases lF t n coins with h|h
 ·exact .inr h
 ·exact .inl h.1
theorem uB(F:RnF)(start:List a8)(bud:Int):∀v,v∈[AV.agg (eS F.t (F.n:Int) F.coins),cM F.inner F.path F.script,.d (.ro 1 (start.map bC)),.d (nb F.annex),.d (.int .i64 bud)]→v.deep:=by
 intro v hv;simp at hv;rcases hv with rfl|rfl|rfl|rfl|rfl
 ·simp[AV.deep,AV.deep1,eS]
 ·exact cN F.inner F.path F.script _ (List.mem_singleton.2 rfl)
 ·trivial
 ·trivial
 ·trivial
def KX:List AV:=[.d (.int .u32 0),.nil,.nil,.d (.int .u32 0),.d (.int .i64 0),.nil]++(cb z32++[.nil,.nil,.nil,.nil,.nil,.nil,.d (.int .i64 0),.d (.int .i64 0),.nil,.d (.int .i64 0)])
theorem Y5:eW Tryz.prog 158=some KX:=by kernel_rfl
theorem KY:KX.length=48:=rfl
theorem KZ:List.drop 40 KX=[.nil,.nil,.nil,.nil,.d (.int .i64 0),.d (.int .i64 0),.nil,.d (.int .i64 0)]:=rfl
theorem W8{L:List AV}(h:L.length=34)(k:Nat)(l:List AV):List.take (34+k) (L++l)=L++List.take k l:=by
 rw[List.take_append,cA aq,h,Nat.add_sub_cancel_left]
theorem TP{L:List AV}(h:L.length=34)(k:Nat)(l:List AV):List.drop (34+k) (L++l)=List.drop k l:=by
 rw[List.drop_append,dg aq,h,Nat.add_sub_cancel_left,List.nil_append]
def fR(j:Nat):Nat:=640+1000*j
theorem TQ:oG 3 fR:=by
 intro i j hi hj h;unfold fR at h;omega
theorem TR(C:List AV)(s:RnS):ia 3 (aH C) s fR=[(640,aH C s fR 0),(1640,aH C s fR 1),(2640,aH C s fR 2)]:=rfl
theorem E6{C:List AV}(hC:iC C){N:Nat}{hp:Hp}{g:FuncId}{s:RnS}{ars:List AV}{R:AV→RnS→Prop}{K:AV→Hp→Prop}(h:cX Tryz.prog 3 (aH C) g s (.ptr 0 0 0 1::ars) R)(he:hp=ia 3 (aH C) s fR)(hN:2641≤N)(has:∀ ρ,AV.renL ρ ars=ars)
  (hK:∀v s' ρ,R v s'→K (v.ren ρ) (ia 3 (aH C) s' fR)):sn Tryz.prog g (.ptr 640 0 0 1::ars) hp N K:=by
 subst he;refine sD (Pp:=[]) (rf hC) h TQ (fun j hj=>by unfold fR;omega) aw ?_ fun v s' ρ hR _=>hK v s' ρ hR;rw[AV.renL,has,AV.ren];rfl
theorem K0(x:Rx)(h1:x.h1=bu)(h2:x.h2=dY)(hx:∀s o0 o1 bk,(x.trg s o0 o1 bk).1.length≤2){s:a8}(hb:bytes s):∀(f a:Nat)(r:Rn),RnOk r a→∃k,RnOk (jf x s f a r) k
 |0,a,r,h=>⟨a,h⟩
 | f+1,a,r,h=>by
  rw[jf]
  split
  ·rename_i hc
   cases hq:mS s a with
   |none=>exact⟨a,na h (fS h.st h.bd 2)⟩
   |some p =>
    obtain⟨w,b⟩:=p;obtain⟨n1,n2,n3,n4,n5⟩:=E5 hb hc.1 hq;exact K0 x h1 h2 hx hb f b _ (lh (KW h x h1 h2 hx w n3 n4) aq)
  ·exact⟨a,h⟩
theorem TS(F:RnF)(x:Rx)(start:List a8)(bud:Int)(ht:Sm F.t)(hc:F.coins.length≤1000)(hi:F.inner.length=32)(hsb:bytes F.script)(hst:StOk start [])(hbd:gi bud)
  (E:bM F.t (F.n:Int) F.coins=0→F.script.length≤1000→RnE F x) (hx:∀s o0 o1 bk,(x.trg s o0 o1 bk).1.length≤2) :
  ay Tryz.prog 53 [.agg (eS F.t (F.n:Int) F.coins),cM F.inner F.path F.script,.d (.ro 1 (start.map bC)),.d (nb F.annex),.d (.int .i64 bud)] (fun v=>v=GK F x start bud):=by
 have hck:=kX F.t (F.n:Int) F.coins ht hc;have hlf:(aL F.inner (AV.d (cH F.path)) (AV.d (nb F.script))).length=34:=by simp[aL,am,hi]
 have hlt:List.take 34 (aL F.inner (AV.d (cH F.path)) (AV.d (nb F.script)))=aL F.inner (AV.d (cH F.path)) (AV.d (nb F.script)):=cA (by rw[hlf];omega)
 have h33:(aL F.inner (AV.d (cH F.path)) (AV.d (nb F.script)))[33]?=some (.d (.ro 1 (F.script.map fun(b:Nat)=>[.int .u8 (b:Int)]))):=by
  unfold aL;rw[dz (by rw[am,hi];omega),am,hi];rfl
 have hdS:∀v,v∈[AV.agg (eS F.t (F.n:Int) F.coins)]→v.deep:=by simp[AV.deep,AV.deep1,eS]
 simp only[eS]at hck hdS;by_cases hs:1000<F.script.length
 ·have hR:GK F x start bud=.tup [.d (.ro 2 []),.d (.int .i64 1)]:=if_pos (.inr hs);rw[hR];have hsi:(1000:Int)<(F.script.length:Int):=aq;refine bL Tryz.func53 Tryz.ntmps53 (rs:=[.tmp 10,.tmp 11]) (uB F start bud) ?_;simp[go_sem,cM,eS,hlf,hlt];refine ag hck hdS ?_;rcases ru F.t (F.n:Int) F.coins with h|h
  ·simp[go_sem,h,h33,hs,hsi,ah];exact dE (cs':=[.d (.ro 2 []),.d (.int .i64 1)]) (ap (ak (.nil 2)) (ap (be trivial) bA)) rfl a9 rfl
  ·simp[go_sem,h,ah];exact dE (cs':=[.d (.ro 2 []),.d (.int .i64 1)]) (ap (ak (.nil 2)) (ap (be trivial) bA)) rfl a9 rfl
 ·rcases ru F.t (F.n:Int) F.coins with h|h
  ·have hR:GK F x start bud=.tup [.d (.ro 2 ((mn x F.script start bud).1.map cJ)),.d (.int .i64 (mn x F.script start bud).2)]:=if_neg (by rw[h];simp;omega);rw[hR];have E:=E h aq;rw[h]at hck;have hsi:¬(1000:Int)<(F.script.length:Int):=aq;refine FZ Tryz.func53 (by kernel_rfl) rfl Tryz.ntmps53 (rs:=[.tmp 10,.tmp 11]) rfl (dV rfl) (uB F start bud) ?_;refine xB (lA ?_);simp[go_sem,cM,eS,hlf,hlt];simp only[Bv];refine xB (lA ?_);simp[go_sem,hlf,hlt];refine ag hck hdS ?_;simp[go_sem,h33,hs,hsi];simp only[Bv];refine xB (lA ?_);have t35:∀l,List.take 35 (aL F.inner (AV.d (cH F.path)) (AV.d (nb F.script))++l)=aL F.inner (AV.d (cH F.path)) (AV.d (nb F.script))++List.take 1 l:=W8 hlf 1;have t39:∀l,List.take 39 (aL F.inner (AV.d (cH F.path)) (AV.d (nb F.script))++l)=aL F.inner (AV.d (cH F.path)) (AV.d (nb F.script))++List.take 5 l:=W8 hlf 5;have d35:∀l,List.drop 35 (aL F.inner (AV.d (cH F.path)) (AV.d (nb F.script))++l)=List.drop 1 l:=TP hlf 1;have d37:∀l,List.drop 37 (aL F.inner (AV.d (cH F.path)) (AV.d (nb F.script))++l)=List.drop 3 l:=TP hlf 3;have d40:∀l,List.drop 40 (aL F.inner (AV.d (cH F.path)) (AV.d (nb F.script))++l)=List.drop 6 l:=TP hlf 6;simp[go_sem,hlf,hlt,Y5,KY,KZ,t35,t39,d35,d37,d40];simp only[Bv];have hC:=eo (F:=F) hi;refine IN (st':=⟨[(12,.ptr 640 0 0 1)],[(640,⟨158,48,[gA F++[.d (.ro 1 (start.map bC)),.nil,.nil,.d (.int .i64 0),.d (.int .i64 bud),.nil,.d (.int .i64 0)]]⟩),(1640,⟨4,1,[]⟩),(2640,⟨55,2,[]⟩)],9000⟩) (cB ⟨by simp[ai,fv,lk,AV.low,AV.low1],?_,aw⟩) ?_
   ·intro p hp;simp only[et,List.mem_nil_iff,or_false]at hp;rcases hp with rfl|rfl|rfl
    ·refine⟨.inl (by simp[lk,gA,eS]),by show 640<9000;omega,?_⟩;intro q hq v hv;simp only[et,List.mem_nil_iff,or_false]at hq;subst hq;rcases cL.1 hv with h|h
     ·exact hC.2.1 v h _
     ·simp only[et,List.mem_nil_iff,or_false]at h;rcases h with rfl|rfl|rfl|rfl|rfl|rfl|rfl<;>trivial
    ·exact⟨.inr ⟨by show 704≤1640;omega,rfl⟩,by show 1640<9000;omega,by intro q hq;simp at hq⟩
    ·exact⟨.inr ⟨by show 704≤2640;omega,rfl⟩,by show 2640<9000;omega,by intro q hq;simp at hq⟩
   refine IN (st':=⟨[(12,.ptr 640 0 0 1)],ia 3 (aH (gA F)) ⟨⟨start,[],[],bud,[],0⟩,[],0⟩ fR,9000⟩) ?_ ?_
   ·refine F2 (st:=⟨_,_,9000⟩) (L:=640) (b:=⟨158,48,[gA F++[.d (.ro 1 (start.map bC)),.nil,.nil,.d (.int .i64 0),.d (.int .i64 bud),.nil,.d (.int .i64 0)]]⟩) (es':=[bF (gA F) ⟨⟨start,[],[],bud,[],0⟩,[],0⟩ fR]) rfl aw rfl ?_;intro i y y' h1 h2
    match i with
    | 0 =>
     simp only[List.getElem?_cons_zero,Option.some.injEq]at h1 h2;subst h1 h2;refine⟨by simp[bF,bE],fun j v v' a1 a2=>?_⟩;unfold bF bE at a2;by_cases hj:j<41
     ·rw[List.getElem?_append_left (by rw[hC.2.2];exact hj)]at a1 a2;rw[a1]at a2;exact .inl (Option.some.inj a2).symm
     ·rw[dz (by rw[hC.2.2];omega),hC.2.2]at a1 a2;generalize j-41=k at a1 a2
      match k,a1,a2 with
      |0,a1,a2=>cases a1;cases a2;exact .inl rfl
      |1,a1,a2=>cases a1;cases a2;exact .inr (.inr ⟨rfl,1,rfl⟩)
      |2,a1,a2=>cases a1;cases a2;exact .inr (.inl ⟨rfl,1640,by show 1640<9000;omega,rfl⟩)
      |3,a1,a2=>cases a1;cases a2;exact .inl rfl
      |4,a1,a2=>cases a1;cases a2;exact .inl rfl
      |5,a1,a2=>cases a1;cases a2;exact .inr (.inl ⟨rfl,2640,by show 2640<9000;omega,rfl⟩)
      |6,a1,a2=>cases a1;cases a2;exact .inl rfl
      |k+7,a1,a2=>cases a1
    |i+1=>simp at h1
   refine lA ?_;have hcs:=zZ start [] (by have:=hst.m;omega) aw;have hfl:=bz hC ⟨start,[],[],bud,[],0⟩ [] 0 (fu start []);have hok0:RnOk ⟨start,[],[],bud,[],0⟩ 0:=⟨hst,hbd,aw,aw⟩;have hok1:=na hok0 (fS hok0.st hok0.bd (fu start []));rw[TR];simp only[aH,bF,bE,id,jB]at *;simp[go_sem,hC.2.2];refine ag hcs (by intro v hv;simp at hv;subst hv;exact eK start []) ?_;simp[go_sem];have hRun:mn x F.script start bud=(if(jD (jf x F.script (F.script.length+1) 0 (az (fu start []) ⟨start,[],[],bud,[],0⟩))).e=0 then((jD (jf x F.script (F.script.length+1) 0 (az (fu start []) ⟨start,[],[],bud,[],0⟩))).cl,0)else([],(jD (jf x F.script (F.script.length+1) 0 (az (fu start []) ⟨start,[],[],bud,[],0⟩))).e)):=rfl;rw[hRun];clear hRun hR;refine E6 hC hfl (by simp[TR,aH,bF,bE]) aq (by simp[AV.renL,AV.ren]) ?_;rintro v s' ρ rfl;clear hfl hcs;generalize az (fu start []) ⟨start,[],[],bud,[],0⟩=r1 at *;simp[go_sem];refine E6 hC (ON F x E hsb aq hx r1 [] hok1) rfl aq (fun ρ=>rfl) ?_;rintro v s' ρ ⟨J',rfl⟩;obtain⟨k,hok2⟩:=K0 x E.hh.1 E.hh.2 hx hsb (F.script.length+1) 0 r1 hok1;generalize jf x F.script (F.script.length+1) 0 r1=r2 at *;simp[go_sem];refine E6 hC (W7 hC r2 J' 0 hok2.st) rfl aq (fun ρ=>rfl) ?_;rintro v s' ρ rfl;generalize jD r2=r3 at *;simp[go_sem];refine E6 hC (eG hC r3 J' 0) rfl aq (fun ρ=>rfl) ?_;rintro v s' ρ ⟨rfl,rfl⟩;rw[TR];simp only[aH,bF,bE];by_cases he:r3.e=0
   ·rw[if_pos he];simp[go_sem,AV.ren,he,hC.2.2,ah];exact dE (cs':=[.d (.ro 2 (r3.cl.map cJ)),.d (.int .i64 0)]) (ap (ak (ES (id:=2640) (ty:=55) (by simp[lk,G9]) trivial)) (ap (be trivial) bA)) rfl a9 rfl
   ·rw[if_neg he];simp[go_sem,AV.ren,he];refine b7 [0,1,2,3,4,5] [] 0 (k:=6) ?_;intro G hG;simp[go_sem,AV.ren,he,hC.2.2];refine hG _ _ ?_;clear hG G;simp[go_sem,ah];exact dE (cs':=[.d (.ro 2 []),.d (.int .i64 r3.e)]) (ap (ak (.nil 2)) (ap (be trivial) bA)) rfl a9 rfl
  ·have hR:GK F x start bud=.tup [.d (.ro 2 []),.d (.int .i64 1)]:=if_pos (.inl (by rw[h];omega));rw[hR];rw[h]at hck;refine bL Tryz.func53 Tryz.ntmps53 (rs:=[.tmp 10,.tmp 11]) (uB F start bud) ?_;simp[go_sem,cM,eS,hlf,hlt];refine ag hck hdS ?_;simp[go_sem,ah];exact dE (cs':=[.d (.ro 2 []),.d (.int .i64 1)]) (ap (ak (.nil 2)) (ap (be trivial) bA)) rfl a9 rfl
theorem E7{b:List Nat}(hb:b.length=32):(List.range 32).map (fun k=>((cb b).drop k).take 1)=rb b:=by
 rw[gV hb,cF]
theorem GL{Q:AV→Prop}{st:St}{id n:Nat}{e:Int}{L:List Nat}(hl:L.length=n)(hb:lk id st.hp=some ⟨5,1,rb L⟩)(hq:Q (.tup [.d (nb L),.d (.int .i64 e)])):dy Q (.tup [.own id 0 n n,.d (.int .i64 e)]) st :=
 dE (ap (ak (aN hl hb trivial)) (ap (be trivial) bA)) rfl a9 hq
theorem GM{Q:AV→Prop}{st:St}{e:Int}(hq:Q (.tup [.d (nb []),.d (.int .i64 e)])):dy Q (.tup [.nil,.d (.int .i64 e)]) st :=
 dE (ap (ak (.nil 1)) (ap (be trivial) bA)) rfl a9 hq
theorem GN{inner x k:List Nat}{ps:List (List Nat)}{o:Bool}(hi:inner.length=32)(hk:k.length=32)(f:ay Tryz.prog 92 [cM inner ps x] (fun r=>r=.tup [.agg (cb k),.d (.bool o),.d (.int .i64 1)])) :
  ay Tryz.prog 46 [cM inner ps x] (fun r=>r=.tup [.d (nb []),.d (.int .i64 1)]):=by
 refine bL Tryz.func46 Tryz.ntmps46 (rs:=[.tmp 2,.tmp 3]) (cN _ _ _) ?_;have zd:List.drop 32 (cb z32)=[]:=gW rfl;simp[go_sem,cM,aL,mK hi,mJ hi,cH,nb,hi,rp hi];refine ag f (cN _ _ _) ?_;simp[go_sem,am,hk,av hk,zd,ah];exact GM rfl
theorem GO{inner x k:List Nat}{ps:List (List Nat)}{o:Bool}(hi:inner.length=32)(hk:k.length=32)(f:ay Tryz.prog 92 [cM inner ps x] (fun r=>r=.tup [.agg (cb k),.d (.bool o),.d (.int .i64 0)])) :
  ay Tryz.prog 46 [cM inner ps x] (fun r=>r=.tup [.d (nb (81::32::k)),.d (.int .i64 0)]):=by
 refine bL Tryz.func46 Tryz.ntmps46 (rs:=[.tmp 2,.tmp 3]) (cN _ _ _) ?_;have zd:List.drop 32 (cb z32)=[]:=gW rfl;simp[go_sem,cM,aL,mK hi,mJ hi,cH,nb,hi,rp hi];refine ag f (cN _ _ _) ?_;have hx1:=E7 hk;simp[go_sem]at hx1;simp[go_sem,am,hk,av hk,zd,hx1,aG,ah];have e:rb (81::32::k)=[AV.d (.int .u8 81)]::[AV.d (.int .u8 32)]::rb k:=by simp[rb]
 have h34:(81::32::k).length=34:=by simp[hk]
 exact GL (L:=81::32::k) h34 (by rw[e];rfl) (by simp[nb])
open Go.Am Go.Sha Go.Ec
theorem yD(a:List Int)(ha:Wn 4 a):∃r:List Int,Wn 4 r∧ay Tryz.prog 124 [.agg (cI a)] (fun v=>v=.agg (cI r)):=by
 obtain⟨s,c,hs,hc,vc,f1⟩:=pU a Ov ha Ku;have hal:=ha.1;have hsl:=hs.1;have hz:List.drop 4 (cI zI)=[]:=aZ rfl;refine⟨if c=0 then s else a,by split<;>assumption,?_⟩;refine bL Tryz.func124 Tryz.ntmps124 (rs:=[.cell 2 96]) (aS a) ?_;simp[go_sem,hal,ae hal];refine ep [0] [1,2,6,7] [0,3,4,5,8] (.alt (bt 1 (.alt (.step 2 [3,4,5] true (bt 6 (.step 7 [8] true .done))) (bt 6 (.step 2 [3,4,5] true (.step 7 [8] true .done))))) (bt 6 (bt 1 (.step 2 [3,4,5] true (.step 7 [8] true .done))))) ⟨[(1,.ptr 0 0 0 1),(2,.ptr 32 0 0 1),(3,.ptr 256 0 0 1),(4,.d (.int .u64 c))],[(256,⟨96,4,[cI s]⟩),(32,⟨96,4,[cI zI]⟩),(0,⟨96,4,[cI a]⟩)],9000⟩ (k:=9) ?h3 ?hq
 case h3 =>
  intro G hG
  have hW:∀(fr:Fr)(hp:Hp),(fv 1 fr=.ptr 0 0 0 1∧fv 2 fr=.ptr 32 0 0 1∧fv 3 fr=.ptr 256 0 0 1∧fv 4 fr=.d (.int .u64 c)∧lk 256 hp=some ⟨96,4,[cI s]⟩∧lk 32 hp=some ⟨96,4,[cI zI]⟩∧lk 0 hp=some ⟨96,4,[cI a]⟩)→G fr hp:=by
   rintro fr hp⟨q0,q1,q2,q3,q4,q5,q6⟩;refine hG _ _ (cB ?_);simp only[aA,ai];refine⟨fun p hp=>?_,fun p hp=>?_,aw⟩
   ·simp only[et,List.mem_nil_iff,or_false]at hp;rcases hp with rfl|rfl|rfl|rfl<;>exact⟨.inl (Eq.symm (by assumption)),by simp[AV.low,AV.low1]⟩
   ·simp only[et,List.mem_nil_iff,or_false]at hp;rcases hp with rfl|rfl|rfl<;>exact⟨.inl (by assumption),aw,by intro r hr;simp only[et,List.mem_nil_iff,or_false]at hr;subst hr;first|exact bU _ _|exact aO _ _|exact lM _ _ _ _⟩
  simp[go_sem,hal,hsl,ae hal,ae hsl,hz,dM]
  repeat' first|exact hW _ _ ⟨rfl,rfl,rfl,rfl,rfl,rfl,rfl⟩|(refine hW _ _ ?_;simp[fv,lk];done)|refine ag qa aw ?_|refine ag f1 (aK _ _) ?_|apply And.intro|simp[go_sem,hal,hsl,ae hal,ae hsl,hz,dM]
 case hq =>
  by_cases h0:c=0
  ·rw[if_pos h0];simp[go_sem,h0,hsl,ae hsl,hz,ah];exact dH rfl
  ·rw[if_neg h0];simp[go_sem,h0,hal,ae hal,hz,ah];exact dH rfl
theorem OO(a:List Int)(ha:Wn 4 a):∃r:List Int,Wn 4 r∧ay Tryz.prog 128 [.agg (cI a)] (fun v=>v=.agg (cI r)):=by
 obtain⟨b,hb,f1⟩:=yD a ha;obtain⟨s,c,hs,hc,vc,f2⟩:=pU Ov b Ku hb;obtain⟨r,hr,f3⟩:=yD s hs;have hal:=ha.1;have hbl:=hb.1;have hsl:=hs.1;have hrl:=hr.1;have hz:List.drop 4 (cI zI)=[]:=aZ rfl;refine⟨r,hr,?_⟩;refine bL Tryz.func128 Tryz.ntmps128 (rs:=[.cell 2 96]) (aS a) ?_;simp[go_sem,hal,ae hal];refine ep [1] [0,2,3,7,8] [1,4,5,6,9] (.alt (bt 0 (.alt (bt 2 (.alt (.step 3 [4,5,6] true (bt 7 (.step 8 [9] true .done))) (bt 7 (.step 3 [4,5,6] true (.step 8 [9] true .done))))) (bt 7 (bt 2 (.step 3 [4,5,6] true (.step 8 [9] true .done)))))) (bt 7 (bt 0 (bt 2 (.step 3 [4,5,6] true (.step 8 [9] true .done)))))) ⟨[(2,.ptr 32 0 0 1),(3,.ptr 288 0 0 1)],[(288,⟨96,4,[cI s]⟩),(32,⟨96,4,[cI zI]⟩)],9000⟩ (k:=10) ?h3 ?hq
 case h3 =>
  intro G hG
  have hW:∀(fr:Fr)(hp:Hp),(fv 2 fr=.ptr 32 0 0 1∧fv 3 fr=.ptr 288 0 0 1∧lk 288 hp=some ⟨96,4,[cI s]⟩∧lk 32 hp=some ⟨96,4,[cI zI]⟩)→G fr hp:=by
   rintro fr hp⟨q0,q1,q2,q3⟩;refine hG _ _ (cB ?_);simp only[aA,ai];refine⟨fun p hp=>?_,fun p hp=>?_,aw⟩
   ·simp only[et,List.mem_nil_iff,or_false]at hp;rcases hp with rfl|rfl<;>exact⟨.inl (Eq.symm (by assumption)),by simp[AV.low,AV.low1]⟩
   ·simp only[et,List.mem_nil_iff,or_false]at hp;rcases hp with rfl|rfl<;>exact⟨.inl (by assumption),aw,by intro r hr;simp only[et,List.mem_nil_iff,or_false]at hr;subst hr;first|exact bU _ _|exact aO _ _|exact lM _ _ _ _⟩
  simp[go_sem,hal,hsl,ae hal,ae hsl,hz,dM]
  repeat' first|exact hW _ _ ⟨rfl,rfl,rfl,rfl⟩|(refine hW _ _ ?_;simp[fv,lk];done)|refine ag qa aw ?_|refine ag f1 (aS _) ?_|refine ag f2 (aK _ _) ?_|apply And.intro|simp[go_sem,hal,hsl,ae hal,ae hsl,hz,dM]
 case hq =>
  simp[go_sem,hsl,ae hsl];refine ag f3 (aS _) ?_;simp[go_sem,hrl,ae hrl,hz,ah];exact dH rfl
theorem K1(b:List Nat)(hb:b.length=32)(hby:bytes b):∃r:List Int,Wn 4 r∧ay Tryz.prog 135 [.agg (cb b)] (fun v=>v=.agg (cI r)):=by
 obtain⟨a,ha,va,f1⟩:=uo b hb hby;obtain⟨r,hr,f2⟩:=yD a ha;have hal:=ha.1;have hrl:=hr.1;have hz:List.drop 4 (cI zI)=[]:=aZ rfl;have zd:List.drop 32 (cb b)=[]:=gW hb;refine⟨r,hr,?_⟩;refine bL Tryz.func135 Tryz.ntmps135 (rs:=[.cell 2 96]) (cC b) ?_;simp[go_sem,am,hb,av hb,zd];refine ag f1 (cC _) ?_;simp[go_sem];refine ag f2 (aS _) ?_;simp[go_sem,hrl,ae hrl,hz,ah];exact dH rfl
def TT(a b d:List Nat):Nat→AV
 |0=>.nil
 |1=>.own 1192 0 a.length a.length
 |2=>.own 1192 0 (a++b).length (a++b).length
 |_=>.own 1192 0 d.length d.length
def TU(a b d:List Nat):Nat→Hp
 |0=>[]
 |1=>[(1192,⟨5,1,rb a⟩)]
 |2=>[(1192,⟨5,1,rb (a++b)⟩)]
 |_=>[(1192,⟨5,1,rb d⟩)]
theorem Dc(a b c d:List Nat)(hd:a++b++c=d)(ha:a.length=32)(hb:b.length=32)(hc:c.length≤1000000):ay Tryz.prog 89 [.d (.ro 1 [[nb a],[nb b],[nb c]])] (fun r=>r=.d (nb d)):=by
 refine bL Tryz.func89 Tryz.ntmps89 (rs:=[.tmp 2]) a9 ?_;simp[go_sem]
 refine ar (fun k:Nat=>⟨[(3,TT a b d k),(6,.d (.ro 1 [[nb a],[nb b],[nb c]])),(7,.d (.int .i64 3)),(8,.d (.int .i64 (k:Int)))],TU a b d k,Oz k⟩)
  (fun k=>k≤3) (fun k=>3-k) 0 aq (by simp[aA,ai,fv,lk,AV.low,AV.low1,TT,TU,Oz]) ?_
 intro k hk;simp only[go_sem,Nat.reduceEqDiff,Nat.reduceAdd,Nat.reduceLT,↓reduceIte]
 match k,hk with
 |0,_ =>
  refine⟨fun _=>?_,fun h=>absurd (by decide) h⟩;simp[go_sem,TT,TU,Oz,nb,cF];refine⟨by rw[aG];omega,?_⟩;have w1:IntKind.i64.wrap 1=1:=by decide
  refine ao 1 aq aq ?_;simp[aA,ai,fv,lk,AV.low,AV.low1,aG,w1];exact bm _ _
 |1,_ =>
  refine⟨fun _=>?_,fun h=>absurd (by decide) h⟩;simp[go_sem,TT,TU,Oz,nb,cF,aG];refine⟨aq,?_⟩;have w1:IntKind.i64.wrap 2=2:=by decide
  have ra:rb (a++b)=rb a++rb b:=by simp[rb]
  refine ao 2 aq aq ?_;simp[aA,ai,fv,lk,AV.low,AV.low1,aG,w1,ra];intro r hr;exact hr.elim (bm _ _ r) (bm _ _ r)
 |2,_ =>
  refine⟨fun _=>?_,fun h=>absurd (by decide) h⟩;have ra:rb d=rb (a++b)++rb c:=by rw[←hd];simp[rb]
  have hln:d.length=(a++b).length+c.length:=by rw[←hd];exact b_
  have hab:(a++b).length=64:=by simp[ha,hb]
  simp only[TT,TU];generalize a++b=e at *;simp[go_sem,TT,TU,Oz,nb,cF,aG];refine⟨aq,?_⟩;have w1:IntKind.i64.wrap 3=3:=by decide
  refine ao 3 aq aq ?_;simp[aA,ai,fv,lk,AV.low,AV.low1,aG,w1,ra,hln];intro r hr;exact hr.elim (bm _ _ r) (bm _ _ r)
 |3,_ =>
  refine⟨fun h=>absurd h (by decide),fun _=>?_⟩;simp only[TT,TU];simp[go_sem,ah];exact iK rfl (by simp[nb])
def yE:List Nat:=[66,73,80,48,51,52,48,47,99,104,97,108,108,101,110,103,101]
theorem OP(a b c:List Nat)(ha:a.length=32)(hb:b.length=32)(hc:c.length≤1000):∃r:List Int,Wn 4 r∧ay Tryz.prog 88 [.agg (cb a),.agg (cb b),.d (nb c)] (fun v=>v=.agg (cI r)):=by
 obtain⟨r,hr,f1⟩:=K1 (fi yE (a++b++c)) (yr _ _).1 (yr _ _).2;have hrl:=hr.1;have hz:List.drop 4 (cI zI)=[]:=aZ rfl;refine⟨r,hr,?_⟩;refine bL Tryz.func88 Tryz.ntmps88 (rs:=[.cell 6 96]) (by intro v hv;simp at hv;rcases hv with rfl|rfl|rfl;exact dF _;exact dF _;trivial) ?_;have hl3:(a++b++c).length≤2000:=by simp;omega
 simp[go_sem,am,ha,hb,av ha,av hb];refine b7 [0,1,2] [(3,[]),(4,[]),(5,[]),(6,[]),(7,[])] 0 (k:=8) ?_;intro G hG;simp[go_sem,am,ha,hb];refine bN [0,32,192] (Dc a b c _ rfl ha hb aq) rfl (aj (.one (ak (iG (rows:=[[.sub 0 0 0 1 32 32 1],[.sub 32 0 0 1 32 32 1],[.d (nb c)]]) rfl aw rfl (RowsR.cons (.cons (ef rfl aw ha) .nil) (RowsR.cons (.cons (ef rfl aw hb) .nil) (RowsR.cons (.cons (.d _) .nil) .nil))) rfl (by intro r hr;simp at hr;rcases hr with rfl|rfl|rfl<;>rfl)))) aD) ?_;generalize a++b++c=d at *;simp[go_sem,aE];refine ag (gv yE (.str [66,73,80,48,51,52,48,47,99,104,97,108,108,101,110,103,101]) rfl d (by simp[yE]) aq) a9 ?_;simp[go_sem];refine ag f1 (cC _) ?_;simp[go_sem,hrl];refine hG _ _ ?_;clear hG G;simp[go_sem,hrl,ae hrl,ah];exact dH rfl
theorem AI(l:List Nat):(l.map fun(b:Nat)=>[DV.int .u8 (b:Int)]).flatten=cd l:=by
 unfold cd
 induction l with
 |nil=>rfl
 |cons a l ih=>simp only[List.map_cons,List.flatten_cons,ih];rfl
theorem AK:∀l:List Nat,b8 .u8 (cb l)=some (l.map fun(b:Nat)=>(b:Int))
 |[]=>rfl
 |a::l=>by
  have:=AK l;unfold cb at this⊢;simp only[List.map_cons,b8,if_true,this];rfl
theorem qh(k m s:List Nat):∀v,v∈[AV.agg (cb k),.d (nb m),.d (nb s)]→v.deep:=by
 intro v hv;simp at hv;rcases hv with rfl|rfl|rfl
 ·exact dF _
 ·trivial
 ·trivial
theorem GP(key msg sig:List Nat)(hk:key.length=32)(hkb:bytes key)(hsb:bytes sig)(hm:msg.length≤1000)(hs:sig.length≤1000):∃o:Bool,ay Tryz.prog 156 [.agg (cb key),.d (nb msg),.d (nb sig)] (fun v=>v=.d (.bool o)):=by
 obtain⟨x,y,c,ok,hx,hy,_,f1⟩:=Az key hk hkb;have zd:List.drop 32 (cb key)=[]:=gW hk;have hz32:z32.length=32:=rfl;have hzd:List.drop 32 (cb z32)=[]:=rfl;have hz:List.drop 4 (cI zI)=[]:=aZ rfl;have hxl:=hx.1;have hyl:=hy.1;have hpl:(cP x y c).length=9:=bY hxl hyl c;have hpt:List.take 9 (cP x y c)=cP x y c:=cA (by rw[hpl];omega)
 cases ok with
 |false =>
  refine⟨false,?_⟩;refine bL Tryz.func156 Tryz.ntmps156 (rs:=[.tmp 6]) (qh _ _ _) ?_;simp[go_sem,am,hk,av hk,zd];refine ag f1 (cC _) ?_;simp[go_sem,hpl,hpt,ah];exact aa trivial rfl
 | true =>
  by_cases h64:sig.length=64
  ·have hrl:(sig.take 32).length=32:=by simp[h64]
   have hsl:(sig.drop 32).length=32:=by simp[h64]
   have hsbd:bytes (sig.drop 32):=fun z hz=>hsb z (List.mem_of_mem_drop hz);obtain⟨s,ok2,hsw,_,f2⟩:=Ax (sig.drop 32) hsl hsbd;have hswl:=hsw.1;have h64i:(sig.length:Int)=64:=aq;have e1:List.take 32 (sig.map fun(b:Nat)=>[DV.int .u8 (b:Int)])=(sig.take 32).map fun(b:Nat)=>[DV.int .u8 (b:Int)]:=List.map_take.symm;have e2:List.drop 32 (sig.map fun(b:Nat)=>[DV.int .u8 (b:Int)])=(sig.drop 32).map fun(b:Nat)=>[DV.int .u8 (b:Int)]:=List.map_drop.symm;have e3:List.take 64 (sig.map fun(b:Nat)=>[DV.int .u8 (b:Int)])=sig.map fun(b:Nat)=>[DV.int .u8 (b:Int)]:=cA (by simp[h64]);obtain⟨ch,hch,f3⟩:=OP (sig.take 32) key msg hrl hk hm;generalize sig.take 32=R at *;generalize sig.drop 32=S at *
   cases ok2 with
   |false =>
    refine⟨false,?_⟩;refine bL Tryz.func156 Tryz.ntmps156 (rs:=[.tmp 6]) (qh _ _ _) ?_;simp[go_sem,am,hk,av hk,zd];refine ag f1 (cC _) ?_;simp[go_sem,hpl,hpt,nb,h64,h64i,e1,e2,e3,AI,lv,av hrl,av hsl,am,hrl,hsl,hz32,hzd];refine ag f2 (cC _) ?_;simp[go_sem,hswl,ae hswl,hz,ah];exact aa trivial rfl
   | true =>
    obtain⟨ng,hng,f4⟩:=OO ch hch;obtain⟨u,v,q,hu,hv,_,f5⟩:=EP s ng gX gY x y false c hsw hng WM WN hx hy;obtain⟨o,_,f6⟩:=EL u v q hu hv;obtain⟨B,hB,hBb,_,f7⟩:=wG u v q hu hv;have hngl:=hng.1;have hql:(cP u v q).length=9:=bY hu.1 hv.1 q;have hqt:List.take 9 (cP u v q)=cP u v q:=cA (by rw[hql];omega);refine⟨o&&decide ((B.map fun(b:Nat)=>(b:Int))=R.map fun(b:Nat)=>(b:Int)),?_⟩;refine bL Tryz.func156 Tryz.ntmps156 (rs:=[.tmp 6]) (qh _ _ _) ?_;simp[go_sem,am,hk,av hk,zd];refine ag f1 (cC _) ?_;simp[go_sem,hpl,hpt,nb,h64,h64i,e1,e2,e3,AI,lv,av hrl,av hsl,am,hrl,hsl,hz32,hzd];refine ag f2 (cC _) ?_;simp[go_sem,hswl,ae hswl,hz,am,hk,hrl,av hk,av hrl];refine ag f3 (by intro v hv;simp at hv;rcases hv with rfl|rfl|rfl;exact dF _;exact dF _;trivial) ?_;simp[go_sem];refine ag f4 (aS _) ?_;simp[go_sem,hngl,ae hngl,hz];refine ep [0,2,3] [1,4,5,6] [0,2,3] (.alt (bt 1 (.alt (a_ [4,5,6]) (bt 5 (a_ [4,6])))) (bt 5 (bt 1 (a_ [4,6])))) ⟨[(9,.ptr 672 0 0 1),(12,.ptr 1536 0 0 1)],[(1536,⟨189,9,[cP u v q]⟩),(672,⟨29,32,[cb R]⟩)],9000⟩ (k:=7) ?h3 ?hq
    case h3 =>
     intro G hG
     have hW:∀(fr:Fr)(hp:Hp),(fv 9 fr=.ptr 672 0 0 1∧fv 12 fr=.ptr 1536 0 0 1∧lk 1536 hp=some ⟨189,9,[cP u v q]⟩∧lk 672 hp=some ⟨29,32,[cb R]⟩)→G fr hp:=by
      rintro fr hp⟨q0,q1,q2,q3⟩;refine hG _ _ (cB ?_);simp only[aA,ai];refine⟨fun p hp=>?_,fun p hp=>?_,aw⟩
      ·simp only[et,List.mem_nil_iff,or_false]at hp;rcases hp with rfl|rfl<;>exact⟨.inl (Eq.symm (by assumption)),by simp[AV.low,AV.low1]⟩
      ·simp only[et,List.mem_nil_iff,or_false]at hp;rcases hp with rfl|rfl<;>exact⟨.inl (by assumption),aw,by intro r hr;simp only[et,List.mem_nil_iff,or_false]at hr;subst hr;first|exact bU _ _|exact aO _ _|exact lM _ _ _ _⟩
     simp[go_sem,hswl,hngl,ae hswl,ae hngl,hpl,hpt,hql,hqt,dM]
     repeat' first|exact hW _ _ ⟨rfl,rfl,rfl,rfl⟩|(refine hW _ _ ?_;simp[fv,lk];done)|refine ag yo aw ?_|refine ag f5 (by intro v hv;simp at hv;rcases hv with rfl|rfl|rfl|rfl<;>first|exact eP _|exact jG _ _ _) ?_|apply And.intro|simp[go_sem,hswl,hngl,ae hswl,ae hngl,hpl,hpt,hql,hqt,dM]
    case hq =>
     cases o with
     |false =>
      simp[go_sem];refine b7 [0] [(1,[2,3,5]),(4,[6,7,8])] 2 (k:=9) ?_;intro G hG;simp[go_sem,hql,hqt];refine ag f6 (by intro v hv;simp at hv;subst hv;exact jG _ _ _) ?_;simp[go_sem];refine hG _ _ ?_;clear hG G;simp[go_sem,ah];exact aa trivial rfl
     |true =>
      simp[go_sem];refine b7 [0] [(1,[2,3,5]),(4,[6,7,8])] 2 (k:=9) ?_;intro G hG;simp[go_sem,hql,hqt];refine ag f6 (by intro v hv;simp at hv;subst hv;exact jG _ _ _) ?_;simp[go_sem,hql,hqt,am,hrl,av hrl];refine ag f7 (by intro v hv;simp at hv;subst hv;exact jG _ _ _) ?_;simp[go_sem,am,hrl,av hrl,hB,AK];refine hG _ _ ?_;clear hG G;simp[go_sem,ah];exact aa trivial rfl
  ·have h64i:¬(sig.length:Int)=64:=aq;refine⟨false,?_⟩;refine bL Tryz.func156 Tryz.ntmps156 (rs:=[.tmp 6]) (qh _ _ _) ?_;simp[go_sem,am,hk,av hk,zd];refine ag f1 (cC _) ?_;simp[go_sem,hpl,hpt,nb,h64,h64i,ah];exact aa trivial rfl
end Go.Proofs.YtmfnimjnneflnaaGreat
namespace Go.Sha
def qi(i:Ip):List Nat:=i.hash++le i.idx 4
def ry(i:Ip):List Nat:=le i.seq 4
def uC(o:Nat×List Nat):List Nat:=le o.1 8
def uX(o:Nat×List Nat):List Nat:=bX o.2
end Go.Sha
namespace Go.Proofs.YtmfnimjnneflnaaGreat
open Go.Am Go.Sha
def yF(l:List Nat):List AV:=de (E H0 l).1++[.d (nb (E H0 l).2),.d (.int .u64 (l.length:Int))]
theorem bw(ρ:Nat→Nat)(l:List Nat):AV.renL ρ (yF l)=yF l:=by rw[yF,fY];rfl
theorem jJ(n:Nat)(l:List Nat):∀v,v∈yF l→v.low1 n:=by
 intro v hv;simp[yF,de]at hv;rcases hv with rfl|rfl|rfl|rfl|rfl|rfl|rfl|rfl|rfl|rfl<;>trivial
theorem OQ(n:Nat):IOa n (de H0++[.nil,.d (.int .u64 0)]) (yF []):=F3 (de H0) [.d (.int .u64 0)] (.inr (.inr ⟨.inl rfl,.inr ⟨1,rfl⟩⟩))
theorem AL{st:St}(L:Nat)(h:lk L st.hp=some ⟨167,10,[de H0++[.nil,.d (.int .u64 0)]]⟩):Wk st ⟨st.fr,bW L ⟨167,10,[yF []]⟩ st.hp,st.nx⟩:=RG h (by decide) (OQ _)
theorem oc(l b:List Nat)(hl:l.length+b.length≤100000000000) :
  cj Tryz.prog 58 1 [(0,⟨167,10,[yF l]⟩)] [.ptr 0 0 0 1,.d (nb b)] (fun r hp'=>r=.tup []∧lk 0 hp'=some ⟨167,10,[yF (l++b)]⟩):=by
 have h:=zF _ H0 l (cR _);have:=Nh (E H0 l).1 (.d (nb (E H0 l).2)) (E H0 l).2 b l.length (.inl rfl) aq aq;rw[←zE b l.length H0 l (cR _),←b_]at this;exact this
theorem Df(ty:TypeId)(e:Nat)(row:List AV)(l b:List Nat)(hx0:(List.range 32).map (fun k=>(row.drop k).take 1)=List.map ((fun r=>List.map AV.d r)∘fun(x:Nat)=>[DV.int .u8 (x:Int)]) b)(hlow:∀n v,v∈row→v.low1 n)(hb32:b.length=32)(hl:l.length+b.length≤100000000000) :
  cj Tryz.prog 58 2 [(0,⟨167,10,[yF l]⟩),(1,⟨ty,e,[row]⟩)] [.ptr 0 0 0 1,.sub 1 0 0 1 32 32 1] (fun r hp'=>r=.tup []∧lk 0 hp'=some ⟨167,10,[yF (l++b)]⟩∧lk 1 hp'=some ⟨ty,e,[row]⟩):=by
 have h:=zF _ H0 l (cR _);have:=IG ty e row (E H0 l).1 (.d (nb (E H0 l).2)) (E H0 l).2 b l.length hx0 hlow (.inl rfl) aq hb32 aq;rw[←zE b l.length H0 l (cR _),←b_]at this;exact this
theorem wK(l:List Nat)(hl:l.length≤100000000000) :
  cj Tryz.prog 60 1 [(0,⟨167,10,[yF l]⟩)] [.ptr 0 0 0 1] (fun r hp'=>r=.agg (cb (bu l))∧lk 0 hp'=some ⟨167,10,[yF l]⟩):=by
 have h:=zF _ H0 l (cR _);exact BK (E H0 l).1 (.d (nb (E H0 l).2)) (E H0 l).2 l.length (.inl rfl) aq
theorem li{α:Type}{f:α→List Nat}{l:List α}:[]++d6 f l 0=(l.map f).flatten:=by simp[d6]
theorem E8(ρ:Nat→Nat)(i:Ip):AV.renL ρ (qU i)=qU i:=by
 unfold qU
 have:∀(l m:List AV),AV.renL ρ (l++m)=AV.renL ρ l++AV.renL ρ m:=fun l m=>by
  induction l with
  |nil=>simp[AV.renL]
  |cons a l ih=>simp[AV.renL,ih]
 rw[this,dh];rfl
theorem E9(t:Tn)(ht:Sm t):ay Tryz.prog 55 [.agg (eT t)] (fun r=>r=.agg (cb (bu (t.ins.map ry).flatten))):=by
 obtain⟨⟨hv,hlk,hi,ho⟩,h1,h2,h3,h4⟩:=ht;refine bL Tryz.func55 Tryz.ntmps55 (rs:=[.cell 2 29]) (by simp[AV.deep,AV.deep1,eT]) ?_;simp[go_sem,eT];refine aP [] mF rfl aw aw aw (by simp[AV.renL]) ?_;rintro r hp'⟨rfl,h0⟩;refine⟨[(97,0)],rfl,?_⟩;simp[go_sem,bO,bB,h0,Blk.ren,aM,fY,AV.ren,bQ];clear h0 hp';generalize hR0:(t.ins.map ry).flatten=R
 refine mD (fun u:Nat×List Nat=>⟨[(2,.ptr 32 0 0 1),(3,.ptr 64 0 0 1),(8,.d (.ro 35 (t.ins.map eI))),(9,.d (.int .i64 (t.ins.length:Int))),(10,.d (.int .i64 (u.1:Int)))],[(64,⟨167,10,[yF u.2]⟩),(32,⟨29,32,[cb z32]⟩)],2000⟩)
  (fun u=>u.1≤t.ins.length∧u.2.length≤4*u.1∧u.2++d6 ry t.ins u.1=R) (fun u=>t.ins.length-u.1) (0,[]) ⟨aw,aw,by rw[←hR0];exact li⟩ ((AL 64 rfl).trans (cB (by
   simp[aA,ai,fv,lk,bW,AV.low,AV.low1]
   exact⟨jJ _ _,aO _ _⟩))) ?_
 rintro⟨k,B⟩⟨hk,hBl,hR⟩;simp only at hk hBl hR;simp only[go_sem,Nat.reduceEqDiff,Nat.reduceAdd,Nat.reduceLT,↓reduceIte,Nat.reduceMul];refine⟨fun h=>?_,fun h=>?_⟩
 ·obtain⟨i,hi1,hd⟩:=bg (l:=t.ins) (k:=k) aq;obtain⟨hi32,hidx,hseq⟩:=hi i (cr hi1);have w3:=ax (k:=k) aq;have hel:=qS hi32;have hcl:=nG hi32;simp[go_sem,hi1,hel,zV,hcl,mO hi32,mP,PK hi32];refine bN [] (ig [] i.seq aw hseq) rfl (aj (.one (ak (.nil 1))) (aj (.deep a9) aD)) ?_;simp[go_sem,aE];refine aP [(0,64)] (oc B (le i.seq 4) (by rw[aJ];omega)) rfl aw (by simp[lk]) (by simp[lk,Blk.ren,aM,bw]) (by simp[AV.renL,AV.ren,bQ,gu,lk,eC]) ?_;rintro r hp'⟨rfl,h0⟩;refine⟨[],rfl,?_⟩;simp[go_sem,bO,bB,h0,Blk.ren,aM,bw,AV.renL,AV.ren,bQ,w3];refine ao (k+1,B++le i.seq 4) ⟨by simp only;omega,by simp only[b_,aJ];omega,dC hd hR⟩ (by simp only;omega) ?_;simp[aA,ai,fv,lk,AV.low,AV.low1];exact⟨jJ _ _,aO _ _⟩
 ·have hkl:k=t.ins.length:=aq;subst hkl;have:=dD hR;subst this;simp[go_sem];refine aP [(0,64)] (wK B aq) rfl aw (by simp[lk]) (by simp[lk,Blk.ren,aM,bw]) (by simp[AV.renL,AV.ren,bQ,gu,lk]) ?_;rintro r hp'⟨rfl,h0⟩;refine⟨[],rfl,?_⟩;have hL:=bc B;simp[go_sem,bO,bB,h0,Blk.ren,aM,bw,dh,AV.ren,bQ,hL,av hL,cz,ah];exact aa (by simp[AV.deep];exact cg _) rfl
theorem OR(t:Tn)(ht:Sm t):ay Tryz.prog 130 [.agg (eT t)] (fun r=>r=.agg (cb (bu (t.ins.map qi).flatten))):=by
 obtain⟨⟨hv,hlk,hi,ho⟩,h1,h2,h3,h4⟩:=ht;refine bL Tryz.func130 Tryz.ntmps130 (rs:=[.cell 2 29]) (by simp[AV.deep,AV.deep1,eT]) ?_;simp[go_sem,eT];refine aP [] mF rfl aw aw aw (by simp[AV.renL]) ?_;rintro r hp'⟨rfl,h0⟩;refine⟨[(97,0)],rfl,?_⟩;simp[go_sem,bO,bB,h0,Blk.ren,aM,fY,AV.ren,bQ];clear h0 hp';generalize hR0:(t.ins.map qi).flatten=R
 refine mD (fun u:Nat×List Nat=>⟨[(2,.ptr 32 0 0 1),(3,.ptr 64 0 0 1),(8,.d (.ro 35 (t.ins.map eI))),(9,.d (.int .i64 (t.ins.length:Int))),(10,.d (.int .i64 (u.1:Int)))],[(64,⟨167,10,[yF u.2]⟩),(32,⟨29,32,[cb z32]⟩)],2000⟩)
  (fun u=>u.1≤t.ins.length∧u.2.length≤36*u.1∧u.2++d6 qi t.ins u.1=R) (fun u=>t.ins.length-u.1) (0,[]) ⟨aw,aw,by rw[←hR0];exact li⟩ ((AL 64 rfl).trans (cB (by
   simp[aA,ai,fv,lk,bW,AV.low,AV.low1]
   exact⟨jJ _ _,aO _ _⟩))) ?_
 rintro⟨k,B⟩⟨hk,hBl,hR⟩;simp only at hk hBl hR;simp only[go_sem,Nat.reduceEqDiff,Nat.reduceAdd,Nat.reduceLT,↓reduceIte,Nat.reduceMul];refine⟨fun h=>?_,fun h=>?_⟩
 ·obtain⟨i,hi1,hd⟩:=bg (l:=t.ins) (k:=k) aq;obtain⟨hi32,hidx,hseq⟩:=hi i (cr hi1);have w3:=ax (k:=k) aq;have hel:=qS hi32;have hcl:=nG hi32;have hx:(List.range 32).map (fun k=>((qU i).drop k).take 1)=List.map ((fun r=>List.map AV.d r)∘fun(x:Nat)=>[DV.int .u8 (x:Int)]) i.hash:=by rw[zX hi32];simp[rb,Function.comp_def]
  simp[go_sem,hi1,hel,zV,hcl,mO hi32,mP];refine aP [(0,64),(1,2096)] (Df 68 35 (qU i) B i.hash hx (fun n=>NB n i) hi32 aq) rfl aw (by simp[lk]) (by simp[lk,Blk.ren,aM,bw,E8]) (by simp[AV.renL,AV.ren,bQ,gu,lk]) ?_;rintro r hp'⟨rfl,h0,h1⟩;refine⟨[],rfl,?_⟩;have hBl2:(B++i.hash).length=B.length+32:=by rw[b_,hi32]
  have hB3:B++qi i=B++i.hash++le i.idx 4:=by simp[qi]
  generalize B++i.hash=B1 at *;simp[go_sem,bO,bB,h0,h1,Blk.ren,aM,bw,E8,AV.renL,AV.ren,bQ,hcl,PI hi32];clear h0 h1 hp';refine bN [] (ig [] i.idx aw hidx) rfl (aj (.one (ak (.nil 1))) (aj (.deep a9) aD)) ?_;simp[go_sem,aE];refine aP [(0,64)] (oc B1 (le i.idx 4) (by rw[aJ];omega)) rfl aw (by simp[lk]) (by simp[lk,Blk.ren,aM,bw]) (by simp[AV.renL,AV.ren,bQ,gu,lk,eC]) ?_;rintro r hp'⟨rfl,h0⟩;refine⟨[],rfl,?_⟩;rw[←hB3]at h0;have hB4:(B++qi i).length=B1.length+4:=by rw[hB3,b_,aJ]
  simp[go_sem,bO,bB,h0,Blk.ren,aM,bw,AV.renL,AV.ren,bQ,w3];refine ao (k+1,B++qi i) ⟨by simp only;omega,by simp only;omega,dC hd hR⟩ (by simp only;omega) ?_;simp[aA,ai,fv,lk,AV.low,AV.low1];exact⟨jJ _ _,aO _ _⟩
 ·have hkl:k=t.ins.length:=aq;subst hkl;have:=dD hR;subst this;simp[go_sem];refine aP [(0,64)] (wK B aq) rfl aw (by simp[lk]) (by simp[lk,Blk.ren,aM,bw]) (by simp[AV.renL,AV.ren,bQ,gu,lk]) ?_;rintro r hp'⟨rfl,h0⟩;refine⟨[],rfl,?_⟩;have hL:=bc B;simp[go_sem,bO,bB,h0,Blk.ren,aM,bw,dh,AV.ren,bQ,hL,av hL,cz,ah];exact aa (by simp[AV.deep];exact cg _) rfl
theorem AM(os:List (Nat×List Nat))(hn:os.length≤8)(ho:∀o,o∈os→o.1<18446744073709551616∧o.2.length≤1100):ay Tryz.prog 56 [.d (.ro 2 (os.map eO))] (fun r=>r=.agg (cb (bu (os.map fy).flatten))):=by
 refine bL Tryz.func56 Tryz.ntmps56 (rs:=[.cell 2 29]) a9 ?_;simp[go_sem];refine aP [] mF rfl aw aw aw (by simp[AV.renL]) ?_;rintro r hp'⟨rfl,h0⟩;refine⟨[(97,0)],rfl,?_⟩;simp[go_sem,bO,bB,h0,Blk.ren,aM,fY,AV.ren,bQ];clear h0 hp';generalize hR0:(os.map fy).flatten=R
 refine mD (fun u:Nat×List Nat=>⟨[(2,.ptr 0 0 0 1),(3,.ptr 32 0 0 1),(7,.d (.ro 2 (os.map eO))),(8,.d (.int .i64 (os.length:Int))),(9,.d (.int .i64 (u.1:Int)))],[(32,⟨167,10,[yF u.2]⟩),(0,⟨29,32,[cb z32]⟩)],2000⟩)
  (fun u=>u.1≤os.length∧u.2.length≤1200*u.1∧u.2++d6 fy os u.1=R) (fun u=>os.length-u.1) (0,[]) ⟨aw,aw,by rw[←hR0];exact li⟩ ((AL 32 rfl).trans (cB (by
   simp[aA,ai,fv,lk,bW,AV.low,AV.low1]
   exact⟨jJ _ _,aO _ _⟩))) ?_
 rintro⟨k,B⟩⟨hk,hBl,hR⟩;simp only at hk hBl hR;simp only[go_sem,Nat.reduceEqDiff,Nat.reduceAdd,Nat.reduceLT,↓reduceIte,Nat.reduceMul];refine⟨fun h=>?_,fun h=>?_⟩
 ·obtain⟨o,ho1,hd⟩:=bg (l:=os) (k:=k) aq;obtain⟨ho64,hol⟩:=ho o (cr ho1);have w3:=ax (k:=k) aq;have hbl:=bT o.2.length;have hbb:(bX o.2).length=(au o.2.length).length+o.2.length:=by simp[bX]
  simp[go_sem,ho1,eO];refine bN [] (tM [] o.1 aw ho64) rfl (aj (.one (ak (.nil 1))) (aj (.deep a9) aD)) ?_;simp[go_sem,aE];refine aP [(0,32)] (oc B (le o.1 8) (by rw[aJ];omega)) rfl aw (by simp[lk]) (by simp[lk,Blk.ren,aM,bw]) (by simp[AV.renL,AV.ren,bQ,gu,lk,eC]) ?_;rintro r hp'⟨rfl,h0⟩;refine⟨[],rfl,?_⟩;have hBl2:(B++le o.1 8).length=B.length+8:=by rw[b_,aJ]
  have hB3:B++fy o=B++le o.1 8++bX o.2:=by simp[fy]
  generalize B++le o.1 8=B1 at *;simp[go_sem,bO,bB,h0,Blk.ren,aM,bw,AV.renL,AV.ren,bQ];clear h0 hp';refine bN [] (fj [] o.2 aw aq) rfl (aj (.one (ak (.nil 1))) (aj (.deep a9) aD)) ?_;simp[go_sem,aE];refine aP [(0,32)] (oc B1 (bX o.2) aq) rfl aw (by simp[lk]) (by simp[lk,Blk.ren,aM,bw]) (by simp[AV.renL,AV.ren,bQ,gu,lk,nb,bX]) ?_;rintro r hp'⟨rfl,h0⟩;refine⟨[],rfl,?_⟩;rw[←hB3]at h0;have hB4:(B++fy o).length=B1.length+(bX o.2).length:=by rw[hB3,b_]
  simp[go_sem,bO,bB,h0,Blk.ren,aM,bw,AV.renL,AV.ren,bQ,w3];refine ao (k+1,B++fy o) ⟨by simp only;omega,by simp only;omega,dC hd hR⟩ (by simp only;omega) ?_;simp[aA,ai,fv,lk,AV.low,AV.low1];exact⟨jJ _ _,aO _ _⟩
 ·have hkl:k=os.length:=aq;subst hkl;have:=dD hR;subst this;simp[go_sem];refine aP [(0,32)] (wK B aq) rfl aw (by simp[lk]) (by simp[lk,Blk.ren,aM,bw]) (by simp[AV.renL,AV.ren,bQ,gu,lk]) ?_;rintro r hp'⟨rfl,h0⟩;refine⟨[],rfl,?_⟩;have hL:=bc B;simp[go_sem,bO,bB,h0,Blk.ren,aM,bw,dh,AV.ren,bQ,hL,av hL,cz,ah];exact aa (by simp[AV.deep];exact cg _) rfl
end Go.Proofs.YtmfnimjnneflnaaGreat
namespace Go.Sha
def iP:List Nat:=[84,97,112,83,105,103,104,97,115,104]
end Go.Sha
namespace Go.Proofs.YtmfnimjnneflnaaGreat
open Go.Am Go.Sha
theorem K2(os:List (Nat×List Nat))(hn:os.length≤8)(ho:∀o,o∈os→o.1<18446744073709551616∧o.2.length≤1100):ay Tryz.prog 83 [.d (.ro 2 (os.map eO))] (fun r=>r=.tup [.agg (cb (bu (os.map uC).flatten)),.agg (cb (bu (os.map uX).flatten))]):=by
 refine bL Tryz.func83 Tryz.ntmps83 (rs:=[.cell 2 29,.cell 3 29]) a9 ?_;simp[go_sem];refine aP [] mF rfl aw aw aw (by simp[AV.renL]) ?_;rintro r hp'⟨rfl,h0⟩;refine⟨[(97,0)],rfl,?_⟩;simp[go_sem,bO,bB,h0,Blk.ren,aM,fY,AV.ren,bQ];clear h0 hp';refine aP [] mF rfl aw aw aw (by simp[AV.renL]) ?_;rintro r hp'⟨rfl,h0⟩;refine⟨[(97,0)],rfl,?_⟩;simp[go_sem,bO,bB,h0,Blk.ren,aM,fY,AV.ren,bQ];clear h0 hp';generalize hV0:(os.map uC).flatten=V;generalize hS0:(os.map uX).flatten=S
 refine mD (fun u:Nat×List Nat×List Nat=>⟨[(2,.ptr 0 0 0 1),(3,.ptr 32 0 0 1),(4,.ptr 64 0 0 1),(5,.ptr 96 0 0 1),(10,.d (.ro 2 (os.map eO))),(11,.d (.int .i64 (os.length:Int))),(12,.d (.int .i64 (u.1:Int)))],
   [(96,⟨167,10,[yF u.2.2]⟩),(64,⟨167,10,[yF u.2.1]⟩),(32,⟨29,32,[cb z32]⟩),(0,⟨29,32,[cb z32]⟩)],2000⟩)
  (fun u=>u.1≤os.length∧(u.2.1.length≤8*u.1∧u.2.2.length≤1200*u.1)∧u.2.1++d6 uC os u.1=V∧u.2.2++d6 uX os u.1=S) (fun u=>os.length-u.1) (0,[],[]) ⟨aw,aw,by rw[←hV0];exact li,by rw[←hS0];exact li⟩
  ((AL 64 rfl).trans ((AL 96 rfl).trans (cB (by
   simp[aA,ai,fv,lk,bW,AV.low,AV.low1]
   exact⟨jJ _ _,aO _ _⟩)))) ?_
 rintro⟨k,A,B⟩⟨hk,⟨hAl,hBl⟩,hV,hS⟩;simp only at hk hAl hBl hV hS;simp only[go_sem,Nat.reduceEqDiff,Nat.reduceAdd,Nat.reduceLT,↓reduceIte,Nat.reduceMul];refine⟨fun h=>?_,fun h=>?_⟩
 ·obtain⟨o,ho1,hd⟩:=bg (l:=os) (k:=k) aq;obtain⟨ho64,hol⟩:=ho o (cr ho1);have w3:=ax (k:=k) aq;have hbl:=bT o.2.length;have hbb:(bX o.2).length=(au o.2.length).length+o.2.length:=by simp[bX]
  simp[go_sem,ho1,eO];refine bN [] (tM [] o.1 aw ho64) rfl (aj (.one (ak (.nil 1))) (aj (.deep a9) aD)) ?_;simp[go_sem,aE];refine aP [(0,64)] (oc A (le o.1 8) (by rw[aJ];omega)) rfl aw (by simp[lk]) (by simp[lk,Blk.ren,aM,bw]) (by simp[AV.renL,AV.ren,bQ,gu,lk,eC]) ?_;rintro r hp'⟨rfl,h0⟩;refine⟨[],rfl,?_⟩;have hA2:(A++uC o).length=A.length+8:=by rw[b_,uC,aJ]
  rw[show A++le o.1 8=A++uC o from rfl]at h0;simp[go_sem,bO,bB,h0,Blk.ren,aM,bw,AV.renL,AV.ren,bQ];clear h0 hp';refine bN [] (fj [] o.2 aw aq) rfl (aj (.one (ak (.nil 1))) (aj (.deep a9) aD)) ?_;simp[go_sem,aE];refine aP [(0,96)] (oc B (bX o.2) aq) rfl aw (by simp[lk]) (by simp[lk,Blk.ren,aM,bw]) (by simp[AV.renL,AV.ren,bQ,gu,lk,nb,bX]) ?_;rintro r hp'⟨rfl,h0⟩;refine⟨[],rfl,?_⟩;have hB4:(B++uX o).length=B.length+(bX o.2).length:=by rw[b_];rfl
  rw[show B++bX o.2=B++uX o from rfl]at h0;simp[go_sem,bO,bB,h0,Blk.ren,aM,bw,AV.renL,AV.ren,bQ,w3];refine ao (k+1,A++uC o,B++uX o) ⟨by simp only;omega,⟨by simp only;omega,by simp only;omega⟩,dC hd hV,dC hd hS⟩ (by simp only;omega) ?_;simp[aA,ai,fv,lk,AV.low,AV.low1];exact⟨jJ _ _,jJ _ _,aO _ _⟩
 ·have hkl:k=os.length:=aq;subst hkl;have:=dD hV;subst this;have:=dD hS;subst this;have hLA:=bc A;have hLB:=bc B;simp[go_sem];refine aP [(0,64)] (wK A aq) rfl aw (by simp[lk]) (by simp[lk,Blk.ren,aM,bw]) (by simp[AV.renL,AV.ren,bQ,gu,lk]) ?_;rintro r hp'⟨rfl,h0⟩;refine⟨[],rfl,?_⟩;simp[go_sem,bO,bB,h0,Blk.ren,aM,bw,dh,AV.ren,bQ];clear h0 hp';refine aP [(0,96)] (wK B aq) rfl aw (by simp[lk]) (by simp[lk,Blk.ren,aM,bw]) (by simp[AV.renL,AV.ren,bQ,gu,lk]) ?_;rintro r hp'⟨rfl,h0⟩;refine⟨[],rfl,?_⟩;simp[go_sem,bO,bB,h0,Blk.ren,aM,bw,dh,AV.ren,bQ,hLA,hLB,av hLA,av hLB,cz,ah]
  exact aa (by
   intro c hc;simp at hc;rcases hc with rfl|rfl
   ·exact .inr ⟨_,rfl,cg _⟩
   ·exact .inr ⟨_,rfl,cg _⟩) rfl
theorem yG(t:Tn):∀v,v∈[AV.agg (eT t)]→v.deep:=by simp[AV.deep,AV.deep1,eT]
def TV:List Nat:=List.replicate 96 0
theorem TW:eW Tryz.prog 139=some (cb TV):=by kernel_rfl
def Fa:List Nat:=List.replicate 160 0
theorem OS:eW Tryz.prog 143=some (cb Fa):=by kernel_rfl
attribute [go_sem] TW OS
theorem AN:TV.length=96:=rfl
theorem rA:List.drop 96 (cb TV)=[]:=rfl
theorem wL:Fa.length=160:=by simp[Fa]
theorem Dh:List.drop 160 (cb Fa)=[]:=dg (by rw[am,wL];exact cR _)
theorem Di{A Z:List AV}{n m:Nat}(hA:A.length=n)(hm:n≤m):List.drop m (A++List.drop n Z)=List.drop m Z:=by
 rw[List.drop_append,dg aq,List.nil_append,List.drop_drop,hA,show n+(m-n)=m by omega]
theorem qj{A B Z:List AV}{n m:Nat}(hA:A.length=n)(hm:n≤m):List.take n (A++List.drop n Z)++(B++List.drop m (A++List.drop n Z))=A++B++List.drop m Z:=by
 rw[Di hA hm];subst hA;rw[List.take_left,cD]
theorem uD(a b:List Nat):cb (a++b)=cb a++cb b:=by simp[cb]
theorem K3(t:Tn)(ht:Sm t):ay Tryz.prog 82 [.agg (eT t)] (fun r=>r=.agg (cb (bu (t.ins.map qi).flatten++(bu (t.ins.map ry).flatten++bu (t.outs.map fy).flatten)))):=by
 refine bL Tryz.func82 Tryz.ntmps82 (rs:=[.cell 2 139]) (yG t) ?_;have p1:=OR t ht;have p2:=E9 t ht;have p3:=AM t.outs (by have:=ht.2.2.1;omega) (fun o h=>⟨ht.1.2.2.2 o h,by have:=ht.2.2.2.1 o h;omega⟩);have l1:=bc (t.ins.map qi).flatten;have l2:=bc (t.ins.map ry).flatten;have l3:=bc (t.outs.map fy).flatten;generalize bu (t.ins.map qi).flatten=a at *;generalize bu (t.ins.map ry).flatten=b at *;generalize bu (t.outs.map fy).flatten=c at *;have hT:eT t=[.d (.int .u32 (t.ver:Int)),.d (.ro 35 (t.ins.map eI)),.d (.ro 2 (t.outs.map eO)),.d (.int .u32 (t.lock:Int))]:=rfl;have hd:=yG t;rw[hT]at p1 p2 hd;simp[go_sem,eT];refine b7 [0,2,4,5] [(1,[]),(3,[]),(6,[7]),(8,[])] 3 (k:=9) ?_;intro G hG;simp[go_sem];refine ag p1 hd ?_;simp[go_sem];refine ag p2 hd ?_;simp[go_sem];refine ag p3 a9 ?_;simp[go_sem,am,l1,l2,l3,AN,rA];rw[Di (A:=cb a) (n:=32) (by rw[am,l1]) aq,←cD (cb a),qj (A:=cb a++cb b) (n:=64) (by simp[am,l1,l2]) aq,rA,List.append_nil];refine hG _ _ ?_;clear hG G;have hL:(cb a++cb b++cb c).length=96:=by simp[am,l1,l2,l3]
 have hT2:List.take 96 (cb a++cb b++cb c)=cb a++cb b++cb c:=cA aq;have hE:cb (a++(b++c))=cb a++cb b++cb c:=by rw[uD,uD,cD]
 have hD:=cg (a++(b++c));rw[hE]at hD;rw[hE];generalize cb a++cb b++cb c=R at *;simp[go_sem,hL,hT2,ah];exact aa hD rfl
end Go.Proofs.YtmfnimjnneflnaaGreat
