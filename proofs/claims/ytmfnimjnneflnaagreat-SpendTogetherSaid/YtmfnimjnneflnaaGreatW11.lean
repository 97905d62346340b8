/-
 Part 12 of what the claim rests on.
-/
import Derived.Test.YtmfnimjnneflnaaGreatW5
import Derived.Test.YtmfnimjnneflnaaGreatW6
import Derived.Test.YtmfnimjnneflnaaGreatW7
import Derived.Test.YtmfnimjnneflnaaGreatW10
set_option linter.unusedVariables false
set_option linter.unusedSimpArgs false
set_option maxRecDepth 100000
set_option maxHeartbeats 16000000
namespace Go.Proofs.YtmfnimjnneflnaaGreat
open Go.Am Go.Sha
theorem AU(r:Rn):(bw r).2.cl=r.cl:=by
 unfold bw
 split
 ·split
  ·unfold aB;split<;>rfl
  ·rfl
 ·rfl
theorem O0(most:Nat)(r:Rn):(dZ most r).2.cl=r.cl:=by
 have h:=AU r;unfold dZ;generalize bw r=p at *;simp only
 split
 ·cases fW most p.1 with
  |none=>simp only;unfold aB;split<;>exact h
  |some n=>exact h
 ·exact h
theorem kP{most:Nat}{r:Rn}(h:StOk r.main r.alt):StOk (dZ most r).2.main (dZ most r).2.alt:=by
 have h:=(dD h).1;unfold dZ;generalize bw r=p at *;simp only
 split
 ·cases fW most p.1 with
  |none=>exact ga h
  |some n=>exact h
 ·exact h
theorem E3{hp:Hp}{I:Nat→Prop}{id:Nat}{ty:TypeId}{cs:List (Int×Int)}(hb:lk id hp=some ⟨ty,2,cs.map LQ⟩)(hI:I id):SnapD hp I (.own id 0 cs.length cs.length) (.ro 2 (cs.map a8)):=by
 refine fh hb hI aw ?_ aw (fun r hr=>by
  obtain⟨x,_,rfl⟩:=List.mem_map.1 hr
  rfl)
 rw[List.drop_zero,cx aw]
 have e:cs.map LQ=(cs.map a8).map fun r=>r.map AV.d:=by
  rw[List.map_map];rfl
 rw[e];exact jV _
theorem TU (F:RnF) (x:Rx) (hi:F.inner.length=32) (htl:x.tpl.length=32) (htb:bytes x.tpl) (te:Int) (hT:au Tryz.prog 18 [.agg (eT F.t),.d (.int .i64 (F.n:Int))] (fun v=>v=.tup [.agg (cb x.tpl),.d (.int .i64 te)])) (r:Rn) (J:List Bool) (H:Nat) (hk:StOk r.main r.alt) :
    cO Tryz.prog 3 (aH (gG F)) 201 ⟨r,J,H⟩ [.ptr 0 0 0 1] (fun v s'=>s'=⟨CG x r,J,H⟩):=by
  refine ar Tryz.func201 (by kernel_rfl) rfl Tryz.ntmps201 (rs:=[]) rfl (d5 rfl) (by decide) ?_;have hC:=ep (F:=F) hi;have hz:z32.length=32:=rfl;obtain⟨hk2,hb1,hb2⟩:=yx hk;have hto:=JH hC r J H hk;unfold CG;generalize mB r=p at *;obtain⟨b,r2⟩:=p;simp only at hto hk2 hb1 hb2⊢;simp[go_sem];refine dS (Pp:=[]) hC hto aq aw (by simp[AV.renL,AV.ren]) ?_;rintro v s' ρ ⟨rfl,rfl⟩ hρ;rw[bF];simp only[aH,bH,bG,id,gG,eS];simp only[eT]at hT;simp[go_sem,AV.ren];refine dh [0,1,2,3,4,5,6,7,8,9] [10,14,15] [0,1,2,3,4,5,6,7,8,9,11,12,13,16] (.alt (.step 10 [11,12,13] true (bt 14 (.step 15 [16] true .done))) (bt 14 (.step 10 [11,12,13] true (.step 15 [16] true .done)))) ⟨[(0,.ptr 0 0 0 1),(2,.d (nb b)),(3,.ptr 548 0 0 1)],(548,⟨29,32,[cb x.tpl]⟩)::ia 3 (aH (gG F)) ⟨r2,J,H⟩ id,9000⟩ (k:=17) ?h3 ?hq
  case h3 =>
    intro G hG;simp (config := { maxSteps := 3000000 }) [go_sem]
    repeat' first
      |apply And.intro
      | (refine ag hT a9 ?_
         simp (config := { maxSteps := 3000000 }) [go_sem,ak,htl])
      | (refine hG _ _ (cf ⟨by simp [ai,fv,lk,AV.low,AV.low1],?_,aw⟩)
         intro p hp;rcases d_.1 hp with rfl|hp
         · refine ⟨.inl (by simp [lk,ak,hz]),by show 548<9000;omega,?_⟩
           intro r hr v hv;simp only[d_,List.mem_nil_iff,or_false]at hr;subst hr;obtain⟨y,_,rfl⟩:=List.mem_map.1 hv
           trivial
         · exact Xk hC (d5 rfl) (qC (by simp[lk,aH,bH,bG,gG,eS]) (by simp[lk,aH]) (by simp[lk,aH])) p hp)
  case hq =>
    simp[go_sem];refine d6 (fZ b x.tpl hb2 htb) rfl (aj (.deep trivial) (aj (.one (al (dW rfl trivial htl))) aC)) trivial ?_;by_cases hq:b=x.tpl
    · simp [go_sem,hq]
      rw[bF];exact aD (by simp[lk,aH,bH,bG,gG,eS]) rfl rfl
    · simp [go_sem,hq]
      refine aT (Pp:=[(548,⟨29,32,[cb x.tpl]⟩)]) hC (bE hC r2 J H 23) rfl (d5 rfl) (by intro p hp;simp at hp;subst hp;simp) (by simp[AV.renL,AV.ren]) ?_;rintro v s' ρ rfl hρ;rw[bF];generalize aB 23 r2=r';simp only[aH,bH,bG,id,gG,eS];simp[go_sem,ah];exact aD (by simp[lk,aH,bH,bG]) rfl rfl
theorem Qp{C:List AV}(hC:iC C)(ids:List Nat)(Pp:Hp){N:Nat}{hp:Hp}{g:FuncId}{s:RnS}{ars ars2:List AV}{R:AV→RnS→Prop}{K:AV→Hp→Prop}(h:cO Tryz.prog 3 (aH C) g s (.ptr 0 0 0 1::ars2) R)(hN:3≤N)
  (hd:∀p,p∈Pp++ia 3 (aH C) s id→lk p.1 (aE ids hp)=some p.2) (hl:ars.length=ars2.length) (hs:∀(i:Nat)(v v':AV),ars[i]?=some v→ars2[i]?=some v'→v'=v∨Snap hp (fun id=>id∈ids) v v') (hP:∀p,p∈Pp→p.1<N∧3≤p.1) (has:∀ ρ,AV.renL ρ ars2=ars2)
  (hK:∀v s' ρ,R v s'→(∀j,j<3→ρ j=j)→K (v.ren ρ) (Pp++ia 3 (aH C) s' id)):sJ Tryz.prog g (.ptr 0 0 0 1::ars) hp N K:=by
 refine cq ids Pp (args':=.ptr 0 0 0 1::ars2) (rJ hC) id h (aZ 3) (fun j hj=>by show j<N;omega) hd (by simp[hl]) ?_ (fun p hp=>⟨(hP p hp).1,fun j hj=>by have:=(hP p hp).2;show j≠p.1;omega⟩) ?_ hK
 ·intro i v v' h1 h2
  match i with
  |0=>simp at h1 h2;subst h1;subst h2;exact .inl rfl
  |i+1=>exact hs i v v' h1 h2
 ·rw[AV.renL,has,AV.ren];rfl
theorem E4{hp:Hp}{I:Nat→Prop}{l:List AV}:∀(i:Nat)(v v':AV),([]:List AV)[i]?=some v→l[i]?=some v'→v'=v∨Snap hp I v v':=by intro i v v' h;simp at h
theorem qD{hp:Hp}{I:Nat→Prop}{a a':AV}{args args':List AV}(h:a'=a∨Snap hp I a a')(t:∀(i:Nat)(v v':AV),args[i]?=some v→args'[i]?=some v'→v'=v∨Snap hp I v v'):∀(i:Nat)(v v':AV),(a::args)[i]?=some v→(a'::args')[i]?=some v'→v'=v∨Snap hp I v v':=by
 intro i v v' h1 h2
 match i with
 |0=>simp at h1 h2;subst h1;subst h2;exact h
 |i+1=>exact t i v v' h1 h2
theorem O1(F:RnF)(x:Rx)(hi:F.inner.length=32)(hR:∀(h:bg)(o:Int),bytes h→h.length≤1000→au Tryz.prog 234 [.agg (eS F.t (F.n:Int) F.coins),.d (nb h),.d (.int .i64 o)] (fun v=>v=NZ (x.rcv h o)))(r:Rn)(J:List Bool)(hk:StOk r.main r.alt)(hc:r.cl.length≤100000) :
  cO Tryz.prog 3 (aH (gG F)) 203 ⟨r,J,0⟩ [.ptr 0 0 0 1] (fun v s'=>s'=⟨x8 x r,J,0⟩):=by
 refine ar Tryz.func203 (by kernel_rfl) rfl Tryz.ntmps203 (rs:=[]) rfl (d5 rfl) (by decide) ?_;have hC:=ep (F:=F) hi;obtain⟨hk2,hb1,hb2⟩:=dD hk;have hcl:(bw r).2.cl=r.cl:=AU r;have hta:=kj hC r J 0 hk;unfold x8;generalize bw r=p at *;obtain⟨h,r2⟩:=p;simp only at hta hk2 hb1 hb2 hcl⊢;have htn:=sr hC r2 J 0 hk2 4 aq;have hk3:=kP (most:=4) hk2;have hcl2:(dZ 4 r2).2.cl=r2.cl:=O0 4 r2;generalize dZ 4 r2=p at *;obtain⟨o,r3⟩:=p;simp only at htn hk3 hcl2⊢;have hR:=hR h o hb2 hb1;simp only[eS]at hR;generalize x.rcv h o=q at *;obtain⟨c1,c2,e⟩:=q;simp[go_sem];refine dS (Pp:=[]) hC hta aq aw (by simp[AV.renL,AV.ren]) ?_;rintro v s' ρ ⟨rfl,rfl⟩ hρ;simp[go_sem,AV.ren];refine dS (Pp:=[]) hC htn aq aw (by simp[AV.renL,AV.ren]) ?_;rintro v s' ρ ⟨rfl,rfl⟩ hρ;simp[go_sem,AV.ren];refine dS (Pp:=[]) hC (eG hC r3 J 0) aq aw (by simp[AV.renL,AV.ren]) ?_;rintro v s' ρ' ⟨rfl,rfl⟩ hρ';by_cases he:r3.e=0
 ·rw[bF];simp only[aH,bH,bG,id,gG,eS];simp[go_sem,AV.ren,he];refine ag hR a9 ?_;simp[go_sem,NZ];refine Qp hC [772] [] (s:=⟨r3,J,0⟩) (ars2:=[.d (.ro 2 ([(c1,c2)].map a8)),.d (.int .i64 e)]) (EZ hC r3 J hk3 [(c1,c2)] e (by rw[hcl2,hcl];exact hc) aw) aq ?_ rfl (qD (.inr (.one (al (E3 (cs:=[(c1,c2)]) rfl aw)))) (qD (.inl rfl) E4)) aw (by simp[AV.renL,AV.ren]) ?_
  ·exact qC (by simp[aE,lk,aH,bH,bG,gG,eS,he]) (by simp[aE,lk,aH]) (by simp[aE,lk,aH])
  rintro v s' ρ rfl hρ;rw[bF];generalize u7 [(c1,c2)] e r3=r';simp only[aH,bH,bG,id,gG,eS];simp[go_sem,ah];exact aD (by simp[lk,aH,bH,bG]) rfl rfl
 ·simp[go_sem,AV.ren,he,ah];rw[bF];exact aD rfl rfl rfl
theorem TV (F:RnF) (x:Rx) (hi:F.inner.length=32) (hs:F.script.length≤100000) (hml:x.msg.length=32) (me:Int)
    (hM:au Tryz.prog 43 [.agg (eS F.t (F.n:Int) F.coins),.d (nb (j5 F.script)),.d (nb F.annex)] (fun v=>v=.tup [.agg (cb x.msg),.d (.int .i64 me)])) (r:Rn) (J:List Bool) (H:Nat) :
    cT Tryz.prog 226 3 (ia 3 (aH (gG F)) ⟨r,J,H⟩ id) [.ptr 0 0 0 1] (fun v hp'=>v=.sub 708 0 0 1 32 32 1∧lk 708 hp'=some ⟨29,32,[cb x.msg]⟩∧sB 3 (aH (gG F)) ⟨r,J,H⟩ id hp'):=by
  refine ar Tryz.func226 (by kernel_rfl) rfl Tryz.ntmps226 (rs:=[.tmp 2]) rfl (d5 rfl) (by decide) ?_;have hC:=ep (F:=F) hi;have hz:z32.length=32:=rfl;have hth:=r7 F.script hs;have hbl:(eu [84,97,112,76,101,97,102] (192::(aL F.script.length++F.script))).length=32:=rk F.script;rw[bF];simp only[aH,bH,bG,id,gG,eS,ay]
  have h39:∀l:List AV,(cb F.inner++(AV.d (dX F.path)::AV.d (nb F.script)::l))[33]?=some (.d (nb F.script)):=fun l=>by
    rw[dn (by rw[ak,hi];omega),ak,hi];rfl
  have h40:∀l:List AV,(cb F.inner++(AV.d (dX F.path)::AV.d (nb F.script)::AV.d (nb F.annex)::l))[34]?=some (.d (nb F.annex)):=fun l=>by
    rw[dn (by rw[ak,hi];omega),ak,hi];rfl
  simp[go_sem,h39];refine ag hth a9 ?_;have hd0:List.drop 32 (cb z32)=[]:=rfl;have hlB:eu [84,97,112,76,101,97,102] (192::(aL F.script.length++F.script))=j5 F.script:=rfl;rw[hlB]at hbl⊢;generalize j5 F.script=lb at *;simp only[eS]at hM;simp[go_sem,ak,hz,hbl,hd0]
  have hfl:(AV.tup [.agg (cb x.msg),.d (.int .i64 me)]).flat:=by
    intro c hc;simp at hc;rcases hc with rfl|rfl
    · refine .inr ⟨_,rfl,fun y hy=>?_⟩
      obtain⟨z,_,rfl⟩:=List.mem_map.1 hy
      trivial
    · exact .inl trivial
  refine dh [0,1,2,3,4,5,6,7,8] [9,13,14] [0,1,2,3,4,5,6,7,8,10,11,12,15] (.alt (.step 9 [10,11,12] true (bt 13 (.step 14 [15] true .done))) (bt 13 (.step 9 [10,11,12] true (.step 14 [15] true .done)))) ⟨[(4,.ptr 708 0 0 1)],(708,⟨29,32,[cb x.msg]⟩)::ia 3 (aH (gG F)) ⟨r,J,H⟩ id,9000⟩ (k:=16) ?h3 ?hq
  case h3 =>
    intro G hG;simp (config := { maxSteps := 3000000 }) [go_sem,h40,ak,hbl]
    repeat' first
      |apply And.intro
      | (refine d6 hM rfl (aj (.deep a9) (aj (.one (al (dW rfl trivial hbl))) (aj (.deep trivial) aC))) hfl ?_
         simp (config := { maxSteps := 3000000 }) [go_sem,ak,hml,hz])
      | (refine hG _ _ (cf ⟨by simp [ai,fv,lk,AV.low,AV.low1],?_,aw⟩)
         intro p hp;rcases d_.1 hp with rfl|hp
         · refine ⟨.inl (by simp [lk,ak,hz,hd0]),by show 708<9000;omega,?_⟩
           intro r hr v hv;simp only[d_,List.mem_nil_iff,or_false]at hr;subst hr;obtain⟨y,_,rfl⟩:=List.mem_map.1 hv
           trivial
         · exact Xk hC (d5 rfl) (qC (by simp[lk,aH,bH,bG,gG,eS,ay]) (by simp[lk,aH]) (by simp[lk,aH])) p hp)
  case hq =>
    simp[go_sem,ah];rw[bF];exact aD (by simp[lk,aH,bH,bG,gG,eS,ay]) rfl rfl
theorem TW(F:RnF)(x:Rx)(hi:F.inner.length=32)(hs:F.script.length≤100000)(hml:x.msg.length=32)(me:Int)
  (hM:au Tryz.prog 43 [.agg (eS F.t (F.n:Int) F.coins),.d (nb (j5 F.script)),.d (nb F.annex)] (fun v=>v=.tup [.agg (cb x.msg),.d (.int .i64 me)])) {s:RnS} {N:Nat} {K:AV→Hp→Prop} (hN:3≤N)
  (hK:K (.sub N 0 0 1 32 32 1) ((N,⟨29,32,[cb x.msg]⟩)::ia 3 (aH (gG F)) s id)):sJ Tryz.prog 226 [.ptr 0 0 0 1] (ia 3 (aH (gG F)) s id) N K:=by
 have hC:=ep (F:=F) hi;have ho:=rJ hC;have hid:∀j,j<3→bT (j8 3 id id) 3 (id j)=j:=fun j hj=>sQ id 3 (aZ 3) hj;have hnw:cv (j8 3 id id) [(708,0)]=true:=B8 aq;have h708:wm 3 id [(708,0)] N 708=N:=xN (c:=708) (j:=0) hnw aw
 refine .inl (nN (n:=3) (b0:=aH (gG F) s id) id (TV F x hi hs hml me hM s.r s.J s.H) (fun i x hi=>Ea i x hi) (aZ 3) (fun j hj=>by show j<N;omega)
  (fun j hj=>⟨_,xJ _ (aZ 3) hj,ho.2 _ _ _ hj,(ho.1 s id _ id j hj hid).symm⟩) ?_ [(708,0)] hnw ?_)
 ·rw[AV.renL,AV.renL,AV.ren];rfl
 ·rintro r' hp'⟨rfl,hb,hs'⟩hpX q1 q2 q3;have hro:∀j,j<3→wm 3 id [(708,0)] N (id j)=id j:=fun j hj=>xM hnw hj;refine⟨(N,⟨29,32,[cb x.msg]⟩)::ia 3 (aH (gG F)) s id,fun i b h=>?_,?_⟩
  ·simp only[lk]at h
   split at h
   ·rename_i e;subst e
    cases h
    have h2:=q2 708 0 aw _ hb
    have e:Blk.ren (wm 3 id [(708,0)] N) ⟨29,32,[cb x.msg]⟩=⟨29,32,[cb x.msg]⟩:=by
     simp only[Blk.ren,aV,List.map_cons,List.map_nil,qd,cb,List.map_map];rfl
    rw[e]at h2;exact h2
   ·obtain⟨j,hj,e⟩:=lM.1 (bO h)
    cases e
    have h2:=q1 j hj _ (hs' j hj);rw[ho.1 s id _ id j hj hro]at h2;exact h2
  ·rw[AV.ren,h708];exact hK
theorem E5(m:bg):au Tryz.prog 228 [.rop [nb m]] (fun v=>v=.d (nb m)):=by
 refine bC Tryz.func228 Tryz.ntmps228 (rs:=[.tmp 1]) a9 ?_;simp[go_sem,ah];exact aa trivial rfl
def TX(sg:bg→bg→bg→Bool):Prop:=∀key msg sig:bg,key.length=32→bytes key→bytes msg→bytes sig→msg.length≤1000→sig.length≤1000→au Tryz.prog 156 [.agg (cb key),.d (nb msg),.d (nb sig)] (fun v=>v=.d (.bool (sg key sig msg)))
theorem qE(key:bg):(key.map fun(b:Nat)=>[DV.int .u8 (b:Int)]).flatten=cd key:=by
 unfold cd
 induction key with
 |nil=>rfl
 |cons a l ih=>simp only[List.map_cons,List.flatten_cons,ih];rfl
theorem E6{hp:Hp}{key:bg}:Snap hp (fun _=>True) (.agg (cb key)) (.agg (cb key)):=.deep (dB _)
theorem KW{C:List AV}(hC:iC C)(msg:bg)(hmb:bytes msg)(hml:msg.length≤1000)(sg:bg→bg→bg→Bool)(hV:TX sg)(r:Rn)(J:List Bool)(H:Nat)(key sig:bg)(hkb:bytes key)(hsb:bytes sig)(hkl:key.length≤1000)(hsl:sig.length≤1000)(hbd:-9223372036854775808≤r.bud)(hbd2:r.bud<9223372036854775808) :
  cO Tryz.prog 3 (aH C) 225 ⟨r,J,H⟩ [.ptr 0 0 0 1,.d (nb key),.d (nb sig),.fn 228 [.rop [nb msg]]] (fun v s'=>v=.d (.bool (fw sg key sig msg r).1)∧s'=⟨(fw sg key sig msg r).2,J,H⟩):=by
 refine ar Tryz.func225 (by kernel_rfl) rfl Tryz.ntmps225 (rs:=[.tmp 8]) rfl (d5 rfl) (by decide) ?_;have hl:=hC.2.2;simp[go_sem];refine dS (Pp:=[]) hC (eG hC r J H) aq aw (by simp[AV.renL,AV.ren]) ?_;rintro v s' ρ ⟨rfl,rfl⟩ hρ;by_cases he:r.e=0
 ·by_cases hs0:sig.length=0
  ·have hv:fw sg key sig msg r=(false,r):=by simp[fw,hs0]
   rw[hv];have hs0i:(sig.length:Int)=0:=aq;simp[go_sem,AV.ren,he,nb,hs0,hs0i,ah];rw[bF];exact aD rfl rfl rfl
  ·have hs0i:¬(sig.length:Int)=0:=aq;by_cases hb5:r.bud<50
   ·have hv:fw sg key sig msg r=(false,aB 21 r):=by simp[fw,hs0,he,hb5]
    rw[hv];simp[go_sem,AV.ren,he,nb,hs0,hs0i];rw[bF];simp only[aH,bH,bG,id];simp[go_sem,hl,hb5];refine aT (Pp:=[]) (s:=⟨r,J,H⟩) hC (bE hC r J H 21) (by simp[bF,aH,bH,bG,he]) aq aw (by simp[AV.renL,AV.ren]) ?_;rintro v s' ρ rfl hρ;rw[bF];generalize aB 21 r=r';simp only[aH,bH,bG,id];simp[go_sem,ah];exact aD rfl rfl rfl
   ·have hv:fw sg key sig msg r=if key.length=32∧sg key sig msg=true then(true,{ r with bud:=r.bud-50 })else(false,aB 20 { r with bud:=r.bud-50 }):=by
     simp only[fw,hs0,he,hb5,if_false,ne_eq,not_false_eq_true,and_self,if_true]
    rw[hv];have w1:IntKind.i64.wrap (r.bud-50)=r.bud-50:=IntWalk.i64_in _ aq;simp[go_sem,AV.ren,he,nb,hs0,hs0i];rw[bF];simp only[aH,bH,bG,id];simp[go_sem,hl,hb5,w1];have hsh:∀l:List AV,l=l:=fun _=>rfl;obtain⟨main,alt,br,bud,cl,e⟩:=r;simp only at he hb5 w1 hbd hbd2⊢;subst he;have hid2:iy ⟨main,alt,br,bud,cl,0⟩=iy ⟨main,alt,br,bud-50,cl,0⟩:=rfl;rw[hid2];have hfl:=bE hC ⟨main,alt,br,bud-50,cl,0⟩ J H 20;by_cases h32:key.length=32
    ·have hve:=hV key msg sig h32 hkb hmb hsb;have h32i:(key.length:Int)=32:=aq
     cases hg:sg key sig msg with
     |true =>
      rw[hg]at hve;rw[if_pos ⟨h32,rfl⟩];simp[go_sem,h32,h32i];refine ca [0,1,2,3,4,5,6,7,9] [(8,[]),(10,[11,12])] 2 (k:=13) ?_;intro G hG;simp[go_sem,h32,h32i,AV.ren,qE,eg,am h32,ak];refine ag (E5 msg) a9 ?_;simp[go_sem];refine ag (hve hml hsl) (by intro v hv;simp at hv;rcases hv with rfl|rfl|rfl;exact dB _;trivial;trivial) ?_;simp[go_sem];refine hG _ _ ?_;clear hG G;simp[go_sem,ah];exact aD rfl rfl rfl
     |false =>
      rw[hg]at hve;rw[if_neg (fun h=>by cases h.2)];simp[go_sem,h32,h32i];refine ca [0,1,2,3,4,5,6,7,9] [(8,[]),(10,[11,12])] 2 (k:=13) ?_;intro G hG;simp[go_sem,h32,h32i,AV.ren,qE,eg,am h32,ak];refine ag (E5 msg) a9 ?_;simp[go_sem];refine ag (hve hml hsl) (by intro v hv;simp at hv;rcases hv with rfl|rfl|rfl;exact dB _;trivial;trivial) ?_;simp[go_sem];refine hG _ _ ?_;clear hG G;simp[go_sem];refine aT (Pp:=[]) (s:=⟨⟨main,alt,br,bud-50,cl,0⟩,J,H⟩) hC hfl (by simp[bF,aH,bH,bG]) aq aw (by simp[AV.renL,AV.ren]) ?_;rintro v s' ρ rfl hρ;rw[bF];generalize aB 20 ⟨main,alt,br,bud-50,cl,0⟩=r';simp only[aH,bH,bG,id];simp[go_sem,ah];exact aD rfl rfl rfl
    ·have h32i:¬(key.length:Int)=32:=aq;rw[if_neg (fun h=>h32 h.1)];simp[go_sem,h32,h32i];refine ca [0,1,2,3,4,5,6,7,9] [(8,[]),(10,[11,12])] 2 (k:=13) ?_;intro G hG;simp[go_sem,h32,h32i,AV.ren];refine hG _ _ ?_;clear hG G;simp[go_sem];refine aT (Pp:=[]) (s:=⟨⟨main,alt,br,bud-50,cl,0⟩,J,H⟩) hC hfl (by simp[bF,aH,bH,bG]) aq aw (by simp[AV.renL,AV.ren]) ?_;rintro v s' ρ rfl hρ;rw[bF];generalize aB 20 ⟨main,alt,br,bud-50,cl,0⟩=r';simp only[aH,bH,bG,id];simp[go_sem,ah];exact aD rfl rfl rfl
 ·have hv:fw sg key sig msg r=(false,r):=by simp[fw,he]
  rw[hv];simp[go_sem,AV.ren,he,ah];rw[bF];exact aD rfl rfl rfl
theorem E7(F:RnF)(x:Rx)(hi:F.inner.length=32)(hs:F.script.length≤100000)(hml:x.msg.length=32)(me:Int)
  (hM:au Tryz.prog 43 [.agg (eS F.t (F.n:Int) F.coins),.d (nb (j5 F.script)),.d (nb F.annex)] (fun v=>v=.tup [.agg (cb x.msg),.d (.int .i64 me)])) {s:RnS} {N:Nat} {hp:Hp} {K:AV→Hp→Prop} (he:hp=ia 3 (aH (gG F)) s id) (hN:3≤N)
  (hK:K (.sub N 0 0 1 32 32 1) ((N,⟨29,32,[cb x.msg]⟩)::ia 3 (aH (gG F)) s id)):sJ Tryz.prog 226 [.ptr 0 0 0 1] hp N K:=he▸TW F x hi hs hml me hM hN hK
theorem uE(F:RnF)(x:Rx)(hi:F.inner.length=32)(hs:F.script.length≤100000)(hml:x.msg.length=32)(hmb:bytes x.msg)(me:Int)(hM:au Tryz.prog 43 [.agg (eS F.t (F.n:Int) F.coins),.d (nb (j5 F.script)),.d (nb F.annex)] (fun v=>v=.tup [.agg (cb x.msg),.d (.int .i64 me)]))(sg:bg→bg→bg→Bool)(hV:TX sg)(r:Rn)(J:List Bool)(H:Nat)(key sig:bg)(hkb:bytes key)(hsb:bytes sig)(hkl:key.length≤1000)(hsl:sig.length≤1000)(hbd:-9223372036854775808≤r.bud)(hbd2:r.bud<9223372036854775808) :
  cO Tryz.prog 3 (aH (gG F)) 225 ⟨r,J,H⟩ [.ptr 0 0 0 1,.d (nb key),.d (nb sig),.mth 226 [.ptr 0 0 0 1]] (fun v s'=>v=.d (.bool (fw sg key sig x.msg r).1)∧s'=⟨(fw sg key sig x.msg r).2,J,H⟩):=by
 have hC:=ep (F:=F) hi;generalize hCF:gG F=C at *;refine ar Tryz.func225 (by kernel_rfl) rfl Tryz.ntmps225 (rs:=[.tmp 8]) rfl (d5 rfl) (by decide) ?_;have hl:=hC.2.2;simp[go_sem];refine dS (Pp:=[]) hC (eG hC r J H) aq aw (by simp[AV.renL,AV.ren]) ?_;rintro v s' ρ ⟨rfl,rfl⟩ hρ;by_cases he:r.e=0
 ·by_cases hs0:sig.length=0
  ·have hv:fw sg key sig x.msg r=(false,r):=by simp[fw,hs0]
   rw[hv];have hs0i:(sig.length:Int)=0:=aq;simp[go_sem,AV.ren,he,nb,hs0,hs0i,ah];rw[bF];exact aD rfl rfl rfl
  ·have hs0i:¬(sig.length:Int)=0:=aq;by_cases hb5:r.bud<50
   ·have hv:fw sg key sig x.msg r=(false,aB 21 r):=by simp[fw,hs0,he,hb5]
    rw[hv];simp[go_sem,AV.ren,he,nb,hs0,hs0i];rw[bF];simp only[aH,bH,bG,id];simp[go_sem,hl,hb5];refine aT (Pp:=[]) (s:=⟨r,J,H⟩) hC (bE hC r J H 21) (by simp[bF,aH,bH,bG,he]) aq aw (by simp[AV.renL,AV.ren]) ?_;rintro v s' ρ rfl hρ;rw[bF];generalize aB 21 r=r';simp only[aH,bH,bG,id];simp[go_sem,ah];exact aD rfl rfl rfl
   ·have hv:fw sg key sig x.msg r=if key.length=32∧sg key sig x.msg=true then(true,{ r with bud:=r.bud-50 })else(false,aB 20 { r with bud:=r.bud-50 }):=by
     simp only[fw,hs0,he,hb5,if_false,ne_eq,not_false_eq_true,and_self,if_true]
    rw[hv];have w1:IntKind.i64.wrap (r.bud-50)=r.bud-50:=IntWalk.i64_in _ aq;simp[go_sem,AV.ren,he,nb,hs0,hs0i];rw[bF];simp only[aH,bH,bG,id];simp[go_sem,hl,hb5,w1];have hsh:∀l:List AV,l=l:=fun _=>rfl;obtain⟨main,alt,br,bud,cl,e⟩:=r;simp only at he hb5 w1 hbd hbd2⊢;subst he;have hid2:iy ⟨main,alt,br,bud,cl,0⟩=iy ⟨main,alt,br,bud-50,cl,0⟩:=rfl;rw[hid2];have hfl:=bE hC ⟨main,alt,br,bud-50,cl,0⟩ J H 20;by_cases h32:key.length=32
    ·have hve:=hV key x.msg sig h32 hkb hmb hsb;have h32i:(key.length:Int)=32:=aq
     cases hg:sg key sig x.msg with
     |true =>
      rw[hg]at hve;rw[if_pos ⟨h32,rfl⟩];simp[go_sem,h32,h32i];refine ca [0,1,2,3,4,5,6,7,9] [(8,[]),(10,[11,12])] 2 (k:=13) ?_;intro G hG;simp[go_sem,h32,h32i,AV.ren,qE,eg,am h32,ak];refine E7 F x hi hs hml me hM (s:=⟨⟨main,alt,br,bud-50,cl,0⟩,J,H⟩) (by simp[hCF,bF,aH,bH,bG]) aq ?_;rw[bF,hCF];simp only[aH,bH,bG,id];simp[go_sem];refine d6 (hve aq hsl) rfl (aj E6 (aj (.one (al (dW rfl trivial hml))) (aj (.deep trivial) aC))) trivial ?_;simp[go_sem];refine hG _ _ ?_;clear hG G;simp[go_sem,ah];exact aD rfl rfl rfl
     |false =>
      rw[hg]at hve;rw[if_neg (fun h=>by cases h.2)];simp[go_sem,h32,h32i];refine ca [0,1,2,3,4,5,6,7,9] [(8,[]),(10,[11,12])] 2 (k:=13) ?_;intro G hG;simp[go_sem,h32,h32i,AV.ren,qE,eg,am h32,ak];refine E7 F x hi hs hml me hM (s:=⟨⟨main,alt,br,bud-50,cl,0⟩,J,H⟩) (by simp[hCF,bF,aH,bH,bG]) aq ?_;rw[bF,hCF];simp only[aH,bH,bG,id];simp[go_sem];refine d6 (hve aq hsl) rfl (aj E6 (aj (.one (al (dW rfl trivial hml))) (aj (.deep trivial) aC))) trivial ?_;simp[go_sem];refine hG _ _ ?_;clear hG G;simp[go_sem];refine aT (Pp:=[(964,⟨29,32,[cb x.msg]⟩)]) (s:=⟨⟨main,alt,br,bud-50,cl,0⟩,J,H⟩) hC hfl (by simp[bF,aH,bH,bG]) aq aw (by simp[AV.renL,AV.ren]) ?_;rintro v s' ρ rfl hρ;rw[bF];generalize aB 20 ⟨main,alt,br,bud-50,cl,0⟩=r';simp only[aH,bH,bG,id];simp[go_sem,ah];exact aD rfl rfl rfl
    ·have h32i:¬(key.length:Int)=32:=aq;rw[if_neg (fun h=>h32 h.1)];simp[go_sem,h32,h32i];refine ca [0,1,2,3,4,5,6,7,9] [(8,[]),(10,[11,12])] 2 (k:=13) ?_;intro G hG;simp[go_sem,h32,h32i,AV.ren];refine hG _ _ ?_;clear hG G;simp[go_sem];refine aT (Pp:=[]) (s:=⟨⟨main,alt,br,bud-50,cl,0⟩,J,H⟩) hC hfl (by simp[bF,aH,bH,bG]) aq aw (by simp[AV.renL,AV.ren]) ?_;rintro v s' ρ rfl hρ;rw[bF];generalize aB 20 ⟨main,alt,br,bud-50,cl,0⟩=r';simp only[aH,bH,bG,id];simp[go_sem,ah];exact aD rfl rfl rfl
 ·have hv:fw sg key sig x.msg r=(false,r):=by simp[fw,he]
  rw[hv];simp[go_sem,AV.ren,he,ah];rw[bF];exact aD rfl rfl rfl
structure RnL(r r':Rn):Prop where
 br:r'.br=r.br
 cl:r'.cl=r.cl
 bud:r'.bud=r.bud
theorem gr(x:Int)(r:Rn):RnL r (aB x r):=by unfold aB;split<;>exact⟨rfl,rfl,rfl⟩
theorem RnL.trans{a b c:Rn}(h:RnL a b)(h2:RnL b c):RnL a c:=⟨h2.br.trans h.br,h2.cl.trans h.cl,h2.bud.trans h.bud⟩
theorem jo(r:Rn):RnL r (bw r).2:=by
 unfold bw
 split
 ·split
  ·exact gr _ _
  ·exact⟨rfl,rfl,rfl⟩
 ·exact⟨rfl,rfl,rfl⟩
theorem nk(most:Nat)(r:Rn):RnL r (dZ most r).2:=by
 have h:=jo r;unfold dZ;generalize bw r=p at *;simp only
 split
 ·cases fW most p.1 with
  |none=>exact h.trans (gr _ _)
  |some n=>exact h
 ·exact h
theorem KX(b:bg)(r:Rn):RnL r (ek b r):=by
 unfold ek
 split
 ·split
  ·exact⟨rfl,rfl,rfl⟩
  ·exact gr _ _
 ·exact⟨rfl,rfl,rfl⟩
def gu(b:Int):Prop:=-9223372036854775808≤b∧b<9223372036854775808
theorem uF(sg:bg→bg→bg→Bool)(key sig msg:bg)(r:Rn)(h:gu r.bud)(hk:StOk r.main r.alt):(fw sg key sig msg r).2.br=r.br∧(fw sg key sig msg r).2.cl=r.cl∧gu (fw sg key sig msg r).2.bud∧StOk (fw sg key sig msg r).2.main (fw sg key sig msg r).2.alt:=by
 have bd:¬r.bud<50→gu (r.bud-50):=fun hh=>⟨by have:=h.2;omega,by have:=h.2;omega⟩;unfold fw
 split
 ·split
  ·have:=gr 21 r;exact⟨this.br,this.cl,by rw[this.bud];exact h,ga hk⟩
  ·split
   ·exact⟨rfl,rfl,bd ‹_›,hk⟩
   ·have:=gr 20 { r with bud:=r.bud-50 };exact⟨this.br,this.cl,by rw[this.bud];exact bd ‹_›,ga hk⟩
 ·exact⟨rfl,rfl,h,hk⟩
theorem E8{r:Rn}(h:StOk r.main r.alt):-2147483648<(dZ 4 r).1∧(dZ 4 r).1<2147483648:=by
 obtain⟨_,_,hb⟩:=dD h;unfold dZ;generalize bw r=p at *;simp only
 split
 ·cases hd:fW 4 p.1 with
  |none=>simp only;omega
  |some n=>exact Es hb hd
 ·simp only;omega
structure RnE(F:RnF)(x:Rx):Prop where
 hi:F.inner.length=32
 hs:F.script.length≤100000
 ml:x.msg.length=32
 mb:bytes x.msg
 mg:∃me:Int,au Tryz.prog 43 [.agg (eS F.t (F.n:Int) F.coins),.d (nb (j5 F.script)),.d (nb F.annex)] (fun v=>v=.tup [.agg (cb x.msg),.d (.int .i64 me)])
 vf:TX x.sg
 tl:x.tpl.length=32
 tb:bytes x.tpl
 tg:∃te:Int,au Tryz.prog 18 [.agg (eT F.t),.d (.int .i64 (F.n:Int))] (fun v=>v=.tup [.agg (cb x.tpl),.d (.int .i64 te)])
 rc:∀(h:bg)(o:Int),bytes h→h.length≤1000→au Tryz.prog 234 [.agg (eS F.t (F.n:Int) F.coins),.d (nb h),.d (.int .i64 o)] (fun v=>v=NZ (x.rcv h o))
 tr:∀(s:bg)(o0 o1 back:Int),bytes s→s.length≤100000→-9223372036854775808≤back→back<9223372036854775808→au Tryz.prog 27 [.agg (eS F.t (F.n:Int) F.coins),de F.inner F.path F.script,.d (nb s),.agg [.d (.int .i64 o0),.d (.int .i64 o1)],.d (.int .i64 back)]
  (fun v=>v=.tup [.d (.ro 2 ((x.trg s o0 o1 back).1.map a8)),.d (.int .i64 (x.trg s o0 o1 back).2)])∧(x.trg s o0 o1 back).1.length≤2
 sq:∃i:Ip,F.t.ins[F.n]?=some i∧i.ok∧x.seq=(i.seq:Int)
 lk:F.t.lock<4294967296∧x.lock=(F.t.lock:Int)
 vr:F.t.ver<4294967296∧x.ver=(F.t.ver:Int)
 hh:x.h1=aO∧x.h2=dR
theorem KY{C:List AV}(hC:iC C){N:Nat}{g:FuncId}{s:RnS}{ars:List AV}{R:AV→RnS→Prop}{K:AV→Hp→Prop}(h:cO Tryz.prog 3 (aH C) g s (.ptr 0 0 0 1::ars) R)(hN:3≤N)(has:AV.renL (bT (j8 3 id id) 3) ars=ars)
  (hK:∀v s' ρ,R v s'→(∀j,j<3→ρ j=j)→K (v.ren ρ) (ia 3 (aH C) s' id)):sJ Tryz.prog g (.ptr 0 0 0 1::ars) (ia 3 (aH C) s id) N K:=by
 refine sR (Pp:=[]) (rJ hC) h (aZ 3) (fun j hj=>by show j<N;omega) aw ?_ hK;rw[AV.renL,has,AV.ren];rfl
theorem sY(F:RnF)(x:Rx)(E:RnE F x)(op:Nat)(ho:op=172∨op=173∨op=186∨op=204)(r:Rn)(J:List Bool)(H:Nat)(hk:StOk r.main r.alt)(hbd:gu r.bud) :
  cO Tryz.prog 3 (aH (gG F)) 198 ⟨r,J,H⟩ [.ptr 0 0 0 1,.d (.int .u8 (op:Int))] (fun v s'=>s'=⟨rH x op r,J,H⟩):=by
 refine ar Tryz.func198 (by kernel_rfl) rfl Tryz.ntmps198 (rs:=[]) rfl (d5 rfl) (by decide) ?_;have hC:=ep (F:=F) E.hi;have hl:=hC.2.2;obtain⟨me,hM⟩:=E.mg;have hta:=kj hC r J H hk;obtain⟨hk2,hb1,hb2⟩:=dD hk;have hbd2:gu (bw r).2.bud:=by rw[(jo r).bud];exact hbd
 unfold rH;generalize bw r=p at *;obtain⟨key,r2⟩:=p;simp only at hta hk2 hb1 hb2 hbd2⊢;rcases ho with rfl|rfl|rfl|rfl
 ·have hT:=True.intro;have htb:=kj hC r2 J H hk2;obtain⟨hk3,hc21,hc22⟩:=dD hk2;have hbd3:gu (bw r2).2.bud:=by rw[(jo r2).bud];exact hbd2
  generalize bw r2=p at *;obtain⟨sig,r3⟩:=p;simp only at htb hk3 hc21 hc22 hbd3⊢;have hsg:=uE F x E.hi E.hs E.ml E.mb me hM x.sg E.vf r3 J H key sig hb2 hc22 hb1 hc21 hbd3.1 hbd3.2;obtain⟨_,_,_,hk9⟩:=uF x.sg key sig x.msg r3 hbd3 hk3;generalize fw x.sg key sig x.msg r3=p at *;obtain⟨b,r9⟩:=p;simp only at hsg hk9⊢;have hpu:=o9 hC r9 J H hk9 (iL b) (by cases b<;>simp[iL]);simp[go_sem];refine dS (Pp:=[]) hC hta aq aw (by simp[AV.renL,AV.ren]) ?_;rintro v s' ρ ⟨rfl,rfl⟩ hρ;simp[go_sem,AV.ren,pT];refine dS (Pp:=[]) hC htb aq aw (by simp[AV.renL,AV.ren]) ?_;rintro v s' ρ ⟨rfl,rfl⟩ hρ;simp[go_sem,AV.ren,pT];refine KY hC hsg aq rfl ?_;rintro v s' ρ ⟨rfl,rfl⟩ hρ;simp[go_sem,AV.ren];refine ag (lR b) a9 ?_;simp[go_sem];refine aT (Pp:=[]) hC hpu (List.nil_append _).symm aq aw (by simp[AV.renL,AV.ren]) ?_;rintro v s' ρ rfl hρ;rw[bF];generalize ek (iL b) r9=r';simp only[aH,bH,bG,id];simp[go_sem,ah];exact aD rfl rfl rfl
 ·have hT:=True.intro;have htb:=kj hC r2 J H hk2;obtain⟨hk3,hc21,hc22⟩:=dD hk2;have hbd3:gu (bw r2).2.bud:=by rw[(jo r2).bud];exact hbd2
  generalize bw r2=p at *;obtain⟨sig,r3⟩:=p;simp only at htb hk3 hc21 hc22 hbd3⊢;have hsg:=uE F x E.hi E.hs E.ml E.mb me hM x.sg E.vf r3 J H key sig hb2 hc22 hb1 hc21 hbd3.1 hbd3.2;obtain⟨_,_,_,hk9⟩:=uF x.sg key sig x.msg r3 hbd3 hk3;generalize fw x.sg key sig x.msg r3=p at *;obtain⟨b,r9⟩:=p;simp only at hsg hk9⊢;simp[go_sem];refine dS (Pp:=[]) hC hta aq aw (by simp[AV.renL,AV.ren]) ?_;rintro v s' ρ ⟨rfl,rfl⟩ hρ;simp[go_sem,AV.ren,pT];refine dS (Pp:=[]) hC htb aq aw (by simp[AV.renL,AV.ren]) ?_;rintro v s' ρ ⟨rfl,rfl⟩ hρ;simp[go_sem,AV.ren,pT];refine KY hC hsg aq rfl ?_;rintro v s' ρ ⟨rfl,rfl⟩ hρ
  cases b with
  |true =>
   simp[go_sem,AV.ren];rw[bF];exact aD rfl rfl rfl
  |false =>
   simp[go_sem,AV.ren];refine aT (Pp:=[]) hC (bE hC r9 J H 16) (List.nil_append _).symm aq aw (by simp[AV.renL,AV.ren]) ?_;rintro v s' ρ rfl hρ;rw[bF];generalize aB 16 r9=r';simp only[aH,bH,bG,id];simp[go_sem,ah];exact aD rfl rfl rfl
 ·have hT:=True.intro;have hnb:=sr hC r2 J H hk2 4 aq;have hk3:=kP (most:=4) hk2;have hbd3:gu (dZ 4 r2).2.bud:=by rw[(nk 4 r2).bud];exact hbd2
  have hn31:=E8 hk2;generalize dZ 4 r2=p at *;obtain⟨n,r3⟩:=p;simp only at hnb hk3 hbd3 hn31⊢;have htb:=kj hC r3 J H hk3;obtain⟨hk4,hc31,hc32⟩:=dD hk3;have hbd4:gu (bw r3).2.bud:=by rw[(jo r3).bud];exact hbd3
  generalize bw r3=p at *;obtain⟨sig,r4⟩:=p;simp only at htb hk4 hc31 hc32 hbd4⊢;have hsg:=uE F x E.hi E.hs E.ml E.mb me hM x.sg E.vf r4 J H key sig hb2 hc32 hb1 hc31 hbd4.1 hbd4.2;obtain⟨_,_,_,hk9⟩:=uF x.sg key sig x.msg r4 hbd4 hk4;generalize fw x.sg key sig x.msg r4=p at *;obtain⟨b,r9⟩:=p;simp only at hsg hk9⊢;have w1:IntKind.i64.wrap (n+1)=n+1:=IntWalk.i64_in _ (by have:=hn31.1;have:=hn31.2;omega);simp[go_sem];refine dS (Pp:=[]) hC hta aq aw (by simp[AV.renL,AV.ren]) ?_;rintro v s' ρ ⟨rfl,rfl⟩ hρ;simp[go_sem,AV.ren,pT];refine dS (Pp:=[]) hC hnb aq aw (by simp[AV.renL,AV.ren]) ?_;rintro v s' ρ ⟨rfl,rfl⟩ hρ;simp[go_sem,AV.ren,pT];refine dS (Pp:=[]) hC htb aq aw (by simp[AV.renL,AV.ren]) ?_;rintro v s' ρ ⟨rfl,rfl⟩ hρ;simp[go_sem,AV.ren,pT];refine KY hC hsg aq rfl ?_;rintro v s' ρ ⟨rfl,rfl⟩ hρ
  cases b with
  |true =>
   have hpu:=o9 hC r9 J H hk9 (gp (n+1)) (by have:=lj (n+1);omega);simp[go_sem,AV.ren,w1];refine ag (lJ (n+1) (by have:=hn31.1;omega) (by have:=hn31.2;omega)) a9 ?_;simp[go_sem];refine aT (Pp:=[]) hC hpu (List.nil_append _).symm aq aw (by simp[AV.renL,AV.ren]) ?_;rintro v s' ρ rfl hρ;rw[bF];generalize ek (gp (n+1)) r9=r';simp only[aH,bH,bG,id];simp[go_sem,ah];exact aD rfl rfl rfl
  |false =>
   have hpu:=o9 hC r9 J H hk9 (gp (n)) (by have:=lj (n);omega);simp[go_sem,AV.ren,w1];refine ag (lJ (n) (by have:=hn31.1;omega) (by have:=hn31.2;omega)) a9 ?_;simp[go_sem];refine aT (Pp:=[]) hC hpu (List.nil_append _).symm aq aw (by simp[AV.renL,AV.ren]) ?_;rintro v s' ρ rfl hρ;rw[bF];generalize ek (gp (n)) r9=r';simp only[aH,bH,bG,id];simp[go_sem,ah];exact aD rfl rfl rfl
 ·have hT:=True.intro;have hmb:=kj hC r2 J H hk2;obtain⟨hk3,hc21,hc22⟩:=dD hk2;have hbd3:gu (bw r2).2.bud:=by rw[(jo r2).bud];exact hbd2
  generalize bw r2=p at *;obtain⟨msg,r3⟩:=p;simp only at hmb hk3 hc21 hc22 hbd3⊢;have htb:=kj hC r3 J H hk3;obtain⟨hk4,hc31,hc32⟩:=dD hk3;have hbd4:gu (bw r3).2.bud:=by rw[(jo r3).bud];exact hbd3
  generalize bw r3=p at *;obtain⟨sig,r4⟩:=p;simp only at htb hk4 hc31 hc32 hbd4⊢;have hsg:=KW hC msg hc22 hc21 x.sg E.vf r4 J H key sig hb2 hc32 hb1 hc31 hbd4.1 hbd4.2;obtain⟨_,_,_,hk9⟩:=uF x.sg key sig msg r4 hbd4 hk4;generalize fw x.sg key sig msg r4=p at *;obtain⟨b,r9⟩:=p;simp only at hsg hk9⊢;have hpu:=o9 hC r9 J H hk9 (iL b) (by cases b<;>simp[iL]);simp[go_sem];refine dS (Pp:=[]) hC hta aq aw (by simp[AV.renL,AV.ren]) ?_;rintro v s' ρ ⟨rfl,rfl⟩ hρ;simp[go_sem,AV.ren,pT];refine dS (Pp:=[]) hC hmb aq aw (by simp[AV.renL,AV.ren]) ?_;rintro v s' ρ ⟨rfl,rfl⟩ hρ;simp[go_sem,AV.ren,pT];refine aT (Pp:=[(452,⟨31,1,[[.d (nb msg)]]⟩)]) hC htb rfl aq (by intro p hp;simp at hp;subst hp;simp) (by simp[AV.renL,AV.ren]) ?_;rintro v s' ρ ⟨rfl,rfl⟩ hρ;simp[go_sem,AV.ren,Vp]
  refine Qp hC [452] [] (s:=⟨r4,J,H⟩) (ars2:=[.d (nb key),.d (nb sig),.fn 228 [.rop [nb msg]]]) hsg aq (qC rfl rfl rfl) rfl
   (qD (.inl rfl) (qD (.inl rfl) (qD (.inr (.fnp (b:=⟨31,1,[[.d (nb msg)]]⟩) aw rfl rfl rfl (qV [nb msg]))) E4))) aw (fun ρ=>rfl) ?_
  rintro v s' ρ ⟨rfl,rfl⟩ hρ;simp[go_sem,AV.ren];refine ag (lR b) a9 ?_;simp[go_sem];refine aT (Pp:=[]) hC hpu (List.nil_append _).symm aq aw (by simp[AV.renL,AV.ren]) ?_;rintro v s' ρ rfl hρ;rw[bF];generalize ek (iL b) r9=r';simp only[aH,bH,bG,id];simp[go_sem,ah];exact aD rfl rfl rfl
theorem kp:∀(j:Nat)(r:Rn),cG (j+1) r=((bw (cG j r).2).1::(cG j r).1,(bw (cG j r).2).2)
 |0,r=>rfl
 |j+1,r=>by
  have h:=kp j (bw r).2;rw[cG,h];rfl
theorem oa:∀(j:Nat)(r:Rn),(cG j r).1.length=j
 |0,r=>rfl
 |j+1,r=>by rw[kp,List.length_cons,oa j r]
theorem uG{r:Rn}(h:StOk r.main r.alt):∀j,StOk (cG j r).2.main (cG j r).2.alt∧∀x,x∈(cG j r).1→x.length≤1000∧bytes x
 |0=>⟨h,fun x hx=>by cases hx⟩
 |j+1=>by
  obtain⟨h1,h2⟩:=uG h j;obtain⟨h3,h4,h5⟩:=dD h1;rw[kp];refine⟨h3,fun x hx=>?_⟩;rcases d_.1 hx with rfl|hx
  ·exact⟨h4,h5⟩
  ·exact h2 x hx
theorem E9:∀(j:Nat)(r:Rn),RnL r (cG j r).2
 |0,r=>⟨rfl,rfl,rfl⟩
 |j+1,r=>by rw[kp];exact(E9 j r).trans (jo _)
def yA(k:Nat)(l:List bg):List (List AV):=List.replicate k [AV.nil]++l.map nO
theorem O2(k:Nat)(x:bg)(l:List bg):(yA (k+1) l).set k [.d (nb x)]=yA k (x::l):=by
 unfold yA;rw[List.set_append_left _ _ aw];rw[List.replicate_succ',List.set_append_right _ _ aw];simp[nO]
theorem O3(l:List bg):yA 0 l=cM l []:=by simp[yA,cM]
theorem KZ{C:List AV}(hC:iC C)(r:Rn)(J:List Bool)(H:Nat)(hk:StOk r.main r.alt)(n:Int)(hn1:-2147483648<n)(hn2:n<2147483648) :
  cT Tryz.prog 232 3 (ia 3 (aH C) ⟨r,J,H⟩ id) [.ptr 0 0 0 1,.d (.int .i64 n)] (fun v hp'=>sB 3 (aH C) ⟨(gP n r).2,J,H⟩ id hp' ∧
   ((v=.nil∧(gP n r).2.e≠0)∨(v=.own 548 0 (gP n r).1.length (gP n r).1.length∧lk 548 hp'=some ⟨31,1,cM (gP n r).1 []⟩))):=by
 refine ar Tryz.func232 (by kernel_rfl) rfl Tryz.ntmps232 (rs:=[.tmp 4]) rfl (d5 rfl) (by decide) ?_;have hl:=hC.2.2;by_cases h0:n<0∨(r.main.length:Int)<n
 ·have hv:gP n r=([],aB 12 r):=by
   unfold gP;rw[if_pos h0];exact if_neg (yb aq)
  have hne:(aB 12 r).e≠0:=yb aq;have hf:=bE hC r J H 12;rw[hv];generalize aB 12 r=r2 at *;rw[bF];simp only[aH,bH,bG,id];have tail:True:=trivial;by_cases hn0:n<0
  ·simp[go_sem,hl,hn0];refine aT (Pp:=[]) (s:=⟨r,J,H⟩) hC hf (by simp[bF,aH,bH,bG]) aq aw (by simp[AV.renL,AV.ren]) ?_;rintro v s' ρ rfl hρ;simp[go_sem];refine dS (Pp:=[]) hC (eG hC r2 J H) aq aw (by simp[AV.renL,AV.ren]) ?_;rintro v s' ρ ⟨rfl,rfl⟩ hρ;simp[go_sem,AV.ren,hne,ah];rw[bF];exact aD rfl rfl rfl
  ·have hn3:(r.main.length:Int)<n:=h0.resolve_left hn0;simp[go_sem,hl,hn0,hn3];refine aT (Pp:=[]) (s:=⟨r,J,H⟩) hC hf (by simp[bF,aH,bH,bG]) aq aw (by simp[AV.renL,AV.ren]) ?_;rintro v s' ρ rfl hρ;simp[go_sem];refine dS (Pp:=[]) hC (eG hC r2 J H) aq aw (by simp[AV.renL,AV.ren]) ?_;rintro v s' ρ ⟨rfl,rfl⟩ hρ;simp[go_sem,AV.ren,hne,ah];rw[bF];exact aD rfl rfl rfl
 ·have hn0:¬n<0:=fun h=>h0 (.inl h);have hn3:¬(r.main.length:Int)<n:=fun h=>h0 (.inr h);obtain⟨m,rfl⟩:∃m:Nat,n=(m:Int):=⟨n.toNat,aq⟩;have hm:m≤1000:=by have:=hk.m;omega
  have hn4:¬r.main.length<m:=aq;rw[bF];simp only[aH,bH,bG,id];simp[go_sem,hl,hn0,hn3,hn4];refine aT (Pp:=[]) (s:=⟨r,J,H⟩) hC (eG hC r J H) (by simp[bF,aH,bH,bG]) aq aw (by simp[AV.renL,AV.ren]) ?_;rintro v s' ρ ⟨rfl,rfl⟩ hρ;by_cases he:r.e=0
  ·have hv:gP (m:Int) r=cG m r:=by
    unfold gP;rw[if_neg h0];exact if_pos he
   rw[hv];have w1:IntKind.i64.wrap ((m:Int)-1)=(m:Int)-1:=IntWalk.i64_in _ aq;simp[go_sem,AV.ren,he,w1];refine⟨aq,aq,aq,?_⟩
   have hlw:∀k l,∀q,q∈yA k l→∀v,v∈q→v.low1 9000:=by
    intro k l q hq v hv;rcases cD.1 hq with h|h
    ·rw[List.eq_of_mem_replicate h]at hv;simp only[d_,List.mem_nil_iff,or_false]at hv;subst hv;trivial
    ·obtain⟨x,_,rfl⟩:=List.mem_map.1 h;simp only[nO,d_,List.mem_nil_iff,or_false]at hv;subst hv;trivial
   have hwk:∀(fr:Fr)(hp:Hp)(nx j:Nat),(fv 0 fr=.ptr 0 0 0 1∧fv 5 fr=.own 548 0 m m∧fv 6 fr=.d (.int .i64 ((m:Int)-1-(j:Int))))→lk 548 hp=some ⟨31,1,yA (m-j) (cG j r).1⟩→(∀p,p∈ia 3 (aH C) ⟨(cG j r).2,J,H⟩ id→lk p.1 hp=some p.2) →
     az ⟨fr,hp,nx⟩ ⟨[(0,.ptr 0 0 0 1),(5,.own 548 0 m m),(6,.d (.int .i64 ((m:Int)-1-(j:Int))))],(548,⟨31,1,yA (m-j) (cG j r).1⟩)::ia 3 (aH C) ⟨(cG j r).2,J,H⟩ id,9000⟩:=by
    rintro fr hp nx j⟨q0,q1,q2⟩h1 h2;refine⟨?_,fun p hp'=>?_,.inr (by show 64≤9000;omega)⟩
    ·intro p hp';simp only[d_,List.mem_nil_iff,or_false]at hp';rcases hp' with rfl|rfl|rfl
     ·exact⟨.inl q0.symm,by simp[AV.low,AV.low1]⟩
     ·exact⟨.inl q1.symm,by simp[AV.low,AV.low1]⟩
     ·exact⟨.inl q2.symm,by simp[AV.low,AV.low1]⟩
    ·rcases d_.1 hp' with rfl|hp'
     ·exact⟨.inl h1,by show 548<9000;omega,hlw _ _⟩
     ·exact Xk hC (d5 rfl) h2 p hp'
   refine av (fun j:Nat=>⟨[(0,.ptr 0 0 0 1),(5,.own 548 0 m m),(6,.d (.int .i64 ((m:Int)-1-(j:Int))))],(548,⟨31,1,yA (m-j) (cG j r).1⟩)::ia 3 (aH C) ⟨(cG j r).2,J,H⟩ id,9000⟩)
    (fun j=>j≤m) (fun j=>m-j) 0 aq (hwk _ _ _ 0 (by simp[fv,lk]) (by simp[lk,yA,cG]) (qC rfl rfl rfl)) ?_
   intro j hj;by_cases hjm:j=m
   ·subst hjm;have c0:¬(0:Int)≤(j:Int)-1-(j:Int):=aq;have c1:((j:Int)-1-(j:Int))<0:=aq;simp[go_sem,c0,c1,ah];refine⟨fun h=>aq,fun _=>⟨?_,(oa _ _).symm,O3 _⟩⟩;rw[bF];exact aD rfl rfl rfl
   ·have hjm2:j<m:=aq;have e1:(m:Int)-1-(j:Int)=((m-(j+1):Nat):Int):=aq;obtain⟨hkj,hxj⟩:=uG hk j;have hsn:=kp j r;have hlen:(yA (m-j) (cG j r).1).length=m:=by simp[yA,oa];omega
    have hset:(yA (m-j) (cG j r).1).set (m-(j+1)) [.d (nb (bw (cG j r).2).1)]=yA (m-(j+1)) (cG (j+1) r).1:=by
     rw[hsn,show m-j=(m-(j+1))+1 by omega];exact O2 _ _ _
    have hat:(yA (m-j) (cG j r).1)[m-(j+1)]?=some [.nil]:=by
     unfold yA;rw[List.getElem?_append_left (by simp;omega),List.getElem?_replicate,if_pos aq]
    have hsg:∀h:m-(j+1)<(yA (m-j) (cG j r).1).length,(yA (m-j) (cG j r).1)[m-(j+1)]=[.nil]:=fun h=>Option.some.inj ((cm h).symm.trans hat);have hta:=kj hC (cG j r).2 J H hkj;have w2:IntKind.i64.wrap (((m-(j+1):Nat):Int)-1)=(m:Int)-1-((j+1:Nat):Int):=by rw[IntWalk.i64_in _ aq];omega
    have hlt:m-(j+1)<m:=aq;have hlti:((m-(j+1):Nat):Int)<(m:Int):=aq;rw[e1];generalize hq:m-(j+1)=q at *;simp[go_sem];refine aT (Pp:=[(548,⟨31,1,yA (m-j) (cG j r).1⟩)]) hC hta rfl aq (by intro p hp;simp at hp;subst hp;simp) (by simp[AV.renL,AV.ren]) ?_;rintro v s' ρ ⟨rfl,rfl⟩ hρ;simp[go_sem,AV.ren,hlen,hlt,hlti,w2,hat,hsg,hset];refine ao (j+1) aq aq (hwk _ _ _ (j+1) (by simp[fv,lk]) ?_ ?_)
    ·rw[hq];simp[lk,hset]
    ·rw[hsn];exact qC rfl rfl rfl
  ·have hv:gP (m:Int) r=([],r):=by
    unfold gP;rw[if_neg h0];exact if_neg he
   rw[hv];simp[go_sem,AV.ren,he,ah];rw[bF];exact aD rfl rfl rfl
theorem TY{C:List AV}(hC:iC C)(r:Rn)(J:List Bool)(H:Nat)(hk:StOk r.main r.alt)(n:Int)(hn1:-2147483648<n)(hn2:n<2147483648){N:Nat}{K:AV→Hp→Prop}(hN:3≤N)
  (h1:(gP n r).2.e≠0→K .nil (ia 3 (aH C) ⟨(gP n r).2,J,H⟩ id))
  (h2:K (.own N 0 (gP n r).1.length (gP n r).1.length) ((N,⟨31,1,cM (gP n r).1 []⟩)::ia 3 (aH C) ⟨(gP n r).2,J,H⟩ id)):sJ Tryz.prog 232 [.ptr 0 0 0 1,.d (.int .i64 n)] (ia 3 (aH C) ⟨r,J,H⟩ id) N K:=by
 have ho:=rJ hC;have hid:∀j,j<3→bT (j8 3 id id) 3 (id j)=j:=fun j hj=>sQ id 3 (aZ 3) hj;have hnw:cv (j8 3 id id) [(548,0)]=true:=B8 aq;have h548:wm 3 id [(548,0)] N 548=N:=xN (c:=548) (j:=0) hnw aw
 refine .inl (nN (n:=3) (b0:=aH C ⟨r,J,H⟩ id) id (KZ hC r J H hk n hn1 hn2) (fun i x hi=>Ea i x hi) (aZ 3) (fun j hj=>by show j<N;omega)
  (fun j hj=>⟨_,xJ _ (aZ 3) hj,ho.2 _ _ _ hj,(ho.1 _ id _ id j hj hid).symm⟩) ?_ [(548,0)] hnw ?_)
 ·rw[AV.renL,AV.renL,AV.renL,AV.ren];rfl
 ·rintro r' hp'⟨hs',hv⟩hpX q1 q2 q3;have hro:∀j,j<3→wm 3 id [(548,0)] N (id j)=id j:=fun j hj=>xM hnw hj
  have ob:∀i b,lk i (ia 3 (aH C) ⟨(gP n r).2,J,H⟩ id)=some b→lk i hpX=some b:=by
   intro i b h;obtain⟨j,hj,e⟩:=lM.1 (bO h)
   cases e
   have h2:=q1 j hj _ (hs' j hj);rw[ho.1 _ id _ id j hj hro]at h2;exact h2
  rcases hv with ⟨rfl,he⟩|⟨rfl,hb⟩
  ·exact⟨_,ob,h1 he⟩
  ·refine⟨_,fun i b h=>?_,by rw[AV.ren,h548];exact h2⟩;simp only[lk]at h
   split at h
   ·rename_i e;subst e
    cases h
    have h3:=q2 548 0 aw _ hb
    have e:Blk.ren (wm 3 id [(548,0)] N) ⟨31,1,cM (gP n r).1 []⟩=⟨31,1,cM (gP n r).1 []⟩:=by
     simp only[Blk.ren,kJ]
    rw[e]at h3;exact h3
   ·exact ob i b h
theorem Xl{b:bg}{n:Int}(hb:bytes b)(h:fW 8 b=some n):-9223372036854775808≤n∧n<9223372036854775808:=by
 unfold fW at h
 split at h
 ·rename_i h1;obtain rfl:=Option.some.inj h;have hl:b.length≤8:=aq;rcases eE b with rfl|⟨a,x,rfl⟩
  ·decide
  ·have hx:x<256:=hb x aw;have ha:=rA (b:=a) (fun y hy=>hb y (List.mem_append_left _ hy));simp at hl;rw[nM];have hc:a.length=0∨a.length=1∨a.length=2∨a.length=3∨a.length=4∨a.length=5∨a.length=6∨a.length=7:=aq;rcases hc with e|e|e|e|e|e|e|e<;>rw[e]at ha⊢<;>simp at ha⊢<;>split<;>omega
 ·cases h
theorem K0{r:Rn}(h:StOk r.main r.alt):-9223372036854775808≤(dZ 8 r).1∧(dZ 8 r).1<9223372036854775808:=by
 obtain⟨_,_,hb⟩:=dD h;unfold dZ;generalize bw r=p at *;simp only
 split
 ·cases hd:fW 8 p.1 with
  |none=>simp only;omega
  |some n=>exact Xl hb hd
 ·simp only;omega
theorem K1{most:Nat}{r:Rn}(h:r.e≠0):dZ most r=(0,r):=by
 have ht:bw r=([],r):=if_neg h;unfold dZ;rw[ht];exact if_neg h
theorem Dc{r:Rn}(h:StOk r.main r.alt)(n:Int):StOk (gP n r).2.main (gP n r).2.alt∧(∀x,x∈(gP n r).1→x.length≤1000∧bytes x)∧(gP n r).1.length≤1000∧RnL r (gP n r).2:=by
 unfold gP;simp only
 split
 ·rename_i hb
  split
  ·rename_i he;exact absurd he (yb aq)
  ·exact⟨ga h,fun x hx=>(by cases hx),aw,gr _ _⟩
 ·rename_i hb
  split
  ·obtain⟨h1,h2⟩:=uG h n.toNat
   exact⟨h1,h2,by rw[oa];have:=h.m;omega,E9 _ _⟩
  ·exact⟨h,fun x hx=>(by cases hx),aw,⟨rfl,rfl,rfl⟩⟩
theorem Df{l:List bg}{b:bg}(h:(rl l b).2=0):(rl l b).1.length≤1000:=by
 unfold rl at h⊢
 cases hu:tM [] l with
 |none=>rw[hu]at h;simp at h
 |some out =>
  rw[hu]at h;simp only at h⊢
  split at h
  ·simp at h
  ·rename_i h2;rw[if_neg h2];simp only;omega
theorem O4(F:RnF)(x:Rx)(E:RnE F x)(r:Rn)(J:List Bool)(hk:StOk r.main r.alt)(hc:r.cl.length≤100000) :
  cO Tryz.prog 3 (aH (gG F)) 202 ⟨r,J,0⟩ [.ptr 0 0 0 1] (fun v s'=>s'=⟨x9 x r,J,0⟩):=by
 refine ar Tryz.func202 (by kernel_rfl) rfl Tryz.ntmps202 (rs:=[]) rfl (d5 rfl) (by decide) ?_;have hC:=ep (F:=F) E.hi;have hl:=hC.2.2;unfold x9;have h1:=sr hC r J 0 hk 4 aq;have k1:=kP (most:=4) hk;have n1:=E8 hk;have l1:=nk 4 r;generalize dZ 4 r=p1 at *;obtain⟨n,r1⟩:=p1;simp only at h1 k1 n1 l1⊢;have h2:=kj hC r1 J 0 k1;obtain⟨k2,b1,b2⟩:=dD k1;have l2:=jo r1;generalize bw r1=p2 at *;obtain⟨b,r2⟩:=p2;simp only at h2 k2 b1 b2 l2⊢;obtain⟨k3,t1,t2,l3⟩:=Dc k2 n;have h3:=fun{N:Nat}{K:AV→Hp→Prop}(hN:3≤N)=>TY hC r2 J 0 k2 n n1.1 n1.2 (K:=K) hN;generalize gP n r2=p3 at *;obtain⟨l,r3⟩:=p3;simp only at h3 k3 t1 t2 l3⊢;simp[go_sem];refine dS (Pp:=[]) hC h1 aq aw (by simp[AV.renL,AV.ren]) ?_;rintro v s' ρ ⟨rfl,rfl⟩ hρ;simp[go_sem,AV.ren];refine dS (Pp:=[]) hC h2 aq aw (by simp[AV.renL,AV.ren]) ?_;rintro v s' ρ ⟨rfl,rfl⟩ hρ;simp[go_sem,AV.ren];refine h3 aq (fun he=>?_) ?_
 ·have e1:dZ 4 r3=(0,r3):=K1 he;have e2:dZ 8 r3=(0,r3):=K1 he;have m1:=sr hC r3 J 0 k3 4 aq;have m2:=sr hC r3 J 0 k3 8 aq;rw[e1]at m1;rw[e2]at m2;simp only[e1,e2];rw[if_neg he];simp[go_sem];refine aT (Pp:=[]) hC m1 (List.nil_append _).symm aq aw (by simp[AV.renL,AV.ren]) ?_;rintro v s' ρ ⟨rfl,rfl⟩ hρ;simp[go_sem,AV.ren];refine aT (Pp:=[]) hC m1 (List.nil_append _).symm aq aw (by simp[AV.renL,AV.ren]) ?_;rintro v s' ρ ⟨rfl,rfl⟩ hρ;simp[go_sem,AV.ren];refine aT (Pp:=[]) hC m2 (List.nil_append _).symm aq aw (by simp[AV.renL,AV.ren]) ?_;rintro v s' ρ ⟨rfl,rfl⟩ hρ;simp[go_sem,AV.ren];refine aT (Pp:=[]) hC (eG hC r3 J 0) (List.nil_append _).symm aq aw (by simp[AV.renL,AV.ren]) ?_;rintro v s' ρ ⟨rfl,rfl⟩ hρ;simp[go_sem,AV.ren,he];rw[bF];exact aD rfl rfl rfl
 ·have h4:=sr hC r3 J 0 k3 4 aq;have k4:=kP (most:=4) k3;have l4:=nk 4 r3;generalize dZ 4 r3=p4 at *;obtain⟨o,r4⟩:=p4;simp only at h4 k4 l4⊢;have h5:=sr hC r4 J 0 k4 4 aq;have k5:=kP (most:=4) k4;have l5:=nk 4 r4;generalize dZ 4 r4=p5 at *;obtain⟨t,r5⟩:=p5;simp only at h5 k5 l5⊢;have h6:=sr hC r5 J 0 k5 8 aq;have k6:=kP (most:=8) k5;have l6:=nk 8 r5;have n6:=K0 k5;generalize dZ 8 r5=p6 at *;obtain⟨bk,r6⟩:=p6;simp only at h6 k6 l6 n6⊢;have hcl:r6.cl.length≤100000:=by rw[l6.cl,l5.cl,l4.cl,l3.cl,l2.cl,l1.cl];exact hc
  have hPB:∀(N:Nat),261≤N→∀p,p∈[((260:Nat),(⟨31,1,cM l []⟩:Blk))]→p.1<N∧3≤p.1:=by
   intro N hN p hp;simp at hp;subst hp;exact⟨by show 260<N;omega,by show 3≤260;omega⟩
  simp[go_sem];refine aT (Pp:=[(260,⟨31,1,cM l []⟩)]) hC h4 rfl aq (hPB _ aq) (by simp[AV.renL,AV.ren]) ?_;rintro v s' ρ ⟨rfl,rfl⟩ hρ;simp[go_sem,AV.ren];refine aT (Pp:=[(260,⟨31,1,cM l []⟩)]) hC h5 rfl aq (hPB _ aq) (by simp[AV.renL,AV.ren]) ?_;rintro v s' ρ ⟨rfl,rfl⟩ hρ;simp[go_sem,AV.ren];refine aT (Pp:=[(260,⟨31,1,cM l []⟩)]) hC h6 rfl aq (hPB _ aq) (by simp[AV.renL,AV.ren]) ?_;rintro v s' ρ ⟨rfl,rfl⟩ hρ;simp[go_sem,AV.ren];refine aT (Pp:=[(260,⟨31,1,cM l []⟩)]) hC (eG hC r6 J 0) rfl aq (hPB _ aq) (by simp[AV.renL,AV.ren]) ?_;rintro v s' ρ ⟨rfl,rfl⟩ hρ;by_cases he:r6.e=0
  ·rw[if_pos he];have hup:=BX l b t2 (fun y hy=>⟨by have:=(t1 y hy).1;omega,(t1 y hy).2⟩) aq;have hub:=B6 (things:=l) b2 (fun y hy=>⟨by have:=(t1 y hy).1;omega,(t1 y hy).2⟩);have hus:=@Df l b;simp[go_sem,AV.ren,he];refine bV [260] hup rfl (aj (.one (al (ik (J:=[]) rfl aw))) (aj (.deep trivial) aC)) ?_;have hdr:aE [260] ((260,(⟨31,1,cM l []⟩:Blk))::ia 3 (aH (gG F)) ⟨r6,J,0⟩ id)=ia 3 (aH (gG F)) ⟨r6,J,0⟩ id:=rfl;rw[hdr];generalize rl l b=u at *;obtain⟨s,ue⟩:=u;simp only at hub hus⊢;by_cases hu:ue=0
   ·subst hu;obtain⟨hT,hT2⟩:=E.tr s o t bk hub (by have:=hus rfl;omega) n6.1 n6.2;generalize x.trg s o t bk=q at *;obtain⟨cs,ce⟩:=q;simp only at hT hT2⊢;simp only[if_true];have hcm:=EZ hC r6 J k6 cs ce hcl aq;simp only[eS,de]at hT;rw[bF];simp only[aH,bH,bG,id,gG,eS];simp[go_sem];refine ca [0,1,2,3,4,5,6,7,8,9,10,11,12,13] [(14,[15,16]),(17,[])] 1 (k:=18) ?_;intro G hG;have hlf:(ay F.inner (AV.d (dX F.path)) (AV.d (nb F.script))).length=34:=by simp[ay,ak,E.hi]
    have hlt:∀l:List AV,List.take 34 (ay F.inner (AV.d (dX F.path)) (AV.d (nb F.script))++l)=ay F.inner (AV.d (dX F.path)) (AV.d (nb F.script)):=fun l=>by rw[←hlf,List.take_left]
    simp[go_sem,hlf,hlt];refine ag hT (by intro v hv;simp at hv;rcases hv with rfl|rfl|rfl|rfl|rfl;simp[AV.deep,AV.deep1];exact cH F.inner F.path F.script _ (List.mem_singleton.2 rfl);trivial;simp[AV.deep,AV.deep1];trivial) ?_;simp[go_sem];refine aT (Pp:=[]) (s:=⟨r6,J,0⟩) hC hcm (by simp[bF,aH,bH,bG,gG,eS]) aq aw (by simp[AV.renL,AV.ren]) ?_;rintro v s' ρ rfl hρ;simp[go_sem];refine hG _ _ ?_;clear hG G;simp[go_sem];rw[bF];exact aD (by simp[lk,aH,bH,bG,gG,eS]) rfl rfl
   ·rw[if_neg hu];simp[go_sem,hu];refine aT (Pp:=[]) hC (bE hC r6 J 0 ue) (List.nil_append _).symm aq aw (by simp[AV.renL,AV.ren]) ?_;rintro v s' ρ rfl hρ;rw[bF];generalize aB ue r6=r';simp only[aH,bH,bG,id];simp[go_sem,ah];exact aD rfl rfl rfl
  ·rw[if_neg he];simp[go_sem,AV.ren,he];rw[bF];exact aD rfl rfl rfl
theorem O5(F:RnF)(x:Rx)(E:RnE F x)(op:Nat)(h8:op<256)(r:Rn)(J:List Bool)(hk:StOk r.main r.alt)(hc:r.cl.length≤100000)(hbd:gu r.bud) :
  cO Tryz.prog 3 (aH (gG F)) 172 ⟨r,J,0⟩ [.ptr 0 0 0 1,.d (.int .u8 (op:Int))] (fun v s'=>s'=⟨ve x op r,J,0⟩):=by
 refine ar Tryz.func172 (by kernel_rfl) rfl Tryz.ntmps172 (rs:=[]) rfl (d5 rfl) (by decide) ?_;have hC:=ep (F:=F) E.hi;have hl:=hC.2.2;obtain⟨i,hn,hio,hxs⟩:=E.sq;obtain⟨te,hte⟩:=E.tg;by_cases h106:op=106
 ·subst h106;have hv:ve x 106 r=aB 17 r:=rfl;rw[hv];simp[go_sem];refine aT (Pp:=[]) hC (bE hC r J 0 17) (List.nil_append _).symm aq aw (by simp[AV.renL,AV.ren]) ?_;rintro v s' ρ rfl hρ;rw[bF];generalize aB 17 r=r';simp only[aH,bH,bG,id];simp[go_sem,ah];exact aD rfl rfl rfl
 by_cases h172:op=172
 ·subst h172;have hv:ve x 172 r=rH x 172 r:=rfl;rw[hv];simp[go_sem];refine aT (Pp:=[]) hC (sY F x E 172 aq r J 0 hk hbd) (List.nil_append _).symm aq aw (by simp[AV.renL,AV.ren]) ?_;rintro v s' ρ rfl hρ;rw[bF];generalize rH x 172 r=r';simp only[aH,bH,bG,id];simp[go_sem,ah];exact aD rfl rfl rfl
 by_cases h173:op=173
 ·subst h173;have hv:ve x 173 r=rH x 173 r:=rfl;rw[hv];simp[go_sem];refine aT (Pp:=[]) hC (sY F x E 173 aq r J 0 hk hbd) (List.nil_append _).symm aq aw (by simp[AV.renL,AV.ren]) ?_;rintro v s' ρ rfl hρ;rw[bF];generalize rH x 173 r=r';simp only[aH,bH,bG,id];simp[go_sem,ah];exact aD rfl rfl rfl
 by_cases h186:op=186
 ·subst h186;have hv:ve x 186 r=rH x 186 r:=rfl;rw[hv];simp[go_sem];refine aT (Pp:=[]) hC (sY F x E 186 aq r J 0 hk hbd) (List.nil_append _).symm aq aw (by simp[AV.renL,AV.ren]) ?_;rintro v s' ρ rfl hρ;rw[bF];generalize rH x 186 r=r';simp only[aH,bH,bG,id];simp[go_sem,ah];exact aD rfl rfl rfl
 by_cases h204:op=204
 ·subst h204;have hv:ve x 204 r=rH x 204 r:=rfl;rw[hv];simp[go_sem];refine aT (Pp:=[]) hC (sY F x E 204 aq r J 0 hk hbd) (List.nil_append _).symm aq aw (by simp[AV.renL,AV.ren]) ?_;rintro v s' ρ rfl hρ;rw[bF];generalize rH x 204 r=r';simp only[aH,bH,bG,id];simp[go_sem,ah];exact aD rfl rfl rfl
 by_cases h177:op=177
 ·subst h177;have hv:ve x 177 r=ui x r:=rfl;rw[hv];simp[go_sem];refine aT (Pp:=[]) hC (KQ F x E.hi i hn hio E.lk.1 E.lk.2 hxs r J 0 hk) (List.nil_append _).symm aq aw (by simp[AV.renL,AV.ren]) ?_;rintro v s' ρ rfl hρ;rw[bF];generalize ui x r=r';simp only[aH,bH,bG,id];simp[go_sem,ah];exact aD rfl rfl rfl
 by_cases h178:op=178
 ·subst h178;have hv:ve x 178 r=CE x r:=rfl;rw[hv];simp[go_sem];refine aT (Pp:=[]) hC (OZ F x E.hi i hn hio E.vr.1 E.vr.2 hxs r J 0 hk) (List.nil_append _).symm aq aw (by simp[AV.renL,AV.ren]) ?_;rintro v s' ρ rfl hρ;rw[bF];generalize CE x r=r';simp only[aH,bH,bG,id];simp[go_sem,ah];exact aD rfl rfl rfl
 by_cases h179:op=179
 ·subst h179;have hv:ve x 179 r=CG x r:=rfl;rw[hv];simp[go_sem];refine aT (Pp:=[]) hC (TU F x E.hi E.tl E.tb te hte r J 0 hk) (List.nil_append _).symm aq aw (by simp[AV.renL,AV.ren]) ?_;rintro v s' ρ rfl hρ;rw[bF];generalize CG x r=r';simp only[aH,bH,bG,id];simp[go_sem,ah];exact aD rfl rfl rfl
 by_cases h187:op=187
 ·subst h187;have hv:ve x 187 r=x9 x r:=rfl;rw[hv];simp[go_sem];refine aT (Pp:=[]) hC (O4 F x E r J hk hc) (List.nil_append _).symm aq aw (by simp[AV.renL,AV.ren]) ?_;rintro v s' ρ rfl hρ;rw[bF];generalize x9 x r=r';simp only[aH,bH,bG,id];simp[go_sem,ah];exact aD rfl rfl rfl
 by_cases h188:op=188
 ·subst h188;have hv:ve x 188 r=x8 x r:=rfl;rw[hv];simp[go_sem];refine aT (Pp:=[]) hC (O1 F x E.hi E.rc r J hk hc) (List.nil_append _).symm aq aw (by simp[AV.renL,AV.ren]) ?_;rintro v s' ρ rfl hρ;rw[bF];generalize x8 x r=r';simp only[aH,bH,bG,id];simp[go_sem,ah];exact aD rfl rfl rfl
 have i106:¬(op:Int)=106:=aq;have i172:¬(op:Int)=172:=aq;have i173:¬(op:Int)=173:=aq;have i186:¬(op:Int)=186:=aq;have i204:¬(op:Int)=204:=aq;have i177:¬(op:Int)=177:=aq;have i178:¬(op:Int)=178:=aq;have i179:¬(op:Int)=179:=aq;have i187:¬(op:Int)=187:=aq;have i188:¬(op:Int)=188:=aq
 have hv:ve x op r={ aB (wj aO dR op r.main r.alt).2.2 r with main:=(wj aO dR op r.main r.alt).1,alt:=(wj aO dR op r.main r.alt).2.1 }:=by
  unfold ve;rw[E.hh.1,E.hh.2,if_neg h106,if_neg aq,if_neg h177,if_neg h178,if_neg h179,if_neg h187,if_neg h188]
 rw[hv];have hdo:=Oa op h8 r.main r.alt hk.m hk.a (fun y hy=>by have:=(hk.mb y hy).1;omega) (fun y hy=>by have:=(hk.ab y hy).1;omega) (fun y hy=>(hk.mb y hy).2);unfold yU at hdo
 generalize wj aO dR op r.main r.alt=d at *;obtain⟨m2,a2,e2⟩:=d;simp only at hdo⊢;have hf:=bE hC r J 0 e2;rw[bF];simp only[aH,bH,bG,id,jC]at *;simp[go_sem,h106,i106,h172,i172,h173,i173,h186,i186,h204,i204,h177,i177,h178,i178,h179,i179,h187,i187,h188,i188,hl];refine ag hdo (by intro v hv;simp at hv;rcases hv with rfl|rfl;trivial;exact eP r.main r.alt) ?_;simp[go_sem];refine aT (Pp:=[(964,⟨155,2,[[.d (.ro 1 (m2.map aP)),.d (.ro 1 (a2.map aP))]]⟩)]) (s:=⟨r,J,0⟩) hC hf (by simp[bF,aH,bH,bG]) aq (by intro p hp;simp at hp;subst hp;simp) (by simp[AV.renL,AV.ren]) ?_;rintro v s' ρ rfl hρ;rw[bF];generalize aB e2 r=r';have hid2:iy r'=iy { r' with main:=m2,alt:=a2 }:=rfl;simp only[aH,bH,bG,id];simp[go_sem,hl,CJ,ah];exact aD rfl rfl rfl
def Qq(l:List bg):Prop:=∀x,x∈l→bytes x
def lu(m:Mc):Prop:=Qq m.main∧Qq m.alt
theorem yB:bytes []:=fun x hx=>(by cases hx)
theorem sZ{l:List bg}(h:Qq l):bytes (l.getLastD []):=by
 rcases l.eq_nil_or_concat with rfl|⟨a,x,rfl⟩
 ·exact yB
 ·rw[List.concat_eq_append]at h⊢;rw[List.getLastD_concat];exact h x aw
theorem yC{l:List bg}(h:Qq l)(i:Nat):bytes (l.getD i []):=by
 rw[cR]
 cases hq:l[i]? with
 |none=>exact yB
 |some x=>exact h x (cr hq)
theorem uH{m:Mc}(x:Int)(h:lu m):lu (gJ x m):=by unfold gJ;split<;>exact h
theorem kQ{m:Mc}(n:Nat)(h:lu m):lu (aS n m):=by unfold aS;split;exact uH 12 h;exact h
theorem uI{m:Mc}(h:lu m):lu (dx m).2∧bytes (dx m).1:=by
 unfold dx
 split
 ·exact⟨⟨fun x hx=>h.1 x ((List.dropLast_sublist _).mem hx),h.2⟩,sZ h.1⟩
 ·exact⟨kQ 1 h,yB⟩
theorem kY{m:Mc}{l:List bg}(hl:Qq l)(h:lu m):lu (dY l m):=⟨fun x hx=>(cD.1 hx).elim (h.1 x) (hl x),h.2⟩
theorem Fa{m:Mc}(most:Nat)(x:bg)(h:lu m):lu (fq most x m).2:=by
 unfold fq
 split
 ·cases fW most x with
  |none=>exact uH 15 h
  |some n=>exact h
 ·exact h
theorem yD{m:Mc}(k:Nat)(put:List Nat)(h:lu m):lu (cp k put m):=by
 unfold cp
 split
 ·refine⟨fun x hx=>?_,h.2⟩;rcases cD.1 hx with q|q
  ·exact h.1 x (List.mem_of_mem_take q)
  ·obtain⟨i,_,rfl⟩:=List.mem_map.1 q;exact yC (fun y hy=>h.1 y (List.mem_of_mem_drop hy)) i
 ·exact kQ k h
theorem iN{x:bg}(h:bytes x):Qq [x]:=fun y hy=>by simp at hy;subst hy;exact h
theorem K2{m:Mc}(h:lu m):lu (lL m):=by
 obtain⟨h1,h2⟩:=uI h;exact⟨h1.1,fun x hx=>(cD.1 hx).elim (h1.2 x) (iN h2 x)⟩
theorem O6{m:Mc}(h:lu m):lu (oD m):=by
 unfold oD
 split
 ·exact uH 12 h
 ·exact⟨fun x hx=>(cD.1 hx).elim (h.1 x) (iN (sZ h.2) x),fun x hx=>h.2 x ((List.dropLast_sublist _).mem hx)⟩
theorem yE{m:Mc}(c:Bool)(h:lu m):lu (jv c m):=by unfold jv;split;exact h;exact uH 16 h
theorem Fb{m:Mc}(h:lu m):lu (fX m).2:=by
 unfold fX
 split
 ·exact yD 2 [] h
 ·exact kQ 2 h
theorem O7{m:Mc}(h:lu m):lu (oG m):=by
 unfold oG
 split
 ·exact kY (iN (rp (yC h.1 _) (sZ h.1))) (yD 2 [] h)
 ·exact kQ 2 h
theorem Fe{m:Mc}(f:bg→bg)(hf:∀x,bytes (f x))(h:lu m):lu (kH f m):=by
 unfold kH
 split
 ·exact kY (iN (hf _)) (uI h).1
 ·exact kQ 1 h
theorem Ff{m:Mc}(r:Bool)(h:lu m):lu (ju r m):=by
 have h1:=Fa 4 (dx m).1 (uI h).1;unfold ju;simp only
 split
 ·split
  ·exact uH 12 h1
  ·refine kY (iN (yC h1.1 _)) ⟨fun x hx=>?_,h1.2⟩
   cases r
   ·exact h1.1 x hx
   ·exact h1.1 x (List.mem_of_mem_eraseIdx hx)
 ·exact h1
theorem K3:∀(k:Nat)(m:Mc),lu m→lu (mz k m).2
 |0,m,h=>h
 |k+1,m,h=>K3 k _ (Fa 4 _ (uI h).1)
theorem s5{m:Mc}(n:Nat)(h:lu m):lu (dG n m).2:=by
 unfold dG
 split
 ·exact K3 n m h
 ·exact kQ n h
theorem uJ(b:Bool):bytes (iL b):=by cases b;exact yB;intro x hx;simp[iL]at hx;omega
theorem eJ{c:Prop}[Decidable c]{x y:Mc}{r:Option Mc}(h:(if c then some x else r)=some y)(hx:lu x)(hr:r=some y→lu y):lu y:=by
 split at h
 ·cases h;exact hx
 ·exact hr h
theorem TZ{op:Nat}{m m':Mc}(h:iM op m=some m')(hs:lu m):lu m':=by
 unfold iM at h;refine eJ h hs fun h=>?_;refine eJ h (K2 hs) fun h=>?_;refine eJ h (O6 hs) fun h=>?_
 iterate 13 refine eJ h (yD _ _ hs) fun h=>?_
 cases h
theorem Xm{op:Nat}{m m':Mc}(h:uS aO dR op m=some m')(hs:lu m):lu m':=by
 unfold uS at h;refine eJ h (Ff _ hs) fun h=>?_;refine eJ h (Ff _ hs) fun h=>?_;refine eJ h (yE _ (uI hs).1) fun h=>?_;refine eJ h ?_ fun h=>?_
 ·split
  ·split
   ·exact kY (iN (sZ hs.1)) hs
   ·exact hs
  ·exact kQ 1 hs
 refine eJ h (kY (iN (gq _)) hs) fun h=>?_;refine eJ h (O7 hs) fun h=>?_;refine eJ h ?_ fun h=>?_
 ·split
  ·exact kY (iN (gq _)) hs
  ·exact kQ 1 hs
 refine eJ h (kY (iN (uJ _)) (Fb hs)) fun h=>?_;refine eJ h (yE _ (Fb hs)) fun h=>?_;refine eJ h (Fe _ gn hs) fun h=>?_;refine eJ h (Fe _ (fun _=>gn _) hs) fun h=>?_
 cases h
theorem T0{op:Nat}{m m':Mc}(h:ow op m=some m')(hs:lu m):lu m':=by
 unfold ow at h
 split at h
 ·obtain rfl:=Option.some.inj h;exact kY (iN (uJ _)) (s5 3 hs)
 ·split at h
  ·obtain rfl:=Option.some.inj h;exact kY (iN (gq _)) (s5 1 hs)
  ·split at h
   ·cases h
   ·obtain rfl:=Option.some.inj h;simp only
    split
    ·exact yE _ (s5 2 hs)
    ·exact kY (iN (gq _)) (s5 2 hs)
theorem io{main alt:List bg}(h:fu main alt=0):(∀x,x∈main→x.length≤520)∧(∀x,x∈alt→x.length≤520)∧main.length+alt.length≤100:=by
 unfold fu at h
 split at h
 ·rename_i hc;simp only[Bool.and_eq_true,d7,decide_eq_true_eq]at hc
  split at h
  ·exact⟨hc.1,hc.2,‹_›⟩
  ·simp at h
 ·simp at h
theorem K4{main alt:List bg}(h:fu main alt=0)(h1:Qq main)(h2:Qq alt):StOk main alt:=by
 obtain⟨a,b,c⟩:=io h;exact⟨aq,aq,fun x hx=>⟨by have:=a x hx;omega,h1 x hx⟩,fun x hx=>⟨by have:=b x hx;omega,h2 x hx⟩⟩
theorem Dh:StOk [] []:=⟨aw,aw,fun x hx=>(by cases hx),fun x hx=>(by cases hx)⟩
theorem yF{m:Mc}(h:lu m):StOk (dC m).1 (dC m).2.1:=by
 unfold dC
 split
 ·split
  ·exact K4 ‹_› h.1 h.2
  ·exact Dh
 ·exact Dh
theorem Xn{main alt:List bg}(h:StOk main alt)(op:Nat):StOk (wj aO dR op main alt).1 (wj aO dR op main alt).2.1:=by
 have hs:lu ⟨main,alt,0⟩:=⟨fun x hx=>(h.mb x hx).2,fun x hx=>(h.ab x hx).2⟩;unfold wj
 cases h1:iM op ⟨main,alt,0⟩with
 |some m=>exact yF (TZ h1 hs)
 | none =>
  cases h2:uS aO dR op ⟨main,alt,0⟩with
  |some m=>exact yF (Xm h2 hs)
  |none =>
   cases h3:ow op ⟨main,alt,0⟩with
   |some m=>exact yF (T0 h3 hs)
   |none=>exact Dh
structure RnG(r r':Rn):Prop where
 st:StOk r'.main r'.alt
 bd:gu r'.bud
 br:r'.br=r.br
 cl:r'.cl=r.cl
theorem RnG.trans{a b c:Rn}(h:RnG a b)(h2:RnG b c):RnG a c:=⟨h2.st,h2.bd,h2.br.trans h.br,h2.cl.trans h.cl⟩
theorem K5{r r':Rn}(h:gu r.bud)(l:RnL r r')(s:StOk r'.main r'.alt):RnG r r':=⟨s,by rw[l.bud];exact h,l.br,l.cl⟩
theorem T8{r:Rn}(h:StOk r.main r.alt)(hb:gu r.bud):RnG r r:=⟨h,hb,rfl,rfl⟩
theorem eK{r:Rn}(h:StOk r.main r.alt)(hb:gu r.bud)(x:Int):RnG r (aB x r):=K5 hb (gr x r) (ga h)
theorem pp{r:Rn}(h:StOk r.main r.alt)(hb:gu r.bud):RnG r (bw r).2:=K5 hb (jo r) (dD h).1
theorem wP{r:Rn}(h:StOk r.main r.alt)(hb:gu r.bud)(most:Nat):RnG r (dZ most r).2:=K5 hb (nk most r) (kP h)
theorem AW{r:Rn}(h:StOk r.main r.alt)(hb:gu r.bud){b:bg}(hbb:bytes b):RnG r (ek b r):=by
 refine K5 hb (KX b r) ?_;unfold ek
 split
 ·split
  ·exact K4 ‹_› (fun x hx=>(cD.1 hx).elim (fun q=>(h.mb x q).2) (iN hbb x)) (fun x hx=>(h.ab x hx).2)
  ·exact ga h
 ·exact h
theorem Fg{r:Rn}(h:StOk r.main r.alt)(hb:gu r.bud)(sg:bg→bg→bg→Bool)(key sig msg:bg):RnG r (fw sg key sig msg r).2:=by
 obtain⟨h1,h2,h3,h4⟩:=uF sg key sig msg r hb h;exact⟨h4,h3,h1,h2⟩
theorem Qr{r:Rn}(h:StOk r.main r.alt)(hb:gu r.bud):RnG r (mB r).2:=by
 unfold mB
 split
 ·exact eK h hb 12
 ·exact T8 h hb
theorem K6{r:Rn}(h:StOk r.main r.alt)(hb:gu r.bud):RnG r (mo r).2:=by
 have g:=Qr h hb;unfold mo;generalize mB r=p at *;simp only
 split
 ·cases fW 5 p.1 with
  |none=>exact g.trans (eK g.st g.bd 15)
  |some n =>
   simp only
   split
   ·exact g.trans (eK g.st g.bd 22)
   ·exact g
 ·exact g
theorem K7{r:Rn}(h:StOk r.main r.alt)(hb:gu r.bud):RnG r (mn r).2:=by
 have g:=pp h hb;unfold mn;simp only
 split
 ·exact g.trans (eK g.st g.bd 19)
 ·exact g
theorem Qs{r:Rn}(h:StOk r.main r.alt)(hb:gu r.bud)(x:Rx)(op:Nat):RnG r (rH x op r):=by
 have g1:=pp h hb;unfold rH;simp only;generalize bw r=k at *;have g2:=pp g1.st g1.bd
 split
 ·generalize bw k.2=s at *;have g3:=Fg g2.st g2.bd x.sg k.1 s.1 x.msg;exact g1.trans (g2.trans (g3.trans (AW g3.st g3.bd (uJ _))))
 ·split
  ·generalize bw k.2=s at *;have g3:=Fg g2.st g2.bd x.sg k.1 s.1 x.msg
   split
   ·exact g1.trans (g2.trans g3)
   ·exact g1.trans (g2.trans (g3.trans (eK g3.st g3.bd 16)))
  ·split
   ·have g2:=wP g1.st g1.bd 4;generalize dZ 4 k.2=n at *;have g3:=pp g2.st g2.bd;generalize bw n.2=s at *;have g4:=Fg g3.st g3.bd x.sg k.1 s.1 x.msg;exact g1.trans (g2.trans (g3.trans (g4.trans (AW g4.st g4.bd (gq _)))))
   ·split
    ·generalize bw k.2=m at *;have g3:=pp g2.st g2.bd;generalize bw m.2=s at *;have g4:=Fg g3.st g3.bd x.sg k.1 s.1 m.1;exact g1.trans (g2.trans (g3.trans (g4.trans (AW g4.st g4.bd (uJ _)))))
    ·exact g1
theorem K8{r:Rn}(h:StOk r.main r.alt)(hb:gu r.bud)(x:Rx):RnG r (ui x r):=by
 have g:=K6 h hb;unfold ui;simp only
 split
 ·exact g.trans (eK g.st g.bd 22)
 ·exact g
theorem Qu{r:Rn}(h:StOk r.main r.alt)(hb:gu r.bud)(x:Rx):RnG r (CE x r):=by
 have g:=K6 h hb;unfold CE;simp only
 split
 ·exact g
 ·split
  ·exact g.trans (eK g.st g.bd 22)
  ·exact g
theorem Qv{r:Rn}(h:StOk r.main r.alt)(hb:gu r.bud)(x:Rx):RnG r (CG x r):=by
 have g:=Qr h hb;unfold CG;simp only
 split
 ·exact g
 ·exact g.trans (eK g.st g.bd 23)
structure RnOk(r:Rn)(k:Nat):Prop where
 st:StOk r.main r.alt
 bd:gu r.bud
 br:r.br.length≤k
 cl:r.cl.length≤2*k
theorem lZ{r r':Rn}{k:Nat}(h:RnOk r k)(g:RnG r r'):RnOk r' k:=⟨g.st,g.bd,by rw[g.br];exact h.br,by rw[g.cl];exact h.cl⟩
theorem ji{r:Rn}{k m:Nat}(h:RnOk r k)(hm:k≤m):RnOk r m:=⟨h.st,h.bd,by have:=h.br;omega,by have:=h.cl;omega⟩
theorem K9{r:Rn}{k:Nat}(h:RnOk r k)(l:List (Int×Int))(hl:l.length≤2)(e:Int):RnOk (u7 l e r) (k+1):=by
 unfold u7
 split
 ·have g:=eK h.st h.bd e;have g2:RnG { aB e r with cl:=r.cl++l } (ek (iL true) { aB e r with cl:=r.cl++l }):=AW (r:={ aB e r with cl:=r.cl++l }) g.st g.bd (uJ true);refine⟨g2.st,g2.bd,?_,?_⟩
  ·rw[g2.br];show(aB e r).br.length≤k+1;rw[g.br];have:=h.br;omega
  ·rw[g2.cl];show(r.cl++l).length≤2*(k+1);have:=h.cl;simp;omega
 ·exact ji h aq
theorem T9{r:Rn}{k:Nat}(h:RnOk r k)(x:Rx):RnOk (x8 x r) (k+1):=by
 have h1:=lZ h (pp h.st h.bd);unfold x8;simp only;generalize bw r=p at *;have h2:=lZ h1 (wP h1.st h1.bd 4)
 split
 ·exact K9 h2 _ aw _
 ·exact ji h2 aq
theorem Ub{r:Rn}{k:Nat}(h:RnOk r k)(x:Rx)(hx:∀s o0 o1 bk,(x.trg s o0 o1 bk).1.length≤2):RnOk (x9 x r) (k+1):=by
 have h1:=lZ h (wP h.st h.bd 4);unfold x9;simp only;generalize dZ 4 r=p1 at *;have h2:=lZ h1 (pp h1.st h1.bd);generalize bw p1.2=p2 at *;obtain⟨s3,_,_,l3⟩:=Dc h2.st p1.1;have h3:=lZ h2 (K5 h2.bd l3 s3);generalize gP p1.1 p2.2=p3 at *;have h4:=lZ h3 (wP h3.st h3.bd 4);generalize dZ 4 p3.2=p4 at *;have h5:=lZ h4 (wP h4.st h4.bd 4);generalize dZ 4 p4.2=p5 at *;have h6:=lZ h5 (wP h5.st h5.bd 8);generalize dZ 8 p5.2=p6 at *
 split
 ·split
  ·exact K9 h6 _ (hx _ _ _ _) _
  ·exact ji (lZ h6 (eK h6.st h6.bd _)) aq
 ·exact ji h6 aq
theorem Xo{r:Rn}{k:Nat}(h:RnOk r k)(x:Rx)(h1:x.h1=aO)(h2:x.h2=dR)(hx:∀s o0 o1 bk,(x.trg s o0 o1 bk).1.length≤2)(op:Nat):RnOk (ve x op r) (k+1):=by
 have le:∀{r':Rn},RnG r r'→RnOk r' (k+1):=fun g=>ji (lZ h g) aq;unfold ve;rw[h1,h2]
 split
 ·exact le (eK h.st h.bd 17)
 split
 ·exact le (Qs h.st h.bd x op)
 split
 ·exact le (K8 h.st h.bd x)
 split
 ·exact le (Qu h.st h.bd x)
 split
 ·exact le (Qv h.st h.bd x)
 split
 ·exact Ub h x hx
 split
 ·exact T9 h x
 ·have hd:=Xn h.st op;have hl:=gr (wj aO dR op r.main r.alt).2.2 r;exact le ⟨hd,by show gu (aB _ r).bud;rw[hl.bud];exact h.bd,hl.br,hl.cl⟩
theorem Di{r:Rn}{k:Nat}(h:RnOk r k)(b:Bool):RnOk (lp b r) (k+1):=⟨h.st,h.bd,by have:=h.br;simp[lp];omega,by have:=h.cl;show r.cl.length≤_;omega⟩
theorem Lc{r:Rn}{k:Nat}(h:RnOk r k):RnOk (ku r).2 k∧((ku r).1≠none→(ku r).2.br.length+1≤k):=by
 unfold ku
 split
 ·exact⟨lZ h (eK h.st h.bd 18),fun q=>absurd rfl q⟩
 ·rename_i hb;have:=h.br;exact⟨⟨h.st,h.bd,by simp;omega,h.cl⟩,fun _=>by simp;omega⟩
theorem Uc{r r':Rn}{k op:Nat}(h:RnOk r k)(hb:ox op r=some r'):RnOk r' (k+1):=by
 unfold ox at hb
 split at hb
 ·obtain rfl:=Option.some.inj hb
  split
  ·exact Di (lZ h (K7 h.st h.bd)) _
  ·exact Di h false
 ·split at hb
  ·obtain rfl:=Option.some.inj hb;obtain⟨h1,h2⟩:=Lc h;generalize ku r=p at *;obtain⟨o,r2⟩:=p
   cases o with
   |none=>exact ji h1 aq
   |some b=>exact Di h1 _
  ·split at hb
   ·obtain rfl:=Option.some.inj hb;exact ji (Lc h).1 aq
   ·cases hb
theorem Dj{r:Rn}{k:Nat}(h:RnOk r k)(x:Rx)(h1:x.h1=aO)(h2:x.h2=dR)(hx:∀s o0 o1 bk,(x.trg s o0 o1 bk).1.length≤2)(w:Wd)(h8:w.1<256)(hb:bytes w.2):RnOk (qk x w r) (k+1):=by
 unfold qk
 split
 ·exact ji (lZ h (eK h.st h.bd 10)) aq
 ·cases hbr:ox w.1 r with
  |some r'=>exact Uc h hbr
  | none =>
   simp only
   split
   ·exact ji h aq
   ·cases hp:fJ w with
    |none=>exact Xo h x h1 h2 hx w.1
    |some b =>
     simp only
     split
     ·exact ji (lZ h (AW h.st h.bd (uk hb h8 hp))) aq
     ·exact ji (lZ h (eK h.st h.bd 11)) aq
theorem Ud(F:RnF)(x:Rx)(E:RnE F x)(w:Wd)(h8:w.1<256)(hwb:bytes w.2)(hwl:w.2.length≤50000)(r:Rn)(J:List Bool)(k:Nat)(hk:RnOk r k)(hk2:k≤10000) :
  cO Tryz.prog 3 (aH (gG F)) 140 ⟨r,J,0⟩ [.ptr 0 0 0 1,.agg (vg w)] (fun v s'=>∃J',s'=⟨qk x w r,J',0⟩):=by
 refine ar Tryz.func140 (by kernel_rfl) rfl Tryz.ntmps140 (rs:=[]) rfl (d5 rfl) (by decide) ?_;have hC:=ep (F:=F) E.hi;have hl:=hC.2.2;have hbr:=hk.br;have hcl:=hk.cl;have hps:=uj w h8 aq;have hnm:=Oc w.1 h8;have hsh:=GR w h8 hwb hwl;have hbn:=JJ hC w.1 h8 r J 0 hk.st aq
 have hdw:∀v,v∈[AV.agg (vg w)]→v.deep:=by
  intro v hv;simp at hv;subst hv;exact kh w
 obtain⟨op,wb⟩:=w;simp only[vg]at *
 have hPB:∀(N:Nat),5≤N→∀p,p∈[((4:Nat),(⟨42,2,[[.d (.int .u8 (op:Int)),.d (nb wb)]]⟩:Blk))]→p.1<N∧3≤p.1:=by
  intro N hN p hp;simp at hp;subst hp;exact⟨by show 4<N;omega,by show 3≤4;omega⟩
 simp[go_sem];refine ag hps hdw ?_;have hpA:JE (fJ (op,wb))=.tup [.d (nb ((fJ (op,wb)).getD [])),.d (.bool (fJ (op,wb)).isSome)]:=by cases fJ (op,wb)<;>rfl
 rw[hpA];simp[go_sem];refine ag hnm a9 ?_;by_cases hA:(!qj op&&(fJ (op,wb)).isNone)=true
 ·have hv:qk x (op,wb) r=aB 10 r:=if_pos hA;rw[hv];have hA1:qj op=false:=by simp at hA;exact hA.1
  have hA2:fJ (op,wb)=none:=by simp at hA;exact hA.2
  simp[go_sem,hA1,hA2];refine aT (Pp:=[(4,⟨42,2,[[.d (.int .u8 (op:Int)),.d (nb wb)]]⟩)]) hC (bE hC r J 0 10) rfl aq (hPB _ aq) (by simp[AV.renL,AV.ren]) ?_;rintro v s' ρ rfl hρ;rw[bF];generalize aB 10 r=r';simp only[aH,bH,bG,id];simp[go_sem,ah];exact⟨_,⟨J,rfl⟩,aD rfl rfl rfl⟩
 ·have hA':(qj op=true∧(fJ (op,wb)).isSome=true)∨(qj op=true∧fJ (op,wb)=none)∨(qj op=false∧(fJ (op,wb)).isSome=true):=by
   cases h1:qj op
   ·cases h2:fJ (op,wb)
    ·rw[h1,h2]at hA;simp at hA
    ·exact .inr (.inr ⟨rfl,rfl⟩)
   ·cases h2:fJ (op,wb)
    ·exact .inr (.inl ⟨rfl,rfl⟩)
    ·exact .inl ⟨rfl,rfl⟩
  have hv0:qk x (op,wb) r=(match ox op r with
    |some r'=>r'
    |none=>if 0<iy r then r else match fJ (op,wb)with
     |some b=>if wG (op,wb)then ek b r else aB 11 r
     |none=>ve x op r):=if_neg hA
  cases hb:ox op r with
  |some r1 =>
   have hv:qk x (op,wb) r=r1:=by rw[hv0,hb]
   rw[hv];rw[hb]at hbn;rcases hA' with ⟨hn,hp⟩|⟨hn,hp⟩|⟨hn,hp⟩
   ·simp[go_sem,hn,hp];refine aT (Pp:=[(4,⟨42,2,[[.d (.int .u8 (op:Int)),.d (nb wb)]]⟩)]) hC hbn (by first|rfl|simp[bF,aH,bH,bG]) aq (hPB _ aq) (by simp[AV.renL,AV.ren]) ?_;rintro v s' ρ ⟨rfl,J2,rfl⟩ hρ;simp[go_sem,AV.ren];rw[bF];exact⟨_,⟨J2,rfl⟩,aD rfl rfl rfl⟩
   ·simp[go_sem,hn,hp];refine aT (Pp:=[(4,⟨42,2,[[.d (.int .u8 (op:Int)),.d (nb wb)]]⟩)]) hC hbn (by first|rfl|simp[bF,aH,bH,bG]) aq (hPB _ aq) (by simp[AV.renL,AV.ren]) ?_;rintro v s' ρ ⟨rfl,J2,rfl⟩ hρ;simp[go_sem,AV.ren];rw[bF];exact⟨_,⟨J2,rfl⟩,aD rfl rfl rfl⟩
   ·simp[go_sem,hn,hp];refine aT (Pp:=[(4,⟨42,2,[[.d (.int .u8 (op:Int)),.d (nb wb)]]⟩)]) hC hbn (by first|rfl|simp[bF,aH,bH,bG]) aq (hPB _ aq) (by simp[AV.renL,AV.ren]) ?_;rintro v s' ρ ⟨rfl,J2,rfl⟩ hρ;simp[go_sem,AV.ren];rw[bF];exact⟨_,⟨J2,rfl⟩,aD rfl rfl rfl⟩
  | none =>
   rw[hb]at hv0 hbn;by_cases hid:0<iy r
   ·have hv:qk x (op,wb) r=r:=by rw[hv0];exact if_pos hid
    rw[hv];have hidi:(0:Int)<(iy r:Int):=aq;rcases hA' with ⟨hn,hp⟩|⟨hn,hp⟩|⟨hn,hp⟩
    ·simp[go_sem,hn,hp];refine aT (Pp:=[(4,⟨42,2,[[.d (.int .u8 (op:Int)),.d (nb wb)]]⟩)]) hC hbn (by first|rfl|simp[bF,aH,bH,bG]) aq (hPB _ aq) (by simp[AV.renL,AV.ren]) ?_;rintro v s' ρ ⟨rfl,J2,rfl⟩ hρ;rw[bF];simp only[aH,bH,bG,id];simp[go_sem,AV.ren,hl,hid];exact⟨_,⟨J2,rfl⟩,aD rfl rfl rfl⟩
    ·simp[go_sem,hn,hp];refine aT (Pp:=[(4,⟨42,2,[[.d (.int .u8 (op:Int)),.d (nb wb)]]⟩)]) hC hbn (by first|rfl|simp[bF,aH,bH,bG]) aq (hPB _ aq) (by simp[AV.renL,AV.ren]) ?_;rintro v s' ρ ⟨rfl,J2,rfl⟩ hρ;rw[bF];simp only[aH,bH,bG,id];simp[go_sem,AV.ren,hl,hid];exact⟨_,⟨J2,rfl⟩,aD rfl rfl rfl⟩
    ·simp[go_sem,hn,hp];refine aT (Pp:=[(4,⟨42,2,[[.d (.int .u8 (op:Int)),.d (nb wb)]]⟩)]) hC hbn (by first|rfl|simp[bF,aH,bH,bG]) aq (hPB _ aq) (by simp[AV.renL,AV.ren]) ?_;rintro v s' ρ ⟨rfl,J2,rfl⟩ hρ;rw[bF];simp only[aH,bH,bG,id];simp[go_sem,AV.ren,hl,hid];exact⟨_,⟨J2,rfl⟩,aD rfl rfl rfl⟩
   ·have hid0:iy r=0:=aq;have hnI:qj op=true∨qj op=false:=by cases qj op;exact .inr rfl;exact .inl rfl
    cases hpw:fJ (op,wb)with
    |none =>
     have hn:qj op=true:=by rcases hA' with ⟨hn,hp⟩|⟨hn,hp⟩|⟨hn,hp⟩<;>first|exact hn|(rw[hpw]at hp;simp at hp)
     have hv:qk x (op,wb) r=ve x op r:=by rw[hv0,hpw];exact if_neg hid
     rw[hv];simp[go_sem,hn,hpw];refine aT (Pp:=[(4,⟨42,2,[[.d (.int .u8 (op:Int)),.d (nb wb)]]⟩)]) hC hbn (by first|rfl|simp[bF,aH,bH,bG]) aq (hPB _ aq) (by simp[AV.renL,AV.ren]) ?_;rintro v s' ρ ⟨rfl,J2,rfl⟩ hρ;rw[bF];simp only[aH,bH,bG,id];simp[go_sem,AV.ren,hl,hid0];refine aT (Pp:=[(4,⟨42,2,[[.d (.int .u8 (op:Int)),.d (nb wb)]]⟩)]) (s:=⟨r,J2,0⟩) hC (O5 F x E op h8 r J2 hk.st aq hk.bd) (by simp[bF,aH,bH,bG,hid0]) aq (hPB _ aq) (by simp[AV.renL,AV.ren]) ?_;rintro v s' ρ rfl hρ;rw[bF];generalize ve x op r=r';simp only[aH,bH,bG,id];simp[go_sem,ah];exact⟨_,⟨J2,rfl⟩,aD rfl rfl rfl⟩
    | some b =>
     have hble:=EA hpw;simp only at hble;by_cases hs:wG (op,wb)=true
     ·have hv:qk x (op,wb) r=ek b r:=by rw[hv0,hpw];exact(if_neg hid).trans (if_pos hs)
      rw[hv];rw[hs]at hsh;rcases hnI with hn|hn
      ·simp[go_sem,hn,hpw];refine aT (Pp:=[(4,⟨42,2,[[.d (.int .u8 (op:Int)),.d (nb wb)]]⟩)]) hC hbn (by first|rfl|simp[bF,aH,bH,bG]) aq (hPB _ aq) (by simp[AV.renL,AV.ren]) ?_;rintro v s' ρ ⟨rfl,J2,rfl⟩ hρ;rw[bF];simp only[aH,bH,bG,id];simp[go_sem,AV.ren,hl,hid0];refine ag hsh hdw ?_;simp[go_sem];refine aT (Pp:=[(4,⟨42,2,[[.d (.int .u8 (op:Int)),.d (nb wb)]]⟩)]) (s:=⟨r,J2,0⟩) hC (o9 hC r J2 0 hk.st b aq) (by simp[bF,aH,bH,bG,hid0]) aq (hPB _ aq) (by simp[AV.renL,AV.ren]) ?_;rintro v s' ρ rfl hρ;rw[bF];generalize ek b r=r';simp only[aH,bH,bG,id];simp[go_sem,ah];exact⟨_,⟨J2,rfl⟩,aD rfl rfl rfl⟩
      ·simp[go_sem,hn,hpw];refine aT (Pp:=[(4,⟨42,2,[[.d (.int .u8 (op:Int)),.d (nb wb)]]⟩)]) hC hbn (by first|rfl|simp[bF,aH,bH,bG]) aq (hPB _ aq) (by simp[AV.renL,AV.ren]) ?_;rintro v s' ρ ⟨rfl,J2,rfl⟩ hρ;rw[bF];simp only[aH,bH,bG,id];simp[go_sem,AV.ren,hl,hid0];refine ag hsh hdw ?_;simp[go_sem];refine aT (Pp:=[(4,⟨42,2,[[.d (.int .u8 (op:Int)),.d (nb wb)]]⟩)]) (s:=⟨r,J2,0⟩) hC (o9 hC r J2 0 hk.st b aq) (by simp[bF,aH,bH,bG,hid0]) aq (hPB _ aq) (by simp[AV.renL,AV.ren]) ?_;rintro v s' ρ rfl hρ;rw[bF];generalize ek b r=r';simp only[aH,bH,bG,id];simp[go_sem,ah];exact⟨_,⟨J2,rfl⟩,aD rfl rfl rfl⟩
     ·have hs0:wG (op,wb)=false:=by simpa using hs
      have hv:qk x (op,wb) r=aB 11 r:=by rw[hv0,hpw];exact(if_neg hid).trans (if_neg hs)
      rw[hv];rw[hs0]at hsh;rcases hnI with hn|hn
      ·simp[go_sem,hn,hpw];refine aT (Pp:=[(4,⟨42,2,[[.d (.int .u8 (op:Int)),.d (nb wb)]]⟩)]) hC hbn (by first|rfl|simp[bF,aH,bH,bG]) aq (hPB _ aq) (by simp[AV.renL,AV.ren]) ?_;rintro v s' ρ ⟨rfl,J2,rfl⟩ hρ;rw[bF];simp only[aH,bH,bG,id];simp[go_sem,AV.ren,hl,hid0];refine ag hsh hdw ?_;simp[go_sem];refine aT (Pp:=[(4,⟨42,2,[[.d (.int .u8 (op:Int)),.d (nb wb)]]⟩)]) (s:=⟨r,J2,0⟩) hC (bE hC r J2 0 11) (by simp[bF,aH,bH,bG,hid0]) aq (hPB _ aq) (by simp[AV.renL,AV.ren]) ?_;rintro v s' ρ rfl hρ;rw[bF];generalize aB 11 r=r';simp only[aH,bH,bG,id];simp[go_sem,ah];exact⟨_,⟨J2,rfl⟩,aD rfl rfl rfl⟩
      ·simp[go_sem,hn,hpw];refine aT (Pp:=[(4,⟨42,2,[[.d (.int .u8 (op:Int)),.d (nb wb)]]⟩)]) hC hbn (by first|rfl|simp[bF,aH,bH,bG]) aq (hPB _ aq) (by simp[AV.renL,AV.ren]) ?_;rintro v s' ρ ⟨rfl,J2,rfl⟩ hρ;rw[bF];simp only[aH,bH,bG,id];simp[go_sem,AV.ren,hl,hid0];refine ag hsh hdw ?_;simp[go_sem];refine aT (Pp:=[(4,⟨42,2,[[.d (.int .u8 (op:Int)),.d (nb wb)]]⟩)]) (s:=⟨r,J2,0⟩) hC (bE hC r J2 0 11) (by simp[bF,aH,bH,bG,hid0]) aq (hPB _ aq) (by simp[AV.renL,AV.ren]) ?_;rintro v s' ρ rfl hρ;rw[bF];generalize aB 11 r=r';simp only[aH,bH,bG,id];simp[go_sem,ah];exact⟨_,⟨J2,rfl⟩,aD rfl rfl rfl⟩
theorem yG{s:bg}{a b:Nat}{w:Wd}(hb:bytes s)(ha:a<s.length)(h:qi s a=some (w,b)):a<b∧b≤s.length∧w.1<256∧bytes w.2∧w.2.length≤s.length:=by
 obtain⟨op,r,hd⟩:∃op r,s.drop a=op::r:=by
  rcases h:s.drop a with _|⟨op,r⟩
  ·have:=congrArg List.length h;simp at this;omega
  ·exact⟨op,r,rfl⟩
 have hdb:bytes (op::r):=fun x hx=>hb x (by rw[←hd]at hx;exact List.mem_of_mem_drop hx)
 have hrs:a+(r.length+1)=s.length:=by
  have:=congrArg List.length hd;simp at this;omega
 unfold qi at h;rw[hd]at h
 cases hw:jf (op::r)with
 |none=>rw[hw]at h;cases h
 |some p =>
  obtain⟨n,hh⟩:=p;obtain⟨t1,t2,t3⟩:=Ar hdb hw;rw[hw]at h;simp only[List.length_cons,List.headD_cons]at h
  split at h
  ·cases h
  ·rename_i hq;simp only[Option.some.injEq,Prod.mk.injEq]at h;obtain⟨rfl,rfl⟩:=h;refine⟨aq,aq,hdb op aw,fun y hy=>hdb y (List.mem_of_mem_drop (List.mem_of_mem_take hy)),?_⟩;simp;omega
theorem O8(F:RnF)(x:Rx)(E:RnE F x)(hsb:bytes F.script)(hsl:F.script.length≤1000)(hx:∀s o0 o1 bk,(x.trg s o0 o1 bk).1.length≤2)(r:Rn)(J:List Bool)(hk:RnOk r 0) :
  cO Tryz.prog 3 (aH (gG F)) 98 ⟨r,J,0⟩ [.ptr 0 0 0 1] (fun v s'=>∃J',s'=⟨o6 x F.script (F.script.length+1) 0 r,J',0⟩):=by
 refine ar Tryz.func98 (by kernel_rfl) rfl Tryz.ntmps98 (rs:=[]) rfl (d5 rfl) (by decide) ?_;have hC:=ep (F:=F) E.hi;have hl:=hC.2.2
 have h39:∀l:List AV,(gG F++l)[39]?=some (.d (.ro 1 (F.script.map fun(b:Nat)=>[.int .u8 (b:Int)]))):=fun l=>by
  unfold gG ay;rw[cA,dn (by simp[eS])];simp only[eS,List.length_cons,List.length_nil,cA];rw[dn (by rw[ak,E.hi];omega),ak,E.hi];rfl
 generalize hW:o6 x F.script (F.script.length+1) 0 r=W;simp[go_sem]
 have hwk:∀(fr:Fr)(hp:Hp)(nx a:Nat)(r':Rn)(J':List Bool),(fv 0 fr=.ptr 0 0 0 1∧fv 2 fr=.d (.int .i64 (a:Int)))→(∀p,p∈ia 3 (aH (gG F)) ⟨r',J',0⟩ id→lk p.1 hp=some p.2) →
   az ⟨fr,hp,nx⟩ ⟨[(0,.ptr 0 0 0 1),(2,.d (.int .i64 (a:Int)))],ia 3 (aH (gG F)) ⟨r',J',0⟩ id,9000⟩:=by
  rintro fr hp nx a r' J'⟨q0,q1⟩h2;refine⟨?_,Xk hC (d5 rfl) h2,.inr (by show 64≤9000;omega)⟩;intro p hp';simp only[d_,List.mem_nil_iff,or_false]at hp';rcases hp' with rfl|rfl
  ·exact⟨.inl q0.symm,by simp[AV.low,AV.low1]⟩
  ·exact⟨.inl q1.symm,by simp[AV.low,AV.low1]⟩
 refine av (fun u:Nat×Nat×Rn×List Bool=>⟨[(0,.ptr 0 0 0 1),(2,.d (.int .i64 (u.1:Int)))],ia 3 (aH (gG F)) ⟨u.2.2.1,u.2.2.2,0⟩ id,9000⟩)
  (fun u=>u.1≤F.script.length∧F.script.length+1≤u.2.1+u.1∧RnOk u.2.2.1 u.1∧o6 x F.script u.2.1 u.1 u.2.2.1=W) (fun u=>F.script.length-u.1) (0,F.script.length+1,r,J) ⟨aq,by show _≤F.script.length+1+0;omega,hk,hW⟩
  (hwk _ _ _ 0 r J (by simp[fv,lk]) (qC rfl rfl rfl)) ?_
 rintro⟨a,f,r',J'⟩⟨ha,hf,hr,hw⟩;simp only at ha hf hr hw;obtain⟨f,rfl⟩:∃f',f=f'+1:=⟨f-1,aq⟩;rw[o6]at hw;simp only;by_cases hlt:a<F.script.length
 ·have hlti:(a:Int)<(F.script.length:Int):=aq;rw[bF];simp only[aH,bH,bG,id];simp[go_sem,hlt,hlti,h39];refine aT (Pp:=[]) (s:=⟨r',J',0⟩) hC (eG hC r' J' 0) (by simp[bF,aH,bH,bG]) aq aw (by simp[AV.renL,AV.ren]) ?_;rintro v s' ρ ⟨rfl,rfl⟩ hρ;by_cases he:r'.e=0
  ·rw[if_pos ⟨hlt,he⟩]at hw;have hnx:=JD F.script a hsb aq hlt;rw[bF];simp only[aH,bH,bG,id];simp[go_sem,AV.ren,he,h39];refine ag hnx a9 ?_
   cases hq:qi F.script a with
   |none =>
    rw[hq]at hw;subst hw;simp[go_sem,JC,vg];refine aT (Pp:=[(9736,⟨42,2,[[.d (.int .u8 0),.d (nb [])]]⟩)]) (s:=⟨r',J',0⟩) hC (bE hC r' J' 0 2) (by simp[bF,aH,bH,bG,he]) aq (by intro p hp;simp at hp;subst hp;simp) (by simp[AV.renL,AV.ren]) ?_;rintro v s' ρ rfl hρ;rw[bF];generalize aB 2 r'=r2;simp only[aH,bH,bG,id];simp[go_sem,ah];exact⟨_,⟨J',rfl⟩,aD rfl rfl rfl⟩
   |some p =>
    obtain⟨w,b⟩:=p;rw[hq]at hw;obtain⟨n1,n2,n3,n4,n5⟩:=yG hsb hlt hq;have hwm:=Ud F x E w n3 n4 aq r' J' a hr aq;have hok:=ji (Dj hr x E.hh.1 E.hh.2 hx w n3 n4) (show a+1≤b by omega);simp only[vg]at hwm;simp[go_sem,JC,vg];refine aT (Pp:=[(9736,⟨42,2,[[.d (.int .u8 (w.1:Int)),.d (nb w.2)]]⟩)]) (s:=⟨r',J',0⟩) hC hwm (by simp[bF,aH,bH,bG,he]) aq (by intro p hp;simp at hp;subst hp;simp) (fun ρ=>rfl) ?_;rintro v s' ρ ⟨J2,rfl⟩ hρ;simp[go_sem];refine ao (b,f,qk x w r',J2) ⟨n2,by show _≤f+b;omega,hok,hw⟩ (by show F.script.length-b<F.script.length-a;omega) (hwk _ _ _ b _ _ (by simp[fv,lk]) (qC rfl rfl rfl))
  ·rw[if_neg (fun h=>he h.2)]at hw;subst hw;simp[go_sem,AV.ren,he];rw[bF];exact⟨_,⟨J',rfl⟩,aD rfl rfl rfl⟩
 ·rw[if_neg (fun h=>hlt h.1)]at hw;subst hw;have hlti:¬(a:Int)<(F.script.length:Int):=aq;rw[bF];simp only[aH,bH,bG,id];simp[go_sem,hlt,hlti,h39];exact⟨_,⟨J',rfl⟩,aD rfl rfl rfl⟩
def sE(r1:Rn):Rn:=if r1.main.length=1∧j7 (r1.main.headD [])=true then r1 else aB 25 r1
theorem Xp{C:List AV}(hC:iC C)(r:Rn)(J:List Bool)(H:Nat)(hk:StOk r.main r.alt):cO Tryz.prog 3 (aH C) 99 ⟨r,J,H⟩ [.ptr 0 0 0 1] (fun v s'=>s'=⟨sC r,J,H⟩):=by
 refine ar Tryz.func99 (by kernel_rfl) rfl Tryz.ntmps99 (rs:=[]) rfl (d5 rfl) (by decide) ?_;have hl:=hC.2.2;by_cases hb:0<r.br.length
 ·have hR:sC r=sE (aB 18 r):=by simp only[sC,if_pos hb,sE]
  rw[hR];have hkb:StOk (aB 18 r).main (aB 18 r).alt:=ga hk;have hbi:(0:Int)<(r.br.length:Int):=aq;have hf:=bE hC r J H 18;generalize aB 18 r=r1 at *;rw[bF];simp only[aH,bH,bG,id];simp[go_sem,hl,hb,hbi];refine aT (Pp:=[]) (s:=⟨r,J,H⟩) hC hf (by simp[bF,aH,bH,bG]) aq aw (by simp[AV.renL,AV.ren]) ?_;rintro v s' ρ rfl hρ;obtain⟨main,alt,br,bud,cl,e⟩:=r1;simp only at hkb;rcases main with _|⟨y,_|⟨z,l⟩⟩
  ·have hv:sE ⟨[],alt,br,bud,cl,e⟩=aB 25 ⟨[],alt,br,bud,cl,e⟩:=rfl;rw[hv,bF];simp only[aH,bH,bG,id];simp[go_sem,hl];refine aT (Pp:=[]) (s:=⟨⟨[],alt,br,bud,cl,e⟩,J,H⟩) hC (bE hC ⟨[],alt,br,bud,cl,e⟩ J H 25) (by simp[bF,aH,bH,bG,aP]) aq aw (by simp[AV.renL,AV.ren]) ?_;rintro v s' ρ rfl hρ;rw[bF];generalize aB 25 ⟨[],alt,br,bud,cl,e⟩=r';simp only[aH,bH,bG,id];simp[go_sem,ah];exact aD rfl rfl rfl
  ·obtain⟨y1,y2⟩:=hkb.mb y aw;have htr:=mZ y y2 aq;rw[bF];simp only[aH,bH,bG,id];by_cases ht:j7 y=true
   ·have hv:sE ⟨[y],alt,br,bud,cl,e⟩=⟨[y],alt,br,bud,cl,e⟩:=if_pos ⟨rfl,ht⟩;rw[hv];rw[ht]at htr;simp[go_sem,hl,aP];refine ag htr a9 ?_;simp[go_sem,ah];exact aD rfl rfl rfl
   ·have hv:sE ⟨[y],alt,br,bud,cl,e⟩=aB 25 ⟨[y],alt,br,bud,cl,e⟩:=if_neg (fun h=>ht h.2);rw[hv];rw[show j7 y=false by simpa using ht]at htr;simp[go_sem,hl,aP];refine ag htr a9 ?_;simp[go_sem];refine aT (Pp:=[]) (s:=⟨⟨[y],alt,br,bud,cl,e⟩,J,H⟩) hC (bE hC ⟨[y],alt,br,bud,cl,e⟩ J H 25) (by simp[bF,aH,bH,bG,aP]) aq aw (by simp[AV.renL,AV.ren]) ?_;rintro v s' ρ rfl hρ;rw[bF];generalize aB 25 ⟨[y],alt,br,bud,cl,e⟩=r';simp only[aH,bH,bG,id];simp[go_sem,ah];exact aD rfl rfl rfl
  ·have hv:sE ⟨y::z::l,alt,br,bud,cl,e⟩=aB 25 ⟨y::z::l,alt,br,bud,cl,e⟩:=if_neg (fun h=>by simp at h);have hn2:¬(l.length:Int)+1+1=1:=aq;rw[hv,bF];simp only[aH,bH,bG,id];simp[go_sem,hl,hn2];refine aT (Pp:=[]) (s:=⟨⟨y::z::l,alt,br,bud,cl,e⟩,J,H⟩) hC (bE hC ⟨y::z::l,alt,br,bud,cl,e⟩ J H 25) (by simp[bF,aH,bH,bG,aP]) aq aw (by simp[AV.renL,AV.ren]) ?_;rintro v s' ρ rfl hρ;rw[bF];generalize aB 25 ⟨y::z::l,alt,br,bud,cl,e⟩=r';simp only[aH,bH,bG,id];simp[go_sem,ah];exact aD rfl rfl rfl
 ·have hR:sC r=sE r:=by simp only[sC,if_neg hb,sE]
  rw[hR];have hkb:=hk;have hbi:¬(0:Int)<(r.br.length:Int):=aq;obtain⟨r1,rfl⟩:∃r1,r1=r:=⟨r,rfl⟩;obtain⟨main,alt,br,bud,cl,e⟩:=r1;simp only at hkb hb hbi;rcases main with _|⟨y,_|⟨z,l⟩⟩
  ·have hv:sE ⟨[],alt,br,bud,cl,e⟩=aB 25 ⟨[],alt,br,bud,cl,e⟩:=rfl;rw[hv,bF];simp only[aH,bH,bG,id];simp[go_sem,hl,hb,hbi];refine aT (Pp:=[]) (s:=⟨⟨[],alt,br,bud,cl,e⟩,J,H⟩) hC (bE hC ⟨[],alt,br,bud,cl,e⟩ J H 25) (by simp[bF,aH,bH,bG,aP]) aq aw (by simp[AV.renL,AV.ren]) ?_;rintro v s' ρ rfl hρ;rw[bF];generalize aB 25 ⟨[],alt,br,bud,cl,e⟩=r';simp only[aH,bH,bG,id];simp[go_sem,ah];exact aD rfl rfl rfl
  ·obtain⟨y1,y2⟩:=hkb.mb y aw;have htr:=mZ y y2 aq;rw[bF];simp only[aH,bH,bG,id];by_cases ht:j7 y=true
   ·have hv:sE ⟨[y],alt,br,bud,cl,e⟩=⟨[y],alt,br,bud,cl,e⟩:=if_pos ⟨rfl,ht⟩;rw[hv];rw[ht]at htr;simp[go_sem,hl,aP,hb,hbi];refine ag htr a9 ?_;simp[go_sem,ah];exact aD rfl rfl rfl
   ·have hv:sE ⟨[y],alt,br,bud,cl,e⟩=aB 25 ⟨[y],alt,br,bud,cl,e⟩:=if_neg (fun h=>ht h.2);rw[hv];rw[show j7 y=false by simpa using ht]at htr;simp[go_sem,hl,aP,hb,hbi];refine ag htr a9 ?_;simp[go_sem];refine aT (Pp:=[]) (s:=⟨⟨[y],alt,br,bud,cl,e⟩,J,H⟩) hC (bE hC ⟨[y],alt,br,bud,cl,e⟩ J H 25) (by simp[bF,aH,bH,bG,aP]) aq aw (by simp[AV.renL,AV.ren]) ?_;rintro v s' ρ rfl hρ;rw[bF];generalize aB 25 ⟨[y],alt,br,bud,cl,e⟩=r';simp only[aH,bH,bG,id];simp[go_sem,ah];exact aD rfl rfl rfl
  ·have hv:sE ⟨y::z::l,alt,br,bud,cl,e⟩=aB 25 ⟨y::z::l,alt,br,bud,cl,e⟩:=if_neg (fun h=>by simp at h);have hn2:¬(l.length:Int)+1+1=1:=aq;rw[hv,bF];simp only[aH,bH,bG,id];simp[go_sem,hl,hn2,hb,hbi];refine aT (Pp:=[]) (s:=⟨⟨y::z::l,alt,br,bud,cl,e⟩,J,H⟩) hC (bE hC ⟨y::z::l,alt,br,bud,cl,e⟩ J H 25) (by simp[bF,aH,bH,bG,aP]) aq aw (by simp[AV.renL,AV.ren]) ?_;rintro v s' ρ rfl hρ;rw[bF];generalize aB 25 ⟨y::z::l,alt,br,bud,cl,e⟩=r';simp only[aH,bH,bG,id];simp[go_sem,ah];exact aD rfl rfl rfl
def G6(F:RnF)(x:Rx)(start:List bg)(bud:Int):AV :=
 if bJ F.t (F.n:Int) F.coins≠0∨1000<F.script.length then .tup [.d (.ro 2 []),.d (.int .i64 1)]
 else .tup [.d (.ro 2 ((CH x F.script start bud).1.map a8)),.d (.int .i64 (CH x F.script start bud).2)]
theorem oc(t:Tn)(n:Int)(coins:List (Nat×List Nat)):bJ t n coins=0∨bJ t n coins=1:=by
 rcases lQ t n coins with h|h
 ·exact .inr h
 ·exact .inl h.1
theorem uK(F:RnF)(start:List bg)(bud:Int):∀v,v∈[AV.agg (eS F.t (F.n:Int) F.coins),de F.inner F.path F.script,.d (.ro 1 (start.map aP)),.d (nb F.annex),.d (.int .i64 bud)]→v.deep:=by
 intro v hv;simp at hv;rcases hv with rfl|rfl|rfl|rfl|rfl
 ·simp[AV.deep,AV.deep1,eS]
 ·exact cH F.inner F.path F.script _ (List.mem_singleton.2 rfl)
 ·trivial
 ·trivial
 ·trivial
def Ld:List AV:=[.d (.int .u32 0),.nil,.nil,.d (.int .u32 0),.d (.int .i64 0),.nil]++(cb z32++[.nil,.nil,.nil,.nil,.nil,.nil,.d (.int .i64 0),.d (.int .i64 0),.nil,.d (.int .i64 0)])
theorem Zi:fa Tryz.prog 158=some Ld:=by kernel_rfl
theorem Le:Ld.length=48:=rfl
theorem Lh:List.drop 40 Ld=[.nil,.nil,.nil,.nil,.d (.int .i64 0),.d (.int .i64 0),.nil,.d (.int .i64 0)]:=rfl
theorem Xq{L:List AV}(h:L.length=34)(k:Nat)(l:List AV):List.take (34+k) (L++l)=L++List.take k l:=by
 rw[List.take_append,cx aq,h,Nat.add_sub_cancel_left]
theorem Ue{L:List AV}(h:L.length=34)(k:Nat)(l:List AV):List.drop (34+k) (L++l)=List.drop k l:=by
 rw[List.drop_append,c_ aq,h,Nat.add_sub_cancel_left,List.nil_append]
def fR(j:Nat):Nat:=640+1000*j
theorem Uf:oV 3 fR:=by
 intro i j hi hj h;unfold fR at h;omega
theorem Ug(C:List AV)(s:RnS):ia 3 (aH C) s fR=[(640,aH C s fR 0),(1640,aH C s fR 1),(2640,aH C s fR 2)]:=rfl
theorem Fh{C:List AV}(hC:iC C){N:Nat}{hp:Hp}{g:FuncId}{s:RnS}{ars:List AV}{R:AV→RnS→Prop}{K:AV→Hp→Prop}(h:cO Tryz.prog 3 (aH C) g s (.ptr 0 0 0 1::ars) R)(he:hp=ia 3 (aH C) s fR)(hN:2641≤N)(has:∀ ρ,AV.renL ρ ars=ars)
  (hK:∀v s' ρ,R v s'→K (v.ren ρ) (ia 3 (aH C) s' fR)):sJ Tryz.prog g (.ptr 640 0 0 1::ars) hp N K:=by
 subst he;refine sR (Pp:=[]) (rJ hC) h Uf (fun j hj=>by unfold fR;omega) aw ?_ fun v s' ρ hR _=>hK v s' ρ hR;rw[AV.renL,has,AV.ren];rfl
theorem Lj(x:Rx)(h1:x.h1=aO)(h2:x.h2=dR)(hx:∀s o0 o1 bk,(x.trg s o0 o1 bk).1.length≤2){s:bg}(hb:bytes s):∀(f a:Nat)(r:Rn),RnOk r a→∃k,RnOk (o6 x s f a r) k
 |0,a,r,h=>⟨a,h⟩
 | f+1,a,r,h=>by
  rw[o6]
  split
  ·rename_i hc
   cases hq:qi s a with
   |none=>exact⟨a,lZ h (eK h.st h.bd 2)⟩
   |some p =>
    obtain⟨w,b⟩:=p;obtain⟨n1,n2,n3,n4,n5⟩:=yG hb hc.1 hq;exact Lj x h1 h2 hx hb f b _ (ji (Dj h x h1 h2 hx w n3 n4) aq)
  ·exact⟨a,h⟩
theorem Uh(F:RnF)(x:Rx)(start:List bg)(bud:Int)(ht:Sm F.t)(hc:F.coins.length≤1000)(hi:F.inner.length=32)(hsb:bytes F.script)(hst:StOk start [])(hbd:gu bud)
  (E:bJ F.t (F.n:Int) F.coins=0→F.script.length≤1000→RnE F x) (hx:∀s o0 o1 bk,(x.trg s o0 o1 bk).1.length≤2) :
  au Tryz.prog 53 [.agg (eS F.t (F.n:Int) F.coins),de F.inner F.path F.script,.d (.ro 1 (start.map aP)),.d (nb F.annex),.d (.int .i64 bud)] (fun v=>v=G6 F x start bud):=by
 have hck:=gA F.t (F.n:Int) F.coins ht hc;have hlf:(ay F.inner (AV.d (dX F.path)) (AV.d (nb F.script))).length=34:=by simp[ay,ak,hi]
 have hlt:List.take 34 (ay F.inner (AV.d (dX F.path)) (AV.d (nb F.script)))=ay F.inner (AV.d (dX F.path)) (AV.d (nb F.script)):=cx (by rw[hlf];omega)
 have h33:(ay F.inner (AV.d (dX F.path)) (AV.d (nb F.script)))[33]?=some (.d (.ro 1 (F.script.map fun(b:Nat)=>[.int .u8 (b:Int)]))):=by
  unfold ay;rw[dn (by rw[ak,hi];omega),ak,hi];rfl
 have hdS:∀v,v∈[AV.agg (eS F.t (F.n:Int) F.coins)]→v.deep:=by simp[AV.deep,AV.deep1,eS]
 simp only[eS]at hck hdS;by_cases hs:1000<F.script.length
 ·have hR:G6 F x start bud=.tup [.d (.ro 2 []),.d (.int .i64 1)]:=if_pos (.inr hs);rw[hR];have hsi:(1000:Int)<(F.script.length:Int):=aq;refine bC Tryz.func53 Tryz.ntmps53 (rs:=[.tmp 10,.tmp 11]) (uK F start bud) ?_;simp[go_sem,de,eS,hlf,hlt];refine ag hck hdS ?_;rcases oc F.t (F.n:Int) F.coins with h|h
  ·simp[go_sem,h,h33,hs,hsi,ah];exact cB (cs':=[.d (.ro 2 []),.d (.int .i64 1)]) (ap (al (.nil 2)) (ap (aR trivial) bo)) rfl a9 rfl
  ·simp[go_sem,h,ah];exact cB (cs':=[.d (.ro 2 []),.d (.int .i64 1)]) (ap (al (.nil 2)) (ap (aR trivial) bo)) rfl a9 rfl
 ·rcases oc F.t (F.n:Int) F.coins with h|h
  ·have hR:G6 F x start bud=.tup [.d (.ro 2 ((CH x F.script start bud).1.map a8)),.d (.int .i64 (CH x F.script start bud).2)]:=if_neg (by rw[h];simp;omega);rw[hR];have E:=E h aq;rw[h]at hck;have hsi:¬(1000:Int)<(F.script.length:Int):=aq;refine Gt Tryz.func53 (by kernel_rfl) rfl Tryz.ntmps53 (rs:=[.tmp 10,.tmp 11]) rfl (d5 rfl) (uK F start bud) ?_;refine xI (lK ?_);simp[go_sem,de,eS,hlf,hlt];simp only[BE];refine xI (lK ?_);simp[go_sem,hlf,hlt];refine ag hck hdS ?_;simp[go_sem,h33,hs,hsi];simp only[BE];refine xI (lK ?_);have t35:∀l,List.take 35 (ay F.inner (AV.d (dX F.path)) (AV.d (nb F.script))++l)=ay F.inner (AV.d (dX F.path)) (AV.d (nb F.script))++List.take 1 l:=Xq hlf 1;have t39:∀l,List.take 39 (ay F.inner (AV.d (dX F.path)) (AV.d (nb F.script))++l)=ay F.inner (AV.d (dX F.path)) (AV.d (nb F.script))++List.take 5 l:=Xq hlf 5;have d35:∀l,List.drop 35 (ay F.inner (AV.d (dX F.path)) (AV.d (nb F.script))++l)=List.drop 1 l:=Ue hlf 1;have d37:∀l,List.drop 37 (ay F.inner (AV.d (dX F.path)) (AV.d (nb F.script))++l)=List.drop 3 l:=Ue hlf 3;have d40:∀l,List.drop 40 (ay F.inner (AV.d (dX F.path)) (AV.d (nb F.script))++l)=List.drop 6 l:=Ue hlf 6;simp[go_sem,hlf,hlt,Zi,Le,Lh,t35,t39,d35,d37,d40];simp only[BE];have hC:=ep (F:=F) hi;refine I0 (st':=⟨[(12,.ptr 640 0 0 1)],[(640,⟨158,48,[gG F++[.d (.ro 1 (start.map aP)),.nil,.nil,.d (.int .i64 0),.d (.int .i64 bud),.nil,.d (.int .i64 0)]]⟩),(1640,⟨4,1,[]⟩),(2640,⟨55,2,[]⟩)],9000⟩) (cf ⟨by simp[ai,fv,lk,AV.low,AV.low1],?_,aw⟩) ?_
   ·intro p hp;simp only[d_,List.mem_nil_iff,or_false]at hp;rcases hp with rfl|rfl|rfl
    ·refine⟨.inl (by simp[lk,gG,eS]),by show 640<9000;omega,?_⟩;intro q hq v hv;simp only[d_,List.mem_nil_iff,or_false]at hq;subst hq;rcases cD.1 hv with h|h
     ·exact hC.2.1 v h _
     ·simp only[d_,List.mem_nil_iff,or_false]at h;rcases h with rfl|rfl|rfl|rfl|rfl|rfl|rfl<;>trivial
    ·exact⟨.inr ⟨by show 704≤1640;omega,rfl⟩,by show 1640<9000;omega,by intro q hq;simp at hq⟩
    ·exact⟨.inr ⟨by show 704≤2640;omega,rfl⟩,by show 2640<9000;omega,by intro q hq;simp at hq⟩
   refine I0 (st':=⟨[(12,.ptr 640 0 0 1)],ia 3 (aH (gG F)) ⟨⟨start,[],[],bud,[],0⟩,[],0⟩ fR,9000⟩) ?_ ?_
   ·refine Gu (st:=⟨_,_,9000⟩) (L:=640) (b:=⟨158,48,[gG F++[.d (.ro 1 (start.map aP)),.nil,.nil,.d (.int .i64 0),.d (.int .i64 bud),.nil,.d (.int .i64 0)]]⟩) (es':=[bH (gG F) ⟨⟨start,[],[],bud,[],0⟩,[],0⟩ fR]) rfl aw rfl ?_;intro i y y' h1 h2
    match i with
    | 0 =>
     simp only[List.getElem?_cons_zero,Option.some.injEq]at h1 h2;subst h1 h2;refine⟨by simp[bH,bG],fun j v v' a1 a2=>?_⟩;unfold bH bG at a2;by_cases hj:j<41
     ·rw[List.getElem?_append_left (by rw[hC.2.2];exact hj)]at a1 a2;rw[a1]at a2;exact .inl (Option.some.inj a2).symm
     ·rw[dn (by rw[hC.2.2];omega),hC.2.2]at a1 a2;generalize j-41=k at a1 a2
      match k,a1,a2 with
      |0,a1,a2=>cases a1;cases a2;exact .inl rfl
      |1,a1,a2=>cases a1;cases a2;exact .inr (.inr ⟨rfl,1,rfl⟩)
      |2,a1,a2=>cases a1;cases a2;exact .inr (.inl ⟨rfl,1640,by show 1640<9000;omega,rfl⟩)
      |3,a1,a2=>cases a1;cases a2;exact .inl rfl
      |4,a1,a2=>cases a1;cases a2;exact .inl rfl
      |5,a1,a2=>cases a1;cases a2;exact .inr (.inl ⟨rfl,2640,by show 2640<9000;omega,rfl⟩)
      |6,a1,a2=>cases a1;cases a2;exact .inl rfl
      |k+7,a1,a2=>cases a1
    |i+1=>simp at h1
   refine lK ?_;have hcs:=Ak start [] (by have:=hst.m;omega) aw;have hfl:=bE hC ⟨start,[],[],bud,[],0⟩ [] 0 (fu start []);have hok0:RnOk ⟨start,[],[],bud,[],0⟩ 0:=⟨hst,hbd,aw,aw⟩;have hok1:=lZ hok0 (eK hok0.st hok0.bd (fu start []));rw[Ug];simp only[aH,bH,bG,id,jC]at *;simp[go_sem,hC.2.2];refine ag hcs (by intro v hv;simp at hv;subst hv;exact eP start []) ?_;simp[go_sem];have hRun:CH x F.script start bud=(if(sC (o6 x F.script (F.script.length+1) 0 (aB (fu start []) ⟨start,[],[],bud,[],0⟩))).e=0 then((sC (o6 x F.script (F.script.length+1) 0 (aB (fu start []) ⟨start,[],[],bud,[],0⟩))).cl,0)else([],(sC (o6 x F.script (F.script.length+1) 0 (aB (fu start []) ⟨start,[],[],bud,[],0⟩))).e)):=rfl;rw[hRun];clear hRun hR;refine Fh hC hfl (by simp[Ug,aH,bH,bG]) aq (by simp[AV.renL,AV.ren]) ?_;rintro v s' ρ rfl;clear hfl hcs;generalize aB (fu start []) ⟨start,[],[],bud,[],0⟩=r1 at *;simp[go_sem];refine Fh hC (O8 F x E hsb aq hx r1 [] hok1) rfl aq (fun ρ=>rfl) ?_;rintro v s' ρ ⟨J',rfl⟩;obtain⟨k,hok2⟩:=Lj x E.hh.1 E.hh.2 hx hsb (F.script.length+1) 0 r1 hok1;generalize o6 x F.script (F.script.length+1) 0 r1=r2 at *;simp[go_sem];refine Fh hC (Xp hC r2 J' 0 hok2.st) rfl aq (fun ρ=>rfl) ?_;rintro v s' ρ rfl;generalize sC r2=r3 at *;simp[go_sem];refine Fh hC (eG hC r3 J' 0) rfl aq (fun ρ=>rfl) ?_;rintro v s' ρ ⟨rfl,rfl⟩;rw[Ug];simp only[aH,bH,bG];by_cases he:r3.e=0
   ·rw[if_pos he];simp[go_sem,AV.ren,he,hC.2.2,ah];exact cB (cs':=[.d (.ro 2 (r3.cl.map a8)),.d (.int .i64 0)]) (ap (al (E3 (id:=2640) (ty:=55) (by simp[lk,Ho]) trivial)) (ap (aR trivial) bo)) rfl a9 rfl
   ·rw[if_neg he];simp[go_sem,AV.ren,he];refine ca [0,1,2,3,4,5] [] 0 (k:=6) ?_;intro G hG;simp[go_sem,AV.ren,he,hC.2.2];refine hG _ _ ?_;clear hG G;simp[go_sem,ah];exact cB (cs':=[.d (.ro 2 []),.d (.int .i64 r3.e)]) (ap (al (.nil 2)) (ap (aR trivial) bo)) rfl a9 rfl
  ·have hR:G6 F x start bud=.tup [.d (.ro 2 []),.d (.int .i64 1)]:=if_pos (.inl (by rw[h];omega));rw[hR];rw[h]at hck;refine bC Tryz.func53 Tryz.ntmps53 (rs:=[.tmp 10,.tmp 11]) (uK F start bud) ?_;simp[go_sem,de,eS,hlf,hlt];refine ag hck hdS ?_;simp[go_sem,ah];exact cB (cs':=[.d (.ro 2 []),.d (.int .i64 1)]) (ap (al (.nil 2)) (ap (aR trivial) bo)) rfl a9 rfl
theorem Fj{b:List Nat}(hb:b.length=32):(List.range 32).map (fun k=>((cb b).drop k).take 1)=rb b:=by
 rw[eN hb,cC]
theorem G7{Q:AV→Prop}{st:St}{id n:Nat}{e:Int}{L:List Nat}(hl:L.length=n)(hb:lk id st.hp=some ⟨5,1,rb L⟩)(hq:Q (.tup [.d (nb L),.d (.int .i64 e)])):dc Q (.tup [.own id 0 n n,.d (.int .i64 e)]) st :=
 cB (ap (al (aM hl hb trivial)) (ap (aR trivial) bo)) rfl a9 hq
theorem G8{Q:AV→Prop}{st:St}{e:Int}(hq:Q (.tup [.d (nb []),.d (.int .i64 e)])):dc Q (.tup [.nil,.d (.int .i64 e)]) st :=
 cB (ap (al (.nil 1)) (ap (aR trivial) bo)) rfl a9 hq
theorem G9{inner x k:List Nat}{ps:List (List Nat)}{o:Bool}(hi:inner.length=32)(hk:k.length=32)(f:au Tryz.prog 92 [de inner ps x] (fun r=>r=.tup [.agg (cb k),.d (.bool o),.d (.int .i64 1)])) :
  au Tryz.prog 46 [de inner ps x] (fun r=>r=.tup [.d (nb []),.d (.int .i64 1)]):=by
 refine bC Tryz.func46 Tryz.ntmps46 (rs:=[.tmp 2,.tmp 3]) (cH _ _ _) ?_;have zd:List.drop 32 (cb z32)=[]:=fE rfl;simp[go_sem,de,ay,mS hi,mR hi,dX,nb,hi,rO hi];refine ag f (cH _ _ _) ?_;simp[go_sem,ak,hk,am hk,zd,ah];exact G8 rfl
theorem Ha{inner x k:List Nat}{ps:List (List Nat)}{o:Bool}(hi:inner.length=32)(hk:k.length=32)(f:au Tryz.prog 92 [de inner ps x] (fun r=>r=.tup [.agg (cb k),.d (.bool o),.d (.int .i64 0)])) :
  au Tryz.prog 46 [de inner ps x] (fun r=>r=.tup [.d (nb (81::32::k)),.d (.int .i64 0)]):=by
 refine bC Tryz.func46 Tryz.ntmps46 (rs:=[.tmp 2,.tmp 3]) (cH _ _ _) ?_;have zd:List.drop 32 (cb z32)=[]:=fE rfl;simp[go_sem,de,ay,mS hi,mR hi,dX,nb,hi,rO hi];refine ag f (cH _ _ _) ?_;have hx1:=Fj hk;simp[go_sem]at hx1;simp[go_sem,ak,hk,am hk,zd,hx1,aG,ah];have e:rb (81::32::k)=[AV.d (.int .u8 81)]::[AV.d (.int .u8 32)]::rb k:=by simp[rb]
 have h34:(81::32::k).length=34:=by simp[hk]
 exact G7 (L:=81::32::k) h34 (by rw[e];rfl) (by simp[nb])
def mC(o:Bool)(inner:List Nat)(ps:List (List Nat)):List Nat:=(if o then 193 else 192)::(inner++ps.flatten)
open Go.Am Go.Sha Go.Ec
theorem yH(a:List Int)(ha:Wn 4 a):∃r:List Int,Wn 4 r∧au Tryz.prog 124 [.agg (cI a)] (fun v=>v=.agg (cI r)):=by
 obtain⟨s,c,hs,hc,vc,f1⟩:=qp a OQ ha KH;have hal:=ha.1;have hsl:=hs.1;have hz:List.drop 4 (cI zI)=[]:=bf rfl;refine⟨if c=0 then s else a,by split<;>assumption,?_⟩;refine bC Tryz.func124 Tryz.ntmps124 (rs:=[.cell 2 96]) (aU a) ?_;simp[go_sem,hal,ae hal];refine dh [0] [1,2,6,7] [0,3,4,5,8] (.alt (bt 1 (.alt (.step 2 [3,4,5] true (bt 6 (.step 7 [8] true .done))) (bt 6 (.step 2 [3,4,5] true (.step 7 [8] true .done))))) (bt 6 (bt 1 (.step 2 [3,4,5] true (.step 7 [8] true .done))))) ⟨[(1,.ptr 0 0 0 1),(2,.ptr 32 0 0 1),(3,.ptr 256 0 0 1),(4,.d (.int .u64 c))],[(256,⟨96,4,[cI s]⟩),(32,⟨96,4,[cI zI]⟩),(0,⟨96,4,[cI a]⟩)],9000⟩ (k:=9) ?h3 ?hq
 case h3 =>
  intro G hG
  have hW:∀(fr:Fr)(hp:Hp),(fv 1 fr=.ptr 0 0 0 1∧fv 2 fr=.ptr 32 0 0 1∧fv 3 fr=.ptr 256 0 0 1∧fv 4 fr=.d (.int .u64 c)∧lk 256 hp=some ⟨96,4,[cI s]⟩∧lk 32 hp=some ⟨96,4,[cI zI]⟩∧lk 0 hp=some ⟨96,4,[cI a]⟩)→G fr hp:=by
   rintro fr hp⟨q0,q1,q2,q3,q4,q5,q6⟩;refine hG _ _ (cf ?_);simp only[az,ai];refine⟨fun p hp=>?_,fun p hp=>?_,aw⟩
   ·simp only[d_,List.mem_nil_iff,or_false]at hp;rcases hp with rfl|rfl|rfl|rfl<;>exact⟨.inl (Eq.symm (by assumption)),by simp[AV.low,AV.low1]⟩
   ·simp only[d_,List.mem_nil_iff,or_false]at hp;rcases hp with rfl|rfl|rfl<;>exact⟨.inl (by assumption),aw,by intro r hr;simp only[d_,List.mem_nil_iff,or_false]at hr;subst hr;first|exact bZ _ _|exact aI _ _|exact lW _ _ _ _⟩
  simp[go_sem,hal,hsl,ae hal,ae hsl,hz,db]
  repeat' first|exact hW _ _ ⟨rfl,rfl,rfl,rfl,rfl,rfl,rfl⟩|(refine hW _ _ ?_;simp[fv,lk];done)|refine ag qB aw ?_|refine ag f1 (aN _ _) ?_|apply And.intro|simp[go_sem,hal,hsl,ae hal,ae hsl,hz,db]
 case hq =>
  by_cases h0:c=0
  ·rw[if_pos h0];simp[go_sem,h0,hsl,ae hsl,hz,ah];exact dJ rfl
  ·rw[if_neg h0];simp[go_sem,h0,hal,ae hal,hz,ah];exact dJ rfl
theorem O9(a:List Int)(ha:Wn 4 a):∃r:List Int,Wn 4 r∧au Tryz.prog 128 [.agg (cI a)] (fun v=>v=.agg (cI r)):=by
 obtain⟨b,hb,f1⟩:=yH a ha;obtain⟨s,c,hs,hc,vc,f2⟩:=qp OQ b KH hb;obtain⟨r,hr,f3⟩:=yH s hs;have hal:=ha.1;have hbl:=hb.1;have hsl:=hs.1;have hrl:=hr.1;have hz:List.drop 4 (cI zI)=[]:=bf rfl;refine⟨r,hr,?_⟩;refine bC Tryz.func128 Tryz.ntmps128 (rs:=[.cell 2 96]) (aU a) ?_;simp[go_sem,hal,ae hal];refine dh [1] [0,2,3,7,8] [1,4,5,6,9] (.alt (bt 0 (.alt (bt 2 (.alt (.step 3 [4,5,6] true (bt 7 (.step 8 [9] true .done))) (bt 7 (.step 3 [4,5,6] true (.step 8 [9] true .done))))) (bt 7 (bt 2 (.step 3 [4,5,6] true (.step 8 [9] true .done)))))) (bt 7 (bt 0 (bt 2 (.step 3 [4,5,6] true (.step 8 [9] true .done)))))) ⟨[(2,.ptr 32 0 0 1),(3,.ptr 288 0 0 1)],[(288,⟨96,4,[cI s]⟩),(32,⟨96,4,[cI zI]⟩)],9000⟩ (k:=10) ?h3 ?hq
 case h3 =>
  intro G hG
  have hW:∀(fr:Fr)(hp:Hp),(fv 2 fr=.ptr 32 0 0 1∧fv 3 fr=.ptr 288 0 0 1∧lk 288 hp=some ⟨96,4,[cI s]⟩∧lk 32 hp=some ⟨96,4,[cI zI]⟩)→G fr hp:=by
   rintro fr hp⟨q0,q1,q2,q3⟩;refine hG _ _ (cf ?_);simp only[az,ai];refine⟨fun p hp=>?_,fun p hp=>?_,aw⟩
   ·simp only[d_,List.mem_nil_iff,or_false]at hp;rcases hp with rfl|rfl<;>exact⟨.inl (Eq.symm (by assumption)),by simp[AV.low,AV.low1]⟩
   ·simp only[d_,List.mem_nil_iff,or_false]at hp;rcases hp with rfl|rfl<;>exact⟨.inl (by assumption),aw,by intro r hr;simp only[d_,List.mem_nil_iff,or_false]at hr;subst hr;first|exact bZ _ _|exact aI _ _|exact lW _ _ _ _⟩
  simp[go_sem,hal,hsl,ae hal,ae hsl,hz,db]
  repeat' first|exact hW _ _ ⟨rfl,rfl,rfl,rfl⟩|(refine hW _ _ ?_;simp[fv,lk];done)|refine ag qB aw ?_|refine ag f1 (aU _) ?_|refine ag f2 (aN _ _) ?_|apply And.intro|simp[go_sem,hal,hsl,ae hal,ae hsl,hz,db]
 case hq =>
  simp[go_sem,hsl,ae hsl];refine ag f3 (aU _) ?_;simp[go_sem,hrl,ae hrl,hz,ah];exact dJ rfl
theorem Ll(b:List Nat)(hb:b.length=32)(hby:bytes b):∃r:List Int,Wn 4 r∧au Tryz.prog 135 [.agg (cb b)] (fun v=>v=.agg (cI r)):=by
 obtain⟨a,ha,va,f1⟩:=uC b hb hby;obtain⟨r,hr,f2⟩:=yH a ha;have hal:=ha.1;have hrl:=hr.1;have hz:List.drop 4 (cI zI)=[]:=bf rfl;have zd:List.drop 32 (cb b)=[]:=fE hb;refine⟨r,hr,?_⟩;refine bC Tryz.func135 Tryz.ntmps135 (rs:=[.cell 2 96]) (cy b) ?_;simp[go_sem,ak,hb,am hb,zd];refine ag f1 (cy _) ?_;simp[go_sem];refine ag f2 (aU _) ?_;simp[go_sem,hrl,ae hrl,hz,ah];exact dJ rfl
def Ui(a b d:List Nat):Nat→AV
 |0=>.nil
 |1=>.own 1192 0 a.length a.length
 |2=>.own 1192 0 (a++b).length (a++b).length
 |_=>.own 1192 0 d.length d.length
def Uj(a b d:List Nat):Nat→Hp
 |0=>[]
 |1=>[(1192,⟨5,1,rb a⟩)]
 |2=>[(1192,⟨5,1,rb (a++b)⟩)]
 |_=>[(1192,⟨5,1,rb d⟩)]
theorem Dk(a b c d:List Nat)(hd:a++b++c=d)(ha:a.length=32)(hb:b.length=32)(hc:c.length≤1000000):au Tryz.prog 89 [.d (.ro 1 [[nb a],[nb b],[nb c]])] (fun r=>r=.d (nb d)):=by
 refine bC Tryz.func89 Tryz.ntmps89 (rs:=[.tmp 2]) a9 ?_;simp[go_sem]
 refine av (fun k:Nat=>⟨[(3,Ui a b d k),(6,.d (.ro 1 [[nb a],[nb b],[nb c]])),(7,.d (.int .i64 3)),(8,.d (.int .i64 (k:Int)))],Uj a b d k,OT k⟩)
  (fun k=>k≤3) (fun k=>3-k) 0 aq (by simp[az,ai,fv,lk,AV.low,AV.low1,Ui,Uj,OT]) ?_
 intro k hk;simp only[go_sem,Nat.reduceEqDiff,Nat.reduceAdd,Nat.reduceLT,↓reduceIte]
 match k,hk with
 |0,_ =>
  refine⟨fun _=>?_,fun h=>absurd (by decide) h⟩;simp[go_sem,Ui,Uj,OT,nb,cC];refine⟨by rw[aG];omega,?_⟩;have w1:IntKind.i64.wrap 1=1:=by decide
  refine ao 1 aq aq ?_;simp[az,ai,fv,lk,AV.low,AV.low1,aG,w1];exact bq _ _
 |1,_ =>
  refine⟨fun _=>?_,fun h=>absurd (by decide) h⟩;simp[go_sem,Ui,Uj,OT,nb,cC,aG];refine⟨aq,?_⟩;have w1:IntKind.i64.wrap 2=2:=by decide
  have ra:rb (a++b)=rb a++rb b:=by simp[rb]
  refine ao 2 aq aq ?_;simp[az,ai,fv,lk,AV.low,AV.low1,aG,w1,ra];intro r hr;exact hr.elim (bq _ _ r) (bq _ _ r)
 |2,_ =>
  refine⟨fun _=>?_,fun h=>absurd (by decide) h⟩;have ra:rb d=rb (a++b)++rb c:=by rw[←hd];simp[rb]
  have hln:d.length=(a++b).length+c.length:=by rw[←hd];exact b_
  have hab:(a++b).length=64:=by simp[ha,hb]
  simp only[Ui,Uj];generalize a++b=e at *;simp[go_sem,Ui,Uj,OT,nb,cC,aG];refine⟨aq,?_⟩;have w1:IntKind.i64.wrap 3=3:=by decide
  refine ao 3 aq aq ?_;simp[az,ai,fv,lk,AV.low,AV.low1,aG,w1,ra,hln];intro r hr;exact hr.elim (bq _ _ r) (bq _ _ r)
 |3,_ =>
  refine⟨fun h=>absurd h (by decide),fun _=>?_⟩;simp only[Ui,Uj];simp[go_sem,ah];exact iK rfl (by simp[nb])
def yI:List Nat:=[66,73,80,48,51,52,48,47,99,104,97,108,108,101,110,103,101]
theorem Pe(a b c:List Nat)(ha:a.length=32)(hb:b.length=32)(hc:c.length≤1000):∃r:List Int,Wn 4 r∧au Tryz.prog 88 [.agg (cb a),.agg (cb b),.d (nb c)] (fun v=>v=.agg (cI r)):=by
 obtain⟨r,hr,f1⟩:=Ll (eu yI (a++b++c)) (yw _ _).1 (yw _ _).2;have hrl:=hr.1;have hz:List.drop 4 (cI zI)=[]:=bf rfl;refine⟨r,hr,?_⟩;refine bC Tryz.func88 Tryz.ntmps88 (rs:=[.cell 6 96]) (by intro v hv;simp at hv;rcases hv with rfl|rfl|rfl;exact dB _;exact dB _;trivial) ?_;have hl3:(a++b++c).length≤2000:=by simp;omega
 simp[go_sem,ak,ha,hb,am ha,am hb];refine ca [0,1,2] [(3,[]),(4,[]),(5,[]),(6,[]),(7,[])] 0 (k:=8) ?_;intro G hG;simp[go_sem,ak,ha,hb];refine bV [0,32,192] (Dk a b c _ rfl ha hb aq) rfl (aj (.one (al (fh (rows:=[[.sub 0 0 0 1 32 32 1],[.sub 32 0 0 1 32 32 1],[.d (nb c)]]) rfl aw rfl (RowsR.cons (.cons (dW rfl aw ha) .nil) (RowsR.cons (.cons (dW rfl aw hb) .nil) (RowsR.cons (.cons (.d _) .nil) .nil))) rfl (by intro r hr;simp at hr;rcases hr with rfl|rfl|rfl<;>rfl)))) aC) ?_;generalize a++b++c=d at *;simp[go_sem,aE];refine ag (eV yI (.str [66,73,80,48,51,52,48,47,99,104,97,108,108,101,110,103,101]) rfl d (by simp[yI]) aq) a9 ?_;simp[go_sem];refine ag f1 (cy _) ?_;simp[go_sem,hrl];refine hG _ _ ?_;clear hG G;simp[go_sem,hrl,ae hrl,ah];exact dJ rfl
theorem AX(l:List Nat):(l.map fun(b:Nat)=>[DV.int .u8 (b:Int)]).flatten=cd l:=by
 unfold cd
 induction l with
 |nil=>rfl
 |cons a l ih=>simp only[List.map_cons,List.flatten_cons,ih];rfl
theorem AY:∀l:List Nat,bX .u8 (cb l)=some (l.map fun(b:Nat)=>(b:Int))
 |[]=>rfl
 |a::l=>by
  have:=AY l;unfold cb at this⊢;simp only[List.map_cons,bX,if_true,this];rfl
theorem qF(k m s:List Nat):∀v,v∈[AV.agg (cb k),.d (nb m),.d (nb s)]→v.deep:=by
 intro v hv;simp at hv;rcases hv with rfl|rfl|rfl
 ·exact dB _
 ·trivial
 ·trivial
theorem wQ(key msg sig:List Nat)(hk:key.length=32)(hkb:bytes key)(hsb:bytes sig)(hm:msg.length≤1000)(hs:sig.length≤1000):∃o:Bool,au Tryz.prog 156 [.agg (cb key),.d (nb msg),.d (nb sig)] (fun v=>v=.d (.bool o)):=by
 obtain⟨x,y,c,ok,hx,hy,_,f1⟩:=AM key hk hkb;have zd:List.drop 32 (cb key)=[]:=fE hk;have hz32:z32.length=32:=rfl;have hzd:List.drop 32 (cb z32)=[]:=rfl;have hz:List.drop 4 (cI zI)=[]:=bf rfl;have hxl:=hx.1;have hyl:=hy.1;have hpl:(cP x y c).length=9:=cg hxl hyl c;have hpt:List.take 9 (cP x y c)=cP x y c:=cx (by rw[hpl];omega)
 cases ok with
 |false =>
  refine⟨false,?_⟩;refine bC Tryz.func156 Tryz.ntmps156 (rs:=[.tmp 6]) (qF _ _ _) ?_;simp[go_sem,ak,hk,am hk,zd];refine ag f1 (cy _) ?_;simp[go_sem,hpl,hpt,ah];exact aa trivial rfl
 | true =>
  by_cases h64:sig.length=64
  ·have hrl:(sig.take 32).length=32:=by simp[h64]
   have hsl:(sig.drop 32).length=32:=by simp[h64]
   have hsbd:bytes (sig.drop 32):=fun z hz=>hsb z (List.mem_of_mem_drop hz);obtain⟨s,ok2,hsw,_,f2⟩:=AL (sig.drop 32) hsl hsbd;have hswl:=hsw.1;have h64i:(sig.length:Int)=64:=aq;have e1:List.take 32 (sig.map fun(b:Nat)=>[DV.int .u8 (b:Int)])=(sig.take 32).map fun(b:Nat)=>[DV.int .u8 (b:Int)]:=List.map_take.symm;have e2:List.drop 32 (sig.map fun(b:Nat)=>[DV.int .u8 (b:Int)])=(sig.drop 32).map fun(b:Nat)=>[DV.int .u8 (b:Int)]:=List.map_drop.symm;have e3:List.take 64 (sig.map fun(b:Nat)=>[DV.int .u8 (b:Int)])=sig.map fun(b:Nat)=>[DV.int .u8 (b:Int)]:=cx (by simp[h64]);obtain⟨ch,hch,f3⟩:=Pe (sig.take 32) key msg hrl hk hm;generalize sig.take 32=R at *;generalize sig.drop 32=S at *
   cases ok2 with
   |false =>
    refine⟨false,?_⟩;refine bC Tryz.func156 Tryz.ntmps156 (rs:=[.tmp 6]) (qF _ _ _) ?_;simp[go_sem,ak,hk,am hk,zd];refine ag f1 (cy _) ?_;simp[go_sem,hpl,hpt,nb,h64,h64i,e1,e2,e3,AX,eg,am hrl,am hsl,ak,hrl,hsl,hz32,hzd];refine ag f2 (cy _) ?_;simp[go_sem,hswl,ae hswl,hz,ah];exact aa trivial rfl
   | true =>
    obtain⟨ng,hng,f4⟩:=O9 ch hch;obtain⟨u,v,q,hu,hv,_,f5⟩:=EY s ng gX gY x y false c hsw hng Xb Xc hx hy;obtain⟨o,_,f6⟩:=EU u v q hu hv;obtain⟨B,hB,hBb,_,f7⟩:=wL u v q hu hv;have hngl:=hng.1;have hql:(cP u v q).length=9:=cg hu.1 hv.1 q;have hqt:List.take 9 (cP u v q)=cP u v q:=cx (by rw[hql];omega);refine⟨o&&decide ((B.map fun(b:Nat)=>(b:Int))=R.map fun(b:Nat)=>(b:Int)),?_⟩;refine bC Tryz.func156 Tryz.ntmps156 (rs:=[.tmp 6]) (qF _ _ _) ?_;simp[go_sem,ak,hk,am hk,zd];refine ag f1 (cy _) ?_;simp[go_sem,hpl,hpt,nb,h64,h64i,e1,e2,e3,AX,eg,am hrl,am hsl,ak,hrl,hsl,hz32,hzd];refine ag f2 (cy _) ?_;simp[go_sem,hswl,ae hswl,hz,ak,hk,hrl,am hk,am hrl];refine ag f3 (by intro v hv;simp at hv;rcases hv with rfl|rfl|rfl;exact dB _;exact dB _;trivial) ?_;simp[go_sem];refine ag f4 (aU _) ?_;simp[go_sem,hngl,ae hngl,hz];refine dh [0,2,3] [1,4,5,6] [0,2,3] (.alt (bt 1 (.alt (a_ [4,5,6]) (bt 5 (a_ [4,6])))) (bt 5 (bt 1 (a_ [4,6])))) ⟨[(9,.ptr 672 0 0 1),(12,.ptr 1536 0 0 1)],[(1536,⟨189,9,[cP u v q]⟩),(672,⟨29,32,[cb R]⟩)],9000⟩ (k:=7) ?h3 ?hq
    case h3 =>
     intro G hG
     have hW:∀(fr:Fr)(hp:Hp),(fv 9 fr=.ptr 672 0 0 1∧fv 12 fr=.ptr 1536 0 0 1∧lk 1536 hp=some ⟨189,9,[cP u v q]⟩∧lk 672 hp=some ⟨29,32,[cb R]⟩)→G fr hp:=by
      rintro fr hp⟨q0,q1,q2,q3⟩;refine hG _ _ (cf ?_);simp only[az,ai];refine⟨fun p hp=>?_,fun p hp=>?_,aw⟩
      ·simp only[d_,List.mem_nil_iff,or_false]at hp;rcases hp with rfl|rfl<;>exact⟨.inl (Eq.symm (by assumption)),by simp[AV.low,AV.low1]⟩
      ·simp only[d_,List.mem_nil_iff,or_false]at hp;rcases hp with rfl|rfl<;>exact⟨.inl (by assumption),aw,by intro r hr;simp only[d_,List.mem_nil_iff,or_false]at hr;subst hr;first|exact bZ _ _|exact aI _ _|exact lW _ _ _ _⟩
     simp[go_sem,hswl,hngl,ae hswl,ae hngl,hpl,hpt,hql,hqt,db]
     repeat' first|exact hW _ _ ⟨rfl,rfl,rfl,rfl⟩|(refine hW _ _ ?_;simp[fv,lk];done)|refine ag yt aw ?_|refine ag f5 (by intro v hv;simp at hv;rcases hv with rfl|rfl|rfl|rfl<;>first|exact eQ _|exact jH _ _ _) ?_|apply And.intro|simp[go_sem,hswl,hngl,ae hswl,ae hngl,hpl,hpt,hql,hqt,db]
    case hq =>
     cases o with
     |false =>
      simp[go_sem];refine ca [0] [(1,[2,3,5]),(4,[6,7,8])] 2 (k:=9) ?_;intro G hG;simp[go_sem,hql,hqt];refine ag f6 (by intro v hv;simp at hv;subst hv;exact jH _ _ _) ?_;simp[go_sem];refine hG _ _ ?_;clear hG G;simp[go_sem,ah];exact aa trivial rfl
     |true =>
      simp[go_sem];refine ca [0] [(1,[2,3,5]),(4,[6,7,8])] 2 (k:=9) ?_;intro G hG;simp[go_sem,hql,hqt];refine ag f6 (by intro v hv;simp at hv;subst hv;exact jH _ _ _) ?_;simp[go_sem,hql,hqt,ak,hrl,am hrl];refine ag f7 (by intro v hv;simp at hv;subst hv;exact jH _ _ _) ?_;simp[go_sem,ak,hrl,am hrl,hB,AY];refine hG _ _ ?_;clear hG G;simp[go_sem,ah];exact aa trivial rfl
  ·have h64i:¬(sig.length:Int)=64:=aq;refine⟨false,?_⟩;refine bC Tryz.func156 Tryz.ntmps156 (rs:=[.tmp 6]) (qF _ _ _) ?_;simp[go_sem,ak,hk,am hk,zd];refine ag f1 (cy _) ?_;simp[go_sem,hpl,hpt,nb,h64,h64i,ah];exact aa trivial rfl
end Go.Proofs.YtmfnimjnneflnaaGreat
namespace Go.Sha
def mD(i:Ip):List Nat:=i.hash++le i.idx 4
def nl(i:Ip):List Nat:=le i.seq 4
def pq(o:Nat×List Nat):List Nat:=le o.1 8
def qG(o:Nat×List Nat):List Nat:=bY o.2
end Go.Sha
namespace Go.Proofs.YtmfnimjnneflnaaGreat
open Go.Am Go.Sha
def yJ(l:List Nat):List AV:=dk (E H0 l).1++[.d (nb (E H0 l).2),.d (.int .u64 (l.length:Int))]
theorem bB(ρ:Nat→Nat)(l:List Nat):AV.renL ρ (yJ l)=yJ l:=by rw[yJ,fV];rfl
theorem jK(n:Nat)(l:List Nat):∀v,v∈yJ l→v.low1 n:=by
 intro v hv;simp[yJ,dk]at hv;rcases hv with rfl|rfl|rfl|rfl|rfl|rfl|rfl|rfl|rfl|rfl<;>trivial
theorem Pg(n:Nat):I1 n (dk H0++[.nil,.d (.int .u64 0)]) (yJ []):=Gv (dk H0) [.d (.int .u64 0)] (.inr (.inr ⟨.inl rfl,.inr ⟨1,rfl⟩⟩))
theorem AZ{st:St}(L:Nat)(h:lk L st.hp=some ⟨167,10,[dk H0++[.nil,.d (.int .u64 0)]]⟩):Wk st ⟨st.fr,b8 L ⟨167,10,[yJ []]⟩ st.hp,st.nx⟩:=Sj h (by decide) (Pg _)
theorem oI(l b:List Nat)(hl:l.length+b.length≤100000000000) :
  cT Tryz.prog 58 1 [(0,⟨167,10,[yJ l]⟩)] [.ptr 0 0 0 1,.d (nb b)] (fun r hp'=>r=.tup []∧lk 0 hp'=some ⟨167,10,[yJ (l++b)]⟩):=by
 have h:=zN _ H0 l (cL _);have:=ND (E H0 l).1 (.d (nb (E H0 l).2)) (E H0 l).2 b l.length (.inl rfl) aq aq;rw[←zM b l.length H0 l (cL _),←b_]at this;exact this
theorem Dl(ty:TypeId)(e:Nat)(row:List AV)(l b:List Nat)(hx0:(List.range 32).map (fun k=>(row.drop k).take 1)=List.map ((fun r=>List.map AV.d r)∘fun(x:Nat)=>[DV.int .u8 (x:Int)]) b)(hlow:∀n v,v∈row→v.low1 n)(hb32:b.length=32)(hl:l.length+b.length≤100000000000) :
  cT Tryz.prog 58 2 [(0,⟨167,10,[yJ l]⟩),(1,⟨ty,e,[row]⟩)] [.ptr 0 0 0 1,.sub 1 0 0 1 32 32 1] (fun r hp'=>r=.tup []∧lk 0 hp'=some ⟨167,10,[yJ (l++b)]⟩∧lk 1 hp'=some ⟨ty,e,[row]⟩):=by
 have h:=zN _ H0 l (cL _);have:=IU ty e row (E H0 l).1 (.d (nb (E H0 l).2)) (E H0 l).2 b l.length hx0 hlow (.inl rfl) aq hb32 aq;rw[←zM b l.length H0 l (cL _),←b_]at this;exact this
theorem wR(l:List Nat)(hl:l.length≤100000000000) :
  cT Tryz.prog 60 1 [(0,⟨167,10,[yJ l]⟩)] [.ptr 0 0 0 1] (fun r hp'=>r=.agg (cb (aO l))∧lk 0 hp'=some ⟨167,10,[yJ l]⟩):=by
 have h:=zN _ H0 l (cL _);exact BQ (E H0 l).1 (.d (nb (E H0 l).2)) (E H0 l).2 l.length (.inl rfl) aq
theorem lv{α:Type}{f:α→List Nat}{l:List α}:[]++gz f l 0=(l.map f).flatten:=by simp[gz]
theorem Fo(ρ:Nat→Nat)(i:Ip):AV.renL ρ (rC i)=rC i:=by
 unfold rC
 have:∀(l m:List AV),AV.renL ρ (l++m)=AV.renL ρ l++AV.renL ρ m:=fun l m=>by
  induction l with
  |nil=>simp[AV.renL]
  |cons a l ih=>simp[AV.renL,ih]
 rw[this,dr];rfl
theorem Fp(t:Tn)(ht:Sm t):au Tryz.prog 55 [.agg (eT t)] (fun r=>r=.agg (cb (aO (t.ins.map nl).flatten))):=by
 obtain⟨⟨hv,hlk,hi,ho⟩,h1,h2,h3,h4⟩:=ht;refine bC Tryz.func55 Tryz.ntmps55 (rs:=[.cell 2 29]) (by simp[AV.deep,AV.deep1,eT]) ?_;simp[go_sem,eT];refine bn [] mN rfl aw aw aw (by simp[AV.renL]) ?_;rintro r hp'⟨rfl,h0⟩;refine⟨[(97,0)],rfl,?_⟩;simp[go_sem,bU,bM,h0,Blk.ren,aV,fV,AV.ren,bT];clear h0 hp';generalize hR0:(t.ins.map nl).flatten=R
 refine mL (fun u:Nat×List Nat=>⟨[(2,.ptr 32 0 0 1),(3,.ptr 64 0 0 1),(8,.d (.ro 35 (t.ins.map eI))),(9,.d (.int .i64 (t.ins.length:Int))),(10,.d (.int .i64 (u.1:Int)))],[(64,⟨167,10,[yJ u.2]⟩),(32,⟨29,32,[cb z32]⟩)],2000⟩)
  (fun u=>u.1≤t.ins.length∧u.2.length≤4*u.1∧u.2++gz nl t.ins u.1=R) (fun u=>t.ins.length-u.1) (0,[]) ⟨aw,aw,by rw[←hR0];exact lv⟩ ((AZ 64 rfl).trans (cf (by
   simp[az,ai,fv,lk,b8,AV.low,AV.low1]
   exact⟨jK _ _,aI _ _⟩))) ?_
 rintro⟨k,B⟩⟨hk,hBl,hR⟩;simp only at hk hBl hR;simp only[go_sem,Nat.reduceEqDiff,Nat.reduceAdd,Nat.reduceLT,↓reduceIte,Nat.reduceMul];refine⟨fun h=>?_,fun h=>?_⟩
 ·obtain⟨i,hi1,hd⟩:=bp (l:=t.ins) (k:=k) aq;obtain⟨hi32,hidx,hseq⟩:=hi i (cr hi1);have w3:=ax (k:=k) aq;have hel:=tY hi32;have hcl:=nP hi32;simp[go_sem,hi1,hel,Ah,hcl,mX hi32,mY,P3 hi32];refine bV [] (ii [] i.seq aw hseq) rfl (aj (.one (al (.nil 1))) (aj (.deep a9) aC)) ?_;simp[go_sem,aE];refine bn [(0,64)] (oI B (le i.seq 4) (by rw[aQ];omega)) rfl aw (by simp[lk]) (by simp[lk,Blk.ren,aV,bB]) (by simp[AV.renL,AV.ren,bT,gv,lk,eD]) ?_;rintro r hp'⟨rfl,h0⟩;refine⟨[],rfl,?_⟩;simp[go_sem,bU,bM,h0,Blk.ren,aV,bB,AV.renL,AV.ren,bT,w3];refine ao (k+1,B++le i.seq 4) ⟨by simp only;omega,by simp only[b_,aQ];omega,fG hd hR⟩ (by simp only;omega) ?_;simp[az,ai,fv,lk,AV.low,AV.low1];exact⟨jK _ _,aI _ _⟩
 ·have hkl:k=t.ins.length:=aq;subst hkl;have:=fH hR;subst this;simp[go_sem];refine bn [(0,64)] (wR B aq) rfl aw (by simp[lk]) (by simp[lk,Blk.ren,aV,bB]) (by simp[AV.renL,AV.ren,bT,gv,lk]) ?_;rintro r hp'⟨rfl,h0⟩;refine⟨[],rfl,?_⟩;have hL:=aJ B;simp[go_sem,bU,bM,h0,Blk.ren,aV,bB,dr,AV.ren,bT,hL,am hL,bA,ah];exact aa (by simp[AV.deep];exact bD _) rfl
theorem Ph(t:Tn)(ht:Sm t):au Tryz.prog 130 [.agg (eT t)] (fun r=>r=.agg (cb (aO (t.ins.map mD).flatten))):=by
 obtain⟨⟨hv,hlk,hi,ho⟩,h1,h2,h3,h4⟩:=ht;refine bC Tryz.func130 Tryz.ntmps130 (rs:=[.cell 2 29]) (by simp[AV.deep,AV.deep1,eT]) ?_;simp[go_sem,eT];refine bn [] mN rfl aw aw aw (by simp[AV.renL]) ?_;rintro r hp'⟨rfl,h0⟩;refine⟨[(97,0)],rfl,?_⟩;simp[go_sem,bU,bM,h0,Blk.ren,aV,fV,AV.ren,bT];clear h0 hp';generalize hR0:(t.ins.map mD).flatten=R
 refine mL (fun u:Nat×List Nat=>⟨[(2,.ptr 32 0 0 1),(3,.ptr 64 0 0 1),(8,.d (.ro 35 (t.ins.map eI))),(9,.d (.int .i64 (t.ins.length:Int))),(10,.d (.int .i64 (u.1:Int)))],[(64,⟨167,10,[yJ u.2]⟩),(32,⟨29,32,[cb z32]⟩)],2000⟩)
  (fun u=>u.1≤t.ins.length∧u.2.length≤36*u.1∧u.2++gz mD t.ins u.1=R) (fun u=>t.ins.length-u.1) (0,[]) ⟨aw,aw,by rw[←hR0];exact lv⟩ ((AZ 64 rfl).trans (cf (by
   simp[az,ai,fv,lk,b8,AV.low,AV.low1]
   exact⟨jK _ _,aI _ _⟩))) ?_
 rintro⟨k,B⟩⟨hk,hBl,hR⟩;simp only at hk hBl hR;simp only[go_sem,Nat.reduceEqDiff,Nat.reduceAdd,Nat.reduceLT,↓reduceIte,Nat.reduceMul];refine⟨fun h=>?_,fun h=>?_⟩
 ·obtain⟨i,hi1,hd⟩:=bp (l:=t.ins) (k:=k) aq;obtain⟨hi32,hidx,hseq⟩:=hi i (cr hi1);have w3:=ax (k:=k) aq;have hel:=tY hi32;have hcl:=nP hi32;have hx:(List.range 32).map (fun k=>((rC i).drop k).take 1)=List.map ((fun r=>List.map AV.d r)∘fun(x:Nat)=>[DV.int .u8 (x:Int)]) i.hash:=by rw[Ai hi32];simp[rb,Function.comp_def]
  simp[go_sem,hi1,hel,Ah,hcl,mX hi32,mY];refine bn [(0,64),(1,2096)] (Dl 68 35 (rC i) B i.hash hx (fun n=>NX n i) hi32 aq) rfl aw (by simp[lk]) (by simp[lk,Blk.ren,aV,bB,Fo]) (by simp[AV.renL,AV.ren,bT,gv,lk]) ?_;rintro r hp'⟨rfl,h0,h1⟩;refine⟨[],rfl,?_⟩;have hBl2:(B++i.hash).length=B.length+32:=by rw[b_,hi32]
  have hB3:B++mD i=B++i.hash++le i.idx 4:=by simp[mD]
  generalize B++i.hash=B1 at *;simp[go_sem,bU,bM,h0,h1,Blk.ren,aV,bB,Fo,AV.renL,AV.ren,bT,hcl,P2 hi32];clear h0 h1 hp';refine bV [] (ii [] i.idx aw hidx) rfl (aj (.one (al (.nil 1))) (aj (.deep a9) aC)) ?_;simp[go_sem,aE];refine bn [(0,64)] (oI B1 (le i.idx 4) (by rw[aQ];omega)) rfl aw (by simp[lk]) (by simp[lk,Blk.ren,aV,bB]) (by simp[AV.renL,AV.ren,bT,gv,lk,eD]) ?_;rintro r hp'⟨rfl,h0⟩;refine⟨[],rfl,?_⟩;rw[←hB3]at h0;have hB4:(B++mD i).length=B1.length+4:=by rw[hB3,b_,aQ]
  simp[go_sem,bU,bM,h0,Blk.ren,aV,bB,AV.renL,AV.ren,bT,w3];refine ao (k+1,B++mD i) ⟨by simp only;omega,by simp only;omega,fG hd hR⟩ (by simp only;omega) ?_;simp[az,ai,fv,lk,AV.low,AV.low1];exact⟨jK _ _,aI _ _⟩
 ·have hkl:k=t.ins.length:=aq;subst hkl;have:=fH hR;subst this;simp[go_sem];refine bn [(0,64)] (wR B aq) rfl aw (by simp[lk]) (by simp[lk,Blk.ren,aV,bB]) (by simp[AV.renL,AV.ren,bT,gv,lk]) ?_;rintro r hp'⟨rfl,h0⟩;refine⟨[],rfl,?_⟩;have hL:=aJ B;simp[go_sem,bU,bM,h0,Blk.ren,aV,bB,dr,AV.ren,bT,hL,am hL,bA,ah];exact aa (by simp[AV.deep];exact bD _) rfl
theorem A0(os:List (Nat×List Nat))(hn:os.length≤8)(ho:∀o,o∈os→o.1<18446744073709551616∧o.2.length≤1100):au Tryz.prog 56 [.d (.ro 2 (os.map eO))] (fun r=>r=.agg (cb (aO (os.map fY).flatten))):=by
 refine bC Tryz.func56 Tryz.ntmps56 (rs:=[.cell 2 29]) a9 ?_;simp[go_sem];refine bn [] mN rfl aw aw aw (by simp[AV.renL]) ?_;rintro r hp'⟨rfl,h0⟩;refine⟨[(97,0)],rfl,?_⟩;simp[go_sem,bU,bM,h0,Blk.ren,aV,fV,AV.ren,bT];clear h0 hp';generalize hR0:(os.map fY).flatten=R
 refine mL (fun u:Nat×List Nat=>⟨[(2,.ptr 0 0 0 1),(3,.ptr 32 0 0 1),(7,.d (.ro 2 (os.map eO))),(8,.d (.int .i64 (os.length:Int))),(9,.d (.int .i64 (u.1:Int)))],[(32,⟨167,10,[yJ u.2]⟩),(0,⟨29,32,[cb z32]⟩)],2000⟩)
  (fun u=>u.1≤os.length∧u.2.length≤1200*u.1∧u.2++gz fY os u.1=R) (fun u=>os.length-u.1) (0,[]) ⟨aw,aw,by rw[←hR0];exact lv⟩ ((AZ 32 rfl).trans (cf (by
   simp[az,ai,fv,lk,b8,AV.low,AV.low1]
   exact⟨jK _ _,aI _ _⟩))) ?_
 rintro⟨k,B⟩⟨hk,hBl,hR⟩;simp only at hk hBl hR;simp only[go_sem,Nat.reduceEqDiff,Nat.reduceAdd,Nat.reduceLT,↓reduceIte,Nat.reduceMul];refine⟨fun h=>?_,fun h=>?_⟩
 ·obtain⟨o,ho1,hd⟩:=bp (l:=os) (k:=k) aq;obtain⟨ho64,hol⟩:=ho o (cr ho1);have w3:=ax (k:=k) aq;have hbl:=cK o.2.length;have hbb:(bY o.2).length=(aL o.2.length).length+o.2.length:=by simp[bY]
  simp[go_sem,ho1,eO];refine bV [] (t6 [] o.1 aw ho64) rfl (aj (.one (al (.nil 1))) (aj (.deep a9) aC)) ?_;simp[go_sem,aE];refine bn [(0,32)] (oI B (le o.1 8) (by rw[aQ];omega)) rfl aw (by simp[lk]) (by simp[lk,Blk.ren,aV,bB]) (by simp[AV.renL,AV.ren,bT,gv,lk,eD]) ?_;rintro r hp'⟨rfl,h0⟩;refine⟨[],rfl,?_⟩;have hBl2:(B++le o.1 8).length=B.length+8:=by rw[b_,aQ]
  have hB3:B++fY o=B++le o.1 8++bY o.2:=by simp[fY]
  generalize B++le o.1 8=B1 at *;simp[go_sem,bU,bM,h0,Blk.ren,aV,bB,AV.renL,AV.ren,bT];clear h0 hp';refine bV [] (ew [] o.2 aw aq) rfl (aj (.one (al (.nil 1))) (aj (.deep a9) aC)) ?_;simp[go_sem,aE];refine bn [(0,32)] (oI B1 (bY o.2) aq) rfl aw (by simp[lk]) (by simp[lk,Blk.ren,aV,bB]) (by simp[AV.renL,AV.ren,bT,gv,lk,nb,bY]) ?_;rintro r hp'⟨rfl,h0⟩;refine⟨[],rfl,?_⟩;rw[←hB3]at h0;have hB4:(B++fY o).length=B1.length+(bY o.2).length:=by rw[hB3,b_]
  simp[go_sem,bU,bM,h0,Blk.ren,aV,bB,AV.renL,AV.ren,bT,w3];refine ao (k+1,B++fY o) ⟨by simp only;omega,by simp only;omega,fG hd hR⟩ (by simp only;omega) ?_;simp[az,ai,fv,lk,AV.low,AV.low1];exact⟨jK _ _,aI _ _⟩
 ·have hkl:k=os.length:=aq;subst hkl;have:=fH hR;subst this;simp[go_sem];refine bn [(0,32)] (wR B aq) rfl aw (by simp[lk]) (by simp[lk,Blk.ren,aV,bB]) (by simp[AV.renL,AV.ren,bT,gv,lk]) ?_;rintro r hp'⟨rfl,h0⟩;refine⟨[],rfl,?_⟩;have hL:=aJ B;simp[go_sem,bU,bM,h0,Blk.ren,aV,bB,dr,AV.ren,bT,hL,am hL,bA,ah];exact aa (by simp[AV.deep];exact bD _) rfl
end Go.Proofs.YtmfnimjnneflnaaGreat
namespace Go.Sha
def df:List Nat:=[84,97,112,83,105,103,104,97,115,104]
end Go.Sha
namespace Go.Proofs.YtmfnimjnneflnaaGreat
open Go.Am Go.Sha
theorem A3(os:List (Nat×List Nat))(hn:os.length≤8)(ho:∀o,o∈os→o.1<18446744073709551616∧o.2.length≤1100):au Tryz.prog 83 [.d (.ro 2 (os.map eO))] (fun r=>r=.tup [.agg (cb (aO (os.map pq).flatten)),.agg (cb (aO (os.map qG).flatten))]):=by
 refine bC Tryz.func83 Tryz.ntmps83 (rs:=[.cell 2 29,.cell 3 29]) a9 ?_;simp[go_sem];refine bn [] mN rfl aw aw aw (by simp[AV.renL]) ?_;rintro r hp'⟨rfl,h0⟩;refine⟨[(97,0)],rfl,?_⟩;simp[go_sem,bU,bM,h0,Blk.ren,aV,fV,AV.ren,bT];clear h0 hp';refine bn [] mN rfl aw aw aw (by simp[AV.renL]) ?_;rintro r hp'⟨rfl,h0⟩;refine⟨[(97,0)],rfl,?_⟩;simp[go_sem,bU,bM,h0,Blk.ren,aV,fV,AV.ren,bT];clear h0 hp';generalize hV0:(os.map pq).flatten=V;generalize hS0:(os.map qG).flatten=S
 refine mL (fun u:Nat×List Nat×List Nat=>⟨[(2,.ptr 0 0 0 1),(3,.ptr 32 0 0 1),(4,.ptr 64 0 0 1),(5,.ptr 96 0 0 1),(10,.d (.ro 2 (os.map eO))),(11,.d (.int .i64 (os.length:Int))),(12,.d (.int .i64 (u.1:Int)))],
   [(96,⟨167,10,[yJ u.2.2]⟩),(64,⟨167,10,[yJ u.2.1]⟩),(32,⟨29,32,[cb z32]⟩),(0,⟨29,32,[cb z32]⟩)],2000⟩)
  (fun u=>u.1≤os.length∧(u.2.1.length≤8*u.1∧u.2.2.length≤1200*u.1)∧u.2.1++gz pq os u.1=V∧u.2.2++gz qG os u.1=S) (fun u=>os.length-u.1) (0,[],[]) ⟨aw,aw,by rw[←hV0];exact lv,by rw[←hS0];exact lv⟩
  ((AZ 64 rfl).trans ((AZ 96 rfl).trans (cf (by
   simp[az,ai,fv,lk,b8,AV.low,AV.low1]
   exact⟨jK _ _,aI _ _⟩)))) ?_
 rintro⟨k,A,B⟩⟨hk,⟨hAl,hBl⟩,hV,hS⟩;simp only at hk hAl hBl hV hS;simp only[go_sem,Nat.reduceEqDiff,Nat.reduceAdd,Nat.reduceLT,↓reduceIte,Nat.reduceMul];refine⟨fun h=>?_,fun h=>?_⟩
 ·obtain⟨o,ho1,hd⟩:=bp (l:=os) (k:=k) aq;obtain⟨ho64,hol⟩:=ho o (cr ho1);have w3:=ax (k:=k) aq;have hbl:=cK o.2.length;have hbb:(bY o.2).length=(aL o.2.length).length+o.2.length:=by simp[bY]
  simp[go_sem,ho1,eO];refine bV [] (t6 [] o.1 aw ho64) rfl (aj (.one (al (.nil 1))) (aj (.deep a9) aC)) ?_;simp[go_sem,aE];refine bn [(0,64)] (oI A (le o.1 8) (by rw[aQ];omega)) rfl aw (by simp[lk]) (by simp[lk,Blk.ren,aV,bB]) (by simp[AV.renL,AV.ren,bT,gv,lk,eD]) ?_;rintro r hp'⟨rfl,h0⟩;refine⟨[],rfl,?_⟩;have hA2:(A++pq o).length=A.length+8:=by rw[b_,pq,aQ]
  rw[show A++le o.1 8=A++pq o from rfl]at h0;simp[go_sem,bU,bM,h0,Blk.ren,aV,bB,AV.renL,AV.ren,bT];clear h0 hp';refine bV [] (ew [] o.2 aw aq) rfl (aj (.one (al (.nil 1))) (aj (.deep a9) aC)) ?_;simp[go_sem,aE];refine bn [(0,96)] (oI B (bY o.2) aq) rfl aw (by simp[lk]) (by simp[lk,Blk.ren,aV,bB]) (by simp[AV.renL,AV.ren,bT,gv,lk,nb,bY]) ?_;rintro r hp'⟨rfl,h0⟩;refine⟨[],rfl,?_⟩;have hB4:(B++qG o).length=B.length+(bY o.2).length:=by rw[b_];rfl
  rw[show B++bY o.2=B++qG o from rfl]at h0;simp[go_sem,bU,bM,h0,Blk.ren,aV,bB,AV.renL,AV.ren,bT,w3];refine ao (k+1,A++pq o,B++qG o) ⟨by simp only;omega,⟨by simp only;omega,by simp only;omega⟩,fG hd hV,fG hd hS⟩ (by simp only;omega) ?_;simp[az,ai,fv,lk,AV.low,AV.low1];exact⟨jK _ _,jK _ _,aI _ _⟩
 ·have hkl:k=os.length:=aq;subst hkl;have:=fH hV;subst this;have:=fH hS;subst this;have hLA:=aJ A;have hLB:=aJ B;simp[go_sem];refine bn [(0,64)] (wR A aq) rfl aw (by simp[lk]) (by simp[lk,Blk.ren,aV,bB]) (by simp[AV.renL,AV.ren,bT,gv,lk]) ?_;rintro r hp'⟨rfl,h0⟩;refine⟨[],rfl,?_⟩;simp[go_sem,bU,bM,h0,Blk.ren,aV,bB,dr,AV.ren,bT];clear h0 hp';refine bn [(0,96)] (wR B aq) rfl aw (by simp[lk]) (by simp[lk,Blk.ren,aV,bB]) (by simp[AV.renL,AV.ren,bT,gv,lk]) ?_;rintro r hp'⟨rfl,h0⟩;refine⟨[],rfl,?_⟩;simp[go_sem,bU,bM,h0,Blk.ren,aV,bB,dr,AV.ren,bT,hLA,hLB,am hLA,am hLB,bA,ah]
  exact aa (by
   intro c hc;simp at hc;rcases hc with rfl|rfl
   ·exact .inr ⟨_,rfl,bD _⟩
   ·exact .inr ⟨_,rfl,bD _⟩) rfl
theorem s6(t:Tn):∀v,v∈[AV.agg (eT t)]→v.deep:=by simp[AV.deep,AV.deep1,eT]
def Uk:List Nat:=List.replicate 96 0
theorem Ul:fa Tryz.prog 139=some (cb Uk):=by kernel_rfl
def Fq:List Nat:=List.replicate 160 0
theorem Pi:fa Tryz.prog 143=some (cb Fq):=by kernel_rfl
attribute [go_sem] Ul Pi
theorem uL:Uk.length=96:=rfl
theorem oe:List.drop 96 (cb Uk)=[]:=rfl
theorem rP:Fq.length=160:=by simp[Fq]
theorem uM:List.drop 160 (cb Fq)=[]:=c_ (by rw[ak,rP];exact cL _)
theorem yK{A Z:List AV}{n m:Nat}(hA:A.length=n)(hm:n≤m):List.drop m (A++List.drop n Z)=List.drop m Z:=by
 rw[List.drop_append,c_ aq,List.nil_append,List.drop_drop,hA,show n+(m-n)=m by omega]
theorem kq{A B Z:List AV}{n m:Nat}(hA:A.length=n)(hm:n≤m):List.take n (A++List.drop n Z)++(B++List.drop m (A++List.drop n Z))=A++B++List.drop m Z:=by
 rw[yK hA hm];subst hA;rw[List.take_left,cA]
theorem nn(a b:List Nat):cb (a++b)=cb a++cb b:=by simp[cb]
theorem A4(t:Tn)(ht:Sm t):au Tryz.prog 82 [.agg (eT t)] (fun r=>r=.agg (cb (aO (t.ins.map mD).flatten++(aO (t.ins.map nl).flatten++aO (t.outs.map fY).flatten)))):=by
 refine bC Tryz.func82 Tryz.ntmps82 (rs:=[.cell 2 139]) (s6 t) ?_;have p1:=Ph t ht;have p2:=Fp t ht;have p3:=A0 t.outs (by have:=ht.2.2.1;omega) (fun o h=>⟨ht.1.2.2.2 o h,by have:=ht.2.2.2.1 o h;omega⟩);have l1:=aJ (t.ins.map mD).flatten;have l2:=aJ (t.ins.map nl).flatten;have l3:=aJ (t.outs.map fY).flatten;generalize aO (t.ins.map mD).flatten=a at *;generalize aO (t.ins.map nl).flatten=b at *;generalize aO (t.outs.map fY).flatten=c at *;have hT:eT t=[.d (.int .u32 (t.ver:Int)),.d (.ro 35 (t.ins.map eI)),.d (.ro 2 (t.outs.map eO)),.d (.int .u32 (t.lock:Int))]:=rfl;have hd:=s6 t;rw[hT]at p1 p2 hd;simp[go_sem,eT];refine ca [0,2,4,5] [(1,[]),(3,[]),(6,[7]),(8,[])] 3 (k:=9) ?_;intro G hG;simp[go_sem];refine ag p1 hd ?_;simp[go_sem];refine ag p2 hd ?_;simp[go_sem];refine ag p3 a9 ?_;simp[go_sem,ak,l1,l2,l3,uL,oe];rw[yK (A:=cb a) (n:=32) (by rw[ak,l1]) aq,←cA (cb a),kq (A:=cb a++cb b) (n:=64) (by simp[ak,l1,l2]) aq,oe,List.append_nil];refine hG _ _ ?_;clear hG G;have hL:(cb a++cb b++cb c).length=96:=by simp[ak,l1,l2,l3]
 have hT2:List.take 96 (cb a++cb b++cb c)=cb a++cb b++cb c:=cx aq;have hE:cb (a++(b++c))=cb a++cb b++cb c:=by rw[nn,nn,cA]
 have hD:=bD (a++(b++c));rw[hE]at hD;rw[hE];generalize cb a++cb b++cb c=R at *;simp[go_sem,hL,hT2,ah];exact aa hD rfl
end Go.Proofs.YtmfnimjnneflnaaGreat
