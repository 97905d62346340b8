/-
 Part 11 of what the claim rests on.
-/
import Derived.Test.YtmfnimjnneflnaaGreatV4
import Derived.Test.YtmfnimjnneflnaaGreatV5
import Derived.Test.YtmfnimjnneflnaaGreatV6
import Derived.Test.YtmfnimjnneflnaaGreatV9
set_option linter.unusedVariables false
set_option linter.unusedSimpArgs false
set_option maxRecDepth 100000
set_option maxHeartbeats 16000000
namespace Go.Proofs.YtmfnimjnneflnaaGreat
open Go.Am Go.Sha
theorem zO (r:Rn):(bn r).2.cl=r.cl:=by
 unfold bn
 split
 ·split
  ·unfold au;split <;> rfl
  ·rfl
 ·rfl
theorem NV (most:Nat) (r:Rn):(d5 most r).2.cl=r.cl:=by
 have h:=zO r;unfold d5;generalize bn r=p at *;simp only
 split
 ·cases fH most p.1 with
  | none=>simp only;unfold au;split <;> exact h
  | some n=>exact h
 ·exact h
theorem lw {most:Nat} {r:Rn} (h:StOk r.main r.alt):StOk (d5 most r).2.main (d5 most r).2.alt:=by
 have h:=(dx h).1;unfold d5;generalize bn r=p at *;simp only
 split
 ·cases fH most p.1 with
  | none=>exact fK h
  | some n=>exact h
 ·exact h
theorem D6 {hp:Hp} {I:Nat→Prop} {id:Nat} {ty:TypeId} {cs:List (Int × Int)} (hb:lk id hp=some ⟨ty,2,cs.map S4⟩) (hI:I id):SnapD hp I (.own id 0 cs.length cs.length) (.ro 2 (cs.map eV)):=by
 refine ik hb hI aw ?_ aw (fun r hr=>by
  obtain ⟨x,_,rfl⟩:=List.mem_map.1 hr
  rfl)
 rw [List.drop_zero,cA aw]
 have e:cs.map S4=(cs.map eV).map fun r=>r.map AV.d:=by
  rw [List.map_map];rfl
 rw [e];exact lT _
theorem RY (F:RnF) (x:Rx) (hi:F.inner.length=32) (htl:x.tpl.length=32) (htb:bytes x.tpl) (te:Int) (hT:av Tryz.prog 18 [.agg (eT F.t),.d (.int .i64 (F.n:Int))] (fun v=>v=.tup [.agg (cb x.tpl),.d (.int .i64 te)])) (r:Rn) (J:List Bool) (H:Nat) (hk:StOk r.main r.alt) :
    cJ Tryz.prog 3 (aF (gl F)) 201 ⟨r,J,H⟩ [.ptr 0 0 0 1] (fun v s'=>s'=⟨xf x r,J,H⟩):=by
  refine al Tryz.func201 (by kernel_rfl) rfl Tryz.ntmps201 (rs:=[]) rfl (dR rfl) (by decide) ?_;have hC:=dZ (F:=F) hi;have hz:z32.length=32:=rfl;obtain ⟨hk2,hb1,hb2⟩:=xN hk;have hto:=IQ hC r J H hk;unfold xf;generalize lj r=p at *;obtain ⟨b,r2⟩:=p;simp only at hto hk2 hb1 hb2 ⊢;simp [go_sem];refine dH (Pp:=[]) hC hto aq aw (by simp [AV.renL,AV.ren]) ?_;rintro v s' ρ ⟨rfl,rfl⟩ hρ;rw [bz];simp only [aF,bB,bA,id,gl,eS];simp only [eT] at hT;simp [go_sem,AV.ren];refine d0 [0,1,2,3,4,5,6,7,8,9] [10,14,15] [0,1,2,3,4,5,6,7,8,9,11,12,13,16] (.alt (.step 10 [11,12,13] true (bt 14 (.step 15 [16] true .done))) (bt 14 (.step 10 [11,12,13] true (.step 15 [16] true .done)))) ⟨[(0,.ptr 0 0 0 1),(2,.d (nb b)),(3,.ptr 548 0 0 1)],(548,⟨29,32,[cb x.tpl]⟩) :: gz 3 (aF (gl F)) ⟨r2,J,H⟩ id,9000⟩ (k:=17) ?h3 ?hq
  case h3 =>
    intro G hG;simp (config:={maxSteps:=3000000}) [go_sem]
    repeat' first
      | apply And.intro
      | (refine ag hT a9 ?_
         simp (config:={maxSteps:=3000000}) [go_sem,am,htl])
      | (refine hG _ _ (cn ⟨by simp [ai,fv,lk,AV.low,AV.low1],?_,aw⟩)
         intro p hp;rcases e_.1 hp with rfl | hp
         · refine ⟨.inl (by simp [lk,am,hz]),by show 548<9000;omega,?_⟩
           intro r hr v hv;simp only [e_,List.mem_nil_iff,or_false] at hr;subst hr;obtain ⟨y,_,rfl⟩:=List.mem_map.1 hv
           trivial
         · exact VR hC (dR rfl) (pH (by simp [lk,aF,bB,bA,gl,eS]) (by simp [lk,aF]) (by simp [lk,aF])) p hp)
  case hq =>
    simp [go_sem];refine iD (gG b x.tpl hb2 htb) rfl (aj (.deep trivial) (aj (.one (ak (dV rfl trivial htl))) aE)) trivial ?_;by_cases hq:b=x.tpl
    · simp [go_sem,hq]
      rw [bz];exact aB (by simp [lk,aF,bB,bA,gl,eS]) rfl rfl
    · simp [go_sem,hq]
      refine aM (Pp:=[(548,⟨29,32,[cb x.tpl]⟩)]) hC (bu hC r2 J H 23) rfl (dR rfl) (by intro p hp;simp at hp;subst hp;simp) (by simp [AV.renL,AV.ren]) ?_;rintro v s' ρ rfl hρ;rw [bz];generalize au 23 r2=r';simp only [aF,bB,bA,id,gl,eS];simp [go_sem,ah];exact aB (by simp [lk,aF,bB,bA]) rfl rfl
theorem O7 {C:List AV} (hC:ie C) (ids:List Nat) (Pp:Hp) {N:Nat} {hp:Hp} {g:FuncId} {s:RnS} {ars ars2:List AV} {R:AV→RnS→Prop} {K:AV→Hp→Prop} (h:cJ Tryz.prog 3 (aF C) g s (.ptr 0 0 0 1 :: ars2) R) (hN:3≤N)
  (hd:∀ p,p ∈ Pp ++ gz 3 (aF C) s id→lk p.1 (aD ids hp)=some p.2) (hl:ars.length=ars2.length) (hs:∀ (i:Nat) (v v':AV),ars[i]?=some v→ars2[i]?=some v'→v'=v ∨ Snap hp (fun id=>id ∈ ids) v v') (hP:∀ p,p ∈ Pp→p.1<N∧3≤p.1) (has:∀ ρ,AV.renL ρ ars2=ars2)
  (hK:∀ v s' ρ,R v s'→(∀ j,j<3→ρ j=j)→K (v.ren ρ) (Pp ++ gz 3 (aF C) s' id)):rG Tryz.prog g (.ptr 0 0 0 1 :: ars) hp N K:=by
 refine cj ids Pp (args':=.ptr 0 0 0 1 :: ars2) (qG hC) id h (aQ 3) (fun j hj=>by show j<N;omega) hd (by simp [hl]) ?_ (fun p hp=>⟨(hP p hp).1,fun j hj=>by have:=(hP p hp).2;show j ≠ p.1;omega⟩) ?_ hK
 ·intro i v v' h1 h2
  match i with
  | 0=>simp at h1 h2;subst h1;subst h2;exact .inl rfl
  | i+1=>exact hs i v v' h1 h2
 ·rw [AV.renL,has,AV.ren];rfl
theorem D7 {hp:Hp} {I:Nat→Prop} {l:List AV}:∀ (i:Nat) (v v':AV),([]:List AV)[i]?=some v→l[i]?=some v'→v'=v ∨ Snap hp I v v':=by intro i v v' h;simp at h
theorem pI {hp:Hp} {I:Nat→Prop} {a a':AV} {args args':List AV} (h:a'=a ∨ Snap hp I a a') (t:∀ (i:Nat) (v v':AV),args[i]?=some v→args'[i]?=some v'→v'=v ∨ Snap hp I v v'):∀ (i:Nat) (v v':AV),(a :: args)[i]?=some v→(a' :: args')[i]?=some v'→v'=v ∨ Snap hp I v v':=by
 intro i v v' h1 h2
 match i with
 | 0=>simp at h1 h2;subst h1;subst h2;exact h
 | i+1=>exact t i v v' h1 h2
theorem NW (F:RnF) (x:Rx) (hi:F.inner.length=32) (hR:∀ (h:bc) (o:Int),bytes h→h.length≤1000→av Tryz.prog 234 [.agg (eS F.t (F.n:Int) F.coins),.d (nb h),.d (.int .i64 o)] (fun v=>v=MR (x.rcv h o))) (r:Rn) (J:List Bool) (hk:StOk r.main r.alt) (hc:r.cl.length≤100000) :
  cJ Tryz.prog 3 (aF (gl F)) 203 ⟨r,J,0⟩ [.ptr 0 0 0 1] (fun v s'=>s'=⟨Bo x r,J,0⟩):=by
 refine al Tryz.func203 (by kernel_rfl) rfl Tryz.ntmps203 (rs:=[]) rfl (dR rfl) (by decide) ?_;have hC:=dZ (F:=F) hi;obtain ⟨hk2,hb1,hb2⟩:=dx hk;have hcl:(bn r).2.cl=r.cl:=zO r;have hta:=jN hC r J 0 hk;unfold Bo;generalize bn r=p at *;obtain ⟨h,r2⟩:=p;simp only at hta hk2 hb1 hb2 hcl ⊢;have htn:=rm hC r2 J 0 hk2 4 aq;have hk3:=lw (most:=4) hk2;have hcl2:(d5 4 r2).2.cl=r2.cl:=NV 4 r2;generalize d5 4 r2=p at *;obtain ⟨o,r3⟩:=p;simp only at htn hk3 hcl2 ⊢;have hR:=hR h o hb2 hb1;simp only [eS] at hR;generalize x.rcv h o=q at *;obtain ⟨c1,c2,e⟩:=q;simp [go_sem];refine dH (Pp:=[]) hC hta aq aw (by simp [AV.renL,AV.ren]) ?_;rintro v s' ρ ⟨rfl,rfl⟩ hρ;simp [go_sem,AV.ren];refine dH (Pp:=[]) hC htn aq aw (by simp [AV.renL,AV.ren]) ?_;rintro v s' ρ ⟨rfl,rfl⟩ hρ;simp [go_sem,AV.ren];refine dH (Pp:=[]) hC (ej hC r3 J 0) aq aw (by simp [AV.renL,AV.ren]) ?_;rintro v s' ρ' ⟨rfl,rfl⟩ hρ';by_cases he:r3.e=0
 ·rw [bz];simp only [aF,bB,bA,id,gl,eS];simp [go_sem,AV.ren,he];refine ag hR a9 ?_;simp [go_sem,MR];refine O7 hC [772] [] (s:=⟨r3,J,0⟩) (ars2:=[.d (.ro 2 ([(c1,c2)].map eV)),.d (.int .i64 e)]) (D3 hC r3 J hk3 [(c1,c2)] e (by rw [hcl2,hcl];exact hc) aw) aq ?_ rfl (pI (.inr (.one (ak (D6 (cs:=[(c1,c2)]) rfl aw)))) (pI (.inl rfl) D7)) aw (by simp [AV.renL,AV.ren]) ?_
  ·exact pH (by simp [aD,lk,aF,bB,bA,gl,eS,he]) (by simp [aD,lk,aF]) (by simp [aD,lk,aF])
  rintro v s' ρ rfl hρ;rw [bz];generalize zi [(c1,c2)] e r3=r';simp only [aF,bB,bA,id,gl,eS];simp [go_sem,ah];exact aB (by simp [lk,aF,bB,bA]) rfl rfl
 ·simp [go_sem,AV.ren,he,ah];rw [bz];exact aB rfl rfl rfl
theorem RZ (F:RnF) (x:Rx) (hi:F.inner.length=32) (hs:F.script.length≤100000) (hml:x.msg.length=32) (me:Int)
    (hM:av Tryz.prog 43 [.agg (eS F.t (F.n:Int) F.coins),.d (nb (jE F.script)),.d (nb F.annex)] (fun v=>v=.tup [.agg (cb x.msg),.d (.int .i64 me)])) (r:Rn) (J:List Bool) (H:Nat) :
    cC Tryz.prog 226 3 (gz 3 (aF (gl F)) ⟨r,J,H⟩ id) [.ptr 0 0 0 1] (fun v hp'=>v=.sub 708 0 0 1 32 32 1∧lk 708 hp'=some ⟨29,32,[cb x.msg]⟩∧rC 3 (aF (gl F)) ⟨r,J,H⟩ id hp'):=by
  refine al Tryz.func226 (by kernel_rfl) rfl Tryz.ntmps226 (rs:=[.tmp 2]) rfl (dR rfl) (by decide) ?_;have hC:=dZ (F:=F) hi;have hz:z32.length=32:=rfl;have hth:=qX F.script hs;have hbl:(eQ [84,97,112,76,101,97,102] (192 :: (aI F.script.length ++ F.script))).length=32:=qk F.script;rw [bz];simp only [aF,bB,bA,id,gl,eS,aP]
  have h39:∀ l:List AV,(cb F.inner ++ (AV.d (cZ F.path) :: AV.d (nb F.script) :: l))[33]?=some (.d (nb F.script)):=fun l=>by
    rw [d7 (by rw [am,hi];omega),am,hi];rfl
  have h40:∀ l:List AV,(cb F.inner ++ (AV.d (cZ F.path) :: AV.d (nb F.script) :: AV.d (nb F.annex) :: l))[34]?=some (.d (nb F.annex)):=fun l=>by
    rw [d7 (by rw [am,hi];omega),am,hi];rfl
  simp [go_sem,h39];refine ag hth a9 ?_;have hd0:List.drop 32 (cb z32)=[]:=rfl;have hlB:eQ [84,97,112,76,101,97,102] (192 :: (aI F.script.length ++ F.script))=jE F.script:=rfl;rw [hlB] at hbl ⊢;generalize jE F.script=lb at *;simp only [eS] at hM;simp [go_sem,am,hz,hbl,hd0]
  have hfl:(AV.tup [.agg (cb x.msg),.d (.int .i64 me)]).flat:=by
    intro c hc;simp at hc;rcases hc with rfl | rfl
    · refine .inr ⟨_,rfl,fun y hy=>?_⟩
      obtain ⟨z,_,rfl⟩:=List.mem_map.1 hy
      trivial
    · exact .inl trivial
  refine d0 [0,1,2,3,4,5,6,7,8] [9,13,14] [0,1,2,3,4,5,6,7,8,10,11,12,15] (.alt (.step 9 [10,11,12] true (bt 13 (.step 14 [15] true .done))) (bt 13 (.step 9 [10,11,12] true (.step 14 [15] true .done)))) ⟨[(4,.ptr 708 0 0 1)],(708,⟨29,32,[cb x.msg]⟩) :: gz 3 (aF (gl F)) ⟨r,J,H⟩ id,9000⟩ (k:=16) ?h3 ?hq
  case h3 =>
    intro G hG;simp (config:={maxSteps:=3000000}) [go_sem,h40,am,hbl]
    repeat' first
      | apply And.intro
      | (refine iD hM rfl (aj (.deep a9) (aj (.one (ak (dV rfl trivial hbl))) (aj (.deep trivial) aE))) hfl ?_
         simp (config:={maxSteps:=3000000}) [go_sem,am,hml,hz])
      | (refine hG _ _ (cn ⟨by simp [ai,fv,lk,AV.low,AV.low1],?_,aw⟩)
         intro p hp;rcases e_.1 hp with rfl | hp
         · refine ⟨.inl (by simp [lk,am,hz,hd0]),by show 708<9000;omega,?_⟩
           intro r hr v hv;simp only [e_,List.mem_nil_iff,or_false] at hr;subst hr;obtain ⟨y,_,rfl⟩:=List.mem_map.1 hv
           trivial
         · exact VR hC (dR rfl) (pH (by simp [lk,aF,bB,bA,gl,eS,aP]) (by simp [lk,aF]) (by simp [lk,aF])) p hp)
  case hq =>
    simp [go_sem,ah];rw [bz];exact aB (by simp [lk,aF,bB,bA,gl,eS,aP]) rfl rfl
theorem R7 (F:RnF) (x:Rx) (hi:F.inner.length=32) (hs:F.script.length≤100000) (hml:x.msg.length=32) (me:Int)
  (hM:av Tryz.prog 43 [.agg (eS F.t (F.n:Int) F.coins),.d (nb (jE F.script)),.d (nb F.annex)] (fun v=>v=.tup [.agg (cb x.msg),.d (.int .i64 me)])) {s:RnS} {N:Nat} {K:AV→Hp→Prop} (hN:3≤N)
  (hK:K (.sub N 0 0 1 32 32 1) ((N,⟨29,32,[cb x.msg]⟩) :: gz 3 (aF (gl F)) s id)):rG Tryz.prog 226 [.ptr 0 0 0 1] (gz 3 (aF (gl F)) s id) N K:=by
 have hC:=dZ (F:=F) hi;have ho:=qG hC;have hid:∀ j,j<3→bO (jH 3 id id) 3 (id j)=j:=fun j hj=>rM id 3 (aQ 3) hj;have hnw:cK (jH 3 id id) [(708,0)]=true:=A9 aq;have h708:uZ 3 id [(708,0)] N 708=N:=wP (c:=708) (j:=0) hnw aw
 refine .inl (nf (n:=3) (b0:=aF (gl F) s id) id (RZ F x hi hs hml me hM s.r s.J s.H) (fun i x hi=>C5 i x hi) (aQ 3) (fun j hj=>by show j<N;omega)
  (fun j hj=>⟨_,wM _ (aQ 3) hj,ho.2 _ _ _ hj,(ho.1 s id _ id j hj hid).symm⟩) ?_ [(708,0)] hnw ?_)
 ·rw [AV.renL,AV.renL,AV.ren];rfl
 ·rintro r' hp' ⟨rfl,hb,hs'⟩ hpX q1 q2 q3;have hro:∀ j,j<3→uZ 3 id [(708,0)] N (id j)=id j:=fun j hj=>wO hnw hj;refine ⟨(N,⟨29,32,[cb x.msg]⟩) :: gz 3 (aF (gl F)) s id,fun i b h=>?_,?_⟩
  ·simp only [lk] at h
   split at h
   ·rename_i e;subst e
    cases h
    have h2:=q2 708 0 aw _ hb
    have e:Blk.ren (uZ 3 id [(708,0)] N) ⟨29,32,[cb x.msg]⟩=⟨29,32,[cb x.msg]⟩:=by
     simp only [Blk.ren,aR,List.map_cons,List.map_nil,po,cb,List.map_map];rfl
    rw [e] at h2;exact h2
   ·obtain ⟨j,hj,e⟩:=kW.1 (bG h)
    cases e
    have h2:=q1 j hj _ (hs' j hj);rw [ho.1 s id _ id j hj hro] at h2;exact h2
  ·rw [AV.ren,h708];exact hK
theorem D8 (m:bc):av Tryz.prog 228 [.rop [nb m]] (fun v=>v=.d (nb m)):=by
 refine bK Tryz.func228 Tryz.ntmps228 (rs:=[.tmp 1]) a9 ?_;simp [go_sem,ah];exact aa trivial rfl
def R9 (sg:bc→bc→bc→Bool):Prop:=∀ key msg sig:bc,key.length=32→bytes key→bytes msg→bytes sig→msg.length≤1000→sig.length≤1000→av Tryz.prog 156 [.agg (cb key),.d (nb msg),.d (nb sig)] (fun v=>v=.d (.bool (sg key sig msg)))
theorem pJ (key:bc):(key.map fun (b:Nat)=>[DV.int .u8 (b:Int)]).flatten=cd key:=by
 unfold cd
 induction key with
 | nil=>rfl
 | cons a l ih=>simp only [List.map_cons,List.flatten_cons,ih];rfl
theorem D9 {hp:Hp} {key:bc}:Snap hp (fun _=>True) (.agg (cb key)) (.agg (cb key)):=.deep (dr _)
theorem JK {C:List AV} (hC:ie C) (msg:bc) (hmb:bytes msg) (hml:msg.length≤1000) (sg:bc→bc→bc→Bool) (hV:R9 sg) (r:Rn) (J:List Bool) (H:Nat) (key sig:bc) (hkb:bytes key) (hsb:bytes sig) (hkl:key.length≤1000) (hsl:sig.length≤1000) (hbd:-9223372036854775808≤r.bud) (hbd2:r.bud<9223372036854775808) :
  cJ Tryz.prog 3 (aF C) 225 ⟨r,J,H⟩ [.ptr 0 0 0 1,.d (nb key),.d (nb sig),.fn 228 [.rop [nb msg]]] (fun v s'=>v=.d (.bool (fa sg key sig msg r).1)∧s'=⟨(fa sg key sig msg r).2,J,H⟩):=by
 refine al Tryz.func225 (by kernel_rfl) rfl Tryz.ntmps225 (rs:=[.tmp 8]) rfl (dR rfl) (by decide) ?_;have hl:=hC.2.2;simp [go_sem];refine dH (Pp:=[]) hC (ej hC r J H) aq aw (by simp [AV.renL,AV.ren]) ?_;rintro v s' ρ ⟨rfl,rfl⟩ hρ;by_cases he:r.e=0
 ·by_cases hs0:sig.length=0
  ·have hv:fa sg key sig msg r=(false,r):=by simp [fa,hs0]
   rw [hv];have hs0i:(sig.length:Int)=0:=aq;simp [go_sem,AV.ren,he,nb,hs0,hs0i,ah];rw [bz];exact aB rfl rfl rfl
  ·have hs0i:¬ (sig.length:Int)=0:=aq;by_cases hb5:r.bud<50
   ·have hv:fa sg key sig msg r=(false,au 21 r):=by simp [fa,hs0,he,hb5]
    rw [hv];simp [go_sem,AV.ren,he,nb,hs0,hs0i];rw [bz];simp only [aF,bB,bA,id];simp [go_sem,hl,hb5];refine aM (Pp:=[]) (s:=⟨r,J,H⟩) hC (bu hC r J H 21) (by simp [bz,aF,bB,bA,he]) aq aw (by simp [AV.renL,AV.ren]) ?_;rintro v s' ρ rfl hρ;rw [bz];generalize au 21 r=r';simp only [aF,bB,bA,id];simp [go_sem,ah];exact aB rfl rfl rfl
   ·have hv:fa sg key sig msg r=if key.length=32∧sg key sig msg=true then (true,{ r with bud:=r.bud - 50 }) else (false,au 20 { r with bud:=r.bud - 50 }):=by
     simp only [fa,hs0,he,hb5,if_false,ne_eq,not_false_eq_true,and_self,if_true]
    rw [hv];have w1:IntKind.i64.wrap (r.bud - 50)=r.bud - 50:=IntWalk.i64_in _ aq;simp [go_sem,AV.ren,he,nb,hs0,hs0i];rw [bz];simp only [aF,bB,bA,id];simp [go_sem,hl,hb5,w1];have hsh:∀ l:List AV,l=l:=fun _=>rfl;obtain ⟨main,alt,br,bud,cl,e⟩:=r;simp only at he hb5 w1 hbd hbd2 ⊢;subst he;have hid2:gp ⟨main,alt,br,bud,cl,0⟩=gp ⟨main,alt,br,bud - 50,cl,0⟩:=rfl;rw [hid2];have hfl:=bu hC ⟨main,alt,br,bud - 50,cl,0⟩ J H 20;by_cases h32:key.length=32
    ·have hve:=hV key msg sig h32 hkb hmb hsb;have h32i:(key.length:Int)=32:=aq
     cases hg:sg key sig msg with
     | true =>
      rw [hg] at hve;rw [if_pos ⟨h32,rfl⟩];simp [go_sem,h32,h32i];refine b7 [0,1,2,3,4,5,6,7,9] [(8,[]),(10,[11,12])] 2 (k:=13) ?_;intro G hG;simp [go_sem,h32,h32i,AV.ren,pJ,kS,ar h32,am];refine ag (D8 msg) a9 ?_;simp [go_sem];refine ag (hve hml hsl) (by intro v hv;simp at hv;rcases hv with rfl | rfl | rfl;exact dr _;trivial;trivial) ?_;simp [go_sem];refine hG _ _ ?_;clear hG G;simp [go_sem,ah];exact aB rfl rfl rfl
     | false =>
      rw [hg] at hve;rw [if_neg (fun h=>by cases h.2)];simp [go_sem,h32,h32i];refine b7 [0,1,2,3,4,5,6,7,9] [(8,[]),(10,[11,12])] 2 (k:=13) ?_;intro G hG;simp [go_sem,h32,h32i,AV.ren,pJ,kS,ar h32,am];refine ag (D8 msg) a9 ?_;simp [go_sem];refine ag (hve hml hsl) (by intro v hv;simp at hv;rcases hv with rfl | rfl | rfl;exact dr _;trivial;trivial) ?_;simp [go_sem];refine hG _ _ ?_;clear hG G;simp [go_sem];refine aM (Pp:=[]) (s:=⟨⟨main,alt,br,bud - 50,cl,0⟩,J,H⟩) hC hfl (by simp [bz,aF,bB,bA]) aq aw (by simp [AV.renL,AV.ren]) ?_;rintro v s' ρ rfl hρ;rw [bz];generalize au 20 ⟨main,alt,br,bud - 50,cl,0⟩=r';simp only [aF,bB,bA,id];simp [go_sem,ah];exact aB rfl rfl rfl
    ·have h32i:¬ (key.length:Int)=32:=aq;rw [if_neg (fun h=>h32 h.1)];simp [go_sem,h32,h32i];refine b7 [0,1,2,3,4,5,6,7,9] [(8,[]),(10,[11,12])] 2 (k:=13) ?_;intro G hG;simp [go_sem,h32,h32i,AV.ren];refine hG _ _ ?_;clear hG G;simp [go_sem];refine aM (Pp:=[]) (s:=⟨⟨main,alt,br,bud - 50,cl,0⟩,J,H⟩) hC hfl (by simp [bz,aF,bB,bA]) aq aw (by simp [AV.renL,AV.ren]) ?_;rintro v s' ρ rfl hρ;rw [bz];generalize au 20 ⟨main,alt,br,bud - 50,cl,0⟩=r';simp only [aF,bB,bA,id];simp [go_sem,ah];exact aB rfl rfl rfl
 ·have hv:fa sg key sig msg r=(false,r):=by simp [fa,he]
  rw [hv];simp [go_sem,AV.ren,he,ah];rw [bz];exact aB rfl rfl rfl
theorem Ea (F:RnF) (x:Rx) (hi:F.inner.length=32) (hs:F.script.length≤100000) (hml:x.msg.length=32) (me:Int)
  (hM:av Tryz.prog 43 [.agg (eS F.t (F.n:Int) F.coins),.d (nb (jE F.script)),.d (nb F.annex)] (fun v=>v=.tup [.agg (cb x.msg),.d (.int .i64 me)])) {s:RnS} {N:Nat} {hp:Hp} {K:AV→Hp→Prop} (he:hp=gz 3 (aF (gl F)) s id) (hN:3≤N)
  (hK:K (.sub N 0 0 1 32 32 1) ((N,⟨29,32,[cb x.msg]⟩) :: gz 3 (aF (gl F)) s id)):rG Tryz.prog 226 [.ptr 0 0 0 1] hp N K:=he ▸ R7 F x hi hs hml me hM hN hK
theorem tJ (F:RnF) (x:Rx) (hi:F.inner.length=32) (hs:F.script.length≤100000) (hml:x.msg.length=32) (hmb:bytes x.msg) (me:Int) (hM:av Tryz.prog 43 [.agg (eS F.t (F.n:Int) F.coins),.d (nb (jE F.script)),.d (nb F.annex)] (fun v=>v=.tup [.agg (cb x.msg),.d (.int .i64 me)])) (sg:bc→bc→bc→Bool) (hV:R9 sg) (r:Rn) (J:List Bool) (H:Nat) (key sig:bc) (hkb:bytes key) (hsb:bytes sig) (hkl:key.length≤1000) (hsl:sig.length≤1000) (hbd:-9223372036854775808≤r.bud) (hbd2:r.bud<9223372036854775808) :
  cJ Tryz.prog 3 (aF (gl F)) 225 ⟨r,J,H⟩ [.ptr 0 0 0 1,.d (nb key),.d (nb sig),.mth 226 [.ptr 0 0 0 1]] (fun v s'=>v=.d (.bool (fa sg key sig x.msg r).1)∧s'=⟨(fa sg key sig x.msg r).2,J,H⟩):=by
 have hC:=dZ (F:=F) hi;generalize hCF:gl F=C at *;refine al Tryz.func225 (by kernel_rfl) rfl Tryz.ntmps225 (rs:=[.tmp 8]) rfl (dR rfl) (by decide) ?_;have hl:=hC.2.2;simp [go_sem];refine dH (Pp:=[]) hC (ej hC r J H) aq aw (by simp [AV.renL,AV.ren]) ?_;rintro v s' ρ ⟨rfl,rfl⟩ hρ;by_cases he:r.e=0
 ·by_cases hs0:sig.length=0
  ·have hv:fa sg key sig x.msg r=(false,r):=by simp [fa,hs0]
   rw [hv];have hs0i:(sig.length:Int)=0:=aq;simp [go_sem,AV.ren,he,nb,hs0,hs0i,ah];rw [bz];exact aB rfl rfl rfl
  ·have hs0i:¬ (sig.length:Int)=0:=aq;by_cases hb5:r.bud<50
   ·have hv:fa sg key sig x.msg r=(false,au 21 r):=by simp [fa,hs0,he,hb5]
    rw [hv];simp [go_sem,AV.ren,he,nb,hs0,hs0i];rw [bz];simp only [aF,bB,bA,id];simp [go_sem,hl,hb5];refine aM (Pp:=[]) (s:=⟨r,J,H⟩) hC (bu hC r J H 21) (by simp [bz,aF,bB,bA,he]) aq aw (by simp [AV.renL,AV.ren]) ?_;rintro v s' ρ rfl hρ;rw [bz];generalize au 21 r=r';simp only [aF,bB,bA,id];simp [go_sem,ah];exact aB rfl rfl rfl
   ·have hv:fa sg key sig x.msg r=if key.length=32∧sg key sig x.msg=true then (true,{ r with bud:=r.bud - 50 }) else (false,au 20 { r with bud:=r.bud - 50 }):=by
     simp only [fa,hs0,he,hb5,if_false,ne_eq,not_false_eq_true,and_self,if_true]
    rw [hv];have w1:IntKind.i64.wrap (r.bud - 50)=r.bud - 50:=IntWalk.i64_in _ aq;simp [go_sem,AV.ren,he,nb,hs0,hs0i];rw [bz];simp only [aF,bB,bA,id];simp [go_sem,hl,hb5,w1];have hsh:∀ l:List AV,l=l:=fun _=>rfl;obtain ⟨main,alt,br,bud,cl,e⟩:=r;simp only at he hb5 w1 hbd hbd2 ⊢;subst he;have hid2:gp ⟨main,alt,br,bud,cl,0⟩=gp ⟨main,alt,br,bud - 50,cl,0⟩:=rfl;rw [hid2];have hfl:=bu hC ⟨main,alt,br,bud - 50,cl,0⟩ J H 20;by_cases h32:key.length=32
    ·have hve:=hV key x.msg sig h32 hkb hmb hsb;have h32i:(key.length:Int)=32:=aq
     cases hg:sg key sig x.msg with
     | true =>
      rw [hg] at hve;rw [if_pos ⟨h32,rfl⟩];simp [go_sem,h32,h32i];refine b7 [0,1,2,3,4,5,6,7,9] [(8,[]),(10,[11,12])] 2 (k:=13) ?_;intro G hG;simp [go_sem,h32,h32i,AV.ren,pJ,kS,ar h32,am];refine Ea F x hi hs hml me hM (s:=⟨⟨main,alt,br,bud - 50,cl,0⟩,J,H⟩) (by simp [hCF,bz,aF,bB,bA]) aq ?_;rw [bz,hCF];simp only [aF,bB,bA,id];simp [go_sem];refine iD (hve aq hsl) rfl (aj D9 (aj (.one (ak (dV rfl trivial hml))) (aj (.deep trivial) aE))) trivial ?_;simp [go_sem];refine hG _ _ ?_;clear hG G;simp [go_sem,ah];exact aB rfl rfl rfl
     | false =>
      rw [hg] at hve;rw [if_neg (fun h=>by cases h.2)];simp [go_sem,h32,h32i];refine b7 [0,1,2,3,4,5,6,7,9] [(8,[]),(10,[11,12])] 2 (k:=13) ?_;intro G hG;simp [go_sem,h32,h32i,AV.ren,pJ,kS,ar h32,am];refine Ea F x hi hs hml me hM (s:=⟨⟨main,alt,br,bud - 50,cl,0⟩,J,H⟩) (by simp [hCF,bz,aF,bB,bA]) aq ?_;rw [bz,hCF];simp only [aF,bB,bA,id];simp [go_sem];refine iD (hve aq hsl) rfl (aj D9 (aj (.one (ak (dV rfl trivial hml))) (aj (.deep trivial) aE))) trivial ?_;simp [go_sem];refine hG _ _ ?_;clear hG G;simp [go_sem];refine aM (Pp:=[(964,⟨29,32,[cb x.msg]⟩)]) (s:=⟨⟨main,alt,br,bud - 50,cl,0⟩,J,H⟩) hC hfl (by simp [bz,aF,bB,bA]) aq aw (by simp [AV.renL,AV.ren]) ?_;rintro v s' ρ rfl hρ;rw [bz];generalize au 20 ⟨main,alt,br,bud - 50,cl,0⟩=r';simp only [aF,bB,bA,id];simp [go_sem,ah];exact aB rfl rfl rfl
    ·have h32i:¬ (key.length:Int)=32:=aq;rw [if_neg (fun h=>h32 h.1)];simp [go_sem,h32,h32i];refine b7 [0,1,2,3,4,5,6,7,9] [(8,[]),(10,[11,12])] 2 (k:=13) ?_;intro G hG;simp [go_sem,h32,h32i,AV.ren];refine hG _ _ ?_;clear hG G;simp [go_sem];refine aM (Pp:=[]) (s:=⟨⟨main,alt,br,bud - 50,cl,0⟩,J,H⟩) hC hfl (by simp [bz,aF,bB,bA]) aq aw (by simp [AV.renL,AV.ren]) ?_;rintro v s' ρ rfl hρ;rw [bz];generalize au 20 ⟨main,alt,br,bud - 50,cl,0⟩=r';simp only [aF,bB,bA,id];simp [go_sem,ah];exact aB rfl rfl rfl
 ·have hv:fa sg key sig x.msg r=(false,r):=by simp [fa,he]
  rw [hv];simp [go_sem,AV.ren,he,ah];rw [bz];exact aB rfl rfl rfl
structure RnL (r r':Rn):Prop where
 br:r'.br=r.br
 cl:r'.cl=r.cl
 bud:r'.bud=r.bud
theorem mJ (x:Int) (r:Rn):RnL r (au x r):=by unfold au;split <;> exact ⟨rfl,rfl,rfl⟩
theorem RnL.trans {a b c:Rn} (h:RnL a b) (h2:RnL b c):RnL a c:=⟨h2.br.trans h.br,h2.cl.trans h.cl,h2.bud.trans h.bud⟩
theorem kr (r:Rn):RnL r (bn r).2:=by
 unfold bn
 split
 ·split
  ·exact mJ _ _
  ·exact ⟨rfl,rfl,rfl⟩
 ·exact ⟨rfl,rfl,rfl⟩
theorem vC (most:Nat) (r:Rn):RnL r (d5 most r).2:=by
 have h:=kr r;unfold d5;generalize bn r=p at *;simp only
 split
 ·cases fH most p.1 with
  | none=>exact h.trans (mJ _ _)
  | some n=>exact h
 ·exact h
theorem VS (b:bc) (r:Rn):RnL r (dn b r):=by
 unfold dn
 split
 ·split
  ·exact ⟨rfl,rfl,rfl⟩
  ·exact mJ _ _
 ·exact ⟨rfl,rfl,rfl⟩
def fN (b:Int):Prop:=-9223372036854775808≤b∧b<9223372036854775808
theorem tK (sg:bc→bc→bc→Bool) (key sig msg:bc) (r:Rn) (h:fN r.bud) (hk:StOk r.main r.alt):(fa sg key sig msg r).2.br=r.br∧(fa sg key sig msg r).2.cl=r.cl∧fN (fa sg key sig msg r).2.bud∧StOk (fa sg key sig msg r).2.main (fa sg key sig msg r).2.alt:=by
 have bd:¬ r.bud<50→fN (r.bud - 50):=fun hh=>⟨by have:=h.2;omega,by have:=h.2;omega⟩;unfold fa
 split
 ·split
  ·have:=mJ 21 r;exact ⟨this.br,this.cl,by rw [this.bud];exact h,fK hk⟩
  ·split
   ·exact ⟨rfl,rfl,bd ‹_›,hk⟩
   ·have:=mJ 20 { r with bud:=r.bud - 50 };exact ⟨this.br,this.cl,by rw [this.bud];exact bd ‹_›,fK hk⟩
 ·exact ⟨rfl,rfl,h,hk⟩
theorem Eb {r:Rn} (h:StOk r.main r.alt):-2147483648<(d5 4 r).1∧(d5 4 r).1<2147483648:=by
 obtain ⟨_,_,hb⟩:=dx h;unfold d5;generalize bn r=p at *;simp only
 split
 ·cases hd:fH 4 p.1 with
  | none=>simp only;omega
  | some n=>exact Dn hb hd
 ·simp only;omega
structure RnE (F:RnF) (x:Rx):Prop where
 hi:F.inner.length=32
 hs:F.script.length≤100000
 ml:x.msg.length=32
 mb:bytes x.msg
 mg:∃ me:Int,av Tryz.prog 43 [.agg (eS F.t (F.n:Int) F.coins),.d (nb (jE F.script)),.d (nb F.annex)] (fun v=>v=.tup [.agg (cb x.msg),.d (.int .i64 me)])
 vf:R9 x.sg
 tl:x.tpl.length=32
 tb:bytes x.tpl
 tg:∃ te:Int,av Tryz.prog 18 [.agg (eT F.t),.d (.int .i64 (F.n:Int))] (fun v=>v=.tup [.agg (cb x.tpl),.d (.int .i64 te)])
 rc:∀ (h:bc) (o:Int),bytes h→h.length≤1000→av Tryz.prog 234 [.agg (eS F.t (F.n:Int) F.coins),.d (nb h),.d (.int .i64 o)] (fun v=>v=MR (x.rcv h o))
 tr:∀ (s:bc) (o0 o1 back:Int),bytes s→s.length≤100000→-9223372036854775808≤back→back<9223372036854775808→av Tryz.prog 27 [.agg (eS F.t (F.n:Int) F.coins),cM F.inner F.path F.script,.d (nb s),.agg [.d (.int .i64 o0),.d (.int .i64 o1)],.d (.int .i64 back)]
  (fun v=>v=.tup [.d (.ro 2 ((x.trg s o0 o1 back).1.map eV)),.d (.int .i64 (x.trg s o0 o1 back).2)])∧(x.trg s o0 o1 back).1.length≤2
 sq:∃ i:Ip,F.t.ins[F.n]?=some i∧i.ok∧x.seq=(i.seq:Int)
 lk:F.t.lock<4294967296∧x.lock=(F.t.lock:Int)
 vr:F.t.ver<4294967296∧x.ver=(F.t.ver:Int)
 hh:x.h1=bo∧x.h2=dO
theorem JL {C:List AV} (hC:ie C) {N:Nat} {g:FuncId} {s:RnS} {ars:List AV} {R:AV→RnS→Prop} {K:AV→Hp→Prop} (h:cJ Tryz.prog 3 (aF C) g s (.ptr 0 0 0 1 :: ars) R) (hN:3≤N) (has:AV.renL (bO (jH 3 id id) 3) ars=ars)
  (hK:∀ v s' ρ,R v s'→(∀ j,j<3→ρ j=j)→K (v.ren ρ) (gz 3 (aF C) s' id)):rG Tryz.prog g (.ptr 0 0 0 1 :: ars) (gz 3 (aF C) s id) N K:=by
 refine rN (Pp:=[]) (qG hC) h (aQ 3) (fun j hj=>by show j<N;omega) aw ?_ hK;rw [AV.renL,has,AV.ren];rfl
theorem rU (F:RnF) (x:Rx) (E:RnE F x) (op:Nat) (ho:op=172 ∨ op=173 ∨ op=186 ∨ op=204) (r:Rn) (J:List Bool) (H:Nat) (hk:StOk r.main r.alt) (hbd:fN r.bud) :
  cJ Tryz.prog 3 (aF (gl F)) 198 ⟨r,J,H⟩ [.ptr 0 0 0 1,.d (.int .u8 (op:Int))] (fun v s'=>s'=⟨qE x op r,J,H⟩):=by
 refine al Tryz.func198 (by kernel_rfl) rfl Tryz.ntmps198 (rs:=[]) rfl (dR rfl) (by decide) ?_;have hC:=dZ (F:=F) E.hi;have hl:=hC.2.2;obtain ⟨me,hM⟩:=E.mg;have hta:=jN hC r J H hk;obtain ⟨hk2,hb1,hb2⟩:=dx hk;have hbd2:fN (bn r).2.bud:=by rw [(kr r).bud];exact hbd
 unfold qE;generalize bn r=p at *;obtain ⟨key,r2⟩:=p;simp only at hta hk2 hb1 hb2 hbd2 ⊢;rcases ho with rfl | rfl | rfl | rfl
 ·have hT:=True.intro;have htb:=jN hC r2 J H hk2;obtain ⟨hk3,hc21,hc22⟩:=dx hk2;have hbd3:fN (bn r2).2.bud:=by rw [(kr r2).bud];exact hbd2
  generalize bn r2=p at *;obtain ⟨sig,r3⟩:=p;simp only at htb hk3 hc21 hc22 hbd3 ⊢;have hsg:=tJ F x E.hi E.hs E.ml E.mb me hM x.sg E.vf r3 J H key sig hb2 hc22 hb1 hc21 hbd3.1 hbd3.2;obtain ⟨_,_,_,hk9⟩:=tK x.sg key sig x.msg r3 hbd3 hk3;generalize fa x.sg key sig x.msg r3=p at *;obtain ⟨b,r9⟩:=p;simp only at hsg hk9 ⊢;have hpu:=oo hC r9 J H hk9 (ir b) (by cases b <;> simp [ir]);simp [go_sem];refine dH (Pp:=[]) hC hta aq aw (by simp [AV.renL,AV.ren]) ?_;rintro v s' ρ ⟨rfl,rfl⟩ hρ;simp [go_sem,AV.ren,o6];refine dH (Pp:=[]) hC htb aq aw (by simp [AV.renL,AV.ren]) ?_;rintro v s' ρ ⟨rfl,rfl⟩ hρ;simp [go_sem,AV.ren,o6];refine JL hC hsg aq rfl ?_;rintro v s' ρ ⟨rfl,rfl⟩ hρ;simp [go_sem,AV.ren];refine ag (lg b) a9 ?_;simp [go_sem];refine aM (Pp:=[]) hC hpu (List.nil_append _).symm aq aw (by simp [AV.renL,AV.ren]) ?_;rintro v s' ρ rfl hρ;rw [bz];generalize dn (ir b) r9=r';simp only [aF,bB,bA,id];simp [go_sem,ah];exact aB rfl rfl rfl
 ·have hT:=True.intro;have htb:=jN hC r2 J H hk2;obtain ⟨hk3,hc21,hc22⟩:=dx hk2;have hbd3:fN (bn r2).2.bud:=by rw [(kr r2).bud];exact hbd2
  generalize bn r2=p at *;obtain ⟨sig,r3⟩:=p;simp only at htb hk3 hc21 hc22 hbd3 ⊢;have hsg:=tJ F x E.hi E.hs E.ml E.mb me hM x.sg E.vf r3 J H key sig hb2 hc22 hb1 hc21 hbd3.1 hbd3.2;obtain ⟨_,_,_,hk9⟩:=tK x.sg key sig x.msg r3 hbd3 hk3;generalize fa x.sg key sig x.msg r3=p at *;obtain ⟨b,r9⟩:=p;simp only at hsg hk9 ⊢;simp [go_sem];refine dH (Pp:=[]) hC hta aq aw (by simp [AV.renL,AV.ren]) ?_;rintro v s' ρ ⟨rfl,rfl⟩ hρ;simp [go_sem,AV.ren,o6];refine dH (Pp:=[]) hC htb aq aw (by simp [AV.renL,AV.ren]) ?_;rintro v s' ρ ⟨rfl,rfl⟩ hρ;simp [go_sem,AV.ren,o6];refine JL hC hsg aq rfl ?_;rintro v s' ρ ⟨rfl,rfl⟩ hρ
  cases b with
  | true =>
   simp [go_sem,AV.ren];rw [bz];exact aB rfl rfl rfl
  | false =>
   simp [go_sem,AV.ren];refine aM (Pp:=[]) hC (bu hC r9 J H 16) (List.nil_append _).symm aq aw (by simp [AV.renL,AV.ren]) ?_;rintro v s' ρ rfl hρ;rw [bz];generalize au 16 r9=r';simp only [aF,bB,bA,id];simp [go_sem,ah];exact aB rfl rfl rfl
 ·have hT:=True.intro;have hnb:=rm hC r2 J H hk2 4 aq;have hk3:=lw (most:=4) hk2;have hbd3:fN (d5 4 r2).2.bud:=by rw [(vC 4 r2).bud];exact hbd2
  have hn31:=Eb hk2;generalize d5 4 r2=p at *;obtain ⟨n,r3⟩:=p;simp only at hnb hk3 hbd3 hn31 ⊢;have htb:=jN hC r3 J H hk3;obtain ⟨hk4,hc31,hc32⟩:=dx hk3;have hbd4:fN (bn r3).2.bud:=by rw [(kr r3).bud];exact hbd3
  generalize bn r3=p at *;obtain ⟨sig,r4⟩:=p;simp only at htb hk4 hc31 hc32 hbd4 ⊢;have hsg:=tJ F x E.hi E.hs E.ml E.mb me hM x.sg E.vf r4 J H key sig hb2 hc32 hb1 hc31 hbd4.1 hbd4.2;obtain ⟨_,_,_,hk9⟩:=tK x.sg key sig x.msg r4 hbd4 hk4;generalize fa x.sg key sig x.msg r4=p at *;obtain ⟨b,r9⟩:=p;simp only at hsg hk9 ⊢;have w1:IntKind.i64.wrap (n+1)=n+1:=IntWalk.i64_in _ (by have:=hn31.1;have:=hn31.2;omega);simp [go_sem];refine dH (Pp:=[]) hC hta aq aw (by simp [AV.renL,AV.ren]) ?_;rintro v s' ρ ⟨rfl,rfl⟩ hρ;simp [go_sem,AV.ren,o6];refine dH (Pp:=[]) hC hnb aq aw (by simp [AV.renL,AV.ren]) ?_;rintro v s' ρ ⟨rfl,rfl⟩ hρ;simp [go_sem,AV.ren,o6];refine dH (Pp:=[]) hC htb aq aw (by simp [AV.renL,AV.ren]) ?_;rintro v s' ρ ⟨rfl,rfl⟩ hρ;simp [go_sem,AV.ren,o6];refine JL hC hsg aq rfl ?_;rintro v s' ρ ⟨rfl,rfl⟩ hρ
  cases b with
  | true =>
   have hpu:=oo hC r9 J H hk9 (fW (n+1)) (by have:=kC (n+1);omega);simp [go_sem,AV.ren,w1];refine ag (kT (n+1) (by have:=hn31.1;omega) (by have:=hn31.2;omega)) a9 ?_;simp [go_sem];refine aM (Pp:=[]) hC hpu (List.nil_append _).symm aq aw (by simp [AV.renL,AV.ren]) ?_;rintro v s' ρ rfl hρ;rw [bz];generalize dn (fW (n+1)) r9=r';simp only [aF,bB,bA,id];simp [go_sem,ah];exact aB rfl rfl rfl
  | false =>
   have hpu:=oo hC r9 J H hk9 (fW (n)) (by have:=kC (n);omega);simp [go_sem,AV.ren,w1];refine ag (kT (n) (by have:=hn31.1;omega) (by have:=hn31.2;omega)) a9 ?_;simp [go_sem];refine aM (Pp:=[]) hC hpu (List.nil_append _).symm aq aw (by simp [AV.renL,AV.ren]) ?_;rintro v s' ρ rfl hρ;rw [bz];generalize dn (fW (n)) r9=r';simp only [aF,bB,bA,id];simp [go_sem,ah];exact aB rfl rfl rfl
 ·have hT:=True.intro;have hmb:=jN hC r2 J H hk2;obtain ⟨hk3,hc21,hc22⟩:=dx hk2;have hbd3:fN (bn r2).2.bud:=by rw [(kr r2).bud];exact hbd2
  generalize bn r2=p at *;obtain ⟨msg,r3⟩:=p;simp only at hmb hk3 hc21 hc22 hbd3 ⊢;have htb:=jN hC r3 J H hk3;obtain ⟨hk4,hc31,hc32⟩:=dx hk3;have hbd4:fN (bn r3).2.bud:=by rw [(kr r3).bud];exact hbd3
  generalize bn r3=p at *;obtain ⟨sig,r4⟩:=p;simp only at htb hk4 hc31 hc32 hbd4 ⊢;have hsg:=JK hC msg hc22 hc21 x.sg E.vf r4 J H key sig hb2 hc32 hb1 hc31 hbd4.1 hbd4.2;obtain ⟨_,_,_,hk9⟩:=tK x.sg key sig msg r4 hbd4 hk4;generalize fa x.sg key sig msg r4=p at *;obtain ⟨b,r9⟩:=p;simp only at hsg hk9 ⊢;have hpu:=oo hC r9 J H hk9 (ir b) (by cases b <;> simp [ir]);simp [go_sem];refine dH (Pp:=[]) hC hta aq aw (by simp [AV.renL,AV.ren]) ?_;rintro v s' ρ ⟨rfl,rfl⟩ hρ;simp [go_sem,AV.ren,o6];refine dH (Pp:=[]) hC hmb aq aw (by simp [AV.renL,AV.ren]) ?_;rintro v s' ρ ⟨rfl,rfl⟩ hρ;simp [go_sem,AV.ren,o6];refine aM (Pp:=[(452,⟨31,1,[[.d (nb msg)]]⟩)]) hC htb rfl aq (by intro p hp;simp at hp;subst hp;simp) (by simp [AV.renL,AV.ren]) ?_;rintro v s' ρ ⟨rfl,rfl⟩ hρ;simp [go_sem,AV.ren,TV]
  refine O7 hC [452] [] (s:=⟨r4,J,H⟩) (ars2:=[.d (nb key),.d (nb sig),.fn 228 [.rop [nb msg]]]) hsg aq (pH rfl rfl rfl) rfl
   (pI (.inl rfl) (pI (.inl rfl) (pI (.inr (.fnp (b:=⟨31,1,[[.d (nb msg)]]⟩) aw rfl rfl rfl (pX [nb msg]))) D7))) aw (fun ρ=>rfl) ?_
  rintro v s' ρ ⟨rfl,rfl⟩ hρ;simp [go_sem,AV.ren];refine ag (lg b) a9 ?_;simp [go_sem];refine aM (Pp:=[]) hC hpu (List.nil_append _).symm aq aw (by simp [AV.renL,AV.ren]) ?_;rintro v s' ρ rfl hρ;rw [bz];generalize dn (ir b) r9=r';simp only [aF,bB,bA,id];simp [go_sem,ah];exact aB rfl rfl rfl
theorem jR:∀ (j:Nat) (r:Rn),cz (j+1) r=((bn (cz j r).2).1 :: (cz j r).1,(bn (cz j r).2).2)
 | 0,r=>rfl
 | j+1,r=>by
  have h:=jR j (bn r).2;rw [cz,h];rfl
theorem nA:∀ (j:Nat) (r:Rn),(cz j r).1.length=j
 | 0,r=>rfl
 | j+1,r=>by rw [jR,List.length_cons,nA j r]
theorem tL {r:Rn} (h:StOk r.main r.alt):∀ j,StOk (cz j r).2.main (cz j r).2.alt∧∀ x,x ∈ (cz j r).1→x.length≤1000∧bytes x
 | 0=>⟨h,fun x hx=>by cases hx⟩
 | j+1=>by
  obtain ⟨h1,h2⟩:=tL h j;obtain ⟨h3,h4,h5⟩:=dx h1;rw [jR];refine ⟨h3,fun x hx=>?_⟩;rcases e_.1 hx with rfl | hx
  ·exact ⟨h4,h5⟩
  ·exact h2 x hx
theorem Ed:∀ (j:Nat) (r:Rn),RnL r (cz j r).2
 | 0,r=>⟨rfl,rfl,rfl⟩
 | j+1,r=>by rw [jR];exact (Ed j r).trans (kr _)
def xO (k:Nat) (l:List bc):List (List AV):=List.replicate k [AV.nil] ++ l.map nh
theorem NX (k:Nat) (x:bc) (l:List bc):(xO (k+1) l).set k [.d (nb x)]=xO k (x :: l):=by
 unfold xO;rw [List.set_append_left _ _ aw];rw [List.replicate_succ',List.set_append_right _ _ aw];simp [nh]
theorem NY (l:List bc):xO 0 l=cG l []:=by simp [xO,cG]
theorem JM {C:List AV} (hC:ie C) (r:Rn) (J:List Bool) (H:Nat) (hk:StOk r.main r.alt) (n:Int) (hn1:-2147483648<n) (hn2:n<2147483648) :
  cC Tryz.prog 232 3 (gz 3 (aF C) ⟨r,J,H⟩ id) [.ptr 0 0 0 1,.d (.int .i64 n)] (fun v hp'=>rC 3 (aF C) ⟨(gR n r).2,J,H⟩ id hp' ∧
   ((v=.nil∧(gR n r).2.e ≠ 0) ∨ (v=.own 548 0 (gR n r).1.length (gR n r).1.length∧lk 548 hp'=some ⟨31,1,cG (gR n r).1 []⟩))):=by
 refine al Tryz.func232 (by kernel_rfl) rfl Tryz.ntmps232 (rs:=[.tmp 4]) rfl (dR rfl) (by decide) ?_;have hl:=hC.2.2;by_cases h0:n<0 ∨ (r.main.length:Int)<n
 ·have hv:gR n r=([],au 12 r):=by
   unfold gR;rw [if_pos h0];exact if_neg (xh aq)
  have hne:(au 12 r).e ≠ 0:=xh aq;have hf:=bu hC r J H 12;rw [hv];generalize au 12 r=r2 at *;rw [bz];simp only [aF,bB,bA,id];have tail:True:=trivial;by_cases hn0:n<0
  ·simp [go_sem,hl,hn0];refine aM (Pp:=[]) (s:=⟨r,J,H⟩) hC hf (by simp [bz,aF,bB,bA]) aq aw (by simp [AV.renL,AV.ren]) ?_;rintro v s' ρ rfl hρ;simp [go_sem];refine dH (Pp:=[]) hC (ej hC r2 J H) aq aw (by simp [AV.renL,AV.ren]) ?_;rintro v s' ρ ⟨rfl,rfl⟩ hρ;simp [go_sem,AV.ren,hne,ah];rw [bz];exact aB rfl rfl rfl
  ·have hn3:(r.main.length:Int)<n:=h0.resolve_left hn0;simp [go_sem,hl,hn0,hn3];refine aM (Pp:=[]) (s:=⟨r,J,H⟩) hC hf (by simp [bz,aF,bB,bA]) aq aw (by simp [AV.renL,AV.ren]) ?_;rintro v s' ρ rfl hρ;simp [go_sem];refine dH (Pp:=[]) hC (ej hC r2 J H) aq aw (by simp [AV.renL,AV.ren]) ?_;rintro v s' ρ ⟨rfl,rfl⟩ hρ;simp [go_sem,AV.ren,hne,ah];rw [bz];exact aB rfl rfl rfl
 ·have hn0:¬ n<0:=fun h=>h0 (.inl h);have hn3:¬ (r.main.length:Int)<n:=fun h=>h0 (.inr h);obtain ⟨m,rfl⟩:∃ m:Nat,n=(m:Int):=⟨n.toNat,aq⟩;have hm:m≤1000:=by have:=hk.m;omega
  have hn4:¬ r.main.length<m:=aq;rw [bz];simp only [aF,bB,bA,id];simp [go_sem,hl,hn0,hn3,hn4];refine aM (Pp:=[]) (s:=⟨r,J,H⟩) hC (ej hC r J H) (by simp [bz,aF,bB,bA]) aq aw (by simp [AV.renL,AV.ren]) ?_;rintro v s' ρ ⟨rfl,rfl⟩ hρ;by_cases he:r.e=0
  ·have hv:gR (m:Int) r=cz m r:=by
    unfold gR;rw [if_neg h0];exact if_pos he
   rw [hv];have w1:IntKind.i64.wrap ((m:Int) - 1)=(m:Int) - 1:=IntWalk.i64_in _ aq;simp [go_sem,AV.ren,he,w1];refine ⟨aq,aq,aq,?_⟩
   have hlw:∀ k l,∀ q,q ∈ xO k l→∀ v,v ∈ q→v.low1 9000:=by
    intro k l q hq v hv;rcases cL.1 hq with h | h
    ·rw [List.eq_of_mem_replicate h] at hv;simp only [e_,List.mem_nil_iff,or_false] at hv;subst hv;trivial
    ·obtain ⟨x,_,rfl⟩:=List.mem_map.1 h;simp only [nh,e_,List.mem_nil_iff,or_false] at hv;subst hv;trivial
   have hwk:∀ (fr:Fr) (hp:Hp) (nx j:Nat),(fv 0 fr=.ptr 0 0 0 1∧fv 5 fr=.own 548 0 m m∧fv 6 fr=.d (.int .i64 ((m:Int) - 1 - (j:Int))))→lk 548 hp=some ⟨31,1,xO (m - j) (cz j r).1⟩→(∀ p,p ∈ gz 3 (aF C) ⟨(cz j r).2,J,H⟩ id→lk p.1 hp=some p.2) →
     aA ⟨fr,hp,nx⟩ ⟨[(0,.ptr 0 0 0 1),(5,.own 548 0 m m),(6,.d (.int .i64 ((m:Int) - 1 - (j:Int))))],(548,⟨31,1,xO (m - j) (cz j r).1⟩) :: gz 3 (aF C) ⟨(cz j r).2,J,H⟩ id,9000⟩:=by
    rintro fr hp nx j ⟨q0,q1,q2⟩ h1 h2;refine ⟨?_,fun p hp'=>?_,.inr (by show 64≤9000;omega)⟩
    ·intro p hp';simp only [e_,List.mem_nil_iff,or_false] at hp';rcases hp' with rfl | rfl | rfl
     ·exact ⟨.inl q0.symm,by simp [AV.low,AV.low1]⟩
     ·exact ⟨.inl q1.symm,by simp [AV.low,AV.low1]⟩
     ·exact ⟨.inl q2.symm,by simp [AV.low,AV.low1]⟩
    ·rcases e_.1 hp' with rfl | hp'
     ·exact ⟨.inl h1,by show 548<9000;omega,hlw _ _⟩
     ·exact VR hC (dR rfl) h2 p hp'
   refine ax (fun j:Nat=>⟨[(0,.ptr 0 0 0 1),(5,.own 548 0 m m),(6,.d (.int .i64 ((m:Int) - 1 - (j:Int))))],(548,⟨31,1,xO (m - j) (cz j r).1⟩) :: gz 3 (aF C) ⟨(cz j r).2,J,H⟩ id,9000⟩)
    (fun j=>j≤m) (fun j=>m - j) 0 aq (hwk _ _ _ 0 (by simp [fv,lk]) (by simp [lk,xO,cz]) (pH rfl rfl rfl)) ?_
   intro j hj;by_cases hjm:j=m
   ·subst hjm;have c0:¬ (0:Int)≤(j:Int) - 1 - (j:Int):=aq;have c1:((j:Int) - 1 - (j:Int))<0:=aq;simp [go_sem,c0,c1,ah];refine ⟨fun h=>aq,fun _=>⟨?_,(nA _ _).symm,NY _⟩⟩;rw [bz];exact aB rfl rfl rfl
   ·have hjm2:j<m:=aq;have e1:(m:Int) - 1 - (j:Int)=((m - (j+1):Nat):Int):=aq;obtain ⟨hkj,hxj⟩:=tL hk j;have hsn:=jR j r;have hlen:(xO (m - j) (cz j r).1).length=m:=by simp [xO,nA];omega
    have hset:(xO (m - j) (cz j r).1).set (m - (j+1)) [.d (nb (bn (cz j r).2).1)]=xO (m - (j+1)) (cz (j+1) r).1:=by
     rw [hsn,show m - j=(m - (j+1))+1 by omega];exact NX _ _ _
    have hat:(xO (m - j) (cz j r).1)[m - (j+1)]?=some [.nil]:=by
     unfold xO;rw [List.getElem?_append_left (by simp;omega),List.getElem?_replicate,if_pos aq]
    have hsg:∀ h:m - (j+1)<(xO (m - j) (cz j r).1).length,(xO (m - j) (cz j r).1)[m - (j+1)]=[.nil]:=fun h=>Option.some.inj ((cm h).symm.trans hat);have hta:=jN hC (cz j r).2 J H hkj;have w2:IntKind.i64.wrap (((m - (j+1):Nat):Int) - 1)=(m:Int) - 1 - ((j+1:Nat):Int):=by rw [IntWalk.i64_in _ aq];omega
    have hlt:m - (j+1)<m:=aq;have hlti:((m - (j+1):Nat):Int)<(m:Int):=aq;rw [e1];generalize hq:m - (j+1)=q at *;simp [go_sem];refine aM (Pp:=[(548,⟨31,1,xO (m - j) (cz j r).1⟩)]) hC hta rfl aq (by intro p hp;simp at hp;subst hp;simp) (by simp [AV.renL,AV.ren]) ?_;rintro v s' ρ ⟨rfl,rfl⟩ hρ;simp [go_sem,AV.ren,hlen,hlt,hlti,w2,hat,hsg,hset];refine ap (j+1) aq aq (hwk _ _ _ (j+1) (by simp [fv,lk]) ?_ ?_)
    ·rw [hq];simp [lk,hset]
    ·rw [hsn];exact pH rfl rfl rfl
  ·have hv:gR (m:Int) r=([],r):=by
    unfold gR;rw [if_neg h0];exact if_neg he
   rw [hv];simp [go_sem,AV.ren,he,ah];rw [bz];exact aB rfl rfl rfl
theorem Si {C:List AV} (hC:ie C) (r:Rn) (J:List Bool) (H:Nat) (hk:StOk r.main r.alt) (n:Int) (hn1:-2147483648<n) (hn2:n<2147483648) {N:Nat} {K:AV→Hp→Prop} (hN:3≤N)
  (h1:(gR n r).2.e ≠ 0→K .nil (gz 3 (aF C) ⟨(gR n r).2,J,H⟩ id))
  (h2:K (.own N 0 (gR n r).1.length (gR n r).1.length) ((N,⟨31,1,cG (gR n r).1 []⟩) :: gz 3 (aF C) ⟨(gR n r).2,J,H⟩ id)):rG Tryz.prog 232 [.ptr 0 0 0 1,.d (.int .i64 n)] (gz 3 (aF C) ⟨r,J,H⟩ id) N K:=by
 have ho:=qG hC;have hid:∀ j,j<3→bO (jH 3 id id) 3 (id j)=j:=fun j hj=>rM id 3 (aQ 3) hj;have hnw:cK (jH 3 id id) [(548,0)]=true:=A9 aq;have h548:uZ 3 id [(548,0)] N 548=N:=wP (c:=548) (j:=0) hnw aw
 refine .inl (nf (n:=3) (b0:=aF C ⟨r,J,H⟩ id) id (JM hC r J H hk n hn1 hn2) (fun i x hi=>C5 i x hi) (aQ 3) (fun j hj=>by show j<N;omega)
  (fun j hj=>⟨_,wM _ (aQ 3) hj,ho.2 _ _ _ hj,(ho.1 _ id _ id j hj hid).symm⟩) ?_ [(548,0)] hnw ?_)
 ·rw [AV.renL,AV.renL,AV.renL,AV.ren];rfl
 ·rintro r' hp' ⟨hs',hv⟩ hpX q1 q2 q3;have hro:∀ j,j<3→uZ 3 id [(548,0)] N (id j)=id j:=fun j hj=>wO hnw hj
  have ob:∀ i b,lk i (gz 3 (aF C) ⟨(gR n r).2,J,H⟩ id)=some b→lk i hpX=some b:=by
   intro i b h;obtain ⟨j,hj,e⟩:=kW.1 (bG h)
   cases e
   have h2:=q1 j hj _ (hs' j hj);rw [ho.1 _ id _ id j hj hro] at h2;exact h2
  rcases hv with ⟨rfl,he⟩ | ⟨rfl,hb⟩
  ·exact ⟨_,ob,h1 he⟩
  ·refine ⟨_,fun i b h=>?_,by rw [AV.ren,h548];exact h2⟩;simp only [lk] at h
   split at h
   ·rename_i e;subst e
    cases h
    have h3:=q2 548 0 aw _ hb
    have e:Blk.ren (uZ 3 id [(548,0)] N) ⟨31,1,cG (gR n r).1 []⟩=⟨31,1,cG (gR n r).1 []⟩:=by
     simp only [Blk.ren,j7]
    rw [e] at h3;exact h3
   ·exact ob i b h
theorem VT {b:bc} {n:Int} (hb:bytes b) (h:fH 8 b=some n):-9223372036854775808≤n∧n<9223372036854775808:=by
 unfold fH at h
 split at h
 ·rename_i h1;obtain rfl:=Option.some.inj h;have hl:b.length≤8:=aq;rcases ef b with rfl | ⟨a,x,rfl⟩
  ·decide
  ·have hx:x<256:=hb x aw;have ha:=qu (b:=a) (fun y hy=>hb y (List.mem_append_left _ hy));simp at hl;rw [nc];have hc:a.length=0 ∨ a.length=1 ∨ a.length=2 ∨ a.length=3 ∨ a.length=4 ∨ a.length=5 ∨ a.length=6 ∨ a.length=7:=aq;rcases hc with e | e | e | e | e | e | e | e <;> rw [e] at ha ⊢ <;> simp at ha ⊢ <;> split <;> omega
 ·cases h
theorem JO {r:Rn} (h:StOk r.main r.alt):-9223372036854775808≤(d5 8 r).1∧(d5 8 r).1<9223372036854775808:=by
 obtain ⟨_,_,hb⟩:=dx h;unfold d5;generalize bn r=p at *;simp only
 split
 ·cases hd:fH 8 p.1 with
  | none=>simp only;omega
  | some n=>exact VT hb hd
 ·simp only;omega
theorem JP {most:Nat} {r:Rn} (h:r.e ≠ 0):d5 most r=(0,r):=by
 have ht:bn r=([],r):=if_neg h;unfold d5;rw [ht];exact if_neg h
theorem JQ {r:Rn} (h:StOk r.main r.alt) (n:Int):StOk (gR n r).2.main (gR n r).2.alt∧(∀ x,x ∈ (gR n r).1→x.length≤1000∧bytes x)∧(gR n r).1.length≤1000∧RnL r (gR n r).2:=by
 unfold gR;simp only
 split
 ·rename_i hb
  split
  ·rename_i he;exact absurd he (xh aq)
  ·exact ⟨fK h,fun x hx=>(by cases hx),aw,mJ _ _⟩
 ·rename_i hb
  split
  ·obtain ⟨h1,h2⟩:=tL h n.toNat
   exact ⟨h1,h2,by rw [nA];have:=h.m;omega,Ed _ _⟩
  ·exact ⟨h,fun x hx=>(by cases hx),aw,⟨rfl,rfl,rfl⟩⟩
theorem BV {l:List bc} {b:bc} (h:(qn l b).2=0):(qn l b).1.length≤1000:=by
 unfold qn at h ⊢
 cases hu:sN [] l with
 | none=>rw [hu] at h;simp at h
 | some out =>
  rw [hu] at h;simp only at h ⊢
  split at h
  ·simp at h
  ·rename_i h2;rw [if_neg h2];simp only;omega
theorem NZ (F:RnF) (x:Rx) (E:RnE F x) (r:Rn) (J:List Bool) (hk:StOk r.main r.alt) (hc:r.cl.length≤100000) :
  cJ Tryz.prog 3 (aF (gl F)) 202 ⟨r,J,0⟩ [.ptr 0 0 0 1] (fun v s'=>s'=⟨Bq x r,J,0⟩):=by
 refine al Tryz.func202 (by kernel_rfl) rfl Tryz.ntmps202 (rs:=[]) rfl (dR rfl) (by decide) ?_;have hC:=dZ (F:=F) E.hi;have hl:=hC.2.2;unfold Bq;have h1:=rm hC r J 0 hk 4 aq;have k1:=lw (most:=4) hk;have n1:=Eb hk;have l1:=vC 4 r;generalize d5 4 r=p1 at *;obtain ⟨n,r1⟩:=p1;simp only at h1 k1 n1 l1 ⊢;have h2:=jN hC r1 J 0 k1;obtain ⟨k2,b1,b2⟩:=dx k1;have l2:=kr r1;generalize bn r1=p2 at *;obtain ⟨b,r2⟩:=p2;simp only at h2 k2 b1 b2 l2 ⊢;obtain ⟨k3,t1,t2,l3⟩:=JQ k2 n;have h3:=fun {N:Nat} {K:AV→Hp→Prop} (hN:3≤N)=>Si hC r2 J 0 k2 n n1.1 n1.2 (K:=K) hN;generalize gR n r2=p3 at *;obtain ⟨l,r3⟩:=p3;simp only at h3 k3 t1 t2 l3 ⊢;simp [go_sem];refine dH (Pp:=[]) hC h1 aq aw (by simp [AV.renL,AV.ren]) ?_;rintro v s' ρ ⟨rfl,rfl⟩ hρ;simp [go_sem,AV.ren];refine dH (Pp:=[]) hC h2 aq aw (by simp [AV.renL,AV.ren]) ?_;rintro v s' ρ ⟨rfl,rfl⟩ hρ;simp [go_sem,AV.ren];refine h3 aq (fun he=>?_) ?_
 ·have e1:d5 4 r3=(0,r3):=JP he;have e2:d5 8 r3=(0,r3):=JP he;have m1:=rm hC r3 J 0 k3 4 aq;have m2:=rm hC r3 J 0 k3 8 aq;rw [e1] at m1;rw [e2] at m2;simp only [e1,e2];rw [if_neg he];simp [go_sem];refine aM (Pp:=[]) hC m1 (List.nil_append _).symm aq aw (by simp [AV.renL,AV.ren]) ?_;rintro v s' ρ ⟨rfl,rfl⟩ hρ;simp [go_sem,AV.ren];refine aM (Pp:=[]) hC m1 (List.nil_append _).symm aq aw (by simp [AV.renL,AV.ren]) ?_;rintro v s' ρ ⟨rfl,rfl⟩ hρ;simp [go_sem,AV.ren];refine aM (Pp:=[]) hC m2 (List.nil_append _).symm aq aw (by simp [AV.renL,AV.ren]) ?_;rintro v s' ρ ⟨rfl,rfl⟩ hρ;simp [go_sem,AV.ren];refine aM (Pp:=[]) hC (ej hC r3 J 0) (List.nil_append _).symm aq aw (by simp [AV.renL,AV.ren]) ?_;rintro v s' ρ ⟨rfl,rfl⟩ hρ;simp [go_sem,AV.ren,he];rw [bz];exact aB rfl rfl rfl
 ·have h4:=rm hC r3 J 0 k3 4 aq;have k4:=lw (most:=4) k3;have l4:=vC 4 r3;generalize d5 4 r3=p4 at *;obtain ⟨o,r4⟩:=p4;simp only at h4 k4 l4 ⊢;have h5:=rm hC r4 J 0 k4 4 aq;have k5:=lw (most:=4) k4;have l5:=vC 4 r4;generalize d5 4 r4=p5 at *;obtain ⟨t,r5⟩:=p5;simp only at h5 k5 l5 ⊢;have h6:=rm hC r5 J 0 k5 8 aq;have k6:=lw (most:=8) k5;have l6:=vC 8 r5;have n6:=JO k5;generalize d5 8 r5=p6 at *;obtain ⟨bk,r6⟩:=p6;simp only at h6 k6 l6 n6 ⊢;have hcl:r6.cl.length≤100000:=by rw [l6.cl,l5.cl,l4.cl,l3.cl,l2.cl,l1.cl];exact hc
  have hPB:∀ (N:Nat),261≤N→∀ p,p ∈ [((260:Nat),(⟨31,1,cG l []⟩:Blk))]→p.1<N∧3≤p.1:=by
   intro N hN p hp;simp at hp;subst hp;exact ⟨by show 260<N;omega,by show 3≤260;omega⟩
  simp [go_sem];refine aM (Pp:=[(260,⟨31,1,cG l []⟩)]) hC h4 rfl aq (hPB _ aq) (by simp [AV.renL,AV.ren]) ?_;rintro v s' ρ ⟨rfl,rfl⟩ hρ;simp [go_sem,AV.ren];refine aM (Pp:=[(260,⟨31,1,cG l []⟩)]) hC h5 rfl aq (hPB _ aq) (by simp [AV.renL,AV.ren]) ?_;rintro v s' ρ ⟨rfl,rfl⟩ hρ;simp [go_sem,AV.ren];refine aM (Pp:=[(260,⟨31,1,cG l []⟩)]) hC h6 rfl aq (hPB _ aq) (by simp [AV.renL,AV.ren]) ?_;rintro v s' ρ ⟨rfl,rfl⟩ hρ;simp [go_sem,AV.ren];refine aM (Pp:=[(260,⟨31,1,cG l []⟩)]) hC (ej hC r6 J 0) rfl aq (hPB _ aq) (by simp [AV.renL,AV.ren]) ?_;rintro v s' ρ ⟨rfl,rfl⟩ hρ;by_cases he:r6.e=0
  ·rw [if_pos he];have hup:=A5 l b t2 (fun y hy=>⟨by have:=(t1 y hy).1;omega,(t1 y hy).2⟩) aq;have hub:=A7 (things:=l) b2 (fun y hy=>⟨by have:=(t1 y hy).1;omega,(t1 y hy).2⟩);have hus:=@BV l b;simp [go_sem,AV.ren,he];refine bN [260] hup rfl (aj (.one (ak (gK (J:=[]) rfl aw))) (aj (.deep trivial) aE)) ?_;have hdr:aD [260] ((260,(⟨31,1,cG l []⟩:Blk)) :: gz 3 (aF (gl F)) ⟨r6,J,0⟩ id)=gz 3 (aF (gl F)) ⟨r6,J,0⟩ id:=rfl;rw [hdr];generalize qn l b=u at *;obtain ⟨s,ue⟩:=u;simp only at hub hus ⊢;by_cases hu:ue=0
   ·subst hu;obtain ⟨hT,hT2⟩:=E.tr s o t bk hub (by have:=hus rfl;omega) n6.1 n6.2;generalize x.trg s o t bk=q at *;obtain ⟨cs,ce⟩:=q;simp only at hT hT2 ⊢;simp only [if_true];have hcm:=D3 hC r6 J k6 cs ce hcl aq;simp only [eS,cM] at hT;rw [bz];simp only [aF,bB,bA,id,gl,eS];simp [go_sem];refine b7 [0,1,2,3,4,5,6,7,8,9,10,11,12,13] [(14,[15,16]),(17,[])] 1 (k:=18) ?_;intro G hG;have hlf:(aP F.inner (AV.d (cZ F.path)) (AV.d (nb F.script))).length=34:=by simp [aP,am,E.hi]
    have hlt:∀ l:List AV,List.take 34 (aP F.inner (AV.d (cZ F.path)) (AV.d (nb F.script)) ++ l)=aP F.inner (AV.d (cZ F.path)) (AV.d (nb F.script)):=fun l=>by rw [← hlf,List.take_left]
    simp [go_sem,hlf,hlt];refine ag hT (by intro v hv;simp at hv;rcases hv with rfl | rfl | rfl | rfl | rfl;simp [AV.deep,AV.deep1];exact cO F.inner F.path F.script _ (List.mem_singleton.2 rfl);trivial;simp [AV.deep,AV.deep1];trivial) ?_;simp [go_sem];refine aM (Pp:=[]) (s:=⟨r6,J,0⟩) hC hcm (by simp [bz,aF,bB,bA,gl,eS]) aq aw (by simp [AV.renL,AV.ren]) ?_;rintro v s' ρ rfl hρ;simp [go_sem];refine hG _ _ ?_;clear hG G;simp [go_sem];rw [bz];exact aB (by simp [lk,aF,bB,bA,gl,eS]) rfl rfl
   ·rw [if_neg hu];simp [go_sem,hu];refine aM (Pp:=[]) hC (bu hC r6 J 0 ue) (List.nil_append _).symm aq aw (by simp [AV.renL,AV.ren]) ?_;rintro v s' ρ rfl hρ;rw [bz];generalize au ue r6=r';simp only [aF,bB,bA,id];simp [go_sem,ah];exact aB rfl rfl rfl
  ·rw [if_neg he];simp [go_sem,AV.ren,he];rw [bz];exact aB rfl rfl rfl
theorem N1 (F:RnF) (x:Rx) (E:RnE F x) (op:Nat) (h8:op<256) (r:Rn) (J:List Bool) (hk:StOk r.main r.alt) (hc:r.cl.length≤100000) (hbd:fN r.bud) :
  cJ Tryz.prog 3 (aF (gl F)) 172 ⟨r,J,0⟩ [.ptr 0 0 0 1,.d (.int .u8 (op:Int))] (fun v s'=>s'=⟨tc x op r,J,0⟩):=by
 refine al Tryz.func172 (by kernel_rfl) rfl Tryz.ntmps172 (rs:=[]) rfl (dR rfl) (by decide) ?_;have hC:=dZ (F:=F) E.hi;have hl:=hC.2.2;obtain ⟨i,hn,hio,hxs⟩:=E.sq;obtain ⟨te,hte⟩:=E.tg;by_cases h106:op=106
 ·subst h106;have hv:tc x 106 r=au 17 r:=rfl;rw [hv];simp [go_sem];refine aM (Pp:=[]) hC (bu hC r J 0 17) (List.nil_append _).symm aq aw (by simp [AV.renL,AV.ren]) ?_;rintro v s' ρ rfl hρ;rw [bz];generalize au 17 r=r';simp only [aF,bB,bA,id];simp [go_sem,ah];exact aB rfl rfl rfl
 by_cases h172:op=172
 ·subst h172;have hv:tc x 172 r=qE x 172 r:=rfl;rw [hv];simp [go_sem];refine aM (Pp:=[]) hC (rU F x E 172 aq r J 0 hk hbd) (List.nil_append _).symm aq aw (by simp [AV.renL,AV.ren]) ?_;rintro v s' ρ rfl hρ;rw [bz];generalize qE x 172 r=r';simp only [aF,bB,bA,id];simp [go_sem,ah];exact aB rfl rfl rfl
 by_cases h173:op=173
 ·subst h173;have hv:tc x 173 r=qE x 173 r:=rfl;rw [hv];simp [go_sem];refine aM (Pp:=[]) hC (rU F x E 173 aq r J 0 hk hbd) (List.nil_append _).symm aq aw (by simp [AV.renL,AV.ren]) ?_;rintro v s' ρ rfl hρ;rw [bz];generalize qE x 173 r=r';simp only [aF,bB,bA,id];simp [go_sem,ah];exact aB rfl rfl rfl
 by_cases h186:op=186
 ·subst h186;have hv:tc x 186 r=qE x 186 r:=rfl;rw [hv];simp [go_sem];refine aM (Pp:=[]) hC (rU F x E 186 aq r J 0 hk hbd) (List.nil_append _).symm aq aw (by simp [AV.renL,AV.ren]) ?_;rintro v s' ρ rfl hρ;rw [bz];generalize qE x 186 r=r';simp only [aF,bB,bA,id];simp [go_sem,ah];exact aB rfl rfl rfl
 by_cases h204:op=204
 ·subst h204;have hv:tc x 204 r=qE x 204 r:=rfl;rw [hv];simp [go_sem];refine aM (Pp:=[]) hC (rU F x E 204 aq r J 0 hk hbd) (List.nil_append _).symm aq aw (by simp [AV.renL,AV.ren]) ?_;rintro v s' ρ rfl hρ;rw [bz];generalize qE x 204 r=r';simp only [aF,bB,bA,id];simp [go_sem,ah];exact aB rfl rfl rfl
 by_cases h177:op=177
 ·subst h177;have hv:tc x 177 r=ta x r:=rfl;rw [hv];simp [go_sem];refine aM (Pp:=[]) hC (JF F x E.hi i hn hio E.lk.1 E.lk.2 hxs r J 0 hk) (List.nil_append _).symm aq aw (by simp [AV.renL,AV.ren]) ?_;rintro v s' ρ rfl hρ;rw [bz];generalize ta x r=r';simp only [aF,bB,bA,id];simp [go_sem,ah];exact aB rfl rfl rfl
 by_cases h178:op=178
 ·subst h178;have hv:tc x 178 r=Bn x r:=rfl;rw [hv];simp [go_sem];refine aM (Pp:=[]) hC (NU F x E.hi i hn hio E.vr.1 E.vr.2 hxs r J 0 hk) (List.nil_append _).symm aq aw (by simp [AV.renL,AV.ren]) ?_;rintro v s' ρ rfl hρ;rw [bz];generalize Bn x r=r';simp only [aF,bB,bA,id];simp [go_sem,ah];exact aB rfl rfl rfl
 by_cases h179:op=179
 ·subst h179;have hv:tc x 179 r=xf x r:=rfl;rw [hv];simp [go_sem];refine aM (Pp:=[]) hC (RY F x E.hi E.tl E.tb te hte r J 0 hk) (List.nil_append _).symm aq aw (by simp [AV.renL,AV.ren]) ?_;rintro v s' ρ rfl hρ;rw [bz];generalize xf x r=r';simp only [aF,bB,bA,id];simp [go_sem,ah];exact aB rfl rfl rfl
 by_cases h187:op=187
 ·subst h187;have hv:tc x 187 r=Bq x r:=rfl;rw [hv];simp [go_sem];refine aM (Pp:=[]) hC (NZ F x E r J hk hc) (List.nil_append _).symm aq aw (by simp [AV.renL,AV.ren]) ?_;rintro v s' ρ rfl hρ;rw [bz];generalize Bq x r=r';simp only [aF,bB,bA,id];simp [go_sem,ah];exact aB rfl rfl rfl
 by_cases h188:op=188
 ·subst h188;have hv:tc x 188 r=Bo x r:=rfl;rw [hv];simp [go_sem];refine aM (Pp:=[]) hC (NW F x E.hi E.rc r J hk hc) (List.nil_append _).symm aq aw (by simp [AV.renL,AV.ren]) ?_;rintro v s' ρ rfl hρ;rw [bz];generalize Bo x r=r';simp only [aF,bB,bA,id];simp [go_sem,ah];exact aB rfl rfl rfl
 have i106:¬ (op:Int)=106:=aq;have i172:¬ (op:Int)=172:=aq;have i173:¬ (op:Int)=173:=aq;have i186:¬ (op:Int)=186:=aq;have i204:¬ (op:Int)=204:=aq;have i177:¬ (op:Int)=177:=aq;have i178:¬ (op:Int)=178:=aq;have i179:¬ (op:Int)=179:=aq;have i187:¬ (op:Int)=187:=aq;have i188:¬ (op:Int)=188:=aq
 have hv:tc x op r={ au (uY bo dO op r.main r.alt).2.2 r with main:=(uY bo dO op r.main r.alt).1,alt:=(uY bo dO op r.main r.alt).2.1 }:=by
  unfold tc;rw [E.hh.1,E.hh.2,if_neg h106,if_neg aq,if_neg h177,if_neg h178,if_neg h179,if_neg h187,if_neg h188]
 rw [hv];have hdo:=M4 op h8 r.main r.alt hk.m hk.a (fun y hy=>by have:=(hk.mb y hy).1;omega) (fun y hy=>by have:=(hk.ab y hy).1;omega) (fun y hy=>(hk.mb y hy).2);unfold x8 at hdo
 generalize uY bo dO op r.main r.alt=d at *;obtain ⟨m2,a2,e2⟩:=d;simp only at hdo ⊢;have hf:=bu hC r J 0 e2;rw [bz];simp only [aF,bB,bA,id,jj] at *;simp [go_sem,h106,i106,h172,i172,h173,i173,h186,i186,h204,i204,h177,i177,h178,i178,h179,i179,h187,i187,h188,i188,hl];refine ag hdo (by intro v hv;simp at hv;rcases hv with rfl | rfl;trivial;exact ep r.main r.alt) ?_;simp [go_sem];refine aM (Pp:=[(964,⟨155,2,[[.d (.ro 1 (m2.map bJ)),.d (.ro 1 (a2.map bJ))]]⟩)]) (s:=⟨r,J,0⟩) hC hf (by simp [bz,aF,bB,bA]) aq (by intro p hp;simp at hp;subst hp;simp) (by simp [AV.renL,AV.ren]) ?_;rintro v s' ρ rfl hρ;rw [bz];generalize au e2 r=r';have hid2:gp r'=gp { r' with main:=m2,alt:=a2 }:=rfl;simp only [aF,bB,bA,id];simp [go_sem,hl,Br,ah];exact aB rfl rfl rfl
def O8 (l:List bc):Prop:=∀ x,x ∈ l→bytes x
def kH (m:Mc):Prop:=O8 m.main∧O8 m.alt
theorem xP:bytes []:=fun x hx=>(by cases hx)
theorem rV {l:List bc} (h:O8 l):bytes (l.getLastD []):=by
 rcases l.eq_nil_or_concat with rfl | ⟨a,x,rfl⟩
 ·exact xP
 ·rw [List.concat_eq_append] at h ⊢;rw [List.getLastD_concat];exact h x aw
theorem xQ {l:List bc} (h:O8 l) (i:Nat):bytes (l.getD i []):=by
 rw [cS]
 cases hq:l[i]? with
 | none=>exact xP
 | some x=>exact h x (cr hq)
theorem tM {m:Mc} (x:Int) (h:kH m):kH (gm x m):=by unfold gm;split <;> exact h
theorem ki {m:Mc} (n:Nat) (h:kH m):kH (aL n m):=by unfold aL;split;exact tM 12 h;exact h
theorem tN {m:Mc} (h:kH m):kH (db m).2∧bytes (db m).1:=by
 unfold db
 split
 ·exact ⟨⟨fun x hx=>h.1 x ((List.dropLast_sublist _).mem hx),h.2⟩,rV h.1⟩
 ·exact ⟨ki 1 h,xP⟩
theorem kt {m:Mc} {l:List bc} (hl:O8 l) (h:kH m):kH (dN l m):=⟨fun x hx=>(cL.1 hx).elim (h.1 x) (hl x),h.2⟩
theorem Ee {m:Mc} (most:Nat) (x:bc) (h:kH m):kH (eW most x m).2:=by
 unfold eW
 split
 ·cases fH most x with
  | none=>exact tM 15 h
  | some n=>exact h
 ·exact h
theorem xR {m:Mc} (k:Nat) (put:List Nat) (h:kH m):kH (cf k put m):=by
 unfold cf
 split
 ·refine ⟨fun x hx=>?_,h.2⟩;rcases cL.1 hx with q | q
  ·exact h.1 x (List.mem_of_mem_take q)
  ·obtain ⟨i,_,rfl⟩:=List.mem_map.1 q;exact xQ (fun y hy=>h.1 y (List.mem_of_mem_drop hy)) i
 ·exact ki k h
theorem iv {x:bc} (h:bytes x):O8 [x]:=fun y hy=>by simp at hy;subst hy;exact h
theorem JR {m:Mc} (h:kH m):kH (kV m):=by
 obtain ⟨h1,h2⟩:=tN h;exact ⟨h1.1,fun x hx=>(cL.1 hx).elim (h1.2 x) (iv h2 x)⟩
theorem N2 {m:Mc} (h:kH m):kH (nI m):=by
 unfold nI
 split
 ·exact tM 12 h
 ·exact ⟨fun x hx=>(cL.1 hx).elim (h.1 x) (iv (rV h.2) x),fun x hx=>h.2 x ((List.dropLast_sublist _).mem hx)⟩
theorem xT {m:Mc} (c:Bool) (h:kH m):kH (jb c m):=by unfold jb;split;exact h;exact tM 16 h
theorem Ef {m:Mc} (h:kH m):kH (fJ m).2:=by
 unfold fJ
 split
 ·exact xR 2 [] h
 ·exact ki 2 h
theorem N3 {m:Mc} (h:kH m):kH (nJ m):=by
 unfold nJ
 split
 ·exact kt (iv (qo (xQ h.1 _) (rV h.1))) (xR 2 [] h)
 ·exact ki 2 h
theorem Eg {m:Mc} (f:bc→bc) (hf:∀ x,bytes (f x)) (h:kH m):kH (j6 f m):=by
 unfold j6
 split
 ·exact kt (iv (hf _)) (tN h).1
 ·exact ki 1 h
theorem Eh {m:Mc} (r:Bool) (h:kH m):kH (ja r m):=by
 have h1:=Ee 4 (db m).1 (tN h).1;unfold ja;simp only
 split
 ·split
  ·exact tM 12 h1
  ·refine kt (iv (xQ h1.1 _)) ⟨fun x hx=>?_,h1.2⟩
   cases r
   ·exact h1.1 x hx
   ·exact h1.1 x (List.mem_of_mem_eraseIdx hx)
 ·exact h1
theorem JS:∀ (k:Nat) (m:Mc),kH m→kH (lI k m).2
 | 0,m,h=>h
 | k+1,m,h=>JS k _ (Ee 4 _ (tN h).1)
theorem rW {m:Mc} (n:Nat) (h:kH m):kH (dm n m).2:=by
 unfold dm
 split
 ·exact JS n m h
 ·exact ki n h
theorem tO (b:Bool):bytes (ir b):=by cases b;exact xP;intro x hx;simp [ir] at hx;omega
theorem eo {c:Prop} [Decidable c] {x y:Mc} {r:Option Mc} (h:(if c then some x else r)=some y) (hx:kH x) (hr:r=some y→kH y):kH y:=by
 split at h
 ·cases h;exact hx
 ·exact hr h
theorem Sj {op:Nat} {m m':Mc} (h:iu op m=some m') (hs:kH m):kH m':=by
 unfold iu at h;refine eo h hs fun h=>?_;refine eo h (JR hs) fun h=>?_;refine eo h (N2 hs) fun h=>?_
 iterate 13 refine eo h (xR _ _ hs) fun h=>?_
 cases h
theorem VU {op:Nat} {m m':Mc} (h:t7 bo dO op m=some m') (hs:kH m):kH m':=by
 unfold t7 at h;refine eo h (Eh _ hs) fun h=>?_;refine eo h (Eh _ hs) fun h=>?_;refine eo h (xT _ (tN hs).1) fun h=>?_;refine eo h ?_ fun h=>?_
 ·split
  ·split
   ·exact kt (iv (rV hs.1)) hs
   ·exact hs
  ·exact ki 1 hs
 refine eo h (kt (iv (fX _)) hs) fun h=>?_;refine eo h (N3 hs) fun h=>?_;refine eo h ?_ fun h=>?_
 ·split
  ·exact kt (iv (fX _)) hs
  ·exact ki 1 hs
 refine eo h (kt (iv (tO _)) (Ef hs)) fun h=>?_;refine eo h (xT _ (Ef hs)) fun h=>?_;refine eo h (Eg _ fV hs) fun h=>?_;refine eo h (Eg _ (fun _=>fV _) hs) fun h=>?_
 cases h
theorem Sl {op:Nat} {m m':Mc} (h:nE op m=some m') (hs:kH m):kH m':=by
 unfold nE at h
 split at h
 ·obtain rfl:=Option.some.inj h;exact kt (iv (tO _)) (rW 3 hs)
 ·split at h
  ·obtain rfl:=Option.some.inj h;exact kt (iv (fX _)) (rW 1 hs)
  ·split at h
   ·cases h
   ·obtain rfl:=Option.some.inj h;simp only
    split
    ·exact xT _ (rW 2 hs)
    ·exact kt (iv (fX _)) (rW 2 hs)
theorem gV {main alt:List bc} (h:fh main alt=0):(∀ x,x ∈ main→x.length≤520)∧(∀ x,x ∈ alt→x.length≤520)∧main.length+alt.length≤100:=by
 unfold fh at h
 split at h
 ·rename_i hc;simp only [Bool.and_eq_true,d_,decide_eq_true_eq] at hc
  split at h
  ·exact ⟨hc.1,hc.2,‹_›⟩
  ·simp at h
 ·simp at h
theorem JU {main alt:List bc} (h:fh main alt=0) (h1:O8 main) (h2:O8 alt):StOk main alt:=by
 obtain ⟨a,b,c⟩:=gV h;exact ⟨aq,aq,fun x hx=>⟨by have:=a x hx;omega,h1 x hx⟩,fun x hx=>⟨by have:=b x hx;omega,h2 x hx⟩⟩
theorem BW:StOk [] []:=⟨aw,aw,fun x hx=>(by cases hx),fun x hx=>(by cases hx)⟩
theorem xU {m:Mc} (h:kH m):StOk (df m).1 (df m).2.1:=by
 unfold df
 split
 ·split
  ·exact JU ‹_› h.1 h.2
  ·exact BW
 ·exact BW
theorem VV {main alt:List bc} (h:StOk main alt) (op:Nat):StOk (uY bo dO op main alt).1 (uY bo dO op main alt).2.1:=by
 have hs:kH ⟨main,alt,0⟩:=⟨fun x hx=>(h.mb x hx).2,fun x hx=>(h.ab x hx).2⟩;unfold uY
 cases h1:iu op ⟨main,alt,0⟩ with
 | some m=>exact xU (Sj h1 hs)
 | none =>
  cases h2:t7 bo dO op ⟨main,alt,0⟩ with
  | some m=>exact xU (VU h2 hs)
  | none =>
   cases h3:nE op ⟨main,alt,0⟩ with
   | some m=>exact xU (Sl h3 hs)
   | none=>exact BW
structure RnG (r r':Rn):Prop where
 st:StOk r'.main r'.alt
 bd:fN r'.bud
 br:r'.br=r.br
 cl:r'.cl=r.cl
theorem RnG.trans {a b c:Rn} (h:RnG a b) (h2:RnG b c):RnG a c:=⟨h2.st,h2.bd,h2.br.trans h.br,h2.cl.trans h.cl⟩
theorem JW {r r':Rn} (h:fN r.bud) (l:RnL r r') (s:StOk r'.main r'.alt):RnG r r':=⟨s,by rw [l.bud];exact h,l.br,l.cl⟩
theorem Sr {r:Rn} (h:StOk r.main r.alt) (hb:fN r.bud):RnG r r:=⟨h,hb,rfl,rfl⟩
theorem fB {r:Rn} (h:StOk r.main r.alt) (hb:fN r.bud) (x:Int):RnG r (au x r):=JW hb (mJ x r) (fK h)
theorem oD {r:Rn} (h:StOk r.main r.alt) (hb:fN r.bud):RnG r (bn r).2:=JW hb (kr r) (dx h).1
theorem vD {r:Rn} (h:StOk r.main r.alt) (hb:fN r.bud) (most:Nat):RnG r (d5 most r).2:=JW hb (vC most r) (lw h)
theorem zP {r:Rn} (h:StOk r.main r.alt) (hb:fN r.bud) {b:bc} (hbb:bytes b):RnG r (dn b r):=by
 refine JW hb (VS b r) ?_;unfold dn
 split
 ·split
  ·exact JU ‹_› (fun x hx=>(cL.1 hx).elim (fun q=>(h.mb x q).2) (iv hbb x)) (fun x hx=>(h.ab x hx).2)
  ·exact fK h
 ·exact h
theorem Ei {r:Rn} (h:StOk r.main r.alt) (hb:fN r.bud) (sg:bc→bc→bc→Bool) (key sig msg:bc):RnG r (fa sg key sig msg r).2:=by
 obtain ⟨h1,h2,h3,h4⟩:=tK sg key sig msg r hb h;exact ⟨h4,h3,h1,h2⟩
theorem O9 {r:Rn} (h:StOk r.main r.alt) (hb:fN r.bud):RnG r (lj r).2:=by
 unfold lj
 split
 ·exact fB h hb 12
 ·exact Sr h hb
theorem JX {r:Rn} (h:StOk r.main r.alt) (hb:fN r.bud):RnG r (lF r).2:=by
 have g:=O9 h hb;unfold lF;generalize lj r=p at *;simp only
 split
 ·cases fH 5 p.1 with
  | none=>exact g.trans (fB g.st g.bd 15)
  | some n =>
   simp only
   split
   ·exact g.trans (fB g.st g.bd 22)
   ·exact g
 ·exact g
theorem Ss {r:Rn} (h:StOk r.main r.alt) (hb:fN r.bud):RnG r (lD r).2:=by
 have g:=oD h hb;unfold lD;simp only
 split
 ·exact g.trans (fB g.st g.bd 19)
 ·exact g
theorem VW {r:Rn} (h:StOk r.main r.alt) (hb:fN r.bud) (x:Rx) (op:Nat):RnG r (qE x op r):=by
 have g1:=oD h hb;unfold qE;simp only;generalize bn r=k at *;have g2:=oD g1.st g1.bd
 split
 ·generalize bn k.2=s at *;have g3:=Ei g2.st g2.bd x.sg k.1 s.1 x.msg;exact g1.trans (g2.trans (g3.trans (zP g3.st g3.bd (tO _))))
 ·split
  ·generalize bn k.2=s at *;have g3:=Ei g2.st g2.bd x.sg k.1 s.1 x.msg
   split
   ·exact g1.trans (g2.trans g3)
   ·exact g1.trans (g2.trans (g3.trans (fB g3.st g3.bd 16)))
  ·split
   ·have g2:=vD g1.st g1.bd 4;generalize d5 4 k.2=n at *;have g3:=oD g2.st g2.bd;generalize bn n.2=s at *;have g4:=Ei g3.st g3.bd x.sg k.1 s.1 x.msg;exact g1.trans (g2.trans (g3.trans (g4.trans (zP g4.st g4.bd (fX _)))))
   ·split
    ·generalize bn k.2=m at *;have g3:=oD g2.st g2.bd;generalize bn m.2=s at *;have g4:=Ei g3.st g3.bd x.sg k.1 s.1 m.1;exact g1.trans (g2.trans (g3.trans (g4.trans (zP g4.st g4.bd (tO _)))))
    ·exact g1
theorem Su {r:Rn} (h:StOk r.main r.alt) (hb:fN r.bud) (x:Rx):RnG r (ta x r):=by
 have g:=JX h hb;unfold ta;simp only
 split
 ·exact g.trans (fB g.st g.bd 22)
 ·exact g
theorem VX {r:Rn} (h:StOk r.main r.alt) (hb:fN r.bud) (x:Rx):RnG r (Bn x r):=by
 have g:=JX h hb;unfold Bn;simp only
 split
 ·exact g
 ·split
  ·exact g.trans (fB g.st g.bd 22)
  ·exact g
theorem VY {r:Rn} (h:StOk r.main r.alt) (hb:fN r.bud) (x:Rx):RnG r (xf x r):=by
 have g:=O9 h hb;unfold xf;simp only
 split
 ·exact g
 ·exact g.trans (fB g.st g.bd 23)
structure RnOk (r:Rn) (k:Nat):Prop where
 st:StOk r.main r.alt
 bd:fN r.bud
 br:r.br.length≤k
 cl:r.cl.length≤2*k
theorem mK {r r':Rn} {k:Nat} (h:RnOk r k) (g:RnG r r'):RnOk r' k:=⟨g.st,g.bd,by rw [g.br];exact h.br,by rw [g.cl];exact h.cl⟩
theorem kJ {r:Rn} {k m:Nat} (h:RnOk r k) (hm:k≤m):RnOk r m:=⟨h.st,h.bd,by have:=h.br;omega,by have:=h.cl;omega⟩
theorem JY {r:Rn} {k:Nat} (h:RnOk r k) (l:List (Int × Int)) (hl:l.length≤2) (e:Int):RnOk (zi l e r) (k+1):=by
 unfold zi
 split
 ·have g:=fB h.st h.bd e;have g2:RnG { au e r with cl:=r.cl ++ l } (dn (ir true) { au e r with cl:=r.cl ++ l }):=zP (r:={ au e r with cl:=r.cl ++ l }) g.st g.bd (tO true);refine ⟨g2.st,g2.bd,?_,?_⟩
  ·rw [g2.br];show (au e r).br.length≤k+1;rw [g.br];have:=h.br;omega
  ·rw [g2.cl];show (r.cl ++ l).length≤2*(k+1);have:=h.cl;simp;omega
 ·exact kJ h aq
theorem Sv {r:Rn} {k:Nat} (h:RnOk r k) (x:Rx):RnOk (Bo x r) (k+1):=by
 have h1:=mK h (oD h.st h.bd);unfold Bo;simp only;generalize bn r=p at *;have h2:=mK h1 (vD h1.st h1.bd 4)
 split
 ·exact JY h2 _ aw _
 ·exact kJ h2 aq
theorem Sz {r:Rn} {k:Nat} (h:RnOk r k) (x:Rx) (hx:∀ s o0 o1 bk,(x.trg s o0 o1 bk).1.length≤2):RnOk (Bq x r) (k+1):=by
 have h1:=mK h (vD h.st h.bd 4);unfold Bq;simp only;generalize d5 4 r=p1 at *;have h2:=mK h1 (oD h1.st h1.bd);generalize bn p1.2=p2 at *;obtain ⟨s3,_,_,l3⟩:=JQ h2.st p1.1;have h3:=mK h2 (JW h2.bd l3 s3);generalize gR p1.1 p2.2=p3 at *;have h4:=mK h3 (vD h3.st h3.bd 4);generalize d5 4 p3.2=p4 at *;have h5:=mK h4 (vD h4.st h4.bd 4);generalize d5 4 p4.2=p5 at *;have h6:=mK h5 (vD h5.st h5.bd 8);generalize d5 8 p5.2=p6 at *
 split
 ·split
  ·exact JY h6 _ (hx _ _ _ _) _
  ·exact kJ (mK h6 (fB h6.st h6.bd _)) aq
 ·exact kJ h6 aq
theorem VZ {r:Rn} {k:Nat} (h:RnOk r k) (x:Rx) (h1:x.h1=bo) (h2:x.h2=dO) (hx:∀ s o0 o1 bk,(x.trg s o0 o1 bk).1.length≤2) (op:Nat):RnOk (tc x op r) (k+1):=by
 have le:∀ {r':Rn},RnG r r'→RnOk r' (k+1):=fun g=>kJ (mK h g) aq;unfold tc;rw [h1,h2]
 split
 ·exact le (fB h.st h.bd 17)
 split
 ·exact le (VW h.st h.bd x op)
 split
 ·exact le (Su h.st h.bd x)
 split
 ·exact le (VX h.st h.bd x)
 split
 ·exact le (VY h.st h.bd x)
 split
 ·exact Sz h x hx
 split
 ·exact Sv h x
 ·have hd:=VV h.st op;have hl:=mJ (uY bo dO op r.main r.alt).2.2 r;exact le ⟨hd,by show fN (au _ r).bud;rw [hl.bud];exact h.bd,hl.br,hl.cl⟩
theorem BX {r:Rn} {k:Nat} (h:RnOk r k) (b:Bool):RnOk (kE b r) (k+1):=⟨h.st,h.bd,by have:=h.br;simp [kE];omega,by have:=h.cl;show r.cl.length≤_;omega⟩
theorem JZ {r:Rn} {k:Nat} (h:RnOk r k):RnOk (ll r).2 k∧((ll r).1 ≠ none→(ll r).2.br.length+1≤k):=by
 unfold ll
 split
 ·exact ⟨mK h (fB h.st h.bd 18),fun q=>absurd rfl q⟩
 ·rename_i hb;have:=h.br;exact ⟨⟨h.st,h.bd,by simp;omega,h.cl⟩,fun _=>by simp;omega⟩
theorem SA {r r':Rn} {k op:Nat} (h:RnOk r k) (hb:mC op r=some r'):RnOk r' (k+1):=by
 unfold mC at hb
 split at hb
 ·obtain rfl:=Option.some.inj hb
  split
  ·exact BX (mK h (Ss h.st h.bd)) _
  ·exact BX h false
 ·split at hb
  ·obtain rfl:=Option.some.inj hb;obtain ⟨h1,h2⟩:=JZ h;generalize ll r=p at *;obtain ⟨o,r2⟩:=p
   cases o with
   | none=>exact kJ h1 aq
   | some b=>exact BX h1 _
  ·split at hb
   ·obtain rfl:=Option.some.inj hb;exact kJ (JZ h).1 aq
   ·cases hb
theorem J0 {r:Rn} {k:Nat} (h:RnOk r k) (x:Rx) (h1:x.h1=bo) (h2:x.h2=dO) (hx:∀ s o0 o1 bk,(x.trg s o0 o1 bk).1.length≤2) (w:Wd) (h8:w.1<256) (hb:bytes w.2):RnOk (lK x w r) (k+1):=by
 unfold lK
 split
 ·exact kJ (mK h (fB h.st h.bd 10)) aq
 ·cases hbr:mC w.1 r with
  | some r'=>exact SA h hbr
  | none =>
   simp only
   split
   ·exact kJ h aq
   ·cases hp:eu w with
    | none=>exact VZ h x h1 h2 hx w.1
    | some b =>
     simp only
     split
     ·exact kJ (mK h (zP h.st h.bd (ti hb h8 hp))) aq
     ·exact kJ (mK h (fB h.st h.bd 11)) aq
theorem SB (F:RnF) (x:Rx) (E:RnE F x) (w:Wd) (h8:w.1<256) (hwb:bytes w.2) (hwl:w.2.length≤50000) (r:Rn) (J:List Bool) (k:Nat) (hk:RnOk r k) (hk2:k≤10000) :
  cJ Tryz.prog 3 (aF (gl F)) 140 ⟨r,J,0⟩ [.ptr 0 0 0 1,.agg (uj w)] (fun v s'=>∃ J',s'=⟨lK x w r,J',0⟩):=by
 refine al Tryz.func140 (by kernel_rfl) rfl Tryz.ntmps140 (rs:=[]) rfl (dR rfl) (by decide) ?_;have hC:=dZ (F:=F) E.hi;have hl:=hC.2.2;have hbr:=hk.br;have hcl:=hk.cl;have hps:=tf w h8 aq;have hnm:=M6 w.1 h8;have hsh:=FD w h8 hwb hwl;have hbn:=IS hC w.1 h8 r J 0 hk.st aq
 have hdw:∀ v,v ∈ [AV.agg (uj w)]→v.deep:=by
  intro v hv;simp at hv;subst hv;exact jL w
 obtain ⟨op,wb⟩:=w;simp only [uj] at *
 have hPB:∀ (N:Nat),5≤N→∀ p,p ∈ [((4:Nat),(⟨42,2,[[.d (.int .u8 (op:Int)),.d (nb wb)]]⟩:Blk))]→p.1<N∧3≤p.1:=by
  intro N hN p hp;simp at hp;subst hp;exact ⟨by show 4<N;omega,by show 3≤4;omega⟩
 simp [go_sem];refine ag hps hdw ?_;have hpA:IN (eu (op,wb))=.tup [.d (nb ((eu (op,wb)).getD [])),.d (.bool (eu (op,wb)).isSome)]:=by cases eu (op,wb) <;> rfl
 rw [hpA];simp [go_sem];refine ag hnm a9 ?_;by_cases hA:(!nF op && (eu (op,wb)).isNone)=true
 ·have hv:lK x (op,wb) r=au 10 r:=if_pos hA;rw [hv];have hA1:nF op=false:=by simp at hA;exact hA.1
  have hA2:eu (op,wb)=none:=by simp at hA;exact hA.2
  simp [go_sem,hA1,hA2];refine aM (Pp:=[(4,⟨42,2,[[.d (.int .u8 (op:Int)),.d (nb wb)]]⟩)]) hC (bu hC r J 0 10) rfl aq (hPB _ aq) (by simp [AV.renL,AV.ren]) ?_;rintro v s' ρ rfl hρ;rw [bz];generalize au 10 r=r';simp only [aF,bB,bA,id];simp [go_sem,ah];exact ⟨_,⟨J,rfl⟩,aB rfl rfl rfl⟩
 ·have hA':(nF op=true∧(eu (op,wb)).isSome=true) ∨ (nF op=true∧eu (op,wb)=none) ∨ (nF op=false∧(eu (op,wb)).isSome=true):=by
   cases h1:nF op
   ·cases h2:eu (op,wb)
    ·rw [h1,h2] at hA;simp at hA
    ·exact .inr (.inr ⟨rfl,rfl⟩)
   ·cases h2:eu (op,wb)
    ·exact .inr (.inl ⟨rfl,rfl⟩)
    ·exact .inl ⟨rfl,rfl⟩
  have hv0:lK x (op,wb) r=(match mC op r with
    | some r'=>r'
    | none=>if 0<gp r then r else match eu (op,wb) with
     | some b=>if rj (op,wb) then dn b r else au 11 r
     | none=>tc x op r):=if_neg hA
  cases hb:mC op r with
  | some r1 =>
   have hv:lK x (op,wb) r=r1:=by rw [hv0,hb]
   rw [hv];rw [hb] at hbn;rcases hA' with ⟨hn,hp⟩ | ⟨hn,hp⟩ | ⟨hn,hp⟩
   ·simp [go_sem,hn,hp];refine aM (Pp:=[(4,⟨42,2,[[.d (.int .u8 (op:Int)),.d (nb wb)]]⟩)]) hC hbn (by first | rfl | simp [bz,aF,bB,bA]) aq (hPB _ aq) (by simp [AV.renL,AV.ren]) ?_;rintro v s' ρ ⟨rfl,J2,rfl⟩ hρ;simp [go_sem,AV.ren];rw [bz];exact ⟨_,⟨J2,rfl⟩,aB rfl rfl rfl⟩
   ·simp [go_sem,hn,hp];refine aM (Pp:=[(4,⟨42,2,[[.d (.int .u8 (op:Int)),.d (nb wb)]]⟩)]) hC hbn (by first | rfl | simp [bz,aF,bB,bA]) aq (hPB _ aq) (by simp [AV.renL,AV.ren]) ?_;rintro v s' ρ ⟨rfl,J2,rfl⟩ hρ;simp [go_sem,AV.ren];rw [bz];exact ⟨_,⟨J2,rfl⟩,aB rfl rfl rfl⟩
   ·simp [go_sem,hn,hp];refine aM (Pp:=[(4,⟨42,2,[[.d (.int .u8 (op:Int)),.d (nb wb)]]⟩)]) hC hbn (by first | rfl | simp [bz,aF,bB,bA]) aq (hPB _ aq) (by simp [AV.renL,AV.ren]) ?_;rintro v s' ρ ⟨rfl,J2,rfl⟩ hρ;simp [go_sem,AV.ren];rw [bz];exact ⟨_,⟨J2,rfl⟩,aB rfl rfl rfl⟩
  | none =>
   rw [hb] at hv0 hbn;by_cases hid:0<gp r
   ·have hv:lK x (op,wb) r=r:=by rw [hv0];exact if_pos hid
    rw [hv];have hidi:(0:Int)<(gp r:Int):=aq;rcases hA' with ⟨hn,hp⟩ | ⟨hn,hp⟩ | ⟨hn,hp⟩
    ·simp [go_sem,hn,hp];refine aM (Pp:=[(4,⟨42,2,[[.d (.int .u8 (op:Int)),.d (nb wb)]]⟩)]) hC hbn (by first | rfl | simp [bz,aF,bB,bA]) aq (hPB _ aq) (by simp [AV.renL,AV.ren]) ?_;rintro v s' ρ ⟨rfl,J2,rfl⟩ hρ;rw [bz];simp only [aF,bB,bA,id];simp [go_sem,AV.ren,hl,hid];exact ⟨_,⟨J2,rfl⟩,aB rfl rfl rfl⟩
    ·simp [go_sem,hn,hp];refine aM (Pp:=[(4,⟨42,2,[[.d (.int .u8 (op:Int)),.d (nb wb)]]⟩)]) hC hbn (by first | rfl | simp [bz,aF,bB,bA]) aq (hPB _ aq) (by simp [AV.renL,AV.ren]) ?_;rintro v s' ρ ⟨rfl,J2,rfl⟩ hρ;rw [bz];simp only [aF,bB,bA,id];simp [go_sem,AV.ren,hl,hid];exact ⟨_,⟨J2,rfl⟩,aB rfl rfl rfl⟩
    ·simp [go_sem,hn,hp];refine aM (Pp:=[(4,⟨42,2,[[.d (.int .u8 (op:Int)),.d (nb wb)]]⟩)]) hC hbn (by first | rfl | simp [bz,aF,bB,bA]) aq (hPB _ aq) (by simp [AV.renL,AV.ren]) ?_;rintro v s' ρ ⟨rfl,J2,rfl⟩ hρ;rw [bz];simp only [aF,bB,bA,id];simp [go_sem,AV.ren,hl,hid];exact ⟨_,⟨J2,rfl⟩,aB rfl rfl rfl⟩
   ·have hid0:gp r=0:=aq;have hnI:nF op=true ∨ nF op=false:=by cases nF op;exact .inr rfl;exact .inl rfl
    cases hpw:eu (op,wb) with
    | none =>
     have hn:nF op=true:=by rcases hA' with ⟨hn,hp⟩ | ⟨hn,hp⟩ | ⟨hn,hp⟩ <;> first | exact hn | (rw [hpw] at hp;simp at hp)
     have hv:lK x (op,wb) r=tc x op r:=by rw [hv0,hpw];exact if_neg hid
     rw [hv];simp [go_sem,hn,hpw];refine aM (Pp:=[(4,⟨42,2,[[.d (.int .u8 (op:Int)),.d (nb wb)]]⟩)]) hC hbn (by first | rfl | simp [bz,aF,bB,bA]) aq (hPB _ aq) (by simp [AV.renL,AV.ren]) ?_;rintro v s' ρ ⟨rfl,J2,rfl⟩ hρ;rw [bz];simp only [aF,bB,bA,id];simp [go_sem,AV.ren,hl,hid0];refine aM (Pp:=[(4,⟨42,2,[[.d (.int .u8 (op:Int)),.d (nb wb)]]⟩)]) (s:=⟨r,J2,0⟩) hC (N1 F x E op h8 r J2 hk.st aq hk.bd) (by simp [bz,aF,bB,bA,hid0]) aq (hPB _ aq) (by simp [AV.renL,AV.ren]) ?_;rintro v s' ρ rfl hρ;rw [bz];generalize tc x op r=r';simp only [aF,bB,bA,id];simp [go_sem,ah];exact ⟨_,⟨J2,rfl⟩,aB rfl rfl rfl⟩
    | some b =>
     have hble:=Du hpw;simp only at hble;by_cases hs:rj (op,wb)=true
     ·have hv:lK x (op,wb) r=dn b r:=by rw [hv0,hpw];exact (if_neg hid).trans (if_pos hs)
      rw [hv];rw [hs] at hsh;rcases hnI with hn | hn
      ·simp [go_sem,hn,hpw];refine aM (Pp:=[(4,⟨42,2,[[.d (.int .u8 (op:Int)),.d (nb wb)]]⟩)]) hC hbn (by first | rfl | simp [bz,aF,bB,bA]) aq (hPB _ aq) (by simp [AV.renL,AV.ren]) ?_;rintro v s' ρ ⟨rfl,J2,rfl⟩ hρ;rw [bz];simp only [aF,bB,bA,id];simp [go_sem,AV.ren,hl,hid0];refine ag hsh hdw ?_;simp [go_sem];refine aM (Pp:=[(4,⟨42,2,[[.d (.int .u8 (op:Int)),.d (nb wb)]]⟩)]) (s:=⟨r,J2,0⟩) hC (oo hC r J2 0 hk.st b aq) (by simp [bz,aF,bB,bA,hid0]) aq (hPB _ aq) (by simp [AV.renL,AV.ren]) ?_;rintro v s' ρ rfl hρ;rw [bz];generalize dn b r=r';simp only [aF,bB,bA,id];simp [go_sem,ah];exact ⟨_,⟨J2,rfl⟩,aB rfl rfl rfl⟩
      ·simp [go_sem,hn,hpw];refine aM (Pp:=[(4,⟨42,2,[[.d (.int .u8 (op:Int)),.d (nb wb)]]⟩)]) hC hbn (by first | rfl | simp [bz,aF,bB,bA]) aq (hPB _ aq) (by simp [AV.renL,AV.ren]) ?_;rintro v s' ρ ⟨rfl,J2,rfl⟩ hρ;rw [bz];simp only [aF,bB,bA,id];simp [go_sem,AV.ren,hl,hid0];refine ag hsh hdw ?_;simp [go_sem];refine aM (Pp:=[(4,⟨42,2,[[.d (.int .u8 (op:Int)),.d (nb wb)]]⟩)]) (s:=⟨r,J2,0⟩) hC (oo hC r J2 0 hk.st b aq) (by simp [bz,aF,bB,bA,hid0]) aq (hPB _ aq) (by simp [AV.renL,AV.ren]) ?_;rintro v s' ρ rfl hρ;rw [bz];generalize dn b r=r';simp only [aF,bB,bA,id];simp [go_sem,ah];exact ⟨_,⟨J2,rfl⟩,aB rfl rfl rfl⟩
     ·have hs0:rj (op,wb)=false:=by simpa using hs
      have hv:lK x (op,wb) r=au 11 r:=by rw [hv0,hpw];exact (if_neg hid).trans (if_neg hs)
      rw [hv];rw [hs0] at hsh;rcases hnI with hn | hn
      ·simp [go_sem,hn,hpw];refine aM (Pp:=[(4,⟨42,2,[[.d (.int .u8 (op:Int)),.d (nb wb)]]⟩)]) hC hbn (by first | rfl | simp [bz,aF,bB,bA]) aq (hPB _ aq) (by simp [AV.renL,AV.ren]) ?_;rintro v s' ρ ⟨rfl,J2,rfl⟩ hρ;rw [bz];simp only [aF,bB,bA,id];simp [go_sem,AV.ren,hl,hid0];refine ag hsh hdw ?_;simp [go_sem];refine aM (Pp:=[(4,⟨42,2,[[.d (.int .u8 (op:Int)),.d (nb wb)]]⟩)]) (s:=⟨r,J2,0⟩) hC (bu hC r J2 0 11) (by simp [bz,aF,bB,bA,hid0]) aq (hPB _ aq) (by simp [AV.renL,AV.ren]) ?_;rintro v s' ρ rfl hρ;rw [bz];generalize au 11 r=r';simp only [aF,bB,bA,id];simp [go_sem,ah];exact ⟨_,⟨J2,rfl⟩,aB rfl rfl rfl⟩
      ·simp [go_sem,hn,hpw];refine aM (Pp:=[(4,⟨42,2,[[.d (.int .u8 (op:Int)),.d (nb wb)]]⟩)]) hC hbn (by first | rfl | simp [bz,aF,bB,bA]) aq (hPB _ aq) (by simp [AV.renL,AV.ren]) ?_;rintro v s' ρ ⟨rfl,J2,rfl⟩ hρ;rw [bz];simp only [aF,bB,bA,id];simp [go_sem,AV.ren,hl,hid0];refine ag hsh hdw ?_;simp [go_sem];refine aM (Pp:=[(4,⟨42,2,[[.d (.int .u8 (op:Int)),.d (nb wb)]]⟩)]) (s:=⟨r,J2,0⟩) hC (bu hC r J2 0 11) (by simp [bz,aF,bB,bA,hid0]) aq (hPB _ aq) (by simp [AV.renL,AV.ren]) ?_;rintro v s' ρ rfl hρ;rw [bz];generalize au 11 r=r';simp only [aF,bB,bA,id];simp [go_sem,ah];exact ⟨_,⟨J2,rfl⟩,aB rfl rfl rfl⟩
theorem Ej {s:bc} {a b:Nat} {w:Wd} (hb:bytes s) (ha:a<s.length) (h:mB s a=some (w,b)):a<b∧b≤s.length∧w.1<256∧bytes w.2∧w.2.length≤s.length:=by
 obtain ⟨op,r,hd⟩:∃ op r,s.drop a=op :: r:=by
  rcases h:s.drop a with _ | ⟨op,r⟩
  ·have:=congrArg List.length h;simp at this;omega
  ·exact ⟨op,r,rfl⟩
 have hdb:bytes (op :: r):=fun x hx=>hb x (by rw [← hd] at hx;exact List.mem_of_mem_drop hx)
 have hrs:a+(r.length+1)=s.length:=by
  have:=congrArg List.length hd;simp at this;omega
 unfold mB at h;rw [hd] at h
 cases hw:gQ (op :: r) with
 | none=>rw [hw] at h;cases h
 | some p =>
  obtain ⟨n,hh⟩:=p;obtain ⟨t1,t2,t3⟩:=zk hdb hw;rw [hw] at h;simp only [List.length_cons,List.headD_cons] at h
  split at h
  ·cases h
  ·rename_i hq;simp only [Option.some.injEq,Prod.mk.injEq] at h;obtain ⟨rfl,rfl⟩:=h;refine ⟨aq,aq,hdb op aw,fun y hy=>hdb y (List.mem_of_mem_drop (List.mem_of_mem_take hy)),?_⟩;simp;omega
theorem N4 (F:RnF) (x:Rx) (E:RnE F x) (hsb:bytes F.script) (hsl:F.script.length≤1000) (hx:∀ s o0 o1 bk,(x.trg s o0 o1 bk).1.length≤2) (r:Rn) (J:List Bool) (hk:RnOk r 0) :
  cJ Tryz.prog 3 (aF (gl F)) 98 ⟨r,J,0⟩ [.ptr 0 0 0 1] (fun v s'=>∃ J',s'=⟨lm x F.script (F.script.length+1) 0 r,J',0⟩):=by
 refine al Tryz.func98 (by kernel_rfl) rfl Tryz.ntmps98 (rs:=[]) rfl (dR rfl) (by decide) ?_;have hC:=dZ (F:=F) E.hi;have hl:=hC.2.2
 have h39:∀ l:List AV,(gl F ++ l)[39]?=some (.d (.ro 1 (F.script.map fun (b:Nat)=>[.int .u8 (b:Int)]))):=fun l=>by
  unfold gl aP;rw [cD,d7 (by simp [eS])];simp only [eS,List.length_cons,List.length_nil,cD];rw [d7 (by rw [am,E.hi];omega),am,E.hi];rfl
 generalize hW:lm x F.script (F.script.length+1) 0 r=W;simp [go_sem]
 have hwk:∀ (fr:Fr) (hp:Hp) (nx a:Nat) (r':Rn) (J':List Bool),(fv 0 fr=.ptr 0 0 0 1∧fv 2 fr=.d (.int .i64 (a:Int)))→(∀ p,p ∈ gz 3 (aF (gl F)) ⟨r',J',0⟩ id→lk p.1 hp=some p.2) →
   aA ⟨fr,hp,nx⟩ ⟨[(0,.ptr 0 0 0 1),(2,.d (.int .i64 (a:Int)))],gz 3 (aF (gl F)) ⟨r',J',0⟩ id,9000⟩:=by
  rintro fr hp nx a r' J' ⟨q0,q1⟩ h2;refine ⟨?_,VR hC (dR rfl) h2,.inr (by show 64≤9000;omega)⟩;intro p hp';simp only [e_,List.mem_nil_iff,or_false] at hp';rcases hp' with rfl | rfl
  ·exact ⟨.inl q0.symm,by simp [AV.low,AV.low1]⟩
  ·exact ⟨.inl q1.symm,by simp [AV.low,AV.low1]⟩
 refine ax (fun u:Nat × Nat × Rn × List Bool=>⟨[(0,.ptr 0 0 0 1),(2,.d (.int .i64 (u.1:Int)))],gz 3 (aF (gl F)) ⟨u.2.2.1,u.2.2.2,0⟩ id,9000⟩)
  (fun u=>u.1≤F.script.length∧F.script.length+1≤u.2.1+u.1∧RnOk u.2.2.1 u.1∧lm x F.script u.2.1 u.1 u.2.2.1=W) (fun u=>F.script.length - u.1) (0,F.script.length+1,r,J) ⟨aq,by show _≤F.script.length+1+0;omega,hk,hW⟩
  (hwk _ _ _ 0 r J (by simp [fv,lk]) (pH rfl rfl rfl)) ?_
 rintro ⟨a,f,r',J'⟩ ⟨ha,hf,hr,hw⟩;simp only at ha hf hr hw;obtain ⟨f,rfl⟩:∃ f',f=f'+1:=⟨f - 1,aq⟩;rw [lm] at hw;simp only;by_cases hlt:a<F.script.length
 ·have hlti:(a:Int)<(F.script.length:Int):=aq;rw [bz];simp only [aF,bB,bA,id];simp [go_sem,hlt,hlti,h39];refine aM (Pp:=[]) (s:=⟨r',J',0⟩) hC (ej hC r' J' 0) (by simp [bz,aF,bB,bA]) aq aw (by simp [AV.renL,AV.ren]) ?_;rintro v s' ρ ⟨rfl,rfl⟩ hρ;by_cases he:r'.e=0
  ·rw [if_pos ⟨hlt,he⟩] at hw;have hnx:=IM F.script a hsb aq hlt;rw [bz];simp only [aF,bB,bA,id];simp [go_sem,AV.ren,he,h39];refine ag hnx a9 ?_
   cases hq:mB F.script a with
   | none =>
    rw [hq] at hw;subst hw;simp [go_sem,IL,uj];refine aM (Pp:=[(9736,⟨42,2,[[.d (.int .u8 0),.d (nb [])]]⟩)]) (s:=⟨r',J',0⟩) hC (bu hC r' J' 0 2) (by simp [bz,aF,bB,bA,he]) aq (by intro p hp;simp at hp;subst hp;simp) (by simp [AV.renL,AV.ren]) ?_;rintro v s' ρ rfl hρ;rw [bz];generalize au 2 r'=r2;simp only [aF,bB,bA,id];simp [go_sem,ah];exact ⟨_,⟨J',rfl⟩,aB rfl rfl rfl⟩
   | some p =>
    obtain ⟨w,b⟩:=p;rw [hq] at hw;obtain ⟨n1,n2,n3,n4,n5⟩:=Ej hsb hlt hq;have hwm:=SB F x E w n3 n4 aq r' J' a hr aq;have hok:=kJ (J0 hr x E.hh.1 E.hh.2 hx w n3 n4) (show a+1≤b by omega);simp only [uj] at hwm;simp [go_sem,IL,uj];refine aM (Pp:=[(9736,⟨42,2,[[.d (.int .u8 (w.1:Int)),.d (nb w.2)]]⟩)]) (s:=⟨r',J',0⟩) hC hwm (by simp [bz,aF,bB,bA,he]) aq (by intro p hp;simp at hp;subst hp;simp) (fun ρ=>rfl) ?_;rintro v s' ρ ⟨J2,rfl⟩ hρ;simp [go_sem];refine ap (b,f,lK x w r',J2) ⟨n2,by show _≤f+b;omega,hok,hw⟩ (by show F.script.length - b<F.script.length - a;omega) (hwk _ _ _ b _ _ (by simp [fv,lk]) (pH rfl rfl rfl))
  ·rw [if_neg (fun h=>he h.2)] at hw;subst hw;simp [go_sem,AV.ren,he];rw [bz];exact ⟨_,⟨J',rfl⟩,aB rfl rfl rfl⟩
 ·rw [if_neg (fun h=>hlt h.1)] at hw;subst hw;have hlti:¬ (a:Int)<(F.script.length:Int):=aq;rw [bz];simp only [aF,bB,bA,id];simp [go_sem,hlt,hlti,h39];exact ⟨_,⟨J',rfl⟩,aB rfl rfl rfl⟩
def rE (r1:Rn):Rn:=if r1.main.length=1∧jG (r1.main.headD [])=true then r1 else au 25 r1
theorem V0 {C:List AV} (hC:ie C) (r:Rn) (J:List Bool) (H:Nat) (hk:StOk r.main r.alt):cJ Tryz.prog 3 (aF C) 99 ⟨r,J,H⟩ [.ptr 0 0 0 1] (fun v s'=>s'=⟨mD r,J,H⟩):=by
 refine al Tryz.func99 (by kernel_rfl) rfl Tryz.ntmps99 (rs:=[]) rfl (dR rfl) (by decide) ?_;have hl:=hC.2.2;by_cases hb:0<r.br.length
 ·have hR:mD r=rE (au 18 r):=by simp only [mD,if_pos hb,rE]
  rw [hR];have hkb:StOk (au 18 r).main (au 18 r).alt:=fK hk;have hbi:(0:Int)<(r.br.length:Int):=aq;have hf:=bu hC r J H 18;generalize au 18 r=r1 at *;rw [bz];simp only [aF,bB,bA,id];simp [go_sem,hl,hb,hbi];refine aM (Pp:=[]) (s:=⟨r,J,H⟩) hC hf (by simp [bz,aF,bB,bA]) aq aw (by simp [AV.renL,AV.ren]) ?_;rintro v s' ρ rfl hρ;obtain ⟨main,alt,br,bud,cl,e⟩:=r1;simp only at hkb;rcases main with _ | ⟨y,_ | ⟨z,l⟩⟩
  ·have hv:rE ⟨[],alt,br,bud,cl,e⟩=au 25 ⟨[],alt,br,bud,cl,e⟩:=rfl;rw [hv,bz];simp only [aF,bB,bA,id];simp [go_sem,hl];refine aM (Pp:=[]) (s:=⟨⟨[],alt,br,bud,cl,e⟩,J,H⟩) hC (bu hC ⟨[],alt,br,bud,cl,e⟩ J H 25) (by simp [bz,aF,bB,bA,bJ]) aq aw (by simp [AV.renL,AV.ren]) ?_;rintro v s' ρ rfl hρ;rw [bz];generalize au 25 ⟨[],alt,br,bud,cl,e⟩=r';simp only [aF,bB,bA,id];simp [go_sem,ah];exact aB rfl rfl rfl
  ·obtain ⟨y1,y2⟩:=hkb.mb y aw;have htr:=mz y y2 aq;rw [bz];simp only [aF,bB,bA,id];by_cases ht:jG y=true
   ·have hv:rE ⟨[y],alt,br,bud,cl,e⟩=⟨[y],alt,br,bud,cl,e⟩:=if_pos ⟨rfl,ht⟩;rw [hv];rw [ht] at htr;simp [go_sem,hl,bJ];refine ag htr a9 ?_;simp [go_sem,ah];exact aB rfl rfl rfl
   ·have hv:rE ⟨[y],alt,br,bud,cl,e⟩=au 25 ⟨[y],alt,br,bud,cl,e⟩:=if_neg (fun h=>ht h.2);rw [hv];rw [show jG y=false by simpa using ht] at htr;simp [go_sem,hl,bJ];refine ag htr a9 ?_;simp [go_sem];refine aM (Pp:=[]) (s:=⟨⟨[y],alt,br,bud,cl,e⟩,J,H⟩) hC (bu hC ⟨[y],alt,br,bud,cl,e⟩ J H 25) (by simp [bz,aF,bB,bA,bJ]) aq aw (by simp [AV.renL,AV.ren]) ?_;rintro v s' ρ rfl hρ;rw [bz];generalize au 25 ⟨[y],alt,br,bud,cl,e⟩=r';simp only [aF,bB,bA,id];simp [go_sem,ah];exact aB rfl rfl rfl
  ·have hv:rE ⟨y :: z :: l,alt,br,bud,cl,e⟩=au 25 ⟨y :: z :: l,alt,br,bud,cl,e⟩:=if_neg (fun h=>by simp at h);have hn2:¬ (l.length:Int)+1+1=1:=aq;rw [hv,bz];simp only [aF,bB,bA,id];simp [go_sem,hl,hn2];refine aM (Pp:=[]) (s:=⟨⟨y :: z :: l,alt,br,bud,cl,e⟩,J,H⟩) hC (bu hC ⟨y :: z :: l,alt,br,bud,cl,e⟩ J H 25) (by simp [bz,aF,bB,bA,bJ]) aq aw (by simp [AV.renL,AV.ren]) ?_;rintro v s' ρ rfl hρ;rw [bz];generalize au 25 ⟨y :: z :: l,alt,br,bud,cl,e⟩=r';simp only [aF,bB,bA,id];simp [go_sem,ah];exact aB rfl rfl rfl
 ·have hR:mD r=rE r:=by simp only [mD,if_neg hb,rE]
  rw [hR];have hkb:=hk;have hbi:¬ (0:Int)<(r.br.length:Int):=aq;obtain ⟨r1,rfl⟩:∃ r1,r1=r:=⟨r,rfl⟩;obtain ⟨main,alt,br,bud,cl,e⟩:=r1;simp only at hkb hb hbi;rcases main with _ | ⟨y,_ | ⟨z,l⟩⟩
  ·have hv:rE ⟨[],alt,br,bud,cl,e⟩=au 25 ⟨[],alt,br,bud,cl,e⟩:=rfl;rw [hv,bz];simp only [aF,bB,bA,id];simp [go_sem,hl,hb,hbi];refine aM (Pp:=[]) (s:=⟨⟨[],alt,br,bud,cl,e⟩,J,H⟩) hC (bu hC ⟨[],alt,br,bud,cl,e⟩ J H 25) (by simp [bz,aF,bB,bA,bJ]) aq aw (by simp [AV.renL,AV.ren]) ?_;rintro v s' ρ rfl hρ;rw [bz];generalize au 25 ⟨[],alt,br,bud,cl,e⟩=r';simp only [aF,bB,bA,id];simp [go_sem,ah];exact aB rfl rfl rfl
  ·obtain ⟨y1,y2⟩:=hkb.mb y aw;have htr:=mz y y2 aq;rw [bz];simp only [aF,bB,bA,id];by_cases ht:jG y=true
   ·have hv:rE ⟨[y],alt,br,bud,cl,e⟩=⟨[y],alt,br,bud,cl,e⟩:=if_pos ⟨rfl,ht⟩;rw [hv];rw [ht] at htr;simp [go_sem,hl,bJ,hb,hbi];refine ag htr a9 ?_;simp [go_sem,ah];exact aB rfl rfl rfl
   ·have hv:rE ⟨[y],alt,br,bud,cl,e⟩=au 25 ⟨[y],alt,br,bud,cl,e⟩:=if_neg (fun h=>ht h.2);rw [hv];rw [show jG y=false by simpa using ht] at htr;simp [go_sem,hl,bJ,hb,hbi];refine ag htr a9 ?_;simp [go_sem];refine aM (Pp:=[]) (s:=⟨⟨[y],alt,br,bud,cl,e⟩,J,H⟩) hC (bu hC ⟨[y],alt,br,bud,cl,e⟩ J H 25) (by simp [bz,aF,bB,bA,bJ]) aq aw (by simp [AV.renL,AV.ren]) ?_;rintro v s' ρ rfl hρ;rw [bz];generalize au 25 ⟨[y],alt,br,bud,cl,e⟩=r';simp only [aF,bB,bA,id];simp [go_sem,ah];exact aB rfl rfl rfl
  ·have hv:rE ⟨y :: z :: l,alt,br,bud,cl,e⟩=au 25 ⟨y :: z :: l,alt,br,bud,cl,e⟩:=if_neg (fun h=>by simp at h);have hn2:¬ (l.length:Int)+1+1=1:=aq;rw [hv,bz];simp only [aF,bB,bA,id];simp [go_sem,hl,hn2,hb,hbi];refine aM (Pp:=[]) (s:=⟨⟨y :: z :: l,alt,br,bud,cl,e⟩,J,H⟩) hC (bu hC ⟨y :: z :: l,alt,br,bud,cl,e⟩ J H 25) (by simp [bz,aF,bB,bA,bJ]) aq aw (by simp [AV.renL,AV.ren]) ?_;rintro v s' ρ rfl hρ;rw [bz];generalize au 25 ⟨y :: z :: l,alt,br,bud,cl,e⟩=r';simp only [aF,bB,bA,id];simp [go_sem,ah];exact aB rfl rfl rfl
def FW (F:RnF) (x:Rx) (start:List bc) (bud:Int):AV :=
 if cg F.t (F.n:Int) F.coins ≠ 0 ∨ 1000<F.script.length then .tup [.d (.ro 2 []),.d (.int .i64 1)]
 else .tup [.d (.ro 2 ((px x F.script start bud).1.map eV)),.d (.int .i64 (px x F.script start bud).2)]
theorem qM (t:Tn) (n:Int) (coins:List (Nat × List Nat)):cg t n coins=0 ∨ cg t n coins=1:=by
 rcases lc t n coins with h | h
 ·exact .inr h
 ·exact .inl h.1
theorem tQ (F:RnF) (start:List bc) (bud:Int):∀ v,v ∈ [AV.agg (eS F.t (F.n:Int) F.coins),cM F.inner F.path F.script,.d (.ro 1 (start.map bJ)),.d (nb F.annex),.d (.int .i64 bud)]→v.deep:=by
 intro v hv;simp at hv;rcases hv with rfl | rfl | rfl | rfl | rfl
 ·simp [AV.deep,AV.deep1,eS]
 ·exact cO F.inner F.path F.script _ (List.mem_singleton.2 rfl)
 ·trivial
 ·trivial
 ·trivial
def J1:List AV:=[.d (.int .u32 0),.nil,.nil,.d (.int .u32 0),.d (.int .i64 0),.nil] ++ (cb z32 ++ [.nil,.nil,.nil,.nil,.nil,.nil,.d (.int .i64 0),.d (.int .i64 0),.nil,.d (.int .i64 0)])
theorem Yb:eD Tryz.prog 158=some J1:=by kernel_rfl
theorem J4:J1.length=48:=rfl
theorem J5:List.drop 40 J1=[.nil,.nil,.nil,.nil,.d (.int .i64 0),.d (.int .i64 0),.nil,.d (.int .i64 0)]:=rfl
theorem V1 {L:List AV} (h:L.length=34) (k:Nat) (l:List AV):List.take (34+k) (L ++ l)=L ++ List.take k l:=by
 rw [List.take_append,cA aq,h,Nat.add_sub_cancel_left]
theorem SC {L:List AV} (h:L.length=34) (k:Nat) (l:List AV):List.drop (34+k) (L ++ l)=List.drop k l:=by
 rw [List.drop_append,dg aq,h,Nat.add_sub_cancel_left,List.nil_append]
def fR (j:Nat):Nat:=640+1000*j
theorem SD:nX 3 fR:=by
 intro i j hi hj h;unfold fR at h;omega
theorem SE (C:List AV) (s:RnS):gz 3 (aF C) s fR=[(640,aF C s fR 0),(1640,aF C s fR 1),(2640,aF C s fR 2)]:=rfl
theorem Ek {C:List AV} (hC:ie C) {N:Nat} {hp:Hp} {g:FuncId} {s:RnS} {ars:List AV} {R:AV→RnS→Prop} {K:AV→Hp→Prop} (h:cJ Tryz.prog 3 (aF C) g s (.ptr 0 0 0 1 :: ars) R) (he:hp=gz 3 (aF C) s fR) (hN:2641≤N) (has:∀ ρ,AV.renL ρ ars=ars)
  (hK:∀ v s' ρ,R v s'→K (v.ren ρ) (gz 3 (aF C) s' fR)):rG Tryz.prog g (.ptr 640 0 0 1 :: ars) hp N K:=by
 subst he;refine rN (Pp:=[]) (qG hC) h SD (fun j hj=>by unfold fR;omega) aw ?_ fun v s' ρ hR _=>hK v s' ρ hR;rw [AV.renL,has,AV.ren];rfl
theorem J6 (x:Rx) (h1:x.h1=bo) (h2:x.h2=dO) (hx:∀ s o0 o1 bk,(x.trg s o0 o1 bk).1.length≤2) {s:bc} (hb:bytes s):∀ (f a:Nat) (r:Rn),RnOk r a→∃ k,RnOk (lm x s f a r) k
 | 0,a,r,h=>⟨a,h⟩
 | f+1,a,r,h=>by
  rw [lm]
  split
  ·rename_i hc
   cases hq:mB s a with
   | none=>exact ⟨a,mK h (fB h.st h.bd 2)⟩
   | some p =>
    obtain ⟨w,b⟩:=p;obtain ⟨n1,n2,n3,n4,n5⟩:=Ej hb hc.1 hq;exact J6 x h1 h2 hx hb f b _ (kJ (J0 h x h1 h2 hx w n3 n4) aq)
  ·exact ⟨a,h⟩
theorem SG (F:RnF) (x:Rx) (start:List bc) (bud:Int) (ht:Sm F.t) (hc:F.coins.length≤1000) (hi:F.inner.length=32) (hsb:bytes F.script) (hst:StOk start []) (hbd:fN bud)
  (E:cg F.t (F.n:Int) F.coins=0→F.script.length≤1000→RnE F x) (hx:∀ s o0 o1 bk,(x.trg s o0 o1 bk).1.length≤2) :
  av Tryz.prog 53 [.agg (eS F.t (F.n:Int) F.coins),cM F.inner F.path F.script,.d (.ro 1 (start.map bJ)),.d (nb F.annex),.d (.int .i64 bud)] (fun v=>v=FW F x start bud):=by
 have hck:=kD F.t (F.n:Int) F.coins ht hc;have hlf:(aP F.inner (AV.d (cZ F.path)) (AV.d (nb F.script))).length=34:=by simp [aP,am,hi]
 have hlt:List.take 34 (aP F.inner (AV.d (cZ F.path)) (AV.d (nb F.script)))=aP F.inner (AV.d (cZ F.path)) (AV.d (nb F.script)):=cA (by rw [hlf];omega)
 have h33:(aP F.inner (AV.d (cZ F.path)) (AV.d (nb F.script)))[33]?=some (.d (.ro 1 (F.script.map fun (b:Nat)=>[.int .u8 (b:Int)]))):=by
  unfold aP;rw [d7 (by rw [am,hi];omega),am,hi];rfl
 have hdS:∀ v,v ∈ [AV.agg (eS F.t (F.n:Int) F.coins)]→v.deep:=by simp [AV.deep,AV.deep1,eS]
 simp only [eS] at hck hdS;by_cases hs:1000<F.script.length
 ·have hR:FW F x start bud=.tup [.d (.ro 2 []),.d (.int .i64 1)]:=if_pos (.inr hs);rw [hR];have hsi:(1000:Int)<(F.script.length:Int):=aq;refine bK Tryz.func53 Tryz.ntmps53 (rs:=[.tmp 10,.tmp 11]) (tQ F start bud) ?_;simp [go_sem,cM,eS,hlf,hlt];refine ag hck hdS ?_;rcases qM F.t (F.n:Int) F.coins with h | h
  ·simp [go_sem,h,h33,hs,hsi,ah];exact dp (cs':=[.d (.ro 2 []),.d (.int .i64 1)]) (ao (ak (.nil 2)) (ao (aZ trivial) bw)) rfl a9 rfl
  ·simp [go_sem,h,ah];exact dp (cs':=[.d (.ro 2 []),.d (.int .i64 1)]) (ao (ak (.nil 2)) (ao (aZ trivial) bw)) rfl a9 rfl
 ·rcases qM F.t (F.n:Int) F.coins with h | h
  ·have hR:FW F x start bud=.tup [.d (.ro 2 ((px x F.script start bud).1.map eV)),.d (.int .i64 (px x F.script start bud).2)]:=if_neg (by rw [h];simp;omega);rw [hR];have E:=E h aq;rw [h] at hck;have hsi:¬ (1000:Int)<(F.script.length:Int):=aq;refine E5 Tryz.func53 (by kernel_rfl) rfl Tryz.ntmps53 (rs:=[.tmp 10,.tmp 11]) rfl (dR rfl) (tQ F start bud) ?_;refine wL (kU ?_);simp [go_sem,cM,eS,hlf,hlt];simp only [AE];refine wL (kU ?_);simp [go_sem,hlf,hlt];refine ag hck hdS ?_;simp [go_sem,h33,hs,hsi];simp only [AE];refine wL (kU ?_);have t35:∀ l,List.take 35 (aP F.inner (AV.d (cZ F.path)) (AV.d (nb F.script)) ++ l)=aP F.inner (AV.d (cZ F.path)) (AV.d (nb F.script)) ++ List.take 1 l:=V1 hlf 1;have t39:∀ l,List.take 39 (aP F.inner (AV.d (cZ F.path)) (AV.d (nb F.script)) ++ l)=aP F.inner (AV.d (cZ F.path)) (AV.d (nb F.script)) ++ List.take 5 l:=V1 hlf 5;have d35:∀ l,List.drop 35 (aP F.inner (AV.d (cZ F.path)) (AV.d (nb F.script)) ++ l)=List.drop 1 l:=SC hlf 1;have d37:∀ l,List.drop 37 (aP F.inner (AV.d (cZ F.path)) (AV.d (nb F.script)) ++ l)=List.drop 3 l:=SC hlf 3;have d40:∀ l,List.drop 40 (aP F.inner (AV.d (cZ F.path)) (AV.d (nb F.script)) ++ l)=List.drop 6 l:=SC hlf 6;simp [go_sem,hlf,hlt,Yb,J4,J5,t35,t39,d35,d37,d40];simp only [AE];have hC:=dZ (F:=F) hi;refine H6 (st':=⟨[(12,.ptr 640 0 0 1)],[(640,⟨158,48,[gl F ++ [.d (.ro 1 (start.map bJ)),.nil,.nil,.d (.int .i64 0),.d (.int .i64 bud),.nil,.d (.int .i64 0)]]⟩),(1640,⟨4,1,[]⟩),(2640,⟨55,2,[]⟩)],9000⟩) (cn ⟨by simp [ai,fv,lk,AV.low,AV.low1],?_,aw⟩) ?_
   ·intro p hp;simp only [e_,List.mem_nil_iff,or_false] at hp;rcases hp with rfl | rfl | rfl
    ·refine ⟨.inl (by simp [lk,gl,eS]),by show 640<9000;omega,?_⟩;intro q hq v hv;simp only [e_,List.mem_nil_iff,or_false] at hq;subst hq;rcases cL.1 hv with h | h
     ·exact hC.2.1 v h _
     ·simp only [e_,List.mem_nil_iff,or_false] at h;rcases h with rfl | rfl | rfl | rfl | rfl | rfl | rfl <;> trivial
    ·exact ⟨.inr ⟨by show 704≤1640;omega,rfl⟩,by show 1640<9000;omega,by intro q hq;simp at hq⟩
    ·exact ⟨.inr ⟨by show 704≤2640;omega,rfl⟩,by show 2640<9000;omega,by intro q hq;simp at hq⟩
   refine H6 (st':=⟨[(12,.ptr 640 0 0 1)],gz 3 (aF (gl F)) ⟨⟨start,[],[],bud,[],0⟩,[],0⟩ fR,9000⟩) ?_ ?_
   ·refine E6 (st:=⟨_,_,9000⟩) (L:=640) (b:=⟨158,48,[gl F ++ [.d (.ro 1 (start.map bJ)),.nil,.nil,.d (.int .i64 0),.d (.int .i64 bud),.nil,.d (.int .i64 0)]]⟩) (es':=[bB (gl F) ⟨⟨start,[],[],bud,[],0⟩,[],0⟩ fR]) rfl aw rfl ?_;intro i y y' h1 h2
    match i with
    | 0 =>
     simp only [List.getElem?_cons_zero,Option.some.injEq] at h1 h2;subst h1 h2;refine ⟨by simp [bB,bA],fun j v v' a1 a2=>?_⟩;unfold bB bA at a2;by_cases hj:j<41
     ·rw [List.getElem?_append_left (by rw [hC.2.2];exact hj)] at a1 a2;rw [a1] at a2;exact .inl (Option.some.inj a2).symm
     ·rw [d7 (by rw [hC.2.2];omega),hC.2.2] at a1 a2;generalize j - 41=k at a1 a2
      match k,a1,a2 with
      | 0,a1,a2=>cases a1;cases a2;exact .inl rfl
      | 1,a1,a2=>cases a1;cases a2;exact .inr (.inr ⟨rfl,1,rfl⟩)
      | 2,a1,a2=>cases a1;cases a2;exact .inr (.inl ⟨rfl,1640,by show 1640<9000;omega,rfl⟩)
      | 3,a1,a2=>cases a1;cases a2;exact .inl rfl
      | 4,a1,a2=>cases a1;cases a2;exact .inl rfl
      | 5,a1,a2=>cases a1;cases a2;exact .inr (.inl ⟨rfl,2640,by show 2640<9000;omega,rfl⟩)
      | 6,a1,a2=>cases a1;cases a2;exact .inl rfl
      | k+7,a1,a2=>cases a1
    | i+1=>simp at h1
   refine kU ?_;have hcs:=y9 start [] (by have:=hst.m;omega) aw;have hfl:=bu hC ⟨start,[],[],bud,[],0⟩ [] 0 (fh start []);have hok0:RnOk ⟨start,[],[],bud,[],0⟩ 0:=⟨hst,hbd,aw,aw⟩;have hok1:=mK hok0 (fB hok0.st hok0.bd (fh start []));rw [SE];simp only [aF,bB,bA,id,jj] at *;simp [go_sem,hC.2.2];refine ag hcs (by intro v hv;simp at hv;subst hv;exact ep start []) ?_;simp [go_sem];have hRun:px x F.script start bud=(if (mD (lm x F.script (F.script.length+1) 0 (au (fh start []) ⟨start,[],[],bud,[],0⟩))).e=0 then ((mD (lm x F.script (F.script.length+1) 0 (au (fh start []) ⟨start,[],[],bud,[],0⟩))).cl,0) else ([],(mD (lm x F.script (F.script.length+1) 0 (au (fh start []) ⟨start,[],[],bud,[],0⟩))).e)):=rfl;rw [hRun];clear hRun hR;refine Ek hC hfl (by simp [SE,aF,bB,bA]) aq (by simp [AV.renL,AV.ren]) ?_;rintro v s' ρ rfl;clear hfl hcs;generalize au (fh start []) ⟨start,[],[],bud,[],0⟩=r1 at *;simp [go_sem];refine Ek hC (N4 F x E hsb aq hx r1 [] hok1) rfl aq (fun ρ=>rfl) ?_;rintro v s' ρ ⟨J',rfl⟩;obtain ⟨k,hok2⟩:=J6 x E.hh.1 E.hh.2 hx hsb (F.script.length+1) 0 r1 hok1;generalize lm x F.script (F.script.length+1) 0 r1=r2 at *;simp [go_sem];refine Ek hC (V0 hC r2 J' 0 hok2.st) rfl aq (fun ρ=>rfl) ?_;rintro v s' ρ rfl;generalize mD r2=r3 at *;simp [go_sem];refine Ek hC (ej hC r3 J' 0) rfl aq (fun ρ=>rfl) ?_;rintro v s' ρ ⟨rfl,rfl⟩;rw [SE];simp only [aF,bB,bA];by_cases he:r3.e=0
   ·rw [if_pos he];simp [go_sem,AV.ren,he,hC.2.2,ah];exact dp (cs':=[.d (.ro 2 (r3.cl.map eV)),.d (.int .i64 0)]) (ao (ak (D6 (id:=2640) (ty:=55) (by simp [lk,Gp]) trivial)) (ao (aZ trivial) bw)) rfl a9 rfl
   ·rw [if_neg he];simp [go_sem,AV.ren,he];refine b7 [0,1,2,3,4,5] [] 0 (k:=6) ?_;intro G hG;simp [go_sem,AV.ren,he,hC.2.2];refine hG _ _ ?_;clear hG G;simp [go_sem,ah];exact dp (cs':=[.d (.ro 2 []),.d (.int .i64 r3.e)]) (ao (ak (.nil 2)) (ao (aZ trivial) bw)) rfl a9 rfl
  ·have hR:FW F x start bud=.tup [.d (.ro 2 []),.d (.int .i64 1)]:=if_pos (.inl (by rw [h];omega));rw [hR];rw [h] at hck;refine bK Tryz.func53 Tryz.ntmps53 (rs:=[.tmp 10,.tmp 11]) (tQ F start bud) ?_;simp [go_sem,cM,eS,hlf,hlt];refine ag hck hdS ?_;simp [go_sem,ah];exact dp (cs':=[.d (.ro 2 []),.d (.int .i64 1)]) (ao (ak (.nil 2)) (ao (aZ trivial) bw)) rfl a9 rfl
theorem Em {b:List Nat} (hb:b.length=32):(List.range 32).map (fun k=>((cb b).drop k).take 1)=rb b:=by
 rw [fG hb,cE]
theorem FX {Q:AV→Prop} {st:St} {id n:Nat} {e:Int} {L:List Nat} (hl:L.length=n) (hb:lk id st.hp=some ⟨5,1,rb L⟩) (hq:Q (.tup [.d (nb L),.d (.int .i64 e)])):dk Q (.tup [.own id 0 n n,.d (.int .i64 e)]) st :=
 dp (ao (ak (a8 hl hb trivial)) (ao (aZ trivial) bw)) rfl a9 hq
theorem FY {Q:AV→Prop} {st:St} {e:Int} (hq:Q (.tup [.d (nb []),.d (.int .i64 e)])):dk Q (.tup [.nil,.d (.int .i64 e)]) st :=
 dp (ao (ak (.nil 1)) (ao (aZ trivial) bw)) rfl a9 hq
theorem FZ {inner x k:List Nat} {ps:List (List Nat)} {o:Bool} (hi:inner.length=32) (hk:k.length=32) (f:av Tryz.prog 92 [cM inner ps x] (fun r=>r=.tup [.agg (cb k),.d (.bool o),.d (.int .i64 1)])) :
  av Tryz.prog 46 [cM inner ps x] (fun r=>r=.tup [.d (nb []),.d (.int .i64 1)]):=by
 refine bK Tryz.func46 Tryz.ntmps46 (rs:=[.tmp 2,.tmp 3]) (cO _ _ _) ?_;have zd:List.drop 32 (cb z32)=[]:=gy rfl;simp [go_sem,cM,aP,mf hi,ma hi,cZ,nb,hi,qL hi];refine ag f (cO _ _ _) ?_;simp [go_sem,am,hk,ar hk,zd,ah];exact FY rfl
theorem F2 {inner x k:List Nat} {ps:List (List Nat)} {o:Bool} (hi:inner.length=32) (hk:k.length=32) (f:av Tryz.prog 92 [cM inner ps x] (fun r=>r=.tup [.agg (cb k),.d (.bool o),.d (.int .i64 0)])) :
  av Tryz.prog 46 [cM inner ps x] (fun r=>r=.tup [.d (nb (81 :: 32 :: k)),.d (.int .i64 0)]):=by
 refine bK Tryz.func46 Tryz.ntmps46 (rs:=[.tmp 2,.tmp 3]) (cO _ _ _) ?_;have zd:List.drop 32 (cb z32)=[]:=gy rfl;simp [go_sem,cM,aP,mf hi,ma hi,cZ,nb,hi,qL hi];refine ag f (cO _ _ _) ?_;have hx1:=Em hk;simp [go_sem] at hx1;simp [go_sem,am,hk,ar hk,zd,hx1,aH,ah];have e:rb (81 :: 32 :: k)=[AV.d (.int .u8 81)] :: [AV.d (.int .u8 32)] :: rb k:=by simp [rb]
 have h34:(81 :: 32 :: k).length=34:=by simp [hk]
 exact FX (L:=81 :: 32 :: k) h34 (by rw [e];rfl) (by simp [nb])
open Go.Am Go.Sha Go.Ec
theorem xW (a:List Int) (ha:Wn 4 a):∃ r:List Int,Wn 4 r∧av Tryz.prog 124 [.agg (cI a)] (fun v=>v=.agg (cI r)):=by
 obtain ⟨s,c,hs,hc,vc,f1⟩:=pB a NK ha Jy;have hal:=ha.1;have hsl:=hs.1;have hz:List.drop 4 (cI zI)=[]:=aV rfl;refine ⟨if c=0 then s else a,by split <;> assumption,?_⟩;refine bK Tryz.func124 Tryz.ntmps124 (rs:=[.cell 2 96]) (aN a) ?_;simp [go_sem,hal,ae hal];refine d0 [0] [1,2,6,7] [0,3,4,5,8] (.alt (bt 1 (.alt (.step 2 [3,4,5] true (bt 6 (.step 7 [8] true .done))) (bt 6 (.step 2 [3,4,5] true (.step 7 [8] true .done))))) (bt 6 (bt 1 (.step 2 [3,4,5] true (.step 7 [8] true .done))))) ⟨[(1,.ptr 0 0 0 1),(2,.ptr 32 0 0 1),(3,.ptr 256 0 0 1),(4,.d (.int .u64 c))],[(256,⟨96,4,[cI s]⟩),(32,⟨96,4,[cI zI]⟩),(0,⟨96,4,[cI a]⟩)],9000⟩ (k:=9) ?h3 ?hq
 case h3 =>
  intro G hG
  have hW:∀ (fr:Fr) (hp:Hp),(fv 1 fr=.ptr 0 0 0 1∧fv 2 fr=.ptr 32 0 0 1∧fv 3 fr=.ptr 256 0 0 1∧fv 4 fr=.d (.int .u64 c)∧lk 256 hp=some ⟨96,4,[cI s]⟩∧lk 32 hp=some ⟨96,4,[cI zI]⟩∧lk 0 hp=some ⟨96,4,[cI a]⟩)→G fr hp:=by
   rintro fr hp ⟨q0,q1,q2,q3,q4,q5,q6⟩;refine hG _ _ (cn ?_);simp only [aA,ai];refine ⟨fun p hp=>?_,fun p hp=>?_,aw⟩
   ·simp only [e_,List.mem_nil_iff,or_false] at hp;rcases hp with rfl | rfl | rfl | rfl <;> exact ⟨.inl (Eq.symm (by assumption)),by simp [AV.low,AV.low1]⟩
   ·simp only [e_,List.mem_nil_iff,or_false] at hp;rcases hp with rfl | rfl | rfl <;> exact ⟨.inl (by assumption),aw,by intro r hr;simp only [e_,List.mem_nil_iff,or_false] at hr;subst hr;first | exact bT _ _ | exact aK _ _ | exact lr _ _ _ _⟩
  simp [go_sem,hal,hsl,ae hal,ae hsl,hz,dE]
  repeat' first | exact hW _ _ ⟨rfl,rfl,rfl,rfl,rfl,rfl,rfl⟩ | (refine hW _ _ ?_;simp [fv,lk];done) | refine ag pG aw ?_ | refine ag f1 (aJ _ _) ?_ | apply And.intro | simp [go_sem,hal,hsl,ae hal,ae hsl,hz,dE]
 case hq =>
  by_cases h0:c=0
  ·rw [if_pos h0];simp [go_sem,h0,hsl,ae hsl,hz,ah];exact dy rfl
  ·rw [if_neg h0];simp [go_sem,h0,hal,ae hal,hz,ah];exact dy rfl
theorem N5 (a:List Int) (ha:Wn 4 a):∃ r:List Int,Wn 4 r∧av Tryz.prog 128 [.agg (cI a)] (fun v=>v=.agg (cI r)):=by
 obtain ⟨b,hb,f1⟩:=xW a ha;obtain ⟨s,c,hs,hc,vc,f2⟩:=pB NK b Jy hb;obtain ⟨r,hr,f3⟩:=xW s hs;have hal:=ha.1;have hbl:=hb.1;have hsl:=hs.1;have hrl:=hr.1;have hz:List.drop 4 (cI zI)=[]:=aV rfl;refine ⟨r,hr,?_⟩;refine bK Tryz.func128 Tryz.ntmps128 (rs:=[.cell 2 96]) (aN a) ?_;simp [go_sem,hal,ae hal];refine d0 [1] [0,2,3,7,8] [1,4,5,6,9] (.alt (bt 0 (.alt (bt 2 (.alt (.step 3 [4,5,6] true (bt 7 (.step 8 [9] true .done))) (bt 7 (.step 3 [4,5,6] true (.step 8 [9] true .done))))) (bt 7 (bt 2 (.step 3 [4,5,6] true (.step 8 [9] true .done)))))) (bt 7 (bt 0 (bt 2 (.step 3 [4,5,6] true (.step 8 [9] true .done)))))) ⟨[(2,.ptr 32 0 0 1),(3,.ptr 288 0 0 1)],[(288,⟨96,4,[cI s]⟩),(32,⟨96,4,[cI zI]⟩)],9000⟩ (k:=10) ?h3 ?hq
 case h3 =>
  intro G hG
  have hW:∀ (fr:Fr) (hp:Hp),(fv 2 fr=.ptr 32 0 0 1∧fv 3 fr=.ptr 288 0 0 1∧lk 288 hp=some ⟨96,4,[cI s]⟩∧lk 32 hp=some ⟨96,4,[cI zI]⟩)→G fr hp:=by
   rintro fr hp ⟨q0,q1,q2,q3⟩;refine hG _ _ (cn ?_);simp only [aA,ai];refine ⟨fun p hp=>?_,fun p hp=>?_,aw⟩
   ·simp only [e_,List.mem_nil_iff,or_false] at hp;rcases hp with rfl | rfl <;> exact ⟨.inl (Eq.symm (by assumption)),by simp [AV.low,AV.low1]⟩
   ·simp only [e_,List.mem_nil_iff,or_false] at hp;rcases hp with rfl | rfl <;> exact ⟨.inl (by assumption),aw,by intro r hr;simp only [e_,List.mem_nil_iff,or_false] at hr;subst hr;first | exact bT _ _ | exact aK _ _ | exact lr _ _ _ _⟩
  simp [go_sem,hal,hsl,ae hal,ae hsl,hz,dE]
  repeat' first | exact hW _ _ ⟨rfl,rfl,rfl,rfl⟩ | (refine hW _ _ ?_;simp [fv,lk];done) | refine ag pG aw ?_ | refine ag f1 (aN _) ?_ | refine ag f2 (aJ _ _) ?_ | apply And.intro | simp [go_sem,hal,hsl,ae hal,ae hsl,hz,dE]
 case hq =>
  simp [go_sem,hsl,ae hsl];refine ag f3 (aN _) ?_;simp [go_sem,hrl,ae hrl,hz,ah];exact dy rfl
theorem J7 (b:List Nat) (hb:b.length=32) (hby:bytes b):∃ r:List Int,Wn 4 r∧av Tryz.prog 135 [.agg (cb b)] (fun v=>v=.agg (cI r)):=by
 obtain ⟨a,ha,va,f1⟩:=tG b hb hby;obtain ⟨r,hr,f2⟩:=xW a ha;have hal:=ha.1;have hrl:=hr.1;have hz:List.drop 4 (cI zI)=[]:=aV rfl;have zd:List.drop 32 (cb b)=[]:=gy hb;refine ⟨r,hr,?_⟩;refine bK Tryz.func135 Tryz.ntmps135 (rs:=[.cell 2 96]) (cp b) ?_;simp [go_sem,am,hb,ar hb,zd];refine ag f1 (cp _) ?_;simp [go_sem];refine ag f2 (aN _) ?_;simp [go_sem,hrl,ae hrl,hz,ah];exact dy rfl
def SH (a b d:List Nat):Nat→AV
 | 0=>.nil
 | 1=>.own 1192 0 a.length a.length
 | 2=>.own 1192 0 (a ++ b).length (a ++ b).length
 | _=>.own 1192 0 d.length d.length
def SI (a b d:List Nat):Nat→Hp
 | 0=>[]
 | 1=>[(1192,⟨5,1,rb a⟩)]
 | 2=>[(1192,⟨5,1,rb (a ++ b)⟩)]
 | _=>[(1192,⟨5,1,rb d⟩)]
theorem BZ (a b c d:List Nat) (hd:a ++ b ++ c=d) (ha:a.length=32) (hb:b.length=32) (hc:c.length≤1000000):av Tryz.prog 89 [.d (.ro 1 [[nb a],[nb b],[nb c]])] (fun r=>r=.d (nb d)):=by
 refine bK Tryz.func89 Tryz.ntmps89 (rs:=[.tmp 2]) a9 ?_;simp [go_sem]
 refine ax (fun k:Nat=>⟨[(3,SH a b d k),(6,.d (.ro 1 [[nb a],[nb b],[nb c]])),(7,.d (.int .i64 3)),(8,.d (.int .i64 (k:Int)))],SI a b d k,NN k⟩)
  (fun k=>k≤3) (fun k=>3 - k) 0 aq (by simp [aA,ai,fv,lk,AV.low,AV.low1,SH,SI,NN]) ?_
 intro k hk;simp only [go_sem,Nat.reduceEqDiff,Nat.reduceAdd,Nat.reduceLT,↓reduceIte]
 match k,hk with
 | 0,_ =>
  refine ⟨fun _=>?_,fun h=>absurd (by decide) h⟩;simp [go_sem,SH,SI,NN,nb,cE];refine ⟨by rw [aH];omega,?_⟩;have w1:IntKind.i64.wrap 1=1:=by decide
  refine ap 1 aq aq ?_;simp [aA,ai,fv,lk,AV.low,AV.low1,aH,w1];exact bp _ _
 | 1,_ =>
  refine ⟨fun _=>?_,fun h=>absurd (by decide) h⟩;simp [go_sem,SH,SI,NN,nb,cE,aH];refine ⟨aq,?_⟩;have w1:IntKind.i64.wrap 2=2:=by decide
  have ra:rb (a ++ b)=rb a ++ rb b:=by simp [rb]
  refine ap 2 aq aq ?_;simp [aA,ai,fv,lk,AV.low,AV.low1,aH,w1,ra];intro r hr;exact hr.elim (bp _ _ r) (bp _ _ r)
 | 2,_ =>
  refine ⟨fun _=>?_,fun h=>absurd (by decide) h⟩;have ra:rb d=rb (a ++ b) ++ rb c:=by rw [← hd];simp [rb]
  have hln:d.length=(a ++ b).length+c.length:=by rw [← hd];exact b_
  have hab:(a ++ b).length=64:=by simp [ha,hb]
  simp only [SH,SI];generalize a ++ b=e at *;simp [go_sem,SH,SI,NN,nb,cE,aH];refine ⟨aq,?_⟩;have w1:IntKind.i64.wrap 3=3:=by decide
  refine ap 3 aq aq ?_;simp [aA,ai,fv,lk,AV.low,AV.low1,aH,w1,ra,hln];intro r hr;exact hr.elim (bp _ _ r) (bp _ _ r)
 | 3,_ =>
  refine ⟨fun h=>absurd h (by decide),fun _=>?_⟩;simp only [SH,SI];simp [go_sem,ah];exact iq rfl (by simp [nb])
def xX:List Nat:=[66,73,80,48,51,52,48,47,99,104,97,108,108,101,110,103,101]
theorem N6 (a b c:List Nat) (ha:a.length=32) (hb:b.length=32) (hc:c.length≤1000):∃ r:List Int,Wn 4 r∧av Tryz.prog 88 [.agg (cb a),.agg (cb b),.d (nb c)] (fun v=>v=.agg (cI r)):=by
 obtain ⟨r,hr,f1⟩:=J7 (eQ xX (a ++ b ++ c)) (xM _ _).1 (xM _ _).2;have hrl:=hr.1;have hz:List.drop 4 (cI zI)=[]:=aV rfl;refine ⟨r,hr,?_⟩;refine bK Tryz.func88 Tryz.ntmps88 (rs:=[.cell 6 96]) (by intro v hv;simp at hv;rcases hv with rfl | rfl | rfl;exact dr _;exact dr _;trivial) ?_;have hl3:(a ++ b ++ c).length≤2000:=by simp;omega
 simp [go_sem,am,ha,hb,ar ha,ar hb];refine b7 [0,1,2] [(3,[]),(4,[]),(5,[]),(6,[]),(7,[])] 0 (k:=8) ?_;intro G hG;simp [go_sem,am,ha,hb];refine bN [0,32,192] (BZ a b c _ rfl ha hb aq) rfl (aj (.one (ak (ik (rows:=[[.sub 0 0 0 1 32 32 1],[.sub 32 0 0 1 32 32 1],[.d (nb c)]]) rfl aw rfl (RowsR.cons (.cons (dV rfl aw ha) .nil) (RowsR.cons (.cons (dV rfl aw hb) .nil) (RowsR.cons (.cons (.d _) .nil) .nil))) rfl (by intro r hr;simp at hr;rcases hr with rfl | rfl | rfl <;> rfl)))) aE) ?_;generalize a ++ b ++ c=d at *;simp [go_sem,aD];refine ag (ga xX (.str [66,73,80,48,51,52,48,47,99,104,97,108,108,101,110,103,101]) rfl d (by simp [xX]) aq) a9 ?_;simp [go_sem];refine ag f1 (cp _) ?_;simp [go_sem,hrl];refine hG _ _ ?_;clear hG G;simp [go_sem,hrl,ae hrl,ah];exact dy rfl
theorem zQ (l:List Nat):(l.map fun (b:Nat)=>[DV.int .u8 (b:Int)]).flatten=cd l:=by
 unfold cd
 induction l with
 | nil=>rfl
 | cons a l ih=>simp only [List.map_cons,List.flatten_cons,ih];rfl
theorem zR:∀ l:List Nat,bX .u8 (cb l)=some (l.map fun (b:Nat)=>(b:Int))
 | []=>rfl
 | a :: l=>by
  have:=zR l;unfold cb at this ⊢;simp only [List.map_cons,bX,if_true,this];rfl
theorem pK (k m s:List Nat):∀ v,v ∈ [AV.agg (cb k),.d (nb m),.d (nb s)]→v.deep:=by
 intro v hv;simp at hv;rcases hv with rfl | rfl | rfl
 ·exact dr _
 ·trivial
 ·trivial
theorem F3 (key msg sig:List Nat) (hk:key.length=32) (hkb:bytes key) (hsb:bytes sig) (hm:msg.length≤1000) (hs:sig.length≤1000):∃ o:Bool,av Tryz.prog 156 [.agg (cb key),.d (nb msg),.d (nb sig)] (fun v=>v=.d (.bool o)):=by
 obtain ⟨x,y,c,ok,hx,hy,_,f1⟩:=zH key hk hkb;have zd:List.drop 32 (cb key)=[]:=gy hk;have hz32:z32.length=32:=rfl;have hzd:List.drop 32 (cb z32)=[]:=rfl;have hz:List.drop 4 (cI zI)=[]:=aV rfl;have hxl:=hx.1;have hyl:=hy.1;have hpl:(cP x y c).length=9:=bW hxl hyl c;have hpt:List.take 9 (cP x y c)=cP x y c:=cA (by rw [hpl];omega)
 cases ok with
 | false =>
  refine ⟨false,?_⟩;refine bK Tryz.func156 Tryz.ntmps156 (rs:=[.tmp 6]) (pK _ _ _) ?_;simp [go_sem,am,hk,ar hk,zd];refine ag f1 (cp _) ?_;simp [go_sem,hpl,hpt,ah];exact aa trivial rfl
 | true =>
  by_cases h64:sig.length=64
  ·have hrl:(sig.take 32).length=32:=by simp [h64]
   have hsl:(sig.drop 32).length=32:=by simp [h64]
   have hsbd:bytes (sig.drop 32):=fun z hz=>hsb z (List.mem_of_mem_drop hz);obtain ⟨s,ok2,hsw,_,f2⟩:=zG (sig.drop 32) hsl hsbd;have hswl:=hsw.1;have h64i:(sig.length:Int)=64:=aq;have e1:List.take 32 (sig.map fun (b:Nat)=>[DV.int .u8 (b:Int)])=(sig.take 32).map fun (b:Nat)=>[DV.int .u8 (b:Int)]:=List.map_take.symm;have e2:List.drop 32 (sig.map fun (b:Nat)=>[DV.int .u8 (b:Int)])=(sig.drop 32).map fun (b:Nat)=>[DV.int .u8 (b:Int)]:=List.map_drop.symm;have e3:List.take 64 (sig.map fun (b:Nat)=>[DV.int .u8 (b:Int)])=sig.map fun (b:Nat)=>[DV.int .u8 (b:Int)]:=cA (by simp [h64]);obtain ⟨ch,hch,f3⟩:=N6 (sig.take 32) key msg hrl hk hm;generalize sig.take 32=R at *;generalize sig.drop 32=S at *
   cases ok2 with
   | false =>
    refine ⟨false,?_⟩;refine bK Tryz.func156 Tryz.ntmps156 (rs:=[.tmp 6]) (pK _ _ _) ?_;simp [go_sem,am,hk,ar hk,zd];refine ag f1 (cp _) ?_;simp [go_sem,hpl,hpt,nb,h64,h64i,e1,e2,e3,zQ,kS,ar hrl,ar hsl,am,hrl,hsl,hz32,hzd];refine ag f2 (cp _) ?_;simp [go_sem,hswl,ae hswl,hz,ah];exact aa trivial rfl
   | true =>
    obtain ⟨ng,hng,f4⟩:=N5 ch hch;obtain ⟨u,v,q,hu,hv,_,f5⟩:=D2 s ng gX gY x y false c hsw hng VI VJ hx hy;obtain ⟨o,_,f6⟩:=DX u v q hu hv;obtain ⟨B,hB,hBb,_,f7⟩:=vA u v q hu hv;have hngl:=hng.1;have hql:(cP u v q).length=9:=bW hu.1 hv.1 q;have hqt:List.take 9 (cP u v q)=cP u v q:=cA (by rw [hql];omega);refine ⟨o && decide ((B.map fun (b:Nat)=>(b:Int))=R.map fun (b:Nat)=>(b:Int)),?_⟩;refine bK Tryz.func156 Tryz.ntmps156 (rs:=[.tmp 6]) (pK _ _ _) ?_;simp [go_sem,am,hk,ar hk,zd];refine ag f1 (cp _) ?_;simp [go_sem,hpl,hpt,nb,h64,h64i,e1,e2,e3,zQ,kS,ar hrl,ar hsl,am,hrl,hsl,hz32,hzd];refine ag f2 (cp _) ?_;simp [go_sem,hswl,ae hswl,hz,am,hk,hrl,ar hk,ar hrl];refine ag f3 (by intro v hv;simp at hv;rcases hv with rfl | rfl | rfl;exact dr _;exact dr _;trivial) ?_;simp [go_sem];refine ag f4 (aN _) ?_;simp [go_sem,hngl,ae hngl,hz];refine d0 [0,2,3] [1,4,5,6] [0,2,3] (.alt (bt 1 (.alt (a_ [4,5,6]) (bt 5 (a_ [4,6])))) (bt 5 (bt 1 (a_ [4,6])))) ⟨[(9,.ptr 672 0 0 1),(12,.ptr 1536 0 0 1)],[(1536,⟨189,9,[cP u v q]⟩),(672,⟨29,32,[cb R]⟩)],9000⟩ (k:=7) ?h3 ?hq
    case h3 =>
     intro G hG
     have hW:∀ (fr:Fr) (hp:Hp),(fv 9 fr=.ptr 672 0 0 1∧fv 12 fr=.ptr 1536 0 0 1∧lk 1536 hp=some ⟨189,9,[cP u v q]⟩∧lk 672 hp=some ⟨29,32,[cb R]⟩)→G fr hp:=by
      rintro fr hp ⟨q0,q1,q2,q3⟩;refine hG _ _ (cn ?_);simp only [aA,ai];refine ⟨fun p hp=>?_,fun p hp=>?_,aw⟩
      ·simp only [e_,List.mem_nil_iff,or_false] at hp;rcases hp with rfl | rfl <;> exact ⟨.inl (Eq.symm (by assumption)),by simp [AV.low,AV.low1]⟩
      ·simp only [e_,List.mem_nil_iff,or_false] at hp;rcases hp with rfl | rfl <;> exact ⟨.inl (by assumption),aw,by intro r hr;simp only [e_,List.mem_nil_iff,or_false] at hr;subst hr;first | exact bT _ _ | exact aK _ _ | exact lr _ _ _ _⟩
     simp [go_sem,hswl,hngl,ae hswl,ae hngl,hpl,hpt,hql,hqt,dE]
     repeat' first | exact hW _ _ ⟨rfl,rfl,rfl,rfl⟩ | (refine hW _ _ ?_;simp [fv,lk];done) | refine ag xH aw ?_ | refine ag f5 (by intro v hv;simp at hv;rcases hv with rfl | rfl | rfl | rfl <;> first | exact ew _ | exact jo _ _ _) ?_ | apply And.intro | simp [go_sem,hswl,hngl,ae hswl,ae hngl,hpl,hpt,hql,hqt,dE]
    case hq =>
     cases o with
     | false =>
      simp [go_sem];refine b7 [0] [(1,[2,3,5]),(4,[6,7,8])] 2 (k:=9) ?_;intro G hG;simp [go_sem,hql,hqt];refine ag f6 (by intro v hv;simp at hv;subst hv;exact jo _ _ _) ?_;simp [go_sem];refine hG _ _ ?_;clear hG G;simp [go_sem,ah];exact aa trivial rfl
     | true =>
      simp [go_sem];refine b7 [0] [(1,[2,3,5]),(4,[6,7,8])] 2 (k:=9) ?_;intro G hG;simp [go_sem,hql,hqt];refine ag f6 (by intro v hv;simp at hv;subst hv;exact jo _ _ _) ?_;simp [go_sem,hql,hqt,am,hrl,ar hrl];refine ag f7 (by intro v hv;simp at hv;subst hv;exact jo _ _ _) ?_;simp [go_sem,am,hrl,ar hrl,hB,zR];refine hG _ _ ?_;clear hG G;simp [go_sem,ah];exact aa trivial rfl
  ·have h64i:¬ (sig.length:Int)=64:=aq;refine ⟨false,?_⟩;refine bK Tryz.func156 Tryz.ntmps156 (rs:=[.tmp 6]) (pK _ _ _) ?_;simp [go_sem,am,hk,ar hk,zd];refine ag f1 (cp _) ?_;simp [go_sem,hpl,hpt,nb,h64,h64i,ah];exact aa trivial rfl
end Go.Proofs.YtmfnimjnneflnaaGreat
namespace Go.Sha
def pL (i:Ip):List Nat:=i.hash ++ le i.idx 4
def qN (i:Ip):List Nat:=le i.seq 4
def tV (o:Nat × List Nat):List Nat:=le o.1 8
def um (o:Nat × List Nat):List Nat:=cv o.2
end Go.Sha
namespace Go.Proofs.YtmfnimjnneflnaaGreat
open Go.Am Go.Sha
def xY (l:List Nat):List AV:=c7 (E H0 l).1 ++ [.d (nb (E H0 l).2),.d (.int .u64 (l.length:Int))]
theorem bq (ρ:Nat→Nat) (l:List Nat):AV.renL ρ (xY l)=xY l:=by rw [xY,fF];rfl
theorem jr (n:Nat) (l:List Nat):∀ v,v ∈ xY l→v.low1 n:=by
 intro v hv;simp [xY,c7] at hv;rcases hv with rfl | rfl | rfl | rfl | rfl | rfl | rfl | rfl | rfl | rfl <;> trivial
theorem N7 (n:Nat):H7 n (c7 H0 ++ [.nil,.d (.int .u64 0)]) (xY []):=E7 (c7 H0) [.d (.int .u64 0)] (.inr (.inr ⟨.inl rfl,.inr ⟨1,rfl⟩⟩))
theorem zS {st:St} (L:Nat) (h:lk L st.hp=some ⟨167,10,[c7 H0 ++ [.nil,.d (.int .u64 0)]]⟩):Wk st ⟨st.fr,bV L ⟨167,10,[xY []]⟩ st.hp,st.nx⟩:=QL h (by decide) (N7 _)
theorem nL (l b:List Nat) (hl:l.length+b.length≤100000000000) :
  cC Tryz.prog 58 1 [(0,⟨167,10,[xY l]⟩)] [.ptr 0 0 0 1,.d (nb b)] (fun r hp'=>r=.tup []∧lk 0 hp'=some ⟨167,10,[xY (l ++ b)]⟩):=by
 have h:=yJ _ H0 l (cR _);have:=L8 (E H0 l).1 (.d (nb (E H0 l).2)) (E H0 l).2 b l.length (.inl rfl) aq aq;rw [← yI b l.length H0 l (cR _),← b_] at this;exact this
theorem B5 (ty:TypeId) (e:Nat) (row:List AV) (l b:List Nat) (hx0:(List.range 32).map (fun k=>(row.drop k).take 1)=List.map ((fun r=>List.map AV.d r) ∘ fun (x:Nat)=>[DV.int .u8 (x:Int)]) b) (hlow:∀ n v,v ∈ row→v.low1 n) (hb32:b.length=32) (hl:l.length+b.length≤100000000000) :
  cC Tryz.prog 58 2 [(0,⟨167,10,[xY l]⟩),(1,⟨ty,e,[row]⟩)] [.ptr 0 0 0 1,.sub 1 0 0 1 32 32 1] (fun r hp'=>r=.tup []∧lk 0 hp'=some ⟨167,10,[xY (l ++ b)]⟩∧lk 1 hp'=some ⟨ty,e,[row]⟩):=by
 have h:=yJ _ H0 l (cR _);have:=HY ty e row (E H0 l).1 (.d (nb (E H0 l).2)) (E H0 l).2 b l.length hx0 hlow (.inl rfl) aq hb32 aq;rw [← yI b l.length H0 l (cR _),← b_] at this;exact this
theorem vE (l:List Nat) (hl:l.length≤100000000000) :
  cC Tryz.prog 60 1 [(0,⟨167,10,[xY l]⟩)] [.ptr 0 0 0 1] (fun r hp'=>r=.agg (cb (bo l))∧lk 0 hp'=some ⟨167,10,[xY l]⟩):=by
 have h:=yJ _ H0 l (cR _);exact AU (E H0 l).1 (.d (nb (E H0 l).2)) (E H0 l).2 l.length (.inl rfl) aq
theorem kK {α:Type} {f:α→List Nat} {l:List α}:[] ++ gi f l 0=(l.map f).flatten:=by simp [gi]
theorem En (ρ:Nat→Nat) (i:Ip):AV.renL ρ (qA i)=qA i:=by
 unfold qA
 have:∀ (l m:List AV),AV.renL ρ (l ++ m)=AV.renL ρ l ++ AV.renL ρ m:=fun l m=>by
  induction l with
  | nil=>simp [AV.renL]
  | cons a l ih=>simp [AV.renL,ih]
 rw [this,da];rfl
theorem Eo (t:Tn) (ht:Sm t):av Tryz.prog 55 [.agg (eT t)] (fun r=>r=.agg (cb (bo (t.ins.map qN).flatten))):=by
 obtain ⟨⟨hv,hlk,hi,ho⟩,h1,h2,h3,h4⟩:=ht;refine bK Tryz.func55 Tryz.ntmps55 (rs:=[.cell 2 29]) (by simp [AV.deep,AV.deep1,eT]) ?_;simp [go_sem,eT];refine bf [] lW rfl aw aw aw (by simp [AV.renL]) ?_;rintro r hp' ⟨rfl,h0⟩;refine ⟨[(97,0)],rfl,?_⟩;simp [go_sem,bQ,bI,h0,Blk.ren,aR,fF,AV.ren,bO];clear h0 hp';generalize hR0:(t.ins.map qN).flatten=R
 refine lU (fun u:Nat × List Nat=>⟨[(2,.ptr 32 0 0 1),(3,.ptr 64 0 0 1),(8,.d (.ro 35 (t.ins.map eI))),(9,.d (.int .i64 (t.ins.length:Int))),(10,.d (.int .i64 (u.1:Int)))],[(64,⟨167,10,[xY u.2]⟩),(32,⟨29,32,[cb z32]⟩)],2000⟩)
  (fun u=>u.1≤t.ins.length∧u.2.length≤4*u.1∧u.2 ++ gi qN t.ins u.1=R) (fun u=>t.ins.length - u.1) (0,[]) ⟨aw,aw,by rw [← hR0];exact kK⟩ ((zS 64 rfl).trans (cn (by
   simp [aA,ai,fv,lk,bV,AV.low,AV.low1]
   exact ⟨jr _ _,aK _ _⟩))) ?_
 rintro ⟨k,B⟩ ⟨hk,hBl,hR⟩;simp only at hk hBl hR;simp only [go_sem,Nat.reduceEqDiff,Nat.reduceAdd,Nat.reduceLT,↓reduceIte,Nat.reduceMul];refine ⟨fun h=>?_,fun h=>?_⟩
 ·obtain ⟨i,hi1,hd⟩:=bH (l:=t.ins) (k:=k) aq;obtain ⟨hi32,hidx,hseq⟩:=hi i (cr hi1);have w3:=az (k:=k) aq;have hel:=sV hi32;have hcl:=ni hi32;simp [go_sem,hi1,hel,yZ,hcl,mr hi32,my,OL hi32];refine bN [] (gC [] i.seq aw hseq) rfl (aj (.one (ak (.nil 1))) (aj (.deep a9) aE)) ?_;simp [go_sem,aD];refine bf [(0,64)] (nL B (le i.seq 4) (by rw [aW];omega)) rfl aw (by simp [lk]) (by simp [lk,Blk.ren,aR,bq]) (by simp [AV.renL,AV.ren,bO,fZ,lk,ee]) ?_;rintro r hp' ⟨rfl,h0⟩;refine ⟨[],rfl,?_⟩;simp [go_sem,bQ,bI,h0,Blk.ren,aR,bq,AV.renL,AV.ren,bO,w3];refine ap (k+1,B ++ le i.seq 4) ⟨by simp only;omega,by simp only [b_,aW];omega,fj hd hR⟩ (by simp only;omega) ?_;simp [aA,ai,fv,lk,AV.low,AV.low1];exact ⟨jr _ _,aK _ _⟩
 ·have hkl:k=t.ins.length:=aq;subst hkl;have:=fl hR;subst this;simp [go_sem];refine bf [(0,64)] (vE B aq) rfl aw (by simp [lk]) (by simp [lk,Blk.ren,aR,bq]) (by simp [AV.renL,AV.ren,bO,fZ,lk]) ?_;rintro r hp' ⟨rfl,h0⟩;refine ⟨[],rfl,?_⟩;have hL:=aS B;simp [go_sem,bQ,bI,h0,Blk.ren,aR,bq,da,AV.ren,bO,hL,ar hL,ca,ah];exact aa (by simp [AV.deep];exact b8 _) rfl
theorem N8 (t:Tn) (ht:Sm t):av Tryz.prog 130 [.agg (eT t)] (fun r=>r=.agg (cb (bo (t.ins.map pL).flatten))):=by
 obtain ⟨⟨hv,hlk,hi,ho⟩,h1,h2,h3,h4⟩:=ht;refine bK Tryz.func130 Tryz.ntmps130 (rs:=[.cell 2 29]) (by simp [AV.deep,AV.deep1,eT]) ?_;simp [go_sem,eT];refine bf [] lW rfl aw aw aw (by simp [AV.renL]) ?_;rintro r hp' ⟨rfl,h0⟩;refine ⟨[(97,0)],rfl,?_⟩;simp [go_sem,bQ,bI,h0,Blk.ren,aR,fF,AV.ren,bO];clear h0 hp';generalize hR0:(t.ins.map pL).flatten=R
 refine lU (fun u:Nat × List Nat=>⟨[(2,.ptr 32 0 0 1),(3,.ptr 64 0 0 1),(8,.d (.ro 35 (t.ins.map eI))),(9,.d (.int .i64 (t.ins.length:Int))),(10,.d (.int .i64 (u.1:Int)))],[(64,⟨167,10,[xY u.2]⟩),(32,⟨29,32,[cb z32]⟩)],2000⟩)
  (fun u=>u.1≤t.ins.length∧u.2.length≤36*u.1∧u.2 ++ gi pL t.ins u.1=R) (fun u=>t.ins.length - u.1) (0,[]) ⟨aw,aw,by rw [← hR0];exact kK⟩ ((zS 64 rfl).trans (cn (by
   simp [aA,ai,fv,lk,bV,AV.low,AV.low1]
   exact ⟨jr _ _,aK _ _⟩))) ?_
 rintro ⟨k,B⟩ ⟨hk,hBl,hR⟩;simp only at hk hBl hR;simp only [go_sem,Nat.reduceEqDiff,Nat.reduceAdd,Nat.reduceLT,↓reduceIte,Nat.reduceMul];refine ⟨fun h=>?_,fun h=>?_⟩
 ·obtain ⟨i,hi1,hd⟩:=bH (l:=t.ins) (k:=k) aq;obtain ⟨hi32,hidx,hseq⟩:=hi i (cr hi1);have w3:=az (k:=k) aq;have hel:=sV hi32;have hcl:=ni hi32;have hx:(List.range 32).map (fun k=>((qA i).drop k).take 1)=List.map ((fun r=>List.map AV.d r) ∘ fun (x:Nat)=>[DV.int .u8 (x:Int)]) i.hash:=by rw [y5 hi32];simp [rb,Function.comp_def]
  simp [go_sem,hi1,hel,yZ,hcl,mr hi32,my];refine bf [(0,64),(1,2096)] (B5 68 35 (qA i) B i.hash hx (fun n=>MP n i) hi32 aq) rfl aw (by simp [lk]) (by simp [lk,Blk.ren,aR,bq,En]) (by simp [AV.renL,AV.ren,bO,fZ,lk]) ?_;rintro r hp' ⟨rfl,h0,h1⟩;refine ⟨[],rfl,?_⟩;have hBl2:(B ++ i.hash).length=B.length+32:=by rw [b_,hi32]
  have hB3:B ++ pL i=B ++ i.hash ++ le i.idx 4:=by simp [pL]
  generalize B ++ i.hash=B1 at *;simp [go_sem,bQ,bI,h0,h1,Blk.ren,aR,bq,En,AV.renL,AV.ren,bO,hcl,OK hi32];clear h0 h1 hp';refine bN [] (gC [] i.idx aw hidx) rfl (aj (.one (ak (.nil 1))) (aj (.deep a9) aE)) ?_;simp [go_sem,aD];refine bf [(0,64)] (nL B1 (le i.idx 4) (by rw [aW];omega)) rfl aw (by simp [lk]) (by simp [lk,Blk.ren,aR,bq]) (by simp [AV.renL,AV.ren,bO,fZ,lk,ee]) ?_;rintro r hp' ⟨rfl,h0⟩;refine ⟨[],rfl,?_⟩;rw [← hB3] at h0;have hB4:(B ++ pL i).length=B1.length+4:=by rw [hB3,b_,aW]
  simp [go_sem,bQ,bI,h0,Blk.ren,aR,bq,AV.renL,AV.ren,bO,w3];refine ap (k+1,B ++ pL i) ⟨by simp only;omega,by simp only;omega,fj hd hR⟩ (by simp only;omega) ?_;simp [aA,ai,fv,lk,AV.low,AV.low1];exact ⟨jr _ _,aK _ _⟩
 ·have hkl:k=t.ins.length:=aq;subst hkl;have:=fl hR;subst this;simp [go_sem];refine bf [(0,64)] (vE B aq) rfl aw (by simp [lk]) (by simp [lk,Blk.ren,aR,bq]) (by simp [AV.renL,AV.ren,bO,fZ,lk]) ?_;rintro r hp' ⟨rfl,h0⟩;refine ⟨[],rfl,?_⟩;have hL:=aS B;simp [go_sem,bQ,bI,h0,Blk.ren,aR,bq,da,AV.ren,bO,hL,ar hL,ca,ah];exact aa (by simp [AV.deep];exact b8 _) rfl
theorem zT (os:List (Nat × List Nat)) (hn:os.length≤8) (ho:∀ o,o ∈ os→o.1<18446744073709551616∧o.2.length≤1100):av Tryz.prog 56 [.d (.ro 2 (os.map eO))] (fun r=>r=.agg (cb (bo (os.map ia).flatten))):=by
 refine bK Tryz.func56 Tryz.ntmps56 (rs:=[.cell 2 29]) a9 ?_;simp [go_sem];refine bf [] lW rfl aw aw aw (by simp [AV.renL]) ?_;rintro r hp' ⟨rfl,h0⟩;refine ⟨[(97,0)],rfl,?_⟩;simp [go_sem,bQ,bI,h0,Blk.ren,aR,fF,AV.ren,bO];clear h0 hp';generalize hR0:(os.map ia).flatten=R
 refine lU (fun u:Nat × List Nat=>⟨[(2,.ptr 0 0 0 1),(3,.ptr 32 0 0 1),(7,.d (.ro 2 (os.map eO))),(8,.d (.int .i64 (os.length:Int))),(9,.d (.int .i64 (u.1:Int)))],[(32,⟨167,10,[xY u.2]⟩),(0,⟨29,32,[cb z32]⟩)],2000⟩)
  (fun u=>u.1≤os.length∧u.2.length≤1200*u.1∧u.2 ++ gi ia os u.1=R) (fun u=>os.length - u.1) (0,[]) ⟨aw,aw,by rw [← hR0];exact kK⟩ ((zS 32 rfl).trans (cn (by
   simp [aA,ai,fv,lk,bV,AV.low,AV.low1]
   exact ⟨jr _ _,aK _ _⟩))) ?_
 rintro ⟨k,B⟩ ⟨hk,hBl,hR⟩;simp only at hk hBl hR;simp only [go_sem,Nat.reduceEqDiff,Nat.reduceAdd,Nat.reduceLT,↓reduceIte,Nat.reduceMul];refine ⟨fun h=>?_,fun h=>?_⟩
 ·obtain ⟨o,ho1,hd⟩:=bH (l:=os) (k:=k) aq;obtain ⟨ho64,hol⟩:=ho o (cr ho1);have w3:=az (k:=k) aq;have hbl:=cF o.2.length;have hbb:(cv o.2).length=(aI o.2.length).length+o.2.length:=by simp [cv]
  simp [go_sem,ho1,eO];refine bN [] (sX [] o.1 aw ho64) rfl (aj (.one (ak (.nil 1))) (aj (.deep a9) aE)) ?_;simp [go_sem,aD];refine bf [(0,32)] (nL B (le o.1 8) (by rw [aW];omega)) rfl aw (by simp [lk]) (by simp [lk,Blk.ren,aR,bq]) (by simp [AV.renL,AV.ren,bO,fZ,lk,ee]) ?_;rintro r hp' ⟨rfl,h0⟩;refine ⟨[],rfl,?_⟩;have hBl2:(B ++ le o.1 8).length=B.length+8:=by rw [b_,aW]
  have hB3:B ++ ia o=B ++ le o.1 8 ++ cv o.2:=by simp [ia]
  generalize B ++ le o.1 8=B1 at *;simp [go_sem,bQ,bI,h0,Blk.ren,aR,bq,AV.renL,AV.ren,bO];clear h0 hp';refine bN [] (eR [] o.2 aw aq) rfl (aj (.one (ak (.nil 1))) (aj (.deep a9) aE)) ?_;simp [go_sem,aD];refine bf [(0,32)] (nL B1 (cv o.2) aq) rfl aw (by simp [lk]) (by simp [lk,Blk.ren,aR,bq]) (by simp [AV.renL,AV.ren,bO,fZ,lk,nb,cv]) ?_;rintro r hp' ⟨rfl,h0⟩;refine ⟨[],rfl,?_⟩;rw [← hB3] at h0;have hB4:(B ++ ia o).length=B1.length+(cv o.2).length:=by rw [hB3,b_]
  simp [go_sem,bQ,bI,h0,Blk.ren,aR,bq,AV.renL,AV.ren,bO,w3];refine ap (k+1,B ++ ia o) ⟨by simp only;omega,by simp only;omega,fj hd hR⟩ (by simp only;omega) ?_;simp [aA,ai,fv,lk,AV.low,AV.low1];exact ⟨jr _ _,aK _ _⟩
 ·have hkl:k=os.length:=aq;subst hkl;have:=fl hR;subst this;simp [go_sem];refine bf [(0,32)] (vE B aq) rfl aw (by simp [lk]) (by simp [lk,Blk.ren,aR,bq]) (by simp [AV.renL,AV.ren,bO,fZ,lk]) ?_;rintro r hp' ⟨rfl,h0⟩;refine ⟨[],rfl,?_⟩;have hL:=aS B;simp [go_sem,bQ,bI,h0,Blk.ren,aR,bq,da,AV.ren,bO,hL,ar hL,ca,ah];exact aa (by simp [AV.deep];exact b8 _) rfl
end Go.Proofs.YtmfnimjnneflnaaGreat
namespace Go.Sha
def iw:List Nat:=[84,97,112,83,105,103,104,97,115,104]
end Go.Sha
namespace Go.Proofs.YtmfnimjnneflnaaGreat
open Go.Am Go.Sha
theorem J8 (os:List (Nat × List Nat)) (hn:os.length≤8) (ho:∀ o,o ∈ os→o.1<18446744073709551616∧o.2.length≤1100):av Tryz.prog 83 [.d (.ro 2 (os.map eO))] (fun r=>r=.tup [.agg (cb (bo (os.map tV).flatten)),.agg (cb (bo (os.map um).flatten))]):=by
 refine bK Tryz.func83 Tryz.ntmps83 (rs:=[.cell 2 29,.cell 3 29]) a9 ?_;simp [go_sem];refine bf [] lW rfl aw aw aw (by simp [AV.renL]) ?_;rintro r hp' ⟨rfl,h0⟩;refine ⟨[(97,0)],rfl,?_⟩;simp [go_sem,bQ,bI,h0,Blk.ren,aR,fF,AV.ren,bO];clear h0 hp';refine bf [] lW rfl aw aw aw (by simp [AV.renL]) ?_;rintro r hp' ⟨rfl,h0⟩;refine ⟨[(97,0)],rfl,?_⟩;simp [go_sem,bQ,bI,h0,Blk.ren,aR,fF,AV.ren,bO];clear h0 hp';generalize hV0:(os.map tV).flatten=V;generalize hS0:(os.map um).flatten=S
 refine lU (fun u:Nat × List Nat × List Nat=>⟨[(2,.ptr 0 0 0 1),(3,.ptr 32 0 0 1),(4,.ptr 64 0 0 1),(5,.ptr 96 0 0 1),(10,.d (.ro 2 (os.map eO))),(11,.d (.int .i64 (os.length:Int))),(12,.d (.int .i64 (u.1:Int)))],
   [(96,⟨167,10,[xY u.2.2]⟩),(64,⟨167,10,[xY u.2.1]⟩),(32,⟨29,32,[cb z32]⟩),(0,⟨29,32,[cb z32]⟩)],2000⟩)
  (fun u=>u.1≤os.length∧(u.2.1.length≤8*u.1∧u.2.2.length≤1200*u.1)∧u.2.1 ++ gi tV os u.1=V∧u.2.2 ++ gi um os u.1=S) (fun u=>os.length - u.1) (0,[],[]) ⟨aw,aw,by rw [← hV0];exact kK,by rw [← hS0];exact kK⟩
  ((zS 64 rfl).trans ((zS 96 rfl).trans (cn (by
   simp [aA,ai,fv,lk,bV,AV.low,AV.low1]
   exact ⟨jr _ _,aK _ _⟩)))) ?_
 rintro ⟨k,A,B⟩ ⟨hk,⟨hAl,hBl⟩,hV,hS⟩;simp only at hk hAl hBl hV hS;simp only [go_sem,Nat.reduceEqDiff,Nat.reduceAdd,Nat.reduceLT,↓reduceIte,Nat.reduceMul];refine ⟨fun h=>?_,fun h=>?_⟩
 ·obtain ⟨o,ho1,hd⟩:=bH (l:=os) (k:=k) aq;obtain ⟨ho64,hol⟩:=ho o (cr ho1);have w3:=az (k:=k) aq;have hbl:=cF o.2.length;have hbb:(cv o.2).length=(aI o.2.length).length+o.2.length:=by simp [cv]
  simp [go_sem,ho1,eO];refine bN [] (sX [] o.1 aw ho64) rfl (aj (.one (ak (.nil 1))) (aj (.deep a9) aE)) ?_;simp [go_sem,aD];refine bf [(0,64)] (nL A (le o.1 8) (by rw [aW];omega)) rfl aw (by simp [lk]) (by simp [lk,Blk.ren,aR,bq]) (by simp [AV.renL,AV.ren,bO,fZ,lk,ee]) ?_;rintro r hp' ⟨rfl,h0⟩;refine ⟨[],rfl,?_⟩;have hA2:(A ++ tV o).length=A.length+8:=by rw [b_,tV,aW]
  rw [show A ++ le o.1 8=A ++ tV o from rfl] at h0;simp [go_sem,bQ,bI,h0,Blk.ren,aR,bq,AV.renL,AV.ren,bO];clear h0 hp';refine bN [] (eR [] o.2 aw aq) rfl (aj (.one (ak (.nil 1))) (aj (.deep a9) aE)) ?_;simp [go_sem,aD];refine bf [(0,96)] (nL B (cv o.2) aq) rfl aw (by simp [lk]) (by simp [lk,Blk.ren,aR,bq]) (by simp [AV.renL,AV.ren,bO,fZ,lk,nb,cv]) ?_;rintro r hp' ⟨rfl,h0⟩;refine ⟨[],rfl,?_⟩;have hB4:(B ++ um o).length=B.length+(cv o.2).length:=by rw [b_];rfl
  rw [show B ++ cv o.2=B ++ um o from rfl] at h0;simp [go_sem,bQ,bI,h0,Blk.ren,aR,bq,AV.renL,AV.ren,bO,w3];refine ap (k+1,A ++ tV o,B ++ um o) ⟨by simp only;omega,⟨by simp only;omega,by simp only;omega⟩,fj hd hV,fj hd hS⟩ (by simp only;omega) ?_;simp [aA,ai,fv,lk,AV.low,AV.low1];exact ⟨jr _ _,jr _ _,aK _ _⟩
 ·have hkl:k=os.length:=aq;subst hkl;have:=fl hV;subst this;have:=fl hS;subst this;have hLA:=aS A;have hLB:=aS B;simp [go_sem];refine bf [(0,64)] (vE A aq) rfl aw (by simp [lk]) (by simp [lk,Blk.ren,aR,bq]) (by simp [AV.renL,AV.ren,bO,fZ,lk]) ?_;rintro r hp' ⟨rfl,h0⟩;refine ⟨[],rfl,?_⟩;simp [go_sem,bQ,bI,h0,Blk.ren,aR,bq,da,AV.ren,bO];clear h0 hp';refine bf [(0,96)] (vE B aq) rfl aw (by simp [lk]) (by simp [lk,Blk.ren,aR,bq]) (by simp [AV.renL,AV.ren,bO,fZ,lk]) ?_;rintro r hp' ⟨rfl,h0⟩;refine ⟨[],rfl,?_⟩;simp [go_sem,bQ,bI,h0,Blk.ren,aR,bq,da,AV.ren,bO,hLA,hLB,ar hLA,ar hLB,ca,ah]
  exact aa (by
   intro c hc;simp at hc;rcases hc with rfl | rfl
   ·exact .inr ⟨_,rfl,b8 _⟩
   ·exact .inr ⟨_,rfl,b8 _⟩) rfl
theorem xZ (t:Tn):∀ v,v ∈ [AV.agg (eT t)]→v.deep:=by simp [AV.deep,AV.deep1,eT]
def SJ:List Nat:=List.replicate 96 0
theorem SK:eD Tryz.prog 139=some (cb SJ):=by kernel_rfl
def Ep:List Nat:=List.replicate 160 0
theorem N9:eD Tryz.prog 143=some (cb Ep):=by kernel_rfl
attribute [go_sem] SK N9
theorem zU:SJ.length=96:=rfl
theorem qO:List.drop 96 (cb SJ)=[]:=rfl
theorem vF:Ep.length=160:=by simp [Ep]
theorem B6:List.drop 160 (cb Ep)=[]:=dg (by rw [am,vF];exact cR _)
theorem B7 {A Z:List AV} {n m:Nat} (hA:A.length=n) (hm:n≤m):List.drop m (A ++ List.drop n Z)=List.drop m Z:=by
 rw [List.drop_append,dg aq,List.nil_append,List.drop_drop,hA,show n+(m - n)=m by omega]
theorem pM {A B Z:List AV} {n m:Nat} (hA:A.length=n) (hm:n≤m):List.take n (A ++ List.drop n Z) ++ (B ++ List.drop m (A ++ List.drop n Z))=A ++ B ++ List.drop m Z:=by
 rw [B7 hA hm];subst hA;rw [List.take_left,cD]
theorem tW (a b:List Nat):cb (a ++ b)=cb a ++ cb b:=by simp [cb]
theorem J9 (t:Tn) (ht:Sm t):av Tryz.prog 82 [.agg (eT t)] (fun r=>r=.agg (cb (bo (t.ins.map pL).flatten ++ (bo (t.ins.map qN).flatten ++ bo (t.outs.map ia).flatten)))):=by
 refine bK Tryz.func82 Tryz.ntmps82 (rs:=[.cell 2 139]) (xZ t) ?_;have p1:=N8 t ht;have p2:=Eo t ht;have p3:=zT t.outs (by have:=ht.2.2.1;omega) (fun o h=>⟨ht.1.2.2.2 o h,by have:=ht.2.2.2.1 o h;omega⟩);have l1:=aS (t.ins.map pL).flatten;have l2:=aS (t.ins.map qN).flatten;have l3:=aS (t.outs.map ia).flatten;generalize bo (t.ins.map pL).flatten=a at *;generalize bo (t.ins.map qN).flatten=b at *;generalize bo (t.outs.map ia).flatten=c at *;have hT:eT t=[.d (.int .u32 (t.ver:Int)),.d (.ro 35 (t.ins.map eI)),.d (.ro 2 (t.outs.map eO)),.d (.int .u32 (t.lock:Int))]:=rfl;have hd:=xZ t;rw [hT] at p1 p2 hd;simp [go_sem,eT];refine b7 [0,2,4,5] [(1,[]),(3,[]),(6,[7]),(8,[])] 3 (k:=9) ?_;intro G hG;simp [go_sem];refine ag p1 hd ?_;simp [go_sem];refine ag p2 hd ?_;simp [go_sem];refine ag p3 a9 ?_;simp [go_sem,am,l1,l2,l3,zU,qO];rw [B7 (A:=cb a) (n:=32) (by rw [am,l1]) aq,← cD (cb a),pM (A:=cb a ++ cb b) (n:=64) (by simp [am,l1,l2]) aq,qO,List.append_nil];refine hG _ _ ?_;clear hG G;have hL:(cb a ++ cb b ++ cb c).length=96:=by simp [am,l1,l2,l3]
 have hT2:List.take 96 (cb a ++ cb b ++ cb c)=cb a ++ cb b ++ cb c:=cA aq;have hE:cb (a ++ (b ++ c))=cb a ++ cb b ++ cb c:=by rw [tW,tW,cD]
 have hD:=b8 (a ++ (b ++ c));rw [hE] at hD;rw [hE];generalize cb a ++ cb b ++ cb c=R at *;simp [go_sem,hL,hT2,ah];exact aa hD rfl
end Go.Proofs.YtmfnimjnneflnaaGreat
