/-
 Part 13 of what the claim rests on.
-/
import Derived.Test.YtmfnimjnneflnaaGreatR6
import Derived.Test.YtmfnimjnneflnaaGreatR7
import Derived.Test.YtmfnimjnneflnaaGreatR8
import Derived.Test.YtmfnimjnneflnaaGreatR11
set_option linter.unusedVariables false
set_option linter.unusedSimpArgs false
set_option maxRecDepth 100000
set_option maxHeartbeats 16000000
namespace Go.Proofs.YtmfnimjnneflnaaGreat
open Go.Am Go.Sha
theorem Au (r:Rn):(bm r).2.cl=r.cl:=by
 unfold bm
 split
 ·split
  ·unfold au;split <;> rfl
  ·rfl
 ·rfl
theorem OS (most:Nat) (r:Rn):(ee most r).2.cl=r.cl:=by
 have h:=Au r;unfold ee;generalize bm r=p at *;simp only
 split
 ·cases fO most p.1 with
  | none=>simp only;unfold au;split <;> exact h
  | some n=>exact h
 ·exact h
theorem lQ {most:Nat} {r:Rn} (h:StOk r.main r.alt):StOk (ee most r).2.main (ee most r).2.alt:=by
 have h:=(dD h).1;unfold ee;generalize bm r=p at *;simp only
 split
 ·cases fO most p.1 with
  | none=>exact fQ h
  | some n=>exact h
 ·exact h
theorem EL {hp:Hp} {I:Nat→Prop} {id:Nat} {ty:TypeId} {cs:List (Int × Int)} (hb:lk id hp=some ⟨ty,2,cs.map Up⟩) (hI:I id):SnapD hp I (.own id 0 cs.length cs.length) (.ro 2 (cs.map dm)):=by
 refine gA hb hI aw ?_ aw (fun r hr=>by
  obtain ⟨x,_,rfl⟩:=List.mem_map.1 hr
  rfl)
 rw [List.drop_zero,cA aw]
 have e:cs.map Up=(cs.map dm).map fun r=>r.map AV.d:=by
  rw [List.map_map];rfl
 rw [e];exact my _
theorem TE (F:RnF) (x:Rx) (hi:F.inner.length=32) (htl:x.tpl.length=32) (htb:bytes x.tpl) (te:Int) (hT:av Tryz.prog 18 [.agg (eT F.t),.d (.int .i64 (F.n:Int))] (fun v=>v=.tup [.agg (cb x.tpl),.d (.int .i64 te)])) (r:Rn) (J:List Bool) (H:Nat) (hk:StOk r.main r.alt) :
    cJ Tryz.prog 3 (aF (gv F)) 201 ⟨r,J,H⟩ [.ptr 0 0 0 1] (fun v s'=>s'=⟨B5 x r,J,H⟩):=by
  refine am Tryz.func201 (by kernel_rfl) rfl Tryz.ntmps201 (rs:=[]) rfl (dV rfl) (by decide) ?_;have hC:=ec (F:=F) hi;have hz:z32.length=32:=rfl;obtain ⟨hk2,hb1,hb2⟩:=yj hk;have hto:=JC hC r J H hk;unfold B5;generalize mf r=p at *;obtain ⟨b,r2⟩:=p;simp only at hto hk2 hb1 hb2 ⊢;simp [go_sem];refine dO (Pp:=[]) hC hto aq aw (by simp [AV.renL,AV.ren]) ?_;rintro v s' ρ ⟨rfl,rfl⟩ hρ;rw [bA];simp only [aF,bC,bB,id,gv,eS];simp only [eT] at hT;simp [go_sem,AV.ren];refine ed [0,1,2,3,4,5,6,7,8,9] [10,14,15] [0,1,2,3,4,5,6,7,8,9,11,12,13,16] (.alt (.step 10 [11,12,13] true (bt 14 (.step 15 [16] true .done))) (bt 14 (.step 10 [11,12,13] true (.step 15 [16] true .done)))) ⟨[(0,.ptr 0 0 0 1),(2,.d (nb b)),(3,.ptr 548 0 0 1)],(548,⟨29,32,[cb x.tpl]⟩) :: gR 3 (aF (gv F)) ⟨r2,J,H⟩ id,9000⟩ (k:=17) ?h3 ?hq
  case h3 =>
    intro G hG;simp (config := { maxSteps := 3000000 }) [go_sem]
    repeat' first
      | apply And.intro
      | (refine ag hT a9 ?_
         simp (config := { maxSteps := 3000000 }) [go_sem,ao,htl])
      | (refine hG _ _ (cj ⟨by simp [ai,fv,lk,AV.low,AV.low1],?_,aw⟩)
         intro p hp;rcases et.1 hp with rfl | hp
         · refine ⟨.inl (by simp [lk,ao,hz]),by show 548<9000;omega,?_⟩
           intro r hr v hv;simp only [et,List.mem_nil_iff,or_false] at hr;subst hr;obtain ⟨y,_,rfl⟩:=List.mem_map.1 hv
           trivial
         · exact WW hC (dV rfl) (qh (by simp [lk,aF,bC,bB,gv,eS]) (by simp [lk,aF]) (by simp [lk,aF])) p hp)
  case hq =>
    simp [go_sem];refine iO (gZ b x.tpl hb2 htb) rfl (aj (.deep trivial) (aj (.one (ak (dZ rfl trivial htl))) aD)) trivial ?_;by_cases hq:b=x.tpl
    · simp [go_sem,hq]
      rw [bA];exact aB (by simp [lk,aF,bC,bB,gv,eS]) rfl rfl
    · simp [go_sem,hq]
      refine aN (Pp:=[(548,⟨29,32,[cb x.tpl]⟩)]) hC (bw hC r2 J H 23) rfl (dV rfl) (by intro p hp;simp at hp;subst hp;simp) (by simp [AV.renL,AV.ren]) ?_;rintro v s' ρ rfl hρ;rw [bA];generalize au 23 r2=r';simp only [aF,bC,bB,id,gv,eS];simp [go_sem,ah];exact aB (by simp [lk,aF,bC,bB]) rfl rfl
theorem Qj {C:List AV} (hC:iq C) (ids:List Nat) (Pp:Hp) {N:Nat} {hp:Hp} {g:FuncId} {s:RnS} {ars ars2:List AV} {R:AV→RnS→Prop} {K:AV→Hp→Prop} (h:cJ Tryz.prog 3 (aF C) g s (.ptr 0 0 0 1 :: ars2) R) (hN:3≤N)
  (hd:∀ p,p ∈ Pp ++ gR 3 (aF C) s id→lk p.1 (aC ids hp)=some p.2) (hl:ars.length=ars2.length) (hs:∀ (i:Nat) (v v':AV),ars[i]?=some v→ars2[i]?=some v'→v'=v ∨ Snap hp (fun id=>id ∈ ids) v v') (hP:∀ p,p ∈ Pp→p.1<N∧3≤p.1) (has:∀ ρ,AV.renL ρ ars2=ars2)
  (hK:∀ v s' ρ,R v s'→(∀ j,j<3→ρ j=j)→K (v.ren ρ) (Pp ++ gR 3 (aF C) s' id)):sx Tryz.prog g (.ptr 0 0 0 1 :: ars) hp N K:=by
 refine ca ids Pp (args':=.ptr 0 0 0 1 :: ars2) (rk hC) id h (aQ 3) (fun j hj=>by show j<N;omega) hd (by simp [hl]) ?_ (fun p hp=>⟨(hP p hp).1,fun j hj=>by have:=(hP p hp).2;show j ≠ p.1;omega⟩) ?_ hK
 ·intro i v v' h1 h2
  match i with
  | 0=>simp at h1 h2;subst h1;subst h2;exact .inl rfl
  | i+1=>exact hs i v v' h1 h2
 ·rw [AV.renL,has,AV.ren];rfl
theorem EM {hp:Hp} {I:Nat→Prop} {l:List AV}:∀ (i:Nat) (v v':AV),([]:List AV)[i]?=some v→l[i]?=some v'→v'=v ∨ Snap hp I v v':=by intro i v v' h;simp at h
theorem qi {hp:Hp} {I:Nat→Prop} {a a':AV} {args args':List AV} (h:a'=a ∨ Snap hp I a a') (t:∀ (i:Nat) (v v':AV),args[i]?=some v→args'[i]?=some v'→v'=v ∨ Snap hp I v v'):∀ (i:Nat) (v v':AV),(a :: args)[i]?=some v→(a' :: args')[i]?=some v'→v'=v ∨ Snap hp I v v':=by
 intro i v v' h1 h2
 match i with
 | 0=>simp at h1 h2;subst h1;subst h2;exact h
 | i+1=>exact t i v v' h1 h2
theorem OT (F:RnF) (x:Rx) (hi:F.inner.length=32) (hR:∀ (h:aS) (o:Int),bytes h→h.length≤1000→av Tryz.prog 234 [.agg (eS F.t (F.n:Int) F.coins),.d (nb h),.d (.int .i64 o)] (fun v=>v=NS (x.rcv h o))) (r:Rn) (J:List Bool) (hk:StOk r.main r.alt) (hc:r.cl.length≤100000) :
  cJ Tryz.prog 3 (aF (gv F)) 203 ⟨r,J,0⟩ [.ptr 0 0 0 1] (fun v s'=>s'=⟨B6 x r,J,0⟩):=by
 refine am Tryz.func203 (by kernel_rfl) rfl Tryz.ntmps203 (rs:=[]) rfl (dV rfl) (by decide) ?_;have hC:=ec (F:=F) hi;obtain ⟨hk2,hb1,hb2⟩:=dD hk;have hcl:(bm r).2.cl=r.cl:=Au r;have hta:=j6 hC r J 0 hk;unfold B6;generalize bm r=p at *;obtain ⟨h,r2⟩:=p;simp only at hta hk2 hb1 hb2 hcl ⊢;have htn:=rU hC r2 J 0 hk2 4 aq;have hk3:=lQ (most:=4) hk2;have hcl2:(ee 4 r2).2.cl=r2.cl:=OS 4 r2;generalize ee 4 r2=p at *;obtain ⟨o,r3⟩:=p;simp only at htn hk3 hcl2 ⊢;have hR:=hR h o hb2 hb1;simp only [eS] at hR;generalize x.rcv h o=q at *;obtain ⟨c1,c2,e⟩:=q;simp [go_sem];refine dO (Pp:=[]) hC hta aq aw (by simp [AV.renL,AV.ren]) ?_;rintro v s' ρ ⟨rfl,rfl⟩ hρ;simp [go_sem,AV.ren];refine dO (Pp:=[]) hC htn aq aw (by simp [AV.renL,AV.ren]) ?_;rintro v s' ρ ⟨rfl,rfl⟩ hρ;simp [go_sem,AV.ren];refine dO (Pp:=[]) hC (eu hC r3 J 0) aq aw (by simp [AV.renL,AV.ren]) ?_;rintro v s' ρ' ⟨rfl,rfl⟩ hρ';by_cases he:r3.e=0
 ·rw [bA];simp only [aF,bC,bB,id,gv,eS];simp [go_sem,AV.ren,he];refine ag hR a9 ?_;simp [go_sem,NS];refine Qj hC [772] [] (s:=⟨r3,J,0⟩) (ars2:=[.d (.ro 2 ([(c1,c2)].map dm)),.d (.int .i64 e)]) (EI hC r3 J hk3 [(c1,c2)] e (by rw [hcl2,hcl];exact hc) aw) aq ?_ rfl (qi (.inr (.one (ak (EL (cs:=[(c1,c2)]) rfl aw)))) (qi (.inl rfl) EM)) aw (by simp [AV.renL,AV.ren]) ?_
  ·exact qh (by simp [aC,lk,aF,bC,bB,gv,eS,he]) (by simp [aC,lk,aF]) (by simp [aC,lk,aF])
  rintro v s' ρ rfl hρ;rw [bA];generalize zS [(c1,c2)] e r3=r';simp only [aF,bC,bB,id,gv,eS];simp [go_sem,ah];exact aB (by simp [lk,aF,bC,bB]) rfl rfl
 ·simp [go_sem,AV.ren,he,ah];rw [bA];exact aB rfl rfl rfl
theorem TF (F:RnF) (x:Rx) (hi:F.inner.length=32) (hs:F.script.length≤100000) (hml:x.msg.length=32) (me:Int)
    (hM:av Tryz.prog 43 [.agg (eS F.t (F.n:Int) F.coins),.d (nb (jT F.script)),.d (nb F.annex)] (fun v=>v=.tup [.agg (cb x.msg),.d (.int .i64 me)])) (r:Rn) (J:List Bool) (H:Nat) :
    cB Tryz.prog 226 3 (gR 3 (aF (gv F)) ⟨r,J,H⟩ id) [.ptr 0 0 0 1] (fun v hp'=>v=.sub 708 0 0 1 32 32 1∧lk 708 hp'=some ⟨29,32,[cb x.msg]⟩∧sk 3 (aF (gv F)) ⟨r,J,H⟩ id hp'):=by
  refine am Tryz.func226 (by kernel_rfl) rfl Tryz.ntmps226 (rs:=[.tmp 2]) rfl (dV rfl) (by decide) ?_;have hC:=ec (F:=F) hi;have hz:z32.length=32:=rfl;have hth:=rN F.script hs;have hbl:(eV [84,97,112,76,101,97,102] (192 :: (aI F.script.length ++ F.script))).length=32:=qP F.script;rw [bA];simp only [aF,bC,bB,id,gv,eS,aP]
  have h39:∀ l:List AV,(cb F.inner ++ (AV.d (c7 F.path) :: AV.d (nb F.script) :: l))[33]?=some (.d (nb F.script)):=fun l=>by
    rw [dz (by rw [ao,hi];omega),ao,hi];rfl
  have h40:∀ l:List AV,(cb F.inner ++ (AV.d (c7 F.path) :: AV.d (nb F.script) :: AV.d (nb F.annex) :: l))[34]?=some (.d (nb F.annex)):=fun l=>by
    rw [dz (by rw [ao,hi];omega),ao,hi];rfl
  simp [go_sem,h39];refine ag hth a9 ?_;have hd0:List.drop 32 (cb z32)=[]:=rfl;have hlB:eV [84,97,112,76,101,97,102] (192 :: (aI F.script.length ++ F.script))=jT F.script:=rfl;rw [hlB] at hbl ⊢;generalize jT F.script=lb at *;simp only [eS] at hM;simp [go_sem,ao,hz,hbl,hd0]
  have hfl:(AV.tup [.agg (cb x.msg),.d (.int .i64 me)]).flat:=by
    intro c hc;simp at hc;rcases hc with rfl | rfl
    · refine .inr ⟨_,rfl,fun y hy=>?_⟩
      obtain ⟨z,_,rfl⟩:=List.mem_map.1 hy
      trivial
    · exact .inl trivial
  refine ed [0,1,2,3,4,5,6,7,8] [9,13,14] [0,1,2,3,4,5,6,7,8,10,11,12,15] (.alt (.step 9 [10,11,12] true (bt 13 (.step 14 [15] true .done))) (bt 13 (.step 9 [10,11,12] true (.step 14 [15] true .done)))) ⟨[(4,.ptr 708 0 0 1)],(708,⟨29,32,[cb x.msg]⟩) :: gR 3 (aF (gv F)) ⟨r,J,H⟩ id,9000⟩ (k:=16) ?h3 ?hq
  case h3 =>
    intro G hG;simp (config := { maxSteps := 3000000 }) [go_sem,h40,ao,hbl]
    repeat' first
      | apply And.intro
      | (refine iO hM rfl (aj (.deep a9) (aj (.one (ak (dZ rfl trivial hbl))) (aj (.deep trivial) aD))) hfl ?_
         simp (config := { maxSteps := 3000000 }) [go_sem,ao,hml,hz])
      | (refine hG _ _ (cj ⟨by simp [ai,fv,lk,AV.low,AV.low1],?_,aw⟩)
         intro p hp;rcases et.1 hp with rfl | hp
         · refine ⟨.inl (by simp [lk,ao,hz,hd0]),by show 708<9000;omega,?_⟩
           intro r hr v hv;simp only [et,List.mem_nil_iff,or_false] at hr;subst hr;obtain ⟨y,_,rfl⟩:=List.mem_map.1 hv
           trivial
         · exact WW hC (dV rfl) (qh (by simp [lk,aF,bC,bB,gv,eS,aP]) (by simp [lk,aF]) (by simp [lk,aF])) p hp)
  case hq =>
    simp [go_sem,ah];rw [bA];exact aB (by simp [lk,aF,bC,bB,gv,eS,aP]) rfl rfl
theorem TG (F:RnF) (x:Rx) (hi:F.inner.length=32) (hs:F.script.length≤100000) (hml:x.msg.length=32) (me:Int)
  (hM:av Tryz.prog 43 [.agg (eS F.t (F.n:Int) F.coins),.d (nb (jT F.script)),.d (nb F.annex)] (fun v=>v=.tup [.agg (cb x.msg),.d (.int .i64 me)])) {s:RnS} {N:Nat} {K:AV→Hp→Prop} (hN:3≤N)
  (hK:K (.sub N 0 0 1 32 32 1) ((N,⟨29,32,[cb x.msg]⟩) :: gR 3 (aF (gv F)) s id)):sx Tryz.prog 226 [.ptr 0 0 0 1] (gR 3 (aF (gv F)) s id) N K:=by
 have hC:=ec (F:=F) hi;have ho:=rk hC;have hid:∀ j,j<3→bO (jV 3 id id) 3 (id j)=j:=fun j hj=>sF id 3 (aQ 3) hj;have hnw:cK (jV 3 id id) [(708,0)]=true:=BL aq;have h708:vV 3 id [(708,0)] N 708=N:=xw (c:=708) (j:=0) hnw aw
 refine .inl (nA (n:=3) (b0:=aF (gv F) s id) id (TF F x hi hs hml me hM s.r s.J s.H) (fun i x hi=>DO i x hi) (aQ 3) (fun j hj=>by show j<N;omega)
  (fun j hj=>⟨_,xq _ (aQ 3) hj,ho.2 _ _ _ hj,(ho.1 s id _ id j hj hid).symm⟩) ?_ [(708,0)] hnw ?_)
 ·rw [AV.renL,AV.renL,AV.ren];rfl
 ·rintro r' hp' ⟨rfl,hb,hs'⟩ hpX q1 q2 q3;have hro:∀ j,j<3→vV 3 id [(708,0)] N (id j)=id j:=fun j hj=>xu hnw hj;refine ⟨(N,⟨29,32,[cb x.msg]⟩) :: gR 3 (aF (gv F)) s id,fun i b h=>?_,?_⟩
  ·simp only [lk] at h
   split at h
   ·rename_i e;subst e
    cases h
    have h2:=q2 708 0 aw _ hb
    have e:Blk.ren (vV 3 id [(708,0)] N) ⟨29,32,[cb x.msg]⟩=⟨29,32,[cb x.msg]⟩:=by
     simp only [Blk.ren,aR,List.map_cons,List.map_nil,pM,cb,List.map_map];rfl
    rw [e] at h2;exact h2
   ·obtain ⟨j,hj,e⟩:=lA.1 (bH h)
    cases e
    have h2:=q1 j hj _ (hs' j hj);rw [ho.1 s id _ id j hj hro] at h2;exact h2
  ·rw [AV.ren,h708];exact hK
theorem EN (m:aS):av Tryz.prog 228 [.rop [nb m]] (fun v=>v=.d (nb m)):=by
 refine bK Tryz.func228 Tryz.ntmps228 (rs:=[.tmp 1]) a9 ?_;simp [go_sem,ah];exact aa trivial rfl
def TJ (sg:aS→aS→aS→Bool):Prop:=∀ key msg sig:aS,key.length=32→bytes key→bytes msg→bytes sig→msg.length≤1000→sig.length≤1000→av Tryz.prog 156 [.agg (cb key),.d (nb msg),.d (nb sig)] (fun v=>v=.d (.bool (sg key sig msg)))
theorem qj (key:aS):(key.map fun (b:Nat)=>[DV.int .u8 (b:Int)]).flatten=cd key:=by
 unfold cd
 induction key with
 | nil=>rfl
 | cons a l ih=>simp only [List.map_cons,List.flatten_cons,ih];rfl
theorem EO {hp:Hp} {key:aS}:Snap hp (fun _=>True) (.agg (cb key)) (.agg (cb key)):=.deep (dC _)
theorem KQ {C:List AV} (hC:iq C) (msg:aS) (hmb:bytes msg) (hml:msg.length≤1000) (sg:aS→aS→aS→Bool) (hV:TJ sg) (r:Rn) (J:List Bool) (H:Nat) (key sig:aS) (hkb:bytes key) (hsb:bytes sig) (hkl:key.length≤1000) (hsl:sig.length≤1000) (hbd:-9223372036854775808≤r.bud) (hbd2:r.bud<9223372036854775808) :
  cJ Tryz.prog 3 (aF C) 225 ⟨r,J,H⟩ [.ptr 0 0 0 1,.d (nb key),.d (nb sig),.fn 228 [.rop [nb msg]]] (fun v s'=>v=.d (.bool (fb sg key sig msg r).1)∧s'=⟨(fb sg key sig msg r).2,J,H⟩):=by
 refine am Tryz.func225 (by kernel_rfl) rfl Tryz.ntmps225 (rs:=[.tmp 8]) rfl (dV rfl) (by decide) ?_;have hl:=hC.2.2;simp [go_sem];refine dO (Pp:=[]) hC (eu hC r J H) aq aw (by simp [AV.renL,AV.ren]) ?_;rintro v s' ρ ⟨rfl,rfl⟩ hρ;by_cases he:r.e=0
 ·by_cases hs0:sig.length=0
  ·have hv:fb sg key sig msg r=(false,r):=by simp [fb,hs0]
   rw [hv];have hs0i:(sig.length:Int)=0:=aq;simp [go_sem,AV.ren,he,nb,hs0,hs0i,ah];rw [bA];exact aB rfl rfl rfl
  ·have hs0i:¬ (sig.length:Int)=0:=aq;by_cases hb5:r.bud<50
   ·have hv:fb sg key sig msg r=(false,au 21 r):=by simp [fb,hs0,he,hb5]
    rw [hv];simp [go_sem,AV.ren,he,nb,hs0,hs0i];rw [bA];simp only [aF,bC,bB,id];simp [go_sem,hl,hb5];refine aN (Pp:=[]) (s:=⟨r,J,H⟩) hC (bw hC r J H 21) (by simp [bA,aF,bC,bB,he]) aq aw (by simp [AV.renL,AV.ren]) ?_;rintro v s' ρ rfl hρ;rw [bA];generalize au 21 r=r';simp only [aF,bC,bB,id];simp [go_sem,ah];exact aB rfl rfl rfl
   ·have hv:fb sg key sig msg r=if key.length=32∧sg key sig msg=true then (true,{ r with bud:=r.bud - 50 }) else (false,au 20 { r with bud:=r.bud - 50 }):=by
     simp only [fb,hs0,he,hb5,if_false,ne_eq,not_false_eq_true,and_self,if_true]
    rw [hv];have w1:IntKind.i64.wrap (r.bud - 50)=r.bud - 50:=IntWalk.i64_in _ aq;simp [go_sem,AV.ren,he,nb,hs0,hs0i];rw [bA];simp only [aF,bC,bB,id];simp [go_sem,hl,hb5,w1];have hsh:∀ l:List AV,l=l:=fun _=>rfl;obtain ⟨main,alt,br,bud,cl,e⟩:=r;simp only at he hb5 w1 hbd hbd2 ⊢;subst he;have hid2:fx ⟨main,alt,br,bud,cl,0⟩=fx ⟨main,alt,br,bud - 50,cl,0⟩:=rfl;rw [hid2];have hfl:=bw hC ⟨main,alt,br,bud - 50,cl,0⟩ J H 20;by_cases h32:key.length=32
    ·have hve:=hV key msg sig h32 hkb hmb hsb;have h32i:(key.length:Int)=32:=aq
     cases hg:sg key sig msg with
     | true =>
      rw [hg] at hve;rw [if_pos ⟨h32,rfl⟩];simp [go_sem,h32,h32i];refine b7 [0,1,2,3,4,5,6,7,9] [(8,[]),(10,[11,12])] 2 (k:=13) ?_;intro G hG;simp [go_sem,h32,h32i,AV.ren,qj,lr,ar h32,ao];refine ag (EN msg) a9 ?_;simp [go_sem];refine ag (hve hml hsl) (by intro v hv;simp at hv;rcases hv with rfl | rfl | rfl;exact dC _;trivial;trivial) ?_;simp [go_sem];refine hG _ _ ?_;clear hG G;simp [go_sem,ah];exact aB rfl rfl rfl
     | false =>
      rw [hg] at hve;rw [if_neg (fun h=>by cases h.2)];simp [go_sem,h32,h32i];refine b7 [0,1,2,3,4,5,6,7,9] [(8,[]),(10,[11,12])] 2 (k:=13) ?_;intro G hG;simp [go_sem,h32,h32i,AV.ren,qj,lr,ar h32,ao];refine ag (EN msg) a9 ?_;simp [go_sem];refine ag (hve hml hsl) (by intro v hv;simp at hv;rcases hv with rfl | rfl | rfl;exact dC _;trivial;trivial) ?_;simp [go_sem];refine hG _ _ ?_;clear hG G;simp [go_sem];refine aN (Pp:=[]) (s:=⟨⟨main,alt,br,bud - 50,cl,0⟩,J,H⟩) hC hfl (by simp [bA,aF,bC,bB]) aq aw (by simp [AV.renL,AV.ren]) ?_;rintro v s' ρ rfl hρ;rw [bA];generalize au 20 ⟨main,alt,br,bud - 50,cl,0⟩=r';simp only [aF,bC,bB,id];simp [go_sem,ah];exact aB rfl rfl rfl
    ·have h32i:¬ (key.length:Int)=32:=aq;rw [if_neg (fun h=>h32 h.1)];simp [go_sem,h32,h32i];refine b7 [0,1,2,3,4,5,6,7,9] [(8,[]),(10,[11,12])] 2 (k:=13) ?_;intro G hG;simp [go_sem,h32,h32i,AV.ren];refine hG _ _ ?_;clear hG G;simp [go_sem];refine aN (Pp:=[]) (s:=⟨⟨main,alt,br,bud - 50,cl,0⟩,J,H⟩) hC hfl (by simp [bA,aF,bC,bB]) aq aw (by simp [AV.renL,AV.ren]) ?_;rintro v s' ρ rfl hρ;rw [bA];generalize au 20 ⟨main,alt,br,bud - 50,cl,0⟩=r';simp only [aF,bC,bB,id];simp [go_sem,ah];exact aB rfl rfl rfl
 ·have hv:fb sg key sig msg r=(false,r):=by simp [fb,he]
  rw [hv];simp [go_sem,AV.ren,he,ah];rw [bA];exact aB rfl rfl rfl
theorem EP (F:RnF) (x:Rx) (hi:F.inner.length=32) (hs:F.script.length≤100000) (hml:x.msg.length=32) (me:Int)
  (hM:av Tryz.prog 43 [.agg (eS F.t (F.n:Int) F.coins),.d (nb (jT F.script)),.d (nb F.annex)] (fun v=>v=.tup [.agg (cb x.msg),.d (.int .i64 me)])) {s:RnS} {N:Nat} {hp:Hp} {K:AV→Hp→Prop} (he:hp=gR 3 (aF (gv F)) s id) (hN:3≤N)
  (hK:K (.sub N 0 0 1 32 32 1) ((N,⟨29,32,[cb x.msg]⟩) :: gR 3 (aF (gv F)) s id)):sx Tryz.prog 226 [.ptr 0 0 0 1] hp N K:=he ▸ TG F x hi hs hml me hM hN hK
theorem uv (F:RnF) (x:Rx) (hi:F.inner.length=32) (hs:F.script.length≤100000) (hml:x.msg.length=32) (hmb:bytes x.msg) (me:Int) (hM:av Tryz.prog 43 [.agg (eS F.t (F.n:Int) F.coins),.d (nb (jT F.script)),.d (nb F.annex)] (fun v=>v=.tup [.agg (cb x.msg),.d (.int .i64 me)])) (sg:aS→aS→aS→Bool) (hV:TJ sg) (r:Rn) (J:List Bool) (H:Nat) (key sig:aS) (hkb:bytes key) (hsb:bytes sig) (hkl:key.length≤1000) (hsl:sig.length≤1000) (hbd:-9223372036854775808≤r.bud) (hbd2:r.bud<9223372036854775808) :
  cJ Tryz.prog 3 (aF (gv F)) 225 ⟨r,J,H⟩ [.ptr 0 0 0 1,.d (nb key),.d (nb sig),.mth 226 [.ptr 0 0 0 1]] (fun v s'=>v=.d (.bool (fb sg key sig x.msg r).1)∧s'=⟨(fb sg key sig x.msg r).2,J,H⟩):=by
 have hC:=ec (F:=F) hi;generalize hCF:gv F=C at *;refine am Tryz.func225 (by kernel_rfl) rfl Tryz.ntmps225 (rs:=[.tmp 8]) rfl (dV rfl) (by decide) ?_;have hl:=hC.2.2;simp [go_sem];refine dO (Pp:=[]) hC (eu hC r J H) aq aw (by simp [AV.renL,AV.ren]) ?_;rintro v s' ρ ⟨rfl,rfl⟩ hρ;by_cases he:r.e=0
 ·by_cases hs0:sig.length=0
  ·have hv:fb sg key sig x.msg r=(false,r):=by simp [fb,hs0]
   rw [hv];have hs0i:(sig.length:Int)=0:=aq;simp [go_sem,AV.ren,he,nb,hs0,hs0i,ah];rw [bA];exact aB rfl rfl rfl
  ·have hs0i:¬ (sig.length:Int)=0:=aq;by_cases hb5:r.bud<50
   ·have hv:fb sg key sig x.msg r=(false,au 21 r):=by simp [fb,hs0,he,hb5]
    rw [hv];simp [go_sem,AV.ren,he,nb,hs0,hs0i];rw [bA];simp only [aF,bC,bB,id];simp [go_sem,hl,hb5];refine aN (Pp:=[]) (s:=⟨r,J,H⟩) hC (bw hC r J H 21) (by simp [bA,aF,bC,bB,he]) aq aw (by simp [AV.renL,AV.ren]) ?_;rintro v s' ρ rfl hρ;rw [bA];generalize au 21 r=r';simp only [aF,bC,bB,id];simp [go_sem,ah];exact aB rfl rfl rfl
   ·have hv:fb sg key sig x.msg r=if key.length=32∧sg key sig x.msg=true then (true,{ r with bud:=r.bud - 50 }) else (false,au 20 { r with bud:=r.bud - 50 }):=by
     simp only [fb,hs0,he,hb5,if_false,ne_eq,not_false_eq_true,and_self,if_true]
    rw [hv];have w1:IntKind.i64.wrap (r.bud - 50)=r.bud - 50:=IntWalk.i64_in _ aq;simp [go_sem,AV.ren,he,nb,hs0,hs0i];rw [bA];simp only [aF,bC,bB,id];simp [go_sem,hl,hb5,w1];have hsh:∀ l:List AV,l=l:=fun _=>rfl;obtain ⟨main,alt,br,bud,cl,e⟩:=r;simp only at he hb5 w1 hbd hbd2 ⊢;subst he;have hid2:fx ⟨main,alt,br,bud,cl,0⟩=fx ⟨main,alt,br,bud - 50,cl,0⟩:=rfl;rw [hid2];have hfl:=bw hC ⟨main,alt,br,bud - 50,cl,0⟩ J H 20;by_cases h32:key.length=32
    ·have hve:=hV key x.msg sig h32 hkb hmb hsb;have h32i:(key.length:Int)=32:=aq
     cases hg:sg key sig x.msg with
     | true =>
      rw [hg] at hve;rw [if_pos ⟨h32,rfl⟩];simp [go_sem,h32,h32i];refine b7 [0,1,2,3,4,5,6,7,9] [(8,[]),(10,[11,12])] 2 (k:=13) ?_;intro G hG;simp [go_sem,h32,h32i,AV.ren,qj,lr,ar h32,ao];refine EP F x hi hs hml me hM (s:=⟨⟨main,alt,br,bud - 50,cl,0⟩,J,H⟩) (by simp [hCF,bA,aF,bC,bB]) aq ?_;rw [bA,hCF];simp only [aF,bC,bB,id];simp [go_sem];refine iO (hve aq hsl) rfl (aj EO (aj (.one (ak (dZ rfl trivial hml))) (aj (.deep trivial) aD))) trivial ?_;simp [go_sem];refine hG _ _ ?_;clear hG G;simp [go_sem,ah];exact aB rfl rfl rfl
     | false =>
      rw [hg] at hve;rw [if_neg (fun h=>by cases h.2)];simp [go_sem,h32,h32i];refine b7 [0,1,2,3,4,5,6,7,9] [(8,[]),(10,[11,12])] 2 (k:=13) ?_;intro G hG;simp [go_sem,h32,h32i,AV.ren,qj,lr,ar h32,ao];refine EP F x hi hs hml me hM (s:=⟨⟨main,alt,br,bud - 50,cl,0⟩,J,H⟩) (by simp [hCF,bA,aF,bC,bB]) aq ?_;rw [bA,hCF];simp only [aF,bC,bB,id];simp [go_sem];refine iO (hve aq hsl) rfl (aj EO (aj (.one (ak (dZ rfl trivial hml))) (aj (.deep trivial) aD))) trivial ?_;simp [go_sem];refine hG _ _ ?_;clear hG G;simp [go_sem];refine aN (Pp:=[(964,⟨29,32,[cb x.msg]⟩)]) (s:=⟨⟨main,alt,br,bud - 50,cl,0⟩,J,H⟩) hC hfl (by simp [bA,aF,bC,bB]) aq aw (by simp [AV.renL,AV.ren]) ?_;rintro v s' ρ rfl hρ;rw [bA];generalize au 20 ⟨main,alt,br,bud - 50,cl,0⟩=r';simp only [aF,bC,bB,id];simp [go_sem,ah];exact aB rfl rfl rfl
    ·have h32i:¬ (key.length:Int)=32:=aq;rw [if_neg (fun h=>h32 h.1)];simp [go_sem,h32,h32i];refine b7 [0,1,2,3,4,5,6,7,9] [(8,[]),(10,[11,12])] 2 (k:=13) ?_;intro G hG;simp [go_sem,h32,h32i,AV.ren];refine hG _ _ ?_;clear hG G;simp [go_sem];refine aN (Pp:=[]) (s:=⟨⟨main,alt,br,bud - 50,cl,0⟩,J,H⟩) hC hfl (by simp [bA,aF,bC,bB]) aq aw (by simp [AV.renL,AV.ren]) ?_;rintro v s' ρ rfl hρ;rw [bA];generalize au 20 ⟨main,alt,br,bud - 50,cl,0⟩=r';simp only [aF,bC,bB,id];simp [go_sem,ah];exact aB rfl rfl rfl
 ·have hv:fb sg key sig x.msg r=(false,r):=by simp [fb,he]
  rw [hv];simp [go_sem,AV.ren,he,ah];rw [bA];exact aB rfl rfl rfl
structure RnL (r r':Rn):Prop where
 br:r'.br=r.br
 cl:r'.cl=r.cl
 bud:r'.bud=r.bud
theorem mX (x:Int) (r:Rn):RnL r (au x r):=by unfold au;split <;> exact ⟨rfl,rfl,rfl⟩
theorem RnL.trans {a b c:Rn} (h:RnL a b) (h2:RnL b c):RnL a c:=⟨h2.br.trans h.br,h2.cl.trans h.cl,h2.bud.trans h.bud⟩
theorem kM (r:Rn):RnL r (bm r).2:=by
 unfold bm
 split
 ·split
  ·exact mX _ _
  ·exact ⟨rfl,rfl,rfl⟩
 ·exact ⟨rfl,rfl,rfl⟩
theorem wo (most:Nat) (r:Rn):RnL r (ee most r).2:=by
 have h:=kM r;unfold ee;generalize bm r=p at *;simp only
 split
 ·cases fO most p.1 with
  | none=>exact h.trans (mX _ _)
  | some n=>exact h
 ·exact h
theorem WX (b:aS) (r:Rn):RnL r (c6 b r):=by
 unfold c6
 split
 ·split
  ·exact ⟨rfl,rfl,rfl⟩
  ·exact mX _ _
 ·exact ⟨rfl,rfl,rfl⟩
def fJ (b:Int):Prop:=-9223372036854775808≤b∧b<9223372036854775808
theorem uw (sg:aS→aS→aS→Bool) (key sig msg:aS) (r:Rn) (h:fJ r.bud) (hk:StOk r.main r.alt):(fb sg key sig msg r).2.br=r.br∧(fb sg key sig msg r).2.cl=r.cl∧fJ (fb sg key sig msg r).2.bud∧StOk (fb sg key sig msg r).2.main (fb sg key sig msg r).2.alt:=by
 have bd:¬ r.bud<50→fJ (r.bud - 50):=fun hh=>⟨by have:=h.2;omega,by have:=h.2;omega⟩;unfold fb
 split
 ·split
  ·have:=mX 21 r;exact ⟨this.br,this.cl,by rw [this.bud];exact h,fQ hk⟩
  ·split
   ·exact ⟨rfl,rfl,bd ‹_›,hk⟩
   ·have:=mX 20 { r with bud:=r.bud - 50 };exact ⟨this.br,this.cl,by rw [this.bud];exact bd ‹_›,fQ hk⟩
 ·exact ⟨rfl,rfl,h,hk⟩
theorem EQ {r:Rn} (h:StOk r.main r.alt):-2147483648<(ee 4 r).1∧(ee 4 r).1<2147483648:=by
 obtain ⟨_,_,hb⟩:=dD h;unfold ee;generalize bm r=p at *;simp only
 split
 ·cases hd:fO 4 p.1 with
  | none=>simp only;omega
  | some n=>exact D7 hb hd
 ·simp only;omega
structure RnE (F:RnF) (x:Rx):Prop where
 hi:F.inner.length=32
 hs:F.script.length≤100000
 ml:x.msg.length=32
 mb:bytes x.msg
 mg:∃ me:Int,av Tryz.prog 43 [.agg (eS F.t (F.n:Int) F.coins),.d (nb (jT F.script)),.d (nb F.annex)] (fun v=>v=.tup [.agg (cb x.msg),.d (.int .i64 me)])
 vf:TJ x.sg
 tl:x.tpl.length=32
 tb:bytes x.tpl
 tg:∃ te:Int,av Tryz.prog 18 [.agg (eT F.t),.d (.int .i64 (F.n:Int))] (fun v=>v=.tup [.agg (cb x.tpl),.d (.int .i64 te)])
 rc:∀ (h:aS) (o:Int),bytes h→h.length≤1000→av Tryz.prog 234 [.agg (eS F.t (F.n:Int) F.coins),.d (nb h),.d (.int .i64 o)] (fun v=>v=NS (x.rcv h o))
 tr:∀ (s:aS) (o0 o1 back:Int),bytes s→s.length≤100000→-9223372036854775808≤back→back<9223372036854775808→av Tryz.prog 27 [.agg (eS F.t (F.n:Int) F.coins),cN F.inner F.path F.script,.d (nb s),.agg [.d (.int .i64 o0),.d (.int .i64 o1)],.d (.int .i64 back)]
  (fun v=>v=.tup [.d (.ro 2 ((x.trg s o0 o1 back).1.map dm)),.d (.int .i64 (x.trg s o0 o1 back).2)])∧(x.trg s o0 o1 back).1.length≤2
 sq:∃ i:Ip,F.t.ins[F.n]?=some i∧i.ok∧x.seq=(i.seq:Int)
 lk:F.t.lock<4294967296∧x.lock=(F.t.lock:Int)
 vr:F.t.ver<4294967296∧x.ver=(F.t.ver:Int)
 hh:x.h1=bo∧x.h2=dN
theorem KR {C:List AV} (hC:iq C) {N:Nat} {g:FuncId} {s:RnS} {ars:List AV} {R:AV→RnS→Prop} {K:AV→Hp→Prop} (h:cJ Tryz.prog 3 (aF C) g s (.ptr 0 0 0 1 :: ars) R) (hN:3≤N) (has:AV.renL (bO (jV 3 id id) 3) ars=ars)
  (hK:∀ v s' ρ,R v s'→(∀ j,j<3→ρ j=j)→K (v.ren ρ) (gR 3 (aF C) s' id)):sx Tryz.prog g (.ptr 0 0 0 1 :: ars) (gR 3 (aF C) s id) N K:=by
 refine sG (Pp:=[]) (rk hC) h (aQ 3) (fun j hj=>by show j<N;omega) aw ?_ hK;rw [AV.renL,has,AV.ren];rfl
theorem sP (F:RnF) (x:Rx) (E:RnE F x) (op:Nat) (ho:op=172 ∨ op=173 ∨ op=186 ∨ op=204) (r:Rn) (J:List Bool) (H:Nat) (hk:StOk r.main r.alt) (hbd:fJ r.bud) :
  cJ Tryz.prog 3 (aF (gv F)) 198 ⟨r,J,H⟩ [.ptr 0 0 0 1,.d (.int .u8 (op:Int))] (fun v s'=>s'=⟨pS x op r,J,H⟩):=by
 refine am Tryz.func198 (by kernel_rfl) rfl Tryz.ntmps198 (rs:=[]) rfl (dV rfl) (by decide) ?_;have hC:=ec (F:=F) E.hi;have hl:=hC.2.2;obtain ⟨me,hM⟩:=E.mg;have hta:=j6 hC r J H hk;obtain ⟨hk2,hb1,hb2⟩:=dD hk;have hbd2:fJ (bm r).2.bud:=by rw [(kM r).bud];exact hbd
 unfold pS;generalize bm r=p at *;obtain ⟨key,r2⟩:=p;simp only at hta hk2 hb1 hb2 hbd2 ⊢;rcases ho with rfl | rfl | rfl | rfl
 ·have hT:=True.intro;have htb:=j6 hC r2 J H hk2;obtain ⟨hk3,hc21,hc22⟩:=dD hk2;have hbd3:fJ (bm r2).2.bud:=by rw [(kM r2).bud];exact hbd2
  generalize bm r2=p at *;obtain ⟨sig,r3⟩:=p;simp only at htb hk3 hc21 hc22 hbd3 ⊢;have hsg:=uv F x E.hi E.hs E.ml E.mb me hM x.sg E.vf r3 J H key sig hb2 hc22 hb1 hc21 hbd3.1 hbd3.2;obtain ⟨_,_,_,hk9⟩:=uw x.sg key sig x.msg r3 hbd3 hk3;generalize fb x.sg key sig x.msg r3=p at *;obtain ⟨b,r9⟩:=p;simp only at hsg hk9 ⊢;have hpu:=oO hC r9 J H hk9 (iH b) (by cases b <;> simp [iH]);simp [go_sem];refine dO (Pp:=[]) hC hta aq aw (by simp [AV.renL,AV.ren]) ?_;rintro v s' ρ ⟨rfl,rfl⟩ hρ;simp [go_sem,AV.ren,pB];refine dO (Pp:=[]) hC htb aq aw (by simp [AV.renL,AV.ren]) ?_;rintro v s' ρ ⟨rfl,rfl⟩ hρ;simp [go_sem,AV.ren,pB];refine KR hC hsg aq rfl ?_;rintro v s' ρ ⟨rfl,rfl⟩ hρ;simp [go_sem,AV.ren];refine ag (lG b) a9 ?_;simp [go_sem];refine aN (Pp:=[]) hC hpu (List.nil_append _).symm aq aw (by simp [AV.renL,AV.ren]) ?_;rintro v s' ρ rfl hρ;rw [bA];generalize c6 (iH b) r9=r';simp only [aF,bC,bB,id];simp [go_sem,ah];exact aB rfl rfl rfl
 ·have hT:=True.intro;have htb:=j6 hC r2 J H hk2;obtain ⟨hk3,hc21,hc22⟩:=dD hk2;have hbd3:fJ (bm r2).2.bud:=by rw [(kM r2).bud];exact hbd2
  generalize bm r2=p at *;obtain ⟨sig,r3⟩:=p;simp only at htb hk3 hc21 hc22 hbd3 ⊢;have hsg:=uv F x E.hi E.hs E.ml E.mb me hM x.sg E.vf r3 J H key sig hb2 hc22 hb1 hc21 hbd3.1 hbd3.2;obtain ⟨_,_,_,hk9⟩:=uw x.sg key sig x.msg r3 hbd3 hk3;generalize fb x.sg key sig x.msg r3=p at *;obtain ⟨b,r9⟩:=p;simp only at hsg hk9 ⊢;simp [go_sem];refine dO (Pp:=[]) hC hta aq aw (by simp [AV.renL,AV.ren]) ?_;rintro v s' ρ ⟨rfl,rfl⟩ hρ;simp [go_sem,AV.ren,pB];refine dO (Pp:=[]) hC htb aq aw (by simp [AV.renL,AV.ren]) ?_;rintro v s' ρ ⟨rfl,rfl⟩ hρ;simp [go_sem,AV.ren,pB];refine KR hC hsg aq rfl ?_;rintro v s' ρ ⟨rfl,rfl⟩ hρ
  cases b with
  | true =>
   simp [go_sem,AV.ren];rw [bA];exact aB rfl rfl rfl
  | false =>
   simp [go_sem,AV.ren];refine aN (Pp:=[]) hC (bw hC r9 J H 16) (List.nil_append _).symm aq aw (by simp [AV.renL,AV.ren]) ?_;rintro v s' ρ rfl hρ;rw [bA];generalize au 16 r9=r';simp only [aF,bC,bB,id];simp [go_sem,ah];exact aB rfl rfl rfl
 ·have hT:=True.intro;have hnb:=rU hC r2 J H hk2 4 aq;have hk3:=lQ (most:=4) hk2;have hbd3:fJ (ee 4 r2).2.bud:=by rw [(wo 4 r2).bud];exact hbd2
  have hn31:=EQ hk2;generalize ee 4 r2=p at *;obtain ⟨n,r3⟩:=p;simp only at hnb hk3 hbd3 hn31 ⊢;have htb:=j6 hC r3 J H hk3;obtain ⟨hk4,hc31,hc32⟩:=dD hk3;have hbd4:fJ (bm r3).2.bud:=by rw [(kM r3).bud];exact hbd3
  generalize bm r3=p at *;obtain ⟨sig,r4⟩:=p;simp only at htb hk4 hc31 hc32 hbd4 ⊢;have hsg:=uv F x E.hi E.hs E.ml E.mb me hM x.sg E.vf r4 J H key sig hb2 hc32 hb1 hc31 hbd4.1 hbd4.2;obtain ⟨_,_,_,hk9⟩:=uw x.sg key sig x.msg r4 hbd4 hk4;generalize fb x.sg key sig x.msg r4=p at *;obtain ⟨b,r9⟩:=p;simp only at hsg hk9 ⊢;have w1:IntKind.i64.wrap (n+1)=n+1:=IntWalk.i64_in _ (by have:=hn31.1;have:=hn31.2;omega);simp [go_sem];refine dO (Pp:=[]) hC hta aq aw (by simp [AV.renL,AV.ren]) ?_;rintro v s' ρ ⟨rfl,rfl⟩ hρ;simp [go_sem,AV.ren,pB];refine dO (Pp:=[]) hC hnb aq aw (by simp [AV.renL,AV.ren]) ?_;rintro v s' ρ ⟨rfl,rfl⟩ hρ;simp [go_sem,AV.ren,pB];refine dO (Pp:=[]) hC htb aq aw (by simp [AV.renL,AV.ren]) ?_;rintro v s' ρ ⟨rfl,rfl⟩ hρ;simp [go_sem,AV.ren,pB];refine KR hC hsg aq rfl ?_;rintro v s' ρ ⟨rfl,rfl⟩ hρ
  cases b with
  | true =>
   have hpu:=oO hC r9 J H hk9 (gf (n+1)) (by have:=kU (n+1);omega);simp [go_sem,AV.ren,w1];refine ag (lu (n+1) (by have:=hn31.1;omega) (by have:=hn31.2;omega)) a9 ?_;simp [go_sem];refine aN (Pp:=[]) hC hpu (List.nil_append _).symm aq aw (by simp [AV.renL,AV.ren]) ?_;rintro v s' ρ rfl hρ;rw [bA];generalize c6 (gf (n+1)) r9=r';simp only [aF,bC,bB,id];simp [go_sem,ah];exact aB rfl rfl rfl
  | false =>
   have hpu:=oO hC r9 J H hk9 (gf (n)) (by have:=kU (n);omega);simp [go_sem,AV.ren,w1];refine ag (lu (n) (by have:=hn31.1;omega) (by have:=hn31.2;omega)) a9 ?_;simp [go_sem];refine aN (Pp:=[]) hC hpu (List.nil_append _).symm aq aw (by simp [AV.renL,AV.ren]) ?_;rintro v s' ρ rfl hρ;rw [bA];generalize c6 (gf (n)) r9=r';simp only [aF,bC,bB,id];simp [go_sem,ah];exact aB rfl rfl rfl
 ·have hT:=True.intro;have hmb:=j6 hC r2 J H hk2;obtain ⟨hk3,hc21,hc22⟩:=dD hk2;have hbd3:fJ (bm r2).2.bud:=by rw [(kM r2).bud];exact hbd2
  generalize bm r2=p at *;obtain ⟨msg,r3⟩:=p;simp only at hmb hk3 hc21 hc22 hbd3 ⊢;have htb:=j6 hC r3 J H hk3;obtain ⟨hk4,hc31,hc32⟩:=dD hk3;have hbd4:fJ (bm r3).2.bud:=by rw [(kM r3).bud];exact hbd3
  generalize bm r3=p at *;obtain ⟨sig,r4⟩:=p;simp only at htb hk4 hc31 hc32 hbd4 ⊢;have hsg:=KQ hC msg hc22 hc21 x.sg E.vf r4 J H key sig hb2 hc32 hb1 hc31 hbd4.1 hbd4.2;obtain ⟨_,_,_,hk9⟩:=uw x.sg key sig msg r4 hbd4 hk4;generalize fb x.sg key sig msg r4=p at *;obtain ⟨b,r9⟩:=p;simp only at hsg hk9 ⊢;have hpu:=oO hC r9 J H hk9 (iH b) (by cases b <;> simp [iH]);simp [go_sem];refine dO (Pp:=[]) hC hta aq aw (by simp [AV.renL,AV.ren]) ?_;rintro v s' ρ ⟨rfl,rfl⟩ hρ;simp [go_sem,AV.ren,pB];refine dO (Pp:=[]) hC hmb aq aw (by simp [AV.renL,AV.ren]) ?_;rintro v s' ρ ⟨rfl,rfl⟩ hρ;simp [go_sem,AV.ren,pB];refine aN (Pp:=[(452,⟨31,1,[[.d (nb msg)]]⟩)]) hC htb rfl aq (by intro p hp;simp at hp;subst hp;simp) (by simp [AV.renL,AV.ren]) ?_;rintro v s' ρ ⟨rfl,rfl⟩ hρ;simp [go_sem,AV.ren,U0]
  refine Qj hC [452] [] (s:=⟨r4,J,H⟩) (ars2:=[.d (nb key),.d (nb sig),.fn 228 [.rop [nb msg]]]) hsg aq (qh rfl rfl rfl) rfl
   (qi (.inl rfl) (qi (.inl rfl) (qi (.inr (.fnp (b:=⟨31,1,[[.d (nb msg)]]⟩) aw rfl rfl rfl (qG [nb msg]))) EM))) aw (fun ρ=>rfl) ?_
  rintro v s' ρ ⟨rfl,rfl⟩ hρ;simp [go_sem,AV.ren];refine ag (lG b) a9 ?_;simp [go_sem];refine aN (Pp:=[]) hC hpu (List.nil_append _).symm aq aw (by simp [AV.renL,AV.ren]) ?_;rintro v s' ρ rfl hρ;rw [bA];generalize c6 (iH b) r9=r';simp only [aF,bC,bB,id];simp [go_sem,ah];exact aB rfl rfl rfl
theorem ke:∀ (j:Nat) (r:Rn),cy (j+1) r=((bm (cy j r).2).1 :: (cy j r).1,(bm (cy j r).2).2)
 | 0,r=>rfl
 | j+1,r=>by
  have h:=ke j (bm r).2;rw [cy,h];rfl
theorem nO:∀ (j:Nat) (r:Rn),(cy j r).1.length=j
 | 0,r=>rfl
 | j+1,r=>by rw [ke,List.length_cons,nO j r]
theorem uy {r:Rn} (h:StOk r.main r.alt):∀ j,StOk (cy j r).2.main (cy j r).2.alt∧∀ x,x ∈ (cy j r).1→x.length≤1000∧bytes x
 | 0=>⟨h,fun x hx=>by cases hx⟩
 | j+1=>by
  obtain ⟨h1,h2⟩:=uy h j;obtain ⟨h3,h4,h5⟩:=dD h1;rw [ke];refine ⟨h3,fun x hx=>?_⟩;rcases et.1 hx with rfl | hx
  ·exact ⟨h4,h5⟩
  ·exact h2 x hx
theorem ER:∀ (j:Nat) (r:Rn),RnL r (cy j r).2
 | 0,r=>⟨rfl,rfl,rfl⟩
 | j+1,r=>by rw [ke];exact (ER j r).trans (kM _)
def yk (k:Nat) (l:List aS):List (List AV):=List.replicate k [AV.nil] ++ l.map nB
theorem OU (k:Nat) (x:aS) (l:List aS):(yk (k+1) l).set k [.d (nb x)]=yk k (x :: l):=by
 unfold yk;rw [List.set_append_left _ _ aw];rw [List.replicate_succ',List.set_append_right _ _ aw];simp [nB]
theorem OV (l:List aS):yk 0 l=cF l []:=by simp [yk,cF]
theorem KT {C:List AV} (hC:iq C) (r:Rn) (J:List Bool) (H:Nat) (hk:StOk r.main r.alt) (n:Int) (hn1:-2147483648<n) (hn2:n<2147483648) :
  cB Tryz.prog 232 3 (gR 3 (aF C) ⟨r,J,H⟩ id) [.ptr 0 0 0 1,.d (.int .i64 n)] (fun v hp'=>sk 3 (aF C) ⟨(ig n r).2,J,H⟩ id hp' ∧
   ((v=.nil∧(ig n r).2.e ≠ 0) ∨ (v=.own 548 0 (ig n r).1.length (ig n r).1.length∧lk 548 hp'=some ⟨31,1,cF (ig n r).1 []⟩))):=by
 refine am Tryz.func232 (by kernel_rfl) rfl Tryz.ntmps232 (rs:=[.tmp 4]) rfl (dV rfl) (by decide) ?_;have hl:=hC.2.2;by_cases h0:n<0 ∨ (r.main.length:Int)<n
 ·have hv:ig n r=([],au 12 r):=by
   unfold ig;rw [if_pos h0];exact if_neg (xT aq)
  have hne:(au 12 r).e ≠ 0:=xT aq;have hf:=bw hC r J H 12;rw [hv];generalize au 12 r=r2 at *;rw [bA];simp only [aF,bC,bB,id];have tail:True:=trivial;by_cases hn0:n<0
  ·simp [go_sem,hl,hn0];refine aN (Pp:=[]) (s:=⟨r,J,H⟩) hC hf (by simp [bA,aF,bC,bB]) aq aw (by simp [AV.renL,AV.ren]) ?_;rintro v s' ρ rfl hρ;simp [go_sem];refine dO (Pp:=[]) hC (eu hC r2 J H) aq aw (by simp [AV.renL,AV.ren]) ?_;rintro v s' ρ ⟨rfl,rfl⟩ hρ;simp [go_sem,AV.ren,hne,ah];rw [bA];exact aB rfl rfl rfl
  ·have hn3:(r.main.length:Int)<n:=h0.resolve_left hn0;simp [go_sem,hl,hn0,hn3];refine aN (Pp:=[]) (s:=⟨r,J,H⟩) hC hf (by simp [bA,aF,bC,bB]) aq aw (by simp [AV.renL,AV.ren]) ?_;rintro v s' ρ rfl hρ;simp [go_sem];refine dO (Pp:=[]) hC (eu hC r2 J H) aq aw (by simp [AV.renL,AV.ren]) ?_;rintro v s' ρ ⟨rfl,rfl⟩ hρ;simp [go_sem,AV.ren,hne,ah];rw [bA];exact aB rfl rfl rfl
 ·have hn0:¬ n<0:=fun h=>h0 (.inl h);have hn3:¬ (r.main.length:Int)<n:=fun h=>h0 (.inr h);obtain ⟨m,rfl⟩:∃ m:Nat,n=(m:Int):=⟨n.toNat,aq⟩;have hm:m≤1000:=by have:=hk.m;omega
  have hn4:¬ r.main.length<m:=aq;rw [bA];simp only [aF,bC,bB,id];simp [go_sem,hl,hn0,hn3,hn4];refine aN (Pp:=[]) (s:=⟨r,J,H⟩) hC (eu hC r J H) (by simp [bA,aF,bC,bB]) aq aw (by simp [AV.renL,AV.ren]) ?_;rintro v s' ρ ⟨rfl,rfl⟩ hρ;by_cases he:r.e=0
  ·have hv:ig (m:Int) r=cy m r:=by
    unfold ig;rw [if_neg h0];exact if_pos he
   rw [hv];have w1:IntKind.i64.wrap ((m:Int) - 1)=(m:Int) - 1:=IntWalk.i64_in _ aq;simp [go_sem,AV.ren,he,w1];refine ⟨aq,aq,aq,?_⟩
   have hlw:∀ k l,∀ q,q ∈ yk k l→∀ v,v ∈ q→v.low1 9000:=by
    intro k l q hq v hv;rcases cL.1 hq with h | h
    ·rw [List.eq_of_mem_replicate h] at hv;simp only [et,List.mem_nil_iff,or_false] at hv;subst hv;trivial
    ·obtain ⟨x,_,rfl⟩:=List.mem_map.1 h;simp only [nB,et,List.mem_nil_iff,or_false] at hv;subst hv;trivial
   have hwk:∀ (fr:Fr) (hp:Hp) (nx j:Nat),(fv 0 fr=.ptr 0 0 0 1∧fv 5 fr=.own 548 0 m m∧fv 6 fr=.d (.int .i64 ((m:Int) - 1 - (j:Int))))→lk 548 hp=some ⟨31,1,yk (m - j) (cy j r).1⟩→(∀ p,p ∈ gR 3 (aF C) ⟨(cy j r).2,J,H⟩ id→lk p.1 hp=some p.2) →
     ay ⟨fr,hp,nx⟩ ⟨[(0,.ptr 0 0 0 1),(5,.own 548 0 m m),(6,.d (.int .i64 ((m:Int) - 1 - (j:Int))))],(548,⟨31,1,yk (m - j) (cy j r).1⟩) :: gR 3 (aF C) ⟨(cy j r).2,J,H⟩ id,9000⟩:=by
    rintro fr hp nx j ⟨q0,q1,q2⟩ h1 h2;refine ⟨?_,fun p hp'=>?_,.inr (by show 64≤9000;omega)⟩
    ·intro p hp';simp only [et,List.mem_nil_iff,or_false] at hp';rcases hp' with rfl | rfl | rfl
     ·exact ⟨.inl q0.symm,by simp [AV.low,AV.low1]⟩
     ·exact ⟨.inl q1.symm,by simp [AV.low,AV.low1]⟩
     ·exact ⟨.inl q2.symm,by simp [AV.low,AV.low1]⟩
    ·rcases et.1 hp' with rfl | hp'
     ·exact ⟨.inl h1,by show 548<9000;omega,hlw _ _⟩
     ·exact WW hC (dV rfl) h2 p hp'
   refine ax (fun j:Nat=>⟨[(0,.ptr 0 0 0 1),(5,.own 548 0 m m),(6,.d (.int .i64 ((m:Int) - 1 - (j:Int))))],(548,⟨31,1,yk (m - j) (cy j r).1⟩) :: gR 3 (aF C) ⟨(cy j r).2,J,H⟩ id,9000⟩)
    (fun j=>j≤m) (fun j=>m - j) 0 aq (hwk _ _ _ 0 (by simp [fv,lk]) (by simp [lk,yk,cy]) (qh rfl rfl rfl)) ?_
   intro j hj;by_cases hjm:j=m
   ·subst hjm;have c0:¬ (0:Int)≤(j:Int) - 1 - (j:Int):=aq;have c1:((j:Int) - 1 - (j:Int))<0:=aq;simp [go_sem,c0,c1,ah];refine ⟨fun h=>aq,fun _=>⟨?_,(nO _ _).symm,OV _⟩⟩;rw [bA];exact aB rfl rfl rfl
   ·have hjm2:j<m:=aq;have e1:(m:Int) - 1 - (j:Int)=((m - (j+1):Nat):Int):=aq;obtain ⟨hkj,hxj⟩:=uy hk j;have hsn:=ke j r;have hlen:(yk (m - j) (cy j r).1).length=m:=by simp [yk,nO];omega
    have hset:(yk (m - j) (cy j r).1).set (m - (j+1)) [.d (nb (bm (cy j r).2).1)]=yk (m - (j+1)) (cy (j+1) r).1:=by
     rw [hsn,show m - j=(m - (j+1))+1 by omega];exact OU _ _ _
    have hat:(yk (m - j) (cy j r).1)[m - (j+1)]?=some [.nil]:=by
     unfold yk;rw [List.getElem?_append_left (by simp;omega),List.getElem?_replicate,if_pos aq]
    have hsg:∀ h:m - (j+1)<(yk (m - j) (cy j r).1).length,(yk (m - j) (cy j r).1)[m - (j+1)]=[.nil]:=fun h=>Option.some.inj ((cm h).symm.trans hat);have hta:=j6 hC (cy j r).2 J H hkj;have w2:IntKind.i64.wrap (((m - (j+1):Nat):Int) - 1)=(m:Int) - 1 - ((j+1:Nat):Int):=by rw [IntWalk.i64_in _ aq];omega
    have hlt:m - (j+1)<m:=aq;have hlti:((m - (j+1):Nat):Int)<(m:Int):=aq;rw [e1];generalize hq:m - (j+1)=q at *;simp [go_sem];refine aN (Pp:=[(548,⟨31,1,yk (m - j) (cy j r).1⟩)]) hC hta rfl aq (by intro p hp;simp at hp;subst hp;simp) (by simp [AV.renL,AV.ren]) ?_;rintro v s' ρ ⟨rfl,rfl⟩ hρ;simp [go_sem,AV.ren,hlen,hlt,hlti,w2,hat,hsg,hset];refine al (j+1) aq aq (hwk _ _ _ (j+1) (by simp [fv,lk]) ?_ ?_)
    ·rw [hq];simp [lk,hset]
    ·rw [hsn];exact qh rfl rfl rfl
  ·have hv:ig (m:Int) r=([],r):=by
    unfold ig;rw [if_neg h0];exact if_neg he
   rw [hv];simp [go_sem,AV.ren,he,ah];rw [bA];exact aB rfl rfl rfl
theorem TL {C:List AV} (hC:iq C) (r:Rn) (J:List Bool) (H:Nat) (hk:StOk r.main r.alt) (n:Int) (hn1:-2147483648<n) (hn2:n<2147483648) {N:Nat} {K:AV→Hp→Prop} (hN:3≤N)
  (h1:(ig n r).2.e ≠ 0→K .nil (gR 3 (aF C) ⟨(ig n r).2,J,H⟩ id))
  (h2:K (.own N 0 (ig n r).1.length (ig n r).1.length) ((N,⟨31,1,cF (ig n r).1 []⟩) :: gR 3 (aF C) ⟨(ig n r).2,J,H⟩ id)):sx Tryz.prog 232 [.ptr 0 0 0 1,.d (.int .i64 n)] (gR 3 (aF C) ⟨r,J,H⟩ id) N K:=by
 have ho:=rk hC;have hid:∀ j,j<3→bO (jV 3 id id) 3 (id j)=j:=fun j hj=>sF id 3 (aQ 3) hj;have hnw:cK (jV 3 id id) [(548,0)]=true:=BL aq;have h548:vV 3 id [(548,0)] N 548=N:=xw (c:=548) (j:=0) hnw aw
 refine .inl (nA (n:=3) (b0:=aF C ⟨r,J,H⟩ id) id (KT hC r J H hk n hn1 hn2) (fun i x hi=>DO i x hi) (aQ 3) (fun j hj=>by show j<N;omega)
  (fun j hj=>⟨_,xq _ (aQ 3) hj,ho.2 _ _ _ hj,(ho.1 _ id _ id j hj hid).symm⟩) ?_ [(548,0)] hnw ?_)
 ·rw [AV.renL,AV.renL,AV.renL,AV.ren];rfl
 ·rintro r' hp' ⟨hs',hv⟩ hpX q1 q2 q3;have hro:∀ j,j<3→vV 3 id [(548,0)] N (id j)=id j:=fun j hj=>xu hnw hj
  have ob:∀ i b,lk i (gR 3 (aF C) ⟨(ig n r).2,J,H⟩ id)=some b→lk i hpX=some b:=by
   intro i b h;obtain ⟨j,hj,e⟩:=lA.1 (bH h)
   cases e
   have h2:=q1 j hj _ (hs' j hj);rw [ho.1 _ id _ id j hj hro] at h2;exact h2
  rcases hv with ⟨rfl,he⟩ | ⟨rfl,hb⟩
  ·exact ⟨_,ob,h1 he⟩
  ·refine ⟨_,fun i b h=>?_,by rw [AV.ren,h548];exact h2⟩;simp only [lk] at h
   split at h
   ·rename_i e;subst e
    cases h
    have h3:=q2 548 0 aw _ hb
    have e:Blk.ren (vV 3 id [(548,0)] N) ⟨31,1,cF (ig n r).1 []⟩=⟨31,1,cF (ig n r).1 []⟩:=by
     simp only [Blk.ren,ku]
    rw [e] at h3;exact h3
   ·exact ob i b h
theorem WY {b:aS} {n:Int} (hb:bytes b) (h:fO 8 b=some n):-9223372036854775808≤n∧n<9223372036854775808:=by
 unfold fO at h
 split at h
 ·rename_i h1;obtain rfl:=Option.some.inj h;have hl:b.length≤8:=aq;rcases eo b with rfl | ⟨a,x,rfl⟩
  ·decide
  ·have hx:x<256:=hb x aw;have ha:=qV (b:=a) (fun y hy=>hb y (List.mem_append_left _ hy));simp at hl;rw [ny];have hc:a.length=0 ∨ a.length=1 ∨ a.length=2 ∨ a.length=3 ∨ a.length=4 ∨ a.length=5 ∨ a.length=6 ∨ a.length=7:=aq;rcases hc with e | e | e | e | e | e | e | e <;> rw [e] at ha ⊢ <;> simp at ha ⊢ <;> split <;> omega
 ·cases h
theorem KU {r:Rn} (h:StOk r.main r.alt):-9223372036854775808≤(ee 8 r).1∧(ee 8 r).1<9223372036854775808:=by
 obtain ⟨_,_,hb⟩:=dD h;unfold ee;generalize bm r=p at *;simp only
 split
 ·cases hd:fO 8 p.1 with
  | none=>simp only;omega
  | some n=>exact WY hb hd
 ·simp only;omega
theorem KV {most:Nat} {r:Rn} (h:r.e ≠ 0):ee most r=(0,r):=by
 have ht:bm r=([],r):=if_neg h;unfold ee;rw [ht];exact if_neg h
theorem KW {r:Rn} (h:StOk r.main r.alt) (n:Int):StOk (ig n r).2.main (ig n r).2.alt∧(∀ x,x ∈ (ig n r).1→x.length≤1000∧bytes x)∧(ig n r).1.length≤1000∧RnL r (ig n r).2:=by
 unfold ig;simp only
 split
 ·rename_i hb
  split
  ·rename_i he;exact absurd he (xT aq)
  ·exact ⟨fQ h,fun x hx=>(by cases hx),aw,mX _ _⟩
 ·rename_i hb
  split
  ·obtain ⟨h1,h2⟩:=uy h n.toNat
   exact ⟨h1,h2,by rw [nO];have:=h.m;omega,ER _ _⟩
  ·exact ⟨h,fun x hx=>(by cases hx),aw,⟨rfl,rfl,rfl⟩⟩
theorem CW {l:List aS} {b:aS} (h:(qR l b).2=0):(qR l b).1.length≤1000:=by
 unfold qR at h ⊢
 cases hu:tB [] l with
 | none=>rw [hu] at h;simp at h
 | some out =>
  rw [hu] at h;simp only at h ⊢
  split at h
  ·simp at h
  ·rename_i h2;rw [if_neg h2];simp only;omega
theorem OW (F:RnF) (x:Rx) (E:RnE F x) (r:Rn) (J:List Bool) (hk:StOk r.main r.alt) (hc:r.cl.length≤100000) :
  cJ Tryz.prog 3 (aF (gv F)) 202 ⟨r,J,0⟩ [.ptr 0 0 0 1] (fun v s'=>s'=⟨B7 x r,J,0⟩):=by
 refine am Tryz.func202 (by kernel_rfl) rfl Tryz.ntmps202 (rs:=[]) rfl (dV rfl) (by decide) ?_;have hC:=ec (F:=F) E.hi;have hl:=hC.2.2;unfold B7;have h1:=rU hC r J 0 hk 4 aq;have k1:=lQ (most:=4) hk;have n1:=EQ hk;have l1:=wo 4 r;generalize ee 4 r=p1 at *;obtain ⟨n,r1⟩:=p1;simp only at h1 k1 n1 l1 ⊢;have h2:=j6 hC r1 J 0 k1;obtain ⟨k2,b1,b2⟩:=dD k1;have l2:=kM r1;generalize bm r1=p2 at *;obtain ⟨b,r2⟩:=p2;simp only at h2 k2 b1 b2 l2 ⊢;obtain ⟨k3,t1,t2,l3⟩:=KW k2 n;have h3:=fun {N:Nat} {K:AV→Hp→Prop} (hN:3≤N)=>TL hC r2 J 0 k2 n n1.1 n1.2 (K:=K) hN;generalize ig n r2=p3 at *;obtain ⟨l,r3⟩:=p3;simp only at h3 k3 t1 t2 l3 ⊢;simp [go_sem];refine dO (Pp:=[]) hC h1 aq aw (by simp [AV.renL,AV.ren]) ?_;rintro v s' ρ ⟨rfl,rfl⟩ hρ;simp [go_sem,AV.ren];refine dO (Pp:=[]) hC h2 aq aw (by simp [AV.renL,AV.ren]) ?_;rintro v s' ρ ⟨rfl,rfl⟩ hρ;simp [go_sem,AV.ren];refine h3 aq (fun he=>?_) ?_
 ·have e1:ee 4 r3=(0,r3):=KV he;have e2:ee 8 r3=(0,r3):=KV he;have m1:=rU hC r3 J 0 k3 4 aq;have m2:=rU hC r3 J 0 k3 8 aq;rw [e1] at m1;rw [e2] at m2;simp only [e1,e2];rw [if_neg he];simp [go_sem];refine aN (Pp:=[]) hC m1 (List.nil_append _).symm aq aw (by simp [AV.renL,AV.ren]) ?_;rintro v s' ρ ⟨rfl,rfl⟩ hρ;simp [go_sem,AV.ren];refine aN (Pp:=[]) hC m1 (List.nil_append _).symm aq aw (by simp [AV.renL,AV.ren]) ?_;rintro v s' ρ ⟨rfl,rfl⟩ hρ;simp [go_sem,AV.ren];refine aN (Pp:=[]) hC m2 (List.nil_append _).symm aq aw (by simp [AV.renL,AV.ren]) ?_;rintro v s' ρ ⟨rfl,rfl⟩ hρ;simp [go_sem,AV.ren];refine aN (Pp:=[]) hC (eu hC r3 J 0) (List.nil_append _).symm aq aw (by simp [AV.renL,AV.ren]) ?_;rintro v s' ρ ⟨rfl,rfl⟩ hρ;simp [go_sem,AV.ren,he];rw [bA];exact aB rfl rfl rfl
 ·have h4:=rU hC r3 J 0 k3 4 aq;have k4:=lQ (most:=4) k3;have l4:=wo 4 r3;generalize ee 4 r3=p4 at *;obtain ⟨o,r4⟩:=p4;simp only at h4 k4 l4 ⊢;have h5:=rU hC r4 J 0 k4 4 aq;have k5:=lQ (most:=4) k4;have l5:=wo 4 r4;generalize ee 4 r4=p5 at *;obtain ⟨t,r5⟩:=p5;simp only at h5 k5 l5 ⊢;have h6:=rU hC r5 J 0 k5 8 aq;have k6:=lQ (most:=8) k5;have l6:=wo 8 r5;have n6:=KU k5;generalize ee 8 r5=p6 at *;obtain ⟨bk,r6⟩:=p6;simp only at h6 k6 l6 n6 ⊢;have hcl:r6.cl.length≤100000:=by rw [l6.cl,l5.cl,l4.cl,l3.cl,l2.cl,l1.cl];exact hc
  have hPB:∀ (N:Nat),261≤N→∀ p,p ∈ [((260:Nat),(⟨31,1,cF l []⟩:Blk))]→p.1<N∧3≤p.1:=by
   intro N hN p hp;simp at hp;subst hp;exact ⟨by show 260<N;omega,by show 3≤260;omega⟩
  simp [go_sem];refine aN (Pp:=[(260,⟨31,1,cF l []⟩)]) hC h4 rfl aq (hPB _ aq) (by simp [AV.renL,AV.ren]) ?_;rintro v s' ρ ⟨rfl,rfl⟩ hρ;simp [go_sem,AV.ren];refine aN (Pp:=[(260,⟨31,1,cF l []⟩)]) hC h5 rfl aq (hPB _ aq) (by simp [AV.renL,AV.ren]) ?_;rintro v s' ρ ⟨rfl,rfl⟩ hρ;simp [go_sem,AV.ren];refine aN (Pp:=[(260,⟨31,1,cF l []⟩)]) hC h6 rfl aq (hPB _ aq) (by simp [AV.renL,AV.ren]) ?_;rintro v s' ρ ⟨rfl,rfl⟩ hρ;simp [go_sem,AV.ren];refine aN (Pp:=[(260,⟨31,1,cF l []⟩)]) hC (eu hC r6 J 0) rfl aq (hPB _ aq) (by simp [AV.renL,AV.ren]) ?_;rintro v s' ρ ⟨rfl,rfl⟩ hρ;by_cases he:r6.e=0
  ·rw [if_pos he];have hup:=BH l b t2 (fun y hy=>⟨by have:=(t1 y hy).1;omega,(t1 y hy).2⟩) aq;have hub:=BJ (things:=l) b2 (fun y hy=>⟨by have:=(t1 y hy).1;omega,(t1 y hy).2⟩);have hus:=@CW l b;simp [go_sem,AV.ren,he];refine bL [260] hup rfl (aj (.one (ak (ia (J:=[]) rfl aw))) (aj (.deep trivial) aD)) ?_;have hdr:aC [260] ((260,(⟨31,1,cF l []⟩:Blk)) :: gR 3 (aF (gv F)) ⟨r6,J,0⟩ id)=gR 3 (aF (gv F)) ⟨r6,J,0⟩ id:=rfl;rw [hdr];generalize qR l b=u at *;obtain ⟨s,ue⟩:=u;simp only at hub hus ⊢;by_cases hu:ue=0
   ·subst hu;obtain ⟨hT,hT2⟩:=E.tr s o t bk hub (by have:=hus rfl;omega) n6.1 n6.2;generalize x.trg s o t bk=q at *;obtain ⟨cs,ce⟩:=q;simp only at hT hT2 ⊢;simp only [if_true];have hcm:=EI hC r6 J k6 cs ce hcl aq;simp only [eS,cN] at hT;rw [bA];simp only [aF,bC,bB,id,gv,eS];simp [go_sem];refine b7 [0,1,2,3,4,5,6,7,8,9,10,11,12,13] [(14,[15,16]),(17,[])] 1 (k:=18) ?_;intro G hG;have hlf:(aP F.inner (AV.d (c7 F.path)) (AV.d (nb F.script))).length=34:=by simp [aP,ao,E.hi]
    have hlt:∀ l:List AV,List.take 34 (aP F.inner (AV.d (c7 F.path)) (AV.d (nb F.script)) ++ l)=aP F.inner (AV.d (c7 F.path)) (AV.d (nb F.script)):=fun l=>by rw [← hlf,List.take_left]
    simp [go_sem,hlf,hlt];refine ag hT (by intro v hv;simp at hv;rcases hv with rfl | rfl | rfl | rfl | rfl;simp [AV.deep,AV.deep1];exact cQ F.inner F.path F.script _ (List.mem_singleton.2 rfl);trivial;simp [AV.deep,AV.deep1];trivial) ?_;simp [go_sem];refine aN (Pp:=[]) (s:=⟨r6,J,0⟩) hC hcm (by simp [bA,aF,bC,bB,gv,eS]) aq aw (by simp [AV.renL,AV.ren]) ?_;rintro v s' ρ rfl hρ;simp [go_sem];refine hG _ _ ?_;clear hG G;simp [go_sem];rw [bA];exact aB (by simp [lk,aF,bC,bB,gv,eS]) rfl rfl
   ·rw [if_neg hu];simp [go_sem,hu];refine aN (Pp:=[]) hC (bw hC r6 J 0 ue) (List.nil_append _).symm aq aw (by simp [AV.renL,AV.ren]) ?_;rintro v s' ρ rfl hρ;rw [bA];generalize au ue r6=r';simp only [aF,bC,bB,id];simp [go_sem,ah];exact aB rfl rfl rfl
  ·rw [if_neg he];simp [go_sem,AV.ren,he];rw [bA];exact aB rfl rfl rfl
theorem OX (F:RnF) (x:Rx) (E:RnE F x) (op:Nat) (h8:op<256) (r:Rn) (J:List Bool) (hk:StOk r.main r.alt) (hc:r.cl.length≤100000) (hbd:fJ r.bud) :
  cJ Tryz.prog 3 (aF (gv F)) 172 ⟨r,J,0⟩ [.ptr 0 0 0 1,.d (.int .u8 (op:Int))] (fun v s'=>s'=⟨uK x op r,J,0⟩):=by
 refine am Tryz.func172 (by kernel_rfl) rfl Tryz.ntmps172 (rs:=[]) rfl (dV rfl) (by decide) ?_;have hC:=ec (F:=F) E.hi;have hl:=hC.2.2;obtain ⟨i,hn,hio,hxs⟩:=E.sq;obtain ⟨te,hte⟩:=E.tg;by_cases h106:op=106
 ·subst h106;have hv:uK x 106 r=au 17 r:=rfl;rw [hv];simp [go_sem];refine aN (Pp:=[]) hC (bw hC r J 0 17) (List.nil_append _).symm aq aw (by simp [AV.renL,AV.ren]) ?_;rintro v s' ρ rfl hρ;rw [bA];generalize au 17 r=r';simp only [aF,bC,bB,id];simp [go_sem,ah];exact aB rfl rfl rfl
 by_cases h172:op=172
 ·subst h172;have hv:uK x 172 r=pS x 172 r:=rfl;rw [hv];simp [go_sem];refine aN (Pp:=[]) hC (sP F x E 172 aq r J 0 hk hbd) (List.nil_append _).symm aq aw (by simp [AV.renL,AV.ren]) ?_;rintro v s' ρ rfl hρ;rw [bA];generalize pS x 172 r=r';simp only [aF,bC,bB,id];simp [go_sem,ah];exact aB rfl rfl rfl
 by_cases h173:op=173
 ·subst h173;have hv:uK x 173 r=pS x 173 r:=rfl;rw [hv];simp [go_sem];refine aN (Pp:=[]) hC (sP F x E 173 aq r J 0 hk hbd) (List.nil_append _).symm aq aw (by simp [AV.renL,AV.ren]) ?_;rintro v s' ρ rfl hρ;rw [bA];generalize pS x 173 r=r';simp only [aF,bC,bB,id];simp [go_sem,ah];exact aB rfl rfl rfl
 by_cases h186:op=186
 ·subst h186;have hv:uK x 186 r=pS x 186 r:=rfl;rw [hv];simp [go_sem];refine aN (Pp:=[]) hC (sP F x E 186 aq r J 0 hk hbd) (List.nil_append _).symm aq aw (by simp [AV.renL,AV.ren]) ?_;rintro v s' ρ rfl hρ;rw [bA];generalize pS x 186 r=r';simp only [aF,bC,bB,id];simp [go_sem,ah];exact aB rfl rfl rfl
 by_cases h204:op=204
 ·subst h204;have hv:uK x 204 r=pS x 204 r:=rfl;rw [hv];simp [go_sem];refine aN (Pp:=[]) hC (sP F x E 204 aq r J 0 hk hbd) (List.nil_append _).symm aq aw (by simp [AV.renL,AV.ren]) ?_;rintro v s' ρ rfl hρ;rw [bA];generalize pS x 204 r=r';simp only [aF,bC,bB,id];simp [go_sem,ah];exact aB rfl rfl rfl
 by_cases h177:op=177
 ·subst h177;have hv:uK x 177 r=ua x r:=rfl;rw [hv];simp [go_sem];refine aN (Pp:=[]) hC (KJ F x E.hi i hn hio E.lk.1 E.lk.2 hxs r J 0 hk) (List.nil_append _).symm aq aw (by simp [AV.renL,AV.ren]) ?_;rintro v s' ρ rfl hρ;rw [bA];generalize ua x r=r';simp only [aF,bC,bB,id];simp [go_sem,ah];exact aB rfl rfl rfl
 by_cases h178:op=178
 ·subst h178;have hv:uK x 178 r=BZ x r:=rfl;rw [hv];simp [go_sem];refine aN (Pp:=[]) hC (OR F x E.hi i hn hio E.vr.1 E.vr.2 hxs r J 0 hk) (List.nil_append _).symm aq aw (by simp [AV.renL,AV.ren]) ?_;rintro v s' ρ rfl hρ;rw [bA];generalize BZ x r=r';simp only [aF,bC,bB,id];simp [go_sem,ah];exact aB rfl rfl rfl
 by_cases h179:op=179
 ·subst h179;have hv:uK x 179 r=B5 x r:=rfl;rw [hv];simp [go_sem];refine aN (Pp:=[]) hC (TE F x E.hi E.tl E.tb te hte r J 0 hk) (List.nil_append _).symm aq aw (by simp [AV.renL,AV.ren]) ?_;rintro v s' ρ rfl hρ;rw [bA];generalize B5 x r=r';simp only [aF,bC,bB,id];simp [go_sem,ah];exact aB rfl rfl rfl
 by_cases h187:op=187
 ·subst h187;have hv:uK x 187 r=B7 x r:=rfl;rw [hv];simp [go_sem];refine aN (Pp:=[]) hC (OW F x E r J hk hc) (List.nil_append _).symm aq aw (by simp [AV.renL,AV.ren]) ?_;rintro v s' ρ rfl hρ;rw [bA];generalize B7 x r=r';simp only [aF,bC,bB,id];simp [go_sem,ah];exact aB rfl rfl rfl
 by_cases h188:op=188
 ·subst h188;have hv:uK x 188 r=B6 x r:=rfl;rw [hv];simp [go_sem];refine aN (Pp:=[]) hC (OT F x E.hi E.rc r J hk hc) (List.nil_append _).symm aq aw (by simp [AV.renL,AV.ren]) ?_;rintro v s' ρ rfl hρ;rw [bA];generalize B6 x r=r';simp only [aF,bC,bB,id];simp [go_sem,ah];exact aB rfl rfl rfl
 have i106:¬ (op:Int)=106:=aq;have i172:¬ (op:Int)=172:=aq;have i173:¬ (op:Int)=173:=aq;have i186:¬ (op:Int)=186:=aq;have i204:¬ (op:Int)=204:=aq;have i177:¬ (op:Int)=177:=aq;have i178:¬ (op:Int)=178:=aq;have i179:¬ (op:Int)=179:=aq;have i187:¬ (op:Int)=187:=aq;have i188:¬ (op:Int)=188:=aq
 have hv:uK x op r={ au (vU bo dN op r.main r.alt).2.2 r with main:=(vU bo dN op r.main r.alt).1,alt:=(vU bo dN op r.main r.alt).2.1 }:=by
  unfold uK;rw [E.hh.1,E.hh.2,if_neg h106,if_neg aq,if_neg h177,if_neg h178,if_neg h179,if_neg h187,if_neg h188]
 rw [hv];have hdo:=N3 op h8 r.main r.alt hk.m hk.a (fun y hy=>by have:=(hk.mb y hy).1;omega) (fun y hy=>by have:=(hk.ab y hy).1;omega) (fun y hy=>(hk.mb y hy).2);unfold yB at hdo
 generalize vU bo dN op r.main r.alt=d at *;obtain ⟨m2,a2,e2⟩:=d;simp only at hdo ⊢;have hf:=bw hC r J 0 e2;rw [bA];simp only [aF,bC,bB,id,jA] at *;simp [go_sem,h106,i106,h172,i172,h173,i173,h186,i186,h204,i204,h177,i177,h178,i178,h179,i179,h187,i187,h188,i188,hl];refine ag hdo (by intro v hv;simp at hv;rcases hv with rfl | rfl;trivial;exact eB r.main r.alt) ?_;simp [go_sem];refine aN (Pp:=[(964,⟨155,2,[[.d (.ro 1 (m2.map bJ)),.d (.ro 1 (a2.map bJ))]]⟩)]) (s:=⟨r,J,0⟩) hC hf (by simp [bA,aF,bC,bB]) aq (by intro p hp;simp at hp;subst hp;simp) (by simp [AV.renL,AV.ren]) ?_;rintro v s' ρ rfl hρ;rw [bA];generalize au e2 r=r';have hid2:fx r'=fx { r' with main:=m2,alt:=a2 }:=rfl;simp only [aF,bC,bB,id];simp [go_sem,hl,B9,ah];exact aB rfl rfl rfl
def Qk (l:List aS):Prop:=∀ x,x ∈ l→bytes x
def lc (m:Mc):Prop:=Qk m.main∧Qk m.alt
theorem yl:bytes []:=fun x hx=>(by cases hx)
theorem sQ {l:List aS} (h:Qk l):bytes (l.getLastD []):=by
 rcases l.eq_nil_or_concat with rfl | ⟨a,x,rfl⟩
 ·exact yl
 ·rw [List.concat_eq_append] at h ⊢;rw [List.getLastD_concat];exact h x aw
theorem ym {l:List aS} (h:Qk l) (i:Nat):bytes (l.getD i []):=by
 rw [cS]
 cases hq:l[i]? with
 | none=>exact yl
 | some x=>exact h x (cr hq)
theorem uz {m:Mc} (x:Int) (h:lc m):lc (gw x m):=by unfold gw;split <;> exact h
theorem kE {m:Mc} (n:Nat) (h:lc m):lc (aM n m):=by unfold aM;split;exact uz 12 h;exact h
theorem uA {m:Mc} (h:lc m):lc (de m).2∧bytes (de m).1:=by
 unfold de
 split
 ·exact ⟨⟨fun x hx=>h.1 x ((List.dropLast_sublist _).mem hx),h.2⟩,sQ h.1⟩
 ·exact ⟨kE 1 h,yl⟩
theorem kN {m:Mc} {l:List aS} (hl:Qk l) (h:lc m):lc (dS l m):=⟨fun x hx=>(cL.1 hx).elim (h.1 x) (hl x),h.2⟩
theorem ES {m:Mc} (most:Nat) (x:aS) (h:lc m):lc (fa most x m).2:=by
 unfold fa
 split
 ·cases fO most x with
  | none=>exact uz 15 h
  | some n=>exact h
 ·exact h
theorem yn {m:Mc} (k:Nat) (put:List Nat) (h:lc m):lc (b8 k put m):=by
 unfold b8
 split
 ·refine ⟨fun x hx=>?_,h.2⟩;rcases cL.1 hx with q | q
  ·exact h.1 x (List.mem_of_mem_take q)
  ·obtain ⟨i,_,rfl⟩:=List.mem_map.1 q;exact ym (fun y hy=>h.1 y (List.mem_of_mem_drop hy)) i
 ·exact kE k h
theorem iJ {x:aS} (h:bytes x):Qk [x]:=fun y hy=>by simp at hy;subst hy;exact h
theorem KX {m:Mc} (h:lc m):lc (lw m):=by
 obtain ⟨h1,h2⟩:=uA h;exact ⟨h1.1,fun x hx=>(cL.1 hx).elim (h1.2 x) (iJ h2 x)⟩
theorem OY {m:Mc} (h:lc m):lc (nW m):=by
 unfold nW
 split
 ·exact uz 12 h
 ·exact ⟨fun x hx=>(cL.1 hx).elim (h.1 x) (iJ (sQ h.2) x),fun x hx=>h.2 x ((List.dropLast_sublist _).mem hx)⟩
theorem yo {m:Mc} (c:Bool) (h:lc m):lc (js c m):=by unfold js;split;exact h;exact uz 16 h
theorem ET {m:Mc} (h:lc m):lc (fP m).2:=by
 unfold fP
 split
 ·exact yn 2 [] h
 ·exact kE 2 h
theorem OZ {m:Mc} (h:lc m):lc (nX m):=by
 unfold nX
 split
 ·exact kN (iJ (qS (ym h.1 _) (sQ h.1))) (yn 2 [] h)
 ·exact kE 2 h
theorem EU {m:Mc} (f:aS→aS) (hf:∀ x,bytes (f x)) (h:lc m):lc (kt f m):=by
 unfold kt
 split
 ·exact kN (iJ (hf _)) (uA h).1
 ·exact kE 1 h
theorem EV {m:Mc} (r:Bool) (h:lc m):lc (jr r m):=by
 have h1:=ES 4 (de m).1 (uA h).1;unfold jr;simp only
 split
 ·split
  ·exact uz 12 h1
  ·refine kN (iJ (ym h1.1 _)) ⟨fun x hx=>?_,h1.2⟩
   cases r
   ·exact h1.1 x hx
   ·exact h1.1 x (List.mem_of_mem_eraseIdx hx)
 ·exact h1
theorem KY:∀ (k:Nat) (m:Mc),lc m→lc (lZ k m).2
 | 0,m,h=>h
 | k+1,m,h=>KY k _ (ES 4 _ (uA h).1)
theorem sR {m:Mc} (n:Nat) (h:lc m):lc (dA n m).2:=by
 unfold dA
 split
 ·exact KY n m h
 ·exact kE n h
theorem uB (b:Bool):bytes (iH b):=by cases b;exact yl;intro x hx;simp [iH] at hx;omega
theorem eA {c:Prop} [Decidable c] {x y:Mc} {r:Option Mc} (h:(if c then some x else r)=some y) (hx:lc x) (hr:r=some y→lc y):lc y:=by
 split at h
 ·cases h;exact hx
 ·exact hr h
theorem TM {op:Nat} {m m':Mc} (h:iI op m=some m') (hs:lc m):lc m':=by
 unfold iI at h;refine eA h hs fun h=>?_;refine eA h (KX hs) fun h=>?_;refine eA h (OY hs) fun h=>?_
 iterate 13 refine eA h (yn _ _ hs) fun h=>?_
 cases h
theorem WZ {op:Nat} {m m':Mc} (h:uJ bo dN op m=some m') (hs:lc m):lc m':=by
 unfold uJ at h;refine eA h (EV _ hs) fun h=>?_;refine eA h (EV _ hs) fun h=>?_;refine eA h (yo _ (uA hs).1) fun h=>?_;refine eA h ?_ fun h=>?_
 ·split
  ·split
   ·exact kN (iJ (sQ hs.1)) hs
   ·exact hs
  ·exact kE 1 hs
 refine eA h (kN (iJ (gh _)) hs) fun h=>?_;refine eA h (OZ hs) fun h=>?_;refine eA h ?_ fun h=>?_
 ·split
  ·exact kN (iJ (gh _)) hs
  ·exact kE 1 hs
 refine eA h (kN (iJ (uB _)) (ET hs)) fun h=>?_;refine eA h (yo _ (ET hs)) fun h=>?_;refine eA h (EU _ iG hs) fun h=>?_;refine eA h (EU _ (fun _=>iG _) hs) fun h=>?_
 cases h
theorem TN {op:Nat} {m m':Mc} (h:nS op m=some m') (hs:lc m):lc m':=by
 unfold nS at h
 split at h
 ·obtain rfl:=Option.some.inj h;exact kN (iJ (uB _)) (sR 3 hs)
 ·split at h
  ·obtain rfl:=Option.some.inj h;exact kN (iJ (gh _)) (sR 1 hs)
  ·split at h
   ·cases h
   ·obtain rfl:=Option.some.inj h;simp only
    split
    ·exact yo _ (sR 2 hs)
    ·exact kN (iJ (gh _)) (sR 2 hs)
theorem ik {main alt:List aS} (h:fl main alt=0):(∀ x,x ∈ main→x.length≤520)∧(∀ x,x ∈ alt→x.length≤520)∧main.length+alt.length≤100:=by
 unfold fl at h
 split at h
 ·rename_i hc;simp only [Bool.and_eq_true,d9,decide_eq_true_eq] at hc
  split at h
  ·exact ⟨hc.1,hc.2,‹_›⟩
  ·simp at h
 ·simp at h
theorem KZ {main alt:List aS} (h:fl main alt=0) (h1:Qk main) (h2:Qk alt):StOk main alt:=by
 obtain ⟨a,b,c⟩:=ik h;exact ⟨aq,aq,fun x hx=>⟨by have:=a x hx;omega,h1 x hx⟩,fun x hx=>⟨by have:=b x hx;omega,h2 x hx⟩⟩
theorem CX:StOk [] []:=⟨aw,aw,fun x hx=>(by cases hx),fun x hx=>(by cases hx)⟩
theorem yp {m:Mc} (h:lc m):StOk (dp m).1 (dp m).2.1:=by
 unfold dp
 split
 ·split
  ·exact KZ ‹_› h.1 h.2
  ·exact CX
 ·exact CX
theorem W0 {main alt:List aS} (h:StOk main alt) (op:Nat):StOk (vU bo dN op main alt).1 (vU bo dN op main alt).2.1:=by
 have hs:lc ⟨main,alt,0⟩:=⟨fun x hx=>(h.mb x hx).2,fun x hx=>(h.ab x hx).2⟩;unfold vU
 cases h1:iI op ⟨main,alt,0⟩ with
 | some m=>exact yp (TM h1 hs)
 | none =>
  cases h2:uJ bo dN op ⟨main,alt,0⟩ with
  | some m=>exact yp (WZ h2 hs)
  | none =>
   cases h3:nS op ⟨main,alt,0⟩ with
   | some m=>exact yp (TN h3 hs)
   | none=>exact CX
structure RnG (r r':Rn):Prop where
 st:StOk r'.main r'.alt
 bd:fJ r'.bud
 br:r'.br=r.br
 cl:r'.cl=r.cl
theorem RnG.trans {a b c:Rn} (h:RnG a b) (h2:RnG b c):RnG a c:=⟨h2.st,h2.bd,h2.br.trans h.br,h2.cl.trans h.cl⟩
theorem K0 {r r':Rn} (h:fJ r.bud) (l:RnL r r') (s:StOk r'.main r'.alt):RnG r r':=⟨s,by rw [l.bud];exact h,l.br,l.cl⟩
theorem TP {r:Rn} (h:StOk r.main r.alt) (hb:fJ r.bud):RnG r r:=⟨h,hb,rfl,rfl⟩
theorem eG {r:Rn} (h:StOk r.main r.alt) (hb:fJ r.bud) (x:Int):RnG r (au x r):=K0 hb (mX x r) (fQ h)
theorem oW {r:Rn} (h:StOk r.main r.alt) (hb:fJ r.bud):RnG r (bm r).2:=K0 hb (kM r) (dD h).1
theorem wy {r:Rn} (h:StOk r.main r.alt) (hb:fJ r.bud) (most:Nat):RnG r (ee most r).2:=K0 hb (wo most r) (lQ h)
theorem Av {r:Rn} (h:StOk r.main r.alt) (hb:fJ r.bud) {b:aS} (hbb:bytes b):RnG r (c6 b r):=by
 refine K0 hb (WX b r) ?_;unfold c6
 split
 ·split
  ·exact KZ ‹_› (fun x hx=>(cL.1 hx).elim (fun q=>(h.mb x q).2) (iJ hbb x)) (fun x hx=>(h.ab x hx).2)
  ·exact fQ h
 ·exact h
theorem EW {r:Rn} (h:StOk r.main r.alt) (hb:fJ r.bud) (sg:aS→aS→aS→Bool) (key sig msg:aS):RnG r (fb sg key sig msg r).2:=by
 obtain ⟨h1,h2,h3,h4⟩:=uw sg key sig msg r hb h;exact ⟨h4,h3,h1,h2⟩
theorem Ql {r:Rn} (h:StOk r.main r.alt) (hb:fJ r.bud):RnG r (mf r).2:=by
 unfold mf
 split
 ·exact eG h hb 12
 ·exact TP h hb
theorem K1 {r:Rn} (h:StOk r.main r.alt) (hb:fJ r.bud):RnG r (lW r).2:=by
 have g:=Ql h hb;unfold lW;generalize mf r=p at *;simp only
 split
 ·cases fO 5 p.1 with
  | none=>exact g.trans (eG g.st g.bd 15)
  | some n =>
   simp only
   split
   ·exact g.trans (eG g.st g.bd 22)
   ·exact g
 ·exact g
theorem TQ {r:Rn} (h:StOk r.main r.alt) (hb:fJ r.bud):RnG r (kW r).2:=by
 have g:=oW h hb;unfold kW;simp only
 split
 ·exact g.trans (eG g.st g.bd 19)
 ·exact g
theorem W4 {r:Rn} (h:StOk r.main r.alt) (hb:fJ r.bud) (x:Rx) (op:Nat):RnG r (pS x op r):=by
 have g1:=oW h hb;unfold pS;simp only;generalize bm r=k at *;have g2:=oW g1.st g1.bd
 split
 ·generalize bm k.2=s at *;have g3:=EW g2.st g2.bd x.sg k.1 s.1 x.msg;exact g1.trans (g2.trans (g3.trans (Av g3.st g3.bd (uB _))))
 ·split
  ·generalize bm k.2=s at *;have g3:=EW g2.st g2.bd x.sg k.1 s.1 x.msg
   split
   ·exact g1.trans (g2.trans g3)
   ·exact g1.trans (g2.trans (g3.trans (eG g3.st g3.bd 16)))
  ·split
   ·have g2:=wy g1.st g1.bd 4;generalize ee 4 k.2=n at *;have g3:=oW g2.st g2.bd;generalize bm n.2=s at *;have g4:=EW g3.st g3.bd x.sg k.1 s.1 x.msg;exact g1.trans (g2.trans (g3.trans (g4.trans (Av g4.st g4.bd (gh _)))))
   ·split
    ·generalize bm k.2=m at *;have g3:=oW g2.st g2.bd;generalize bm m.2=s at *;have g4:=EW g3.st g3.bd x.sg k.1 s.1 m.1;exact g1.trans (g2.trans (g3.trans (g4.trans (Av g4.st g4.bd (uB _)))))
    ·exact g1
theorem TR {r:Rn} (h:StOk r.main r.alt) (hb:fJ r.bud) (x:Rx):RnG r (ua x r):=by
 have g:=K1 h hb;unfold ua;simp only
 split
 ·exact g.trans (eG g.st g.bd 22)
 ·exact g
theorem W5 {r:Rn} (h:StOk r.main r.alt) (hb:fJ r.bud) (x:Rx):RnG r (BZ x r):=by
 have g:=K1 h hb;unfold BZ;simp only
 split
 ·exact g
 ·split
  ·exact g.trans (eG g.st g.bd 22)
  ·exact g
theorem W6 {r:Rn} (h:StOk r.main r.alt) (hb:fJ r.bud) (x:Rx):RnG r (B5 x r):=by
 have g:=Ql h hb;unfold B5;simp only
 split
 ·exact g
 ·exact g.trans (eG g.st g.bd 23)
structure RnOk (r:Rn) (k:Nat):Prop where
 st:StOk r.main r.alt
 bd:fJ r.bud
 br:r.br.length≤k
 cl:r.cl.length≤2*k
theorem lR {r r':Rn} {k:Nat} (h:RnOk r k) (g:RnG r r'):RnOk r' k:=⟨g.st,g.bd,by rw [g.br];exact h.br,by rw [g.cl];exact h.cl⟩
theorem jf {r:Rn} {k m:Nat} (h:RnOk r k) (hm:k≤m):RnOk r m:=⟨h.st,h.bd,by have:=h.br;omega,by have:=h.cl;omega⟩
theorem K2 {r:Rn} {k:Nat} (h:RnOk r k) (l:List (Int × Int)) (hl:l.length≤2) (e:Int):RnOk (zS l e r) (k+1):=by
 unfold zS
 split
 ·have g:=eG h.st h.bd e;have g2:RnG { au e r with cl:=r.cl ++ l } (c6 (iH true) { au e r with cl:=r.cl ++ l }):=Av (r:={ au e r with cl:=r.cl ++ l }) g.st g.bd (uB true);refine ⟨g2.st,g2.bd,?_,?_⟩
  ·rw [g2.br];show (au e r).br.length≤k+1;rw [g.br];have:=h.br;omega
  ·rw [g2.cl];show (r.cl ++ l).length≤2*(k+1);have:=h.cl;simp;omega
 ·exact jf h aq
theorem TS {r:Rn} {k:Nat} (h:RnOk r k) (x:Rx):RnOk (B6 x r) (k+1):=by
 have h1:=lR h (oW h.st h.bd);unfold B6;simp only;generalize bm r=p at *;have h2:=lR h1 (wy h1.st h1.bd 4)
 split
 ·exact K2 h2 _ aw _
 ·exact jf h2 aq
theorem TT {r:Rn} {k:Nat} (h:RnOk r k) (x:Rx) (hx:∀ s o0 o1 bk,(x.trg s o0 o1 bk).1.length≤2):RnOk (B7 x r) (k+1):=by
 have h1:=lR h (wy h.st h.bd 4);unfold B7;simp only;generalize ee 4 r=p1 at *;have h2:=lR h1 (oW h1.st h1.bd);generalize bm p1.2=p2 at *;obtain ⟨s3,_,_,l3⟩:=KW h2.st p1.1;have h3:=lR h2 (K0 h2.bd l3 s3);generalize ig p1.1 p2.2=p3 at *;have h4:=lR h3 (wy h3.st h3.bd 4);generalize ee 4 p3.2=p4 at *;have h5:=lR h4 (wy h4.st h4.bd 4);generalize ee 4 p4.2=p5 at *;have h6:=lR h5 (wy h5.st h5.bd 8);generalize ee 8 p5.2=p6 at *
 split
 ·split
  ·exact K2 h6 _ (hx _ _ _ _) _
  ·exact jf (lR h6 (eG h6.st h6.bd _)) aq
 ·exact jf h6 aq
theorem W7 {r:Rn} {k:Nat} (h:RnOk r k) (x:Rx) (h1:x.h1=bo) (h2:x.h2=dN) (hx:∀ s o0 o1 bk,(x.trg s o0 o1 bk).1.length≤2) (op:Nat):RnOk (uK x op r) (k+1):=by
 have le:∀ {r':Rn},RnG r r'→RnOk r' (k+1):=fun g=>jf (lR h g) aq;unfold uK;rw [h1,h2]
 split
 ·exact le (eG h.st h.bd 17)
 split
 ·exact le (W4 h.st h.bd x op)
 split
 ·exact le (TR h.st h.bd x)
 split
 ·exact le (W5 h.st h.bd x)
 split
 ·exact le (W6 h.st h.bd x)
 split
 ·exact TT h x hx
 split
 ·exact TS h x
 ·have hd:=W0 h.st op;have hl:=mX (vU bo dN op r.main r.alt).2.2 r;exact le ⟨hd,by show fJ (au _ r).bud;rw [hl.bud];exact h.bd,hl.br,hl.cl⟩
theorem CY {r:Rn} {k:Nat} (h:RnOk r k) (b:Bool):RnOk (ki b r) (k+1):=⟨h.st,h.bd,by have:=h.br;simp [ki];omega,by have:=h.cl;show r.cl.length≤_;omega⟩
theorem K3 {r:Rn} {k:Nat} (h:RnOk r k):RnOk (lJ r).2 k∧((lJ r).1 ≠ none→(lJ r).2.br.length+1≤k):=by
 unfold lJ
 split
 ·exact ⟨lR h (eG h.st h.bd 18),fun q=>absurd rfl q⟩
 ·rename_i hb;have:=h.br;exact ⟨⟨h.st,h.bd,by simp;omega,h.cl⟩,fun _=>by simp;omega⟩
theorem TU {r r':Rn} {k op:Nat} (h:RnOk r k) (hb:kX op r=some r'):RnOk r' (k+1):=by
 unfold kX at hb
 split at hb
 ·obtain rfl:=Option.some.inj hb
  split
  ·exact CY (lR h (TQ h.st h.bd)) _
  ·exact CY h false
 ·split at hb
  ·obtain rfl:=Option.some.inj hb;obtain ⟨h1,h2⟩:=K3 h;generalize lJ r=p at *;obtain ⟨o,r2⟩:=p
   cases o with
   | none=>exact jf h1 aq
   | some b=>exact CY h1 _
  ·split at hb
   ·obtain rfl:=Option.some.inj hb;exact jf (K3 h).1 aq
   ·cases hb
theorem CZ {r:Rn} {k:Nat} (h:RnOk r k) (x:Rx) (h1:x.h1=bo) (h2:x.h2=dN) (hx:∀ s o0 o1 bk,(x.trg s o0 o1 bk).1.length≤2) (w:Wd) (h8:w.1<256) (hb:bytes w.2):RnOk (jZ x w r) (k+1):=by
 unfold jZ
 split
 ·exact jf (lR h (eG h.st h.bd 10)) aq
 ·cases hbr:kX w.1 r with
  | some r'=>exact TU h hbr
  | none =>
   simp only
   split
   ·exact jf h aq
   ·cases hp:cM w with
    | none=>exact W7 h x h1 h2 hx w.1
    | some b =>
     simp only
     split
     ·exact jf (lR h (Av h.st h.bd (ub hb h8 hp))) aq
     ·exact jf (lR h (eG h.st h.bd 11)) aq
theorem TV (F:RnF) (x:Rx) (E:RnE F x) (w:Wd) (h8:w.1<256) (hwb:bytes w.2) (hwl:w.2.length≤50000) (r:Rn) (J:List Bool) (k:Nat) (hk:RnOk r k) (hk2:k≤10000) :
  cJ Tryz.prog 3 (aF (gv F)) 140 ⟨r,J,0⟩ [.ptr 0 0 0 1,.agg (sK w)] (fun v s'=>∃ J',s'=⟨jZ x w r,J',0⟩):=by
 refine am Tryz.func140 (by kernel_rfl) rfl Tryz.ntmps140 (rs:=[]) rfl (dV rfl) (by decide) ?_;have hC:=ec (F:=F) E.hi;have hl:=hC.2.2;have hbr:=hk.br;have hcl:=hk.cl;have hps:=oL w h8 aq;have hnm:=N4 w.1 h8;have hsh:=Gw w h8 hwb hwl;have hbn:=JE hC w.1 h8 r J 0 hk.st aq
 have hdw:∀ v,v ∈ [AV.agg (sK w)]→v.deep:=by
  intro v hv;simp at hv;subst hv;exact ii w
 obtain ⟨op,wb⟩:=w;simp only [sK] at *
 have hPB:∀ (N:Nat),5≤N→∀ p,p ∈ [((4:Nat),(⟨42,2,[[.d (.int .u8 (op:Int)),.d (nb wb)]]⟩:Blk))]→p.1<N∧3≤p.1:=by
  intro N hN p hp;simp at hp;subst hp;exact ⟨by show 4<N;omega,by show 3≤4;omega⟩
 simp [go_sem];refine ag hps hdw ?_;have hpA:B8 (cM (op,wb))=.tup [.d (nb ((cM (op,wb)).getD [])),.d (.bool (cM (op,wb)).isSome)]:=by cases cM (op,wb) <;> rfl
 rw [hpA];simp [go_sem];refine ag hnm a9 ?_;by_cases hA:(!nT op && (cM (op,wb)).isNone)=true
 ·have hv:jZ x (op,wb) r=au 10 r:=if_pos hA;rw [hv];have hA1:nT op=false:=by simp at hA;exact hA.1
  have hA2:cM (op,wb)=none:=by simp at hA;exact hA.2
  simp [go_sem,hA1,hA2];refine aN (Pp:=[(4,⟨42,2,[[.d (.int .u8 (op:Int)),.d (nb wb)]]⟩)]) hC (bw hC r J 0 10) rfl aq (hPB _ aq) (by simp [AV.renL,AV.ren]) ?_;rintro v s' ρ rfl hρ;rw [bA];generalize au 10 r=r';simp only [aF,bC,bB,id];simp [go_sem,ah];exact ⟨_,⟨J,rfl⟩,aB rfl rfl rfl⟩
 ·have hA':(nT op=true∧(cM (op,wb)).isSome=true) ∨ (nT op=true∧cM (op,wb)=none) ∨ (nT op=false∧(cM (op,wb)).isSome=true):=by
   cases h1:nT op
   ·cases h2:cM (op,wb)
    ·rw [h1,h2] at hA;simp at hA
    ·exact .inr (.inr ⟨rfl,rfl⟩)
   ·cases h2:cM (op,wb)
    ·exact .inr (.inl ⟨rfl,rfl⟩)
    ·exact .inl ⟨rfl,rfl⟩
  have hv0:jZ x (op,wb) r=(match kX op r with
    | some r'=>r'
    | none=>if 0<fx r then r else match cM (op,wb) with
     | some b=>if rS (op,wb) then c6 b r else au 11 r
     | none=>uK x op r):=if_neg hA
  cases hb:kX op r with
  | some r1 =>
   have hv:jZ x (op,wb) r=r1:=by rw [hv0,hb]
   rw [hv];rw [hb] at hbn;rcases hA' with ⟨hn,hp⟩ | ⟨hn,hp⟩ | ⟨hn,hp⟩
   ·simp [go_sem,hn,hp];refine aN (Pp:=[(4,⟨42,2,[[.d (.int .u8 (op:Int)),.d (nb wb)]]⟩)]) hC hbn (by first | rfl | simp [bA,aF,bC,bB]) aq (hPB _ aq) (by simp [AV.renL,AV.ren]) ?_;rintro v s' ρ ⟨rfl,J2,rfl⟩ hρ;simp [go_sem,AV.ren];rw [bA];exact ⟨_,⟨J2,rfl⟩,aB rfl rfl rfl⟩
   ·simp [go_sem,hn,hp];refine aN (Pp:=[(4,⟨42,2,[[.d (.int .u8 (op:Int)),.d (nb wb)]]⟩)]) hC hbn (by first | rfl | simp [bA,aF,bC,bB]) aq (hPB _ aq) (by simp [AV.renL,AV.ren]) ?_;rintro v s' ρ ⟨rfl,J2,rfl⟩ hρ;simp [go_sem,AV.ren];rw [bA];exact ⟨_,⟨J2,rfl⟩,aB rfl rfl rfl⟩
   ·simp [go_sem,hn,hp];refine aN (Pp:=[(4,⟨42,2,[[.d (.int .u8 (op:Int)),.d (nb wb)]]⟩)]) hC hbn (by first | rfl | simp [bA,aF,bC,bB]) aq (hPB _ aq) (by simp [AV.renL,AV.ren]) ?_;rintro v s' ρ ⟨rfl,J2,rfl⟩ hρ;simp [go_sem,AV.ren];rw [bA];exact ⟨_,⟨J2,rfl⟩,aB rfl rfl rfl⟩
  | none =>
   rw [hb] at hv0 hbn;by_cases hid:0<fx r
   ·have hv:jZ x (op,wb) r=r:=by rw [hv0];exact if_pos hid
    rw [hv];have hidi:(0:Int)<(fx r:Int):=aq;rcases hA' with ⟨hn,hp⟩ | ⟨hn,hp⟩ | ⟨hn,hp⟩
    ·simp [go_sem,hn,hp];refine aN (Pp:=[(4,⟨42,2,[[.d (.int .u8 (op:Int)),.d (nb wb)]]⟩)]) hC hbn (by first | rfl | simp [bA,aF,bC,bB]) aq (hPB _ aq) (by simp [AV.renL,AV.ren]) ?_;rintro v s' ρ ⟨rfl,J2,rfl⟩ hρ;rw [bA];simp only [aF,bC,bB,id];simp [go_sem,AV.ren,hl,hid];exact ⟨_,⟨J2,rfl⟩,aB rfl rfl rfl⟩
    ·simp [go_sem,hn,hp];refine aN (Pp:=[(4,⟨42,2,[[.d (.int .u8 (op:Int)),.d (nb wb)]]⟩)]) hC hbn (by first | rfl | simp [bA,aF,bC,bB]) aq (hPB _ aq) (by simp [AV.renL,AV.ren]) ?_;rintro v s' ρ ⟨rfl,J2,rfl⟩ hρ;rw [bA];simp only [aF,bC,bB,id];simp [go_sem,AV.ren,hl,hid];exact ⟨_,⟨J2,rfl⟩,aB rfl rfl rfl⟩
    ·simp [go_sem,hn,hp];refine aN (Pp:=[(4,⟨42,2,[[.d (.int .u8 (op:Int)),.d (nb wb)]]⟩)]) hC hbn (by first | rfl | simp [bA,aF,bC,bB]) aq (hPB _ aq) (by simp [AV.renL,AV.ren]) ?_;rintro v s' ρ ⟨rfl,J2,rfl⟩ hρ;rw [bA];simp only [aF,bC,bB,id];simp [go_sem,AV.ren,hl,hid];exact ⟨_,⟨J2,rfl⟩,aB rfl rfl rfl⟩
   ·have hid0:fx r=0:=aq;have hnI:nT op=true ∨ nT op=false:=by cases nT op;exact .inr rfl;exact .inl rfl
    cases hpw:cM (op,wb) with
    | none =>
     have hn:nT op=true:=by rcases hA' with ⟨hn,hp⟩ | ⟨hn,hp⟩ | ⟨hn,hp⟩ <;> first | exact hn | (rw [hpw] at hp;simp at hp)
     have hv:jZ x (op,wb) r=uK x op r:=by rw [hv0,hpw];exact if_neg hid
     rw [hv];simp [go_sem,hn,hpw];refine aN (Pp:=[(4,⟨42,2,[[.d (.int .u8 (op:Int)),.d (nb wb)]]⟩)]) hC hbn (by first | rfl | simp [bA,aF,bC,bB]) aq (hPB _ aq) (by simp [AV.renL,AV.ren]) ?_;rintro v s' ρ ⟨rfl,J2,rfl⟩ hρ;rw [bA];simp only [aF,bC,bB,id];simp [go_sem,AV.ren,hl,hid0];refine aN (Pp:=[(4,⟨42,2,[[.d (.int .u8 (op:Int)),.d (nb wb)]]⟩)]) (s:=⟨r,J2,0⟩) hC (OX F x E op h8 r J2 hk.st aq hk.bd) (by simp [bA,aF,bC,bB,hid0]) aq (hPB _ aq) (by simp [AV.renL,AV.ren]) ?_;rintro v s' ρ rfl hρ;rw [bA];generalize uK x op r=r';simp only [aF,bC,bB,id];simp [go_sem,ah];exact ⟨_,⟨J2,rfl⟩,aB rfl rfl rfl⟩
    | some b =>
     have hble:=Ee hpw;simp only at hble;by_cases hs:rS (op,wb)=true
     ·have hv:jZ x (op,wb) r=c6 b r:=by rw [hv0,hpw];exact (if_neg hid).trans (if_pos hs)
      rw [hv];rw [hs] at hsh;rcases hnI with hn | hn
      ·simp [go_sem,hn,hpw];refine aN (Pp:=[(4,⟨42,2,[[.d (.int .u8 (op:Int)),.d (nb wb)]]⟩)]) hC hbn (by first | rfl | simp [bA,aF,bC,bB]) aq (hPB _ aq) (by simp [AV.renL,AV.ren]) ?_;rintro v s' ρ ⟨rfl,J2,rfl⟩ hρ;rw [bA];simp only [aF,bC,bB,id];simp [go_sem,AV.ren,hl,hid0];refine ag hsh hdw ?_;simp [go_sem];refine aN (Pp:=[(4,⟨42,2,[[.d (.int .u8 (op:Int)),.d (nb wb)]]⟩)]) (s:=⟨r,J2,0⟩) hC (oO hC r J2 0 hk.st b aq) (by simp [bA,aF,bC,bB,hid0]) aq (hPB _ aq) (by simp [AV.renL,AV.ren]) ?_;rintro v s' ρ rfl hρ;rw [bA];generalize c6 b r=r';simp only [aF,bC,bB,id];simp [go_sem,ah];exact ⟨_,⟨J2,rfl⟩,aB rfl rfl rfl⟩
      ·simp [go_sem,hn,hpw];refine aN (Pp:=[(4,⟨42,2,[[.d (.int .u8 (op:Int)),.d (nb wb)]]⟩)]) hC hbn (by first | rfl | simp [bA,aF,bC,bB]) aq (hPB _ aq) (by simp [AV.renL,AV.ren]) ?_;rintro v s' ρ ⟨rfl,J2,rfl⟩ hρ;rw [bA];simp only [aF,bC,bB,id];simp [go_sem,AV.ren,hl,hid0];refine ag hsh hdw ?_;simp [go_sem];refine aN (Pp:=[(4,⟨42,2,[[.d (.int .u8 (op:Int)),.d (nb wb)]]⟩)]) (s:=⟨r,J2,0⟩) hC (oO hC r J2 0 hk.st b aq) (by simp [bA,aF,bC,bB,hid0]) aq (hPB _ aq) (by simp [AV.renL,AV.ren]) ?_;rintro v s' ρ rfl hρ;rw [bA];generalize c6 b r=r';simp only [aF,bC,bB,id];simp [go_sem,ah];exact ⟨_,⟨J2,rfl⟩,aB rfl rfl rfl⟩
     ·have hs0:rS (op,wb)=false:=by simpa using hs
      have hv:jZ x (op,wb) r=au 11 r:=by rw [hv0,hpw];exact (if_neg hid).trans (if_neg hs)
      rw [hv];rw [hs0] at hsh;rcases hnI with hn | hn
      ·simp [go_sem,hn,hpw];refine aN (Pp:=[(4,⟨42,2,[[.d (.int .u8 (op:Int)),.d (nb wb)]]⟩)]) hC hbn (by first | rfl | simp [bA,aF,bC,bB]) aq (hPB _ aq) (by simp [AV.renL,AV.ren]) ?_;rintro v s' ρ ⟨rfl,J2,rfl⟩ hρ;rw [bA];simp only [aF,bC,bB,id];simp [go_sem,AV.ren,hl,hid0];refine ag hsh hdw ?_;simp [go_sem];refine aN (Pp:=[(4,⟨42,2,[[.d (.int .u8 (op:Int)),.d (nb wb)]]⟩)]) (s:=⟨r,J2,0⟩) hC (bw hC r J2 0 11) (by simp [bA,aF,bC,bB,hid0]) aq (hPB _ aq) (by simp [AV.renL,AV.ren]) ?_;rintro v s' ρ rfl hρ;rw [bA];generalize au 11 r=r';simp only [aF,bC,bB,id];simp [go_sem,ah];exact ⟨_,⟨J2,rfl⟩,aB rfl rfl rfl⟩
      ·simp [go_sem,hn,hpw];refine aN (Pp:=[(4,⟨42,2,[[.d (.int .u8 (op:Int)),.d (nb wb)]]⟩)]) hC hbn (by first | rfl | simp [bA,aF,bC,bB]) aq (hPB _ aq) (by simp [AV.renL,AV.ren]) ?_;rintro v s' ρ ⟨rfl,J2,rfl⟩ hρ;rw [bA];simp only [aF,bC,bB,id];simp [go_sem,AV.ren,hl,hid0];refine ag hsh hdw ?_;simp [go_sem];refine aN (Pp:=[(4,⟨42,2,[[.d (.int .u8 (op:Int)),.d (nb wb)]]⟩)]) (s:=⟨r,J2,0⟩) hC (bw hC r J2 0 11) (by simp [bA,aF,bC,bB,hid0]) aq (hPB _ aq) (by simp [AV.renL,AV.ren]) ?_;rintro v s' ρ rfl hρ;rw [bA];generalize au 11 r=r';simp only [aF,bC,bB,id];simp [go_sem,ah];exact ⟨_,⟨J2,rfl⟩,aB rfl rfl rfl⟩
theorem yq {s:aS} {a b:Nat} {w:Wd} (hb:bytes s) (ha:a<s.length) (h:gq s a=some (w,b)):a<b∧b≤s.length∧w.1<256∧bytes w.2∧w.2.length≤s.length:=by
 obtain ⟨op,r,hd⟩:∃ op r,s.drop a=op :: r:=by
  rcases h:s.drop a with _ | ⟨op,r⟩
  ·have:=congrArg List.length h;simp at this;omega
  ·exact ⟨op,r,rfl⟩
 have hdb:bytes (op :: r):=fun x hx=>hb x (by rw [← hd] at hx;exact List.mem_of_mem_drop hx)
 have hrs:a+(r.length+1)=s.length:=by
  have:=congrArg List.length hd;simp at this;omega
 unfold gq at h;rw [hd] at h
 cases hw:fB (op :: r) with
 | none=>rw [hw] at h;cases h
 | some p =>
  obtain ⟨n,hh⟩:=p;obtain ⟨t1,t2,t3⟩:=zT hdb hw;rw [hw] at h;simp only [List.length_cons,List.headD_cons] at h
  split at h
  ·cases h
  ·rename_i hq;simp only [Option.some.injEq,Prod.mk.injEq] at h;obtain ⟨rfl,rfl⟩:=h;refine ⟨aq,aq,hdb op aw,fun y hy=>hdb y (List.mem_of_mem_drop (List.mem_of_mem_take hy)),?_⟩;simp;omega
theorem O0 (F:RnF) (x:Rx) (E:RnE F x) (hsb:bytes F.script) (hsl:F.script.length≤1000) (hx:∀ s o0 o1 bk,(x.trg s o0 o1 bk).1.length≤2) (r:Rn) (J:List Bool) (hk:RnOk r 0) :
  cJ Tryz.prog 3 (aF (gv F)) 98 ⟨r,J,0⟩ [.ptr 0 0 0 1] (fun v s'=>∃ J',s'=⟨fc x F.script (F.script.length+1) 0 r,J',0⟩):=by
 refine am Tryz.func98 (by kernel_rfl) rfl Tryz.ntmps98 (rs:=[]) rfl (dV rfl) (by decide) ?_;have hC:=ec (F:=F) E.hi;have hl:=hC.2.2
 have h39:∀ l:List AV,(gv F ++ l)[39]?=some (.d (.ro 1 (F.script.map fun (b:Nat)=>[.int .u8 (b:Int)]))):=fun l=>by
  unfold gv aP;rw [cD,dz (by simp [eS])];simp only [eS,List.length_cons,List.length_nil,cD];rw [dz (by rw [ao,E.hi];omega),ao,E.hi];rfl
 generalize hW:fc x F.script (F.script.length+1) 0 r=W;simp [go_sem]
 have hwk:∀ (fr:Fr) (hp:Hp) (nx a:Nat) (r':Rn) (J':List Bool),(fv 0 fr=.ptr 0 0 0 1∧fv 2 fr=.d (.int .i64 (a:Int)))→(∀ p,p ∈ gR 3 (aF (gv F)) ⟨r',J',0⟩ id→lk p.1 hp=some p.2) →
   ay ⟨fr,hp,nx⟩ ⟨[(0,.ptr 0 0 0 1),(2,.d (.int .i64 (a:Int)))],gR 3 (aF (gv F)) ⟨r',J',0⟩ id,9000⟩:=by
  rintro fr hp nx a r' J' ⟨q0,q1⟩ h2;refine ⟨?_,WW hC (dV rfl) h2,.inr (by show 64≤9000;omega)⟩;intro p hp';simp only [et,List.mem_nil_iff,or_false] at hp';rcases hp' with rfl | rfl
  ·exact ⟨.inl q0.symm,by simp [AV.low,AV.low1]⟩
  ·exact ⟨.inl q1.symm,by simp [AV.low,AV.low1]⟩
 refine ax (fun u:Nat × Nat × Rn × List Bool=>⟨[(0,.ptr 0 0 0 1),(2,.d (.int .i64 (u.1:Int)))],gR 3 (aF (gv F)) ⟨u.2.2.1,u.2.2.2,0⟩ id,9000⟩)
  (fun u=>u.1≤F.script.length∧F.script.length+1≤u.2.1+u.1∧RnOk u.2.2.1 u.1∧fc x F.script u.2.1 u.1 u.2.2.1=W) (fun u=>F.script.length - u.1) (0,F.script.length+1,r,J) ⟨aq,by show _≤F.script.length+1+0;omega,hk,hW⟩
  (hwk _ _ _ 0 r J (by simp [fv,lk]) (qh rfl rfl rfl)) ?_
 rintro ⟨a,f,r',J'⟩ ⟨ha,hf,hr,hw⟩;simp only at ha hf hr hw;obtain ⟨f,rfl⟩:∃ f',f=f'+1:=⟨f - 1,aq⟩;rw [fc] at hw;simp only;by_cases hlt:a<F.script.length
 ·have hlti:(a:Int)<(F.script.length:Int):=aq;rw [bA];simp only [aF,bC,bB,id];simp [go_sem,hlt,hlti,h39];refine aN (Pp:=[]) (s:=⟨r',J',0⟩) hC (eu hC r' J' 0) (by simp [bA,aF,bC,bB]) aq aw (by simp [AV.renL,AV.ren]) ?_;rintro v s' ρ ⟨rfl,rfl⟩ hρ;by_cases he:r'.e=0
  ·rw [if_pos ⟨hlt,he⟩] at hw;have hnx:=Jz F.script a hsb aq hlt;rw [bA];simp only [aF,bC,bB,id];simp [go_sem,AV.ren,he,h39];refine ag hnx a9 ?_
   cases hq:gq F.script a with
   | none =>
    rw [hq] at hw;subst hw;simp [go_sem,Jy,sK];refine aN (Pp:=[(9736,⟨42,2,[[.d (.int .u8 0),.d (nb [])]]⟩)]) (s:=⟨r',J',0⟩) hC (bw hC r' J' 0 2) (by simp [bA,aF,bC,bB,he]) aq (by intro p hp;simp at hp;subst hp;simp) (by simp [AV.renL,AV.ren]) ?_;rintro v s' ρ rfl hρ;rw [bA];generalize au 2 r'=r2;simp only [aF,bC,bB,id];simp [go_sem,ah];exact ⟨_,⟨J',rfl⟩,aB rfl rfl rfl⟩
   | some p =>
    obtain ⟨w,b⟩:=p;rw [hq] at hw;obtain ⟨n1,n2,n3,n4,n5⟩:=yq hsb hlt hq;have hwm:=TV F x E w n3 n4 aq r' J' a hr aq;have hok:=jf (CZ hr x E.hh.1 E.hh.2 hx w n3 n4) (show a+1≤b by omega);simp only [sK] at hwm;simp [go_sem,Jy,sK];refine aN (Pp:=[(9736,⟨42,2,[[.d (.int .u8 (w.1:Int)),.d (nb w.2)]]⟩)]) (s:=⟨r',J',0⟩) hC hwm (by simp [bA,aF,bC,bB,he]) aq (by intro p hp;simp at hp;subst hp;simp) (fun ρ=>rfl) ?_;rintro v s' ρ ⟨J2,rfl⟩ hρ;simp [go_sem];refine al (b,f,jZ x w r',J2) ⟨n2,by show _≤f+b;omega,hok,hw⟩ (by show F.script.length - b<F.script.length - a;omega) (hwk _ _ _ b _ _ (by simp [fv,lk]) (qh rfl rfl rfl))
  ·rw [if_neg (fun h=>he h.2)] at hw;subst hw;simp [go_sem,AV.ren,he];rw [bA];exact ⟨_,⟨J',rfl⟩,aB rfl rfl rfl⟩
 ·rw [if_neg (fun h=>hlt h.1)] at hw;subst hw;have hlti:¬ (a:Int)<(F.script.length:Int):=aq;rw [bA];simp only [aF,bC,bB,id];simp [go_sem,hlt,hlti,h39];exact ⟨_,⟨J',rfl⟩,aB rfl rfl rfl⟩
def sr (r1:Rn):Rn:=if r1.main.length=1∧jU (r1.main.headD [])=true then r1 else au 25 r1
theorem W8 {C:List AV} (hC:iq C) (r:Rn) (J:List Bool) (H:Nat) (hk:StOk r.main r.alt):cJ Tryz.prog 3 (aF C) 99 ⟨r,J,H⟩ [.ptr 0 0 0 1] (fun v s'=>s'=⟨sn r,J,H⟩):=by
 refine am Tryz.func99 (by kernel_rfl) rfl Tryz.ntmps99 (rs:=[]) rfl (dV rfl) (by decide) ?_;have hl:=hC.2.2;by_cases hb:0<r.br.length
 ·have hR:sn r=sr (au 18 r):=by simp only [sn,if_pos hb,sr]
  rw [hR];have hkb:StOk (au 18 r).main (au 18 r).alt:=fQ hk;have hbi:(0:Int)<(r.br.length:Int):=aq;have hf:=bw hC r J H 18;generalize au 18 r=r1 at *;rw [bA];simp only [aF,bC,bB,id];simp [go_sem,hl,hb,hbi];refine aN (Pp:=[]) (s:=⟨r,J,H⟩) hC hf (by simp [bA,aF,bC,bB]) aq aw (by simp [AV.renL,AV.ren]) ?_;rintro v s' ρ rfl hρ;obtain ⟨main,alt,br,bud,cl,e⟩:=r1;simp only at hkb;rcases main with _ | ⟨y,_ | ⟨z,l⟩⟩
  ·have hv:sr ⟨[],alt,br,bud,cl,e⟩=au 25 ⟨[],alt,br,bud,cl,e⟩:=rfl;rw [hv,bA];simp only [aF,bC,bB,id];simp [go_sem,hl];refine aN (Pp:=[]) (s:=⟨⟨[],alt,br,bud,cl,e⟩,J,H⟩) hC (bw hC ⟨[],alt,br,bud,cl,e⟩ J H 25) (by simp [bA,aF,bC,bB,bJ]) aq aw (by simp [AV.renL,AV.ren]) ?_;rintro v s' ρ rfl hρ;rw [bA];generalize au 25 ⟨[],alt,br,bud,cl,e⟩=r';simp only [aF,bC,bB,id];simp [go_sem,ah];exact aB rfl rfl rfl
  ·obtain ⟨y1,y2⟩:=hkb.mb y aw;have htr:=mQ y y2 aq;rw [bA];simp only [aF,bC,bB,id];by_cases ht:jU y=true
   ·have hv:sr ⟨[y],alt,br,bud,cl,e⟩=⟨[y],alt,br,bud,cl,e⟩:=if_pos ⟨rfl,ht⟩;rw [hv];rw [ht] at htr;simp [go_sem,hl,bJ];refine ag htr a9 ?_;simp [go_sem,ah];exact aB rfl rfl rfl
   ·have hv:sr ⟨[y],alt,br,bud,cl,e⟩=au 25 ⟨[y],alt,br,bud,cl,e⟩:=if_neg (fun h=>ht h.2);rw [hv];rw [show jU y=false by simpa using ht] at htr;simp [go_sem,hl,bJ];refine ag htr a9 ?_;simp [go_sem];refine aN (Pp:=[]) (s:=⟨⟨[y],alt,br,bud,cl,e⟩,J,H⟩) hC (bw hC ⟨[y],alt,br,bud,cl,e⟩ J H 25) (by simp [bA,aF,bC,bB,bJ]) aq aw (by simp [AV.renL,AV.ren]) ?_;rintro v s' ρ rfl hρ;rw [bA];generalize au 25 ⟨[y],alt,br,bud,cl,e⟩=r';simp only [aF,bC,bB,id];simp [go_sem,ah];exact aB rfl rfl rfl
  ·have hv:sr ⟨y :: z :: l,alt,br,bud,cl,e⟩=au 25 ⟨y :: z :: l,alt,br,bud,cl,e⟩:=if_neg (fun h=>by simp at h);have hn2:¬ (l.length:Int)+1+1=1:=aq;rw [hv,bA];simp only [aF,bC,bB,id];simp [go_sem,hl,hn2];refine aN (Pp:=[]) (s:=⟨⟨y :: z :: l,alt,br,bud,cl,e⟩,J,H⟩) hC (bw hC ⟨y :: z :: l,alt,br,bud,cl,e⟩ J H 25) (by simp [bA,aF,bC,bB,bJ]) aq aw (by simp [AV.renL,AV.ren]) ?_;rintro v s' ρ rfl hρ;rw [bA];generalize au 25 ⟨y :: z :: l,alt,br,bud,cl,e⟩=r';simp only [aF,bC,bB,id];simp [go_sem,ah];exact aB rfl rfl rfl
 ·have hR:sn r=sr r:=by simp only [sn,if_neg hb,sr]
  rw [hR];have hkb:=hk;have hbi:¬ (0:Int)<(r.br.length:Int):=aq;obtain ⟨r1,rfl⟩:∃ r1,r1=r:=⟨r,rfl⟩;obtain ⟨main,alt,br,bud,cl,e⟩:=r1;simp only at hkb hb hbi;rcases main with _ | ⟨y,_ | ⟨z,l⟩⟩
  ·have hv:sr ⟨[],alt,br,bud,cl,e⟩=au 25 ⟨[],alt,br,bud,cl,e⟩:=rfl;rw [hv,bA];simp only [aF,bC,bB,id];simp [go_sem,hl,hb,hbi];refine aN (Pp:=[]) (s:=⟨⟨[],alt,br,bud,cl,e⟩,J,H⟩) hC (bw hC ⟨[],alt,br,bud,cl,e⟩ J H 25) (by simp [bA,aF,bC,bB,bJ]) aq aw (by simp [AV.renL,AV.ren]) ?_;rintro v s' ρ rfl hρ;rw [bA];generalize au 25 ⟨[],alt,br,bud,cl,e⟩=r';simp only [aF,bC,bB,id];simp [go_sem,ah];exact aB rfl rfl rfl
  ·obtain ⟨y1,y2⟩:=hkb.mb y aw;have htr:=mQ y y2 aq;rw [bA];simp only [aF,bC,bB,id];by_cases ht:jU y=true
   ·have hv:sr ⟨[y],alt,br,bud,cl,e⟩=⟨[y],alt,br,bud,cl,e⟩:=if_pos ⟨rfl,ht⟩;rw [hv];rw [ht] at htr;simp [go_sem,hl,bJ,hb,hbi];refine ag htr a9 ?_;simp [go_sem,ah];exact aB rfl rfl rfl
   ·have hv:sr ⟨[y],alt,br,bud,cl,e⟩=au 25 ⟨[y],alt,br,bud,cl,e⟩:=if_neg (fun h=>ht h.2);rw [hv];rw [show jU y=false by simpa using ht] at htr;simp [go_sem,hl,bJ,hb,hbi];refine ag htr a9 ?_;simp [go_sem];refine aN (Pp:=[]) (s:=⟨⟨[y],alt,br,bud,cl,e⟩,J,H⟩) hC (bw hC ⟨[y],alt,br,bud,cl,e⟩ J H 25) (by simp [bA,aF,bC,bB,bJ]) aq aw (by simp [AV.renL,AV.ren]) ?_;rintro v s' ρ rfl hρ;rw [bA];generalize au 25 ⟨[y],alt,br,bud,cl,e⟩=r';simp only [aF,bC,bB,id];simp [go_sem,ah];exact aB rfl rfl rfl
  ·have hv:sr ⟨y :: z :: l,alt,br,bud,cl,e⟩=au 25 ⟨y :: z :: l,alt,br,bud,cl,e⟩:=if_neg (fun h=>by simp at h);have hn2:¬ (l.length:Int)+1+1=1:=aq;rw [hv,bA];simp only [aF,bC,bB,id];simp [go_sem,hl,hn2,hb,hbi];refine aN (Pp:=[]) (s:=⟨⟨y :: z :: l,alt,br,bud,cl,e⟩,J,H⟩) hC (bw hC ⟨y :: z :: l,alt,br,bud,cl,e⟩ J H 25) (by simp [bA,aF,bC,bB,bJ]) aq aw (by simp [AV.renL,AV.ren]) ?_;rintro v s' ρ rfl hρ;rw [bA];generalize au 25 ⟨y :: z :: l,alt,br,bud,cl,e⟩=r';simp only [aF,bC,bB,id];simp [go_sem,ah];exact aB rfl rfl rfl
def GO (F:RnF) (x:Rx) (start:List aS) (bud:Int):AV :=
 if cf F.t (F.n:Int) F.coins ≠ 0 ∨ 1000<F.script.length then .tup [.d (.ro 2 []),.d (.int .i64 1)]
 else .tup [.d (.ro 2 ((pT x F.script start bud).1.map dm)),.d (.int .i64 (pT x F.script start bud).2)]
theorem rB (t:Tn) (n:Int) (coins:List (Nat × List Nat)):cf t n coins=0 ∨ cf t n coins=1:=by
 rcases lF t n coins with h | h
 ·exact .inr h
 ·exact .inl h.1
theorem uC (F:RnF) (start:List aS) (bud:Int):∀ v,v ∈ [AV.agg (eS F.t (F.n:Int) F.coins),cN F.inner F.path F.script,.d (.ro 1 (start.map bJ)),.d (nb F.annex),.d (.int .i64 bud)]→v.deep:=by
 intro v hv;simp at hv;rcases hv with rfl | rfl | rfl | rfl | rfl
 ·simp [AV.deep,AV.deep1,eS]
 ·exact cQ F.inner F.path F.script _ (List.mem_singleton.2 rfl)
 ·trivial
 ·trivial
 ·trivial
def K4:List AV:=[.d (.int .u32 0),.nil,.nil,.d (.int .u32 0),.d (.int .i64 0),.nil] ++ (cb z32 ++ [.nil,.nil,.nil,.nil,.nil,.nil,.d (.int .i64 0),.d (.int .i64 0),.nil,.d (.int .i64 0)])
theorem Y7:eH Tryz.prog 158=some K4:=by kernel_rfl
theorem K5:K4.length=48:=rfl
theorem K6:List.drop 40 K4=[.nil,.nil,.nil,.nil,.d (.int .i64 0),.d (.int .i64 0),.nil,.d (.int .i64 0)]:=rfl
theorem W9 {L:List AV} (h:L.length=34) (k:Nat) (l:List AV):List.take (34+k) (L ++ l)=L ++ List.take k l:=by
 rw [List.take_append,cA aq,h,Nat.add_sub_cancel_left]
theorem TW {L:List AV} (h:L.length=34) (k:Nat) (l:List AV):List.drop (34+k) (L ++ l)=List.drop k l:=by
 rw [List.drop_append,dg aq,h,Nat.add_sub_cancel_left,List.nil_append]
def fR (j:Nat):Nat:=640+1000*j
theorem TX:oD 3 fR:=by
 intro i j hi hj h;unfold fR at h;omega
theorem TY (C:List AV) (s:RnS):gR 3 (aF C) s fR=[(640,aF C s fR 0),(1640,aF C s fR 1),(2640,aF C s fR 2)]:=rfl
theorem EX {C:List AV} (hC:iq C) {N:Nat} {hp:Hp} {g:FuncId} {s:RnS} {ars:List AV} {R:AV→RnS→Prop} {K:AV→Hp→Prop} (h:cJ Tryz.prog 3 (aF C) g s (.ptr 0 0 0 1 :: ars) R) (he:hp=gR 3 (aF C) s fR) (hN:2641≤N) (has:∀ ρ,AV.renL ρ ars=ars)
  (hK:∀ v s' ρ,R v s'→K (v.ren ρ) (gR 3 (aF C) s' fR)):sx Tryz.prog g (.ptr 640 0 0 1 :: ars) hp N K:=by
 subst he;refine sG (Pp:=[]) (rk hC) h TX (fun j hj=>by unfold fR;omega) aw ?_ fun v s' ρ hR _=>hK v s' ρ hR;rw [AV.renL,has,AV.ren];rfl
theorem K7 (x:Rx) (h1:x.h1=bo) (h2:x.h2=dN) (hx:∀ s o0 o1 bk,(x.trg s o0 o1 bk).1.length≤2) {s:aS} (hb:bytes s):∀ (f a:Nat) (r:Rn),RnOk r a→∃ k,RnOk (fc x s f a r) k
 | 0,a,r,h=>⟨a,h⟩
 | f+1,a,r,h=>by
  rw [fc]
  split
  ·rename_i hc
   cases hq:gq s a with
   | none=>exact ⟨a,lR h (eG h.st h.bd 2)⟩
   | some p =>
    obtain ⟨w,b⟩:=p;obtain ⟨n1,n2,n3,n4,n5⟩:=yq hb hc.1 hq;exact K7 x h1 h2 hx hb f b _ (jf (CZ h x h1 h2 hx w n3 n4) aq)
  ·exact ⟨a,h⟩
theorem TZ (F:RnF) (x:Rx) (start:List aS) (bud:Int) (ht:Sm F.t) (hc:F.coins.length≤1000) (hi:F.inner.length=32) (hsb:bytes F.script) (hst:StOk start []) (hbd:fJ bud)
  (E:cf F.t (F.n:Int) F.coins=0→F.script.length≤1000→RnE F x) (hx:∀ s o0 o1 bk,(x.trg s o0 o1 bk).1.length≤2) :
  av Tryz.prog 53 [.agg (eS F.t (F.n:Int) F.coins),cN F.inner F.path F.script,.d (.ro 1 (start.map bJ)),.d (nb F.annex),.d (.int .i64 bud)] (fun v=>v=GO F x start bud):=by
 have hck:=kV F.t (F.n:Int) F.coins ht hc;have hlf:(aP F.inner (AV.d (c7 F.path)) (AV.d (nb F.script))).length=34:=by simp [aP,ao,hi]
 have hlt:List.take 34 (aP F.inner (AV.d (c7 F.path)) (AV.d (nb F.script)))=aP F.inner (AV.d (c7 F.path)) (AV.d (nb F.script)):=cA (by rw [hlf];omega)
 have h33:(aP F.inner (AV.d (c7 F.path)) (AV.d (nb F.script)))[33]?=some (.d (.ro 1 (F.script.map fun (b:Nat)=>[.int .u8 (b:Int)]))):=by
  unfold aP;rw [dz (by rw [ao,hi];omega),ao,hi];rfl
 have hdS:∀ v,v ∈ [AV.agg (eS F.t (F.n:Int) F.coins)]→v.deep:=by simp [AV.deep,AV.deep1,eS]
 simp only [eS] at hck hdS;by_cases hs:1000<F.script.length
 ·have hR:GO F x start bud=.tup [.d (.ro 2 []),.d (.int .i64 1)]:=if_pos (.inr hs);rw [hR];have hsi:(1000:Int)<(F.script.length:Int):=aq;refine bK Tryz.func53 Tryz.ntmps53 (rs:=[.tmp 10,.tmp 11]) (uC F start bud) ?_;simp [go_sem,cN,eS,hlf,hlt];refine ag hck hdS ?_;rcases rB F.t (F.n:Int) F.coins with h | h
  ·simp [go_sem,h,h33,hs,hsi,ah];exact dB (cs':=[.d (.ro 2 []),.d (.int .i64 1)]) (ap (ak (.nil 2)) (ap (bc trivial) bz)) rfl a9 rfl
  ·simp [go_sem,h,ah];exact dB (cs':=[.d (.ro 2 []),.d (.int .i64 1)]) (ap (ak (.nil 2)) (ap (bc trivial) bz)) rfl a9 rfl
 ·rcases rB F.t (F.n:Int) F.coins with h | h
  ·have hR:GO F x start bud=.tup [.d (.ro 2 ((pT x F.script start bud).1.map dm)),.d (.int .i64 (pT x F.script start bud).2)]:=if_neg (by rw [h];simp;omega);rw [hR];have E:=E h aq;rw [h] at hck;have hsi:¬ (1000:Int)<(F.script.length:Int):=aq;refine F6 Tryz.func53 (by kernel_rfl) rfl Tryz.ntmps53 (rs:=[.tmp 10,.tmp 11]) rfl (dV rfl) (uC F start bud) ?_;refine xp (lv ?_);simp [go_sem,cN,eS,hlf,hlt];simp only [Bg];refine xp (lv ?_);simp [go_sem,hlf,hlt];refine ag hck hdS ?_;simp [go_sem,h33,hs,hsi];simp only [Bg];refine xp (lv ?_);have t35:∀ l,List.take 35 (aP F.inner (AV.d (c7 F.path)) (AV.d (nb F.script)) ++ l)=aP F.inner (AV.d (c7 F.path)) (AV.d (nb F.script)) ++ List.take 1 l:=W9 hlf 1;have t39:∀ l,List.take 39 (aP F.inner (AV.d (c7 F.path)) (AV.d (nb F.script)) ++ l)=aP F.inner (AV.d (c7 F.path)) (AV.d (nb F.script)) ++ List.take 5 l:=W9 hlf 5;have d35:∀ l,List.drop 35 (aP F.inner (AV.d (c7 F.path)) (AV.d (nb F.script)) ++ l)=List.drop 1 l:=TW hlf 1;have d37:∀ l,List.drop 37 (aP F.inner (AV.d (c7 F.path)) (AV.d (nb F.script)) ++ l)=List.drop 3 l:=TW hlf 3;have d40:∀ l,List.drop 40 (aP F.inner (AV.d (c7 F.path)) (AV.d (nb F.script)) ++ l)=List.drop 6 l:=TW hlf 6;simp [go_sem,hlf,hlt,Y7,K5,K6,t35,t39,d35,d37,d40];simp only [Bg];have hC:=ec (F:=F) hi;refine IW (st':=⟨[(12,.ptr 640 0 0 1)],[(640,⟨158,48,[gv F ++ [.d (.ro 1 (start.map bJ)),.nil,.nil,.d (.int .i64 0),.d (.int .i64 bud),.nil,.d (.int .i64 0)]]⟩),(1640,⟨4,1,[]⟩),(2640,⟨55,2,[]⟩)],9000⟩) (cj ⟨by simp [ai,fv,lk,AV.low,AV.low1],?_,aw⟩) ?_
   ·intro p hp;simp only [et,List.mem_nil_iff,or_false] at hp;rcases hp with rfl | rfl | rfl
    ·refine ⟨.inl (by simp [lk,gv,eS]),by show 640<9000;omega,?_⟩;intro q hq v hv;simp only [et,List.mem_nil_iff,or_false] at hq;subst hq;rcases cL.1 hv with h | h
     ·exact hC.2.1 v h _
     ·simp only [et,List.mem_nil_iff,or_false] at h;rcases h with rfl | rfl | rfl | rfl | rfl | rfl | rfl <;> trivial
    ·exact ⟨.inr ⟨by show 704≤1640;omega,rfl⟩,by show 1640<9000;omega,by intro q hq;simp at hq⟩
    ·exact ⟨.inr ⟨by show 704≤2640;omega,rfl⟩,by show 2640<9000;omega,by intro q hq;simp at hq⟩
   refine IW (st':=⟨[(12,.ptr 640 0 0 1)],gR 3 (aF (gv F)) ⟨⟨start,[],[],bud,[],0⟩,[],0⟩ fR,9000⟩) ?_ ?_
   ·refine F7 (st:=⟨_,_,9000⟩) (L:=640) (b:=⟨158,48,[gv F ++ [.d (.ro 1 (start.map bJ)),.nil,.nil,.d (.int .i64 0),.d (.int .i64 bud),.nil,.d (.int .i64 0)]]⟩) (es':=[bC (gv F) ⟨⟨start,[],[],bud,[],0⟩,[],0⟩ fR]) rfl aw rfl ?_;intro i y y' h1 h2
    match i with
    | 0 =>
     simp only [List.getElem?_cons_zero,Option.some.injEq] at h1 h2;subst h1 h2;refine ⟨by simp [bC,bB],fun j v v' a1 a2=>?_⟩;unfold bC bB at a2;by_cases hj:j<41
     ·rw [List.getElem?_append_left (by rw [hC.2.2];exact hj)] at a1 a2;rw [a1] at a2;exact .inl (Option.some.inj a2).symm
     ·rw [dz (by rw [hC.2.2];omega),hC.2.2] at a1 a2;generalize j - 41=k at a1 a2
      match k,a1,a2 with
      | 0,a1,a2=>cases a1;cases a2;exact .inl rfl
      | 1,a1,a2=>cases a1;cases a2;exact .inr (.inr ⟨rfl,1,rfl⟩)
      | 2,a1,a2=>cases a1;cases a2;exact .inr (.inl ⟨rfl,1640,by show 1640<9000;omega,rfl⟩)
      | 3,a1,a2=>cases a1;cases a2;exact .inl rfl
      | 4,a1,a2=>cases a1;cases a2;exact .inl rfl
      | 5,a1,a2=>cases a1;cases a2;exact .inr (.inl ⟨rfl,2640,by show 2640<9000;omega,rfl⟩)
      | 6,a1,a2=>cases a1;cases a2;exact .inl rfl
      | k+7,a1,a2=>cases a1
    | i+1=>simp at h1
   refine lv ?_;have hcs:=zN start [] (by have:=hst.m;omega) aw;have hfl:=bw hC ⟨start,[],[],bud,[],0⟩ [] 0 (fl start []);have hok0:RnOk ⟨start,[],[],bud,[],0⟩ 0:=⟨hst,hbd,aw,aw⟩;have hok1:=lR hok0 (eG hok0.st hok0.bd (fl start []));rw [TY];simp only [aF,bC,bB,id,jA] at *;simp [go_sem,hC.2.2];refine ag hcs (by intro v hv;simp at hv;subst hv;exact eB start []) ?_;simp [go_sem];have hRun:pT x F.script start bud=(if (sn (fc x F.script (F.script.length+1) 0 (au (fl start []) ⟨start,[],[],bud,[],0⟩))).e=0 then ((sn (fc x F.script (F.script.length+1) 0 (au (fl start []) ⟨start,[],[],bud,[],0⟩))).cl,0) else ([],(sn (fc x F.script (F.script.length+1) 0 (au (fl start []) ⟨start,[],[],bud,[],0⟩))).e)):=rfl;rw [hRun];clear hRun hR;refine EX hC hfl (by simp [TY,aF,bC,bB]) aq (by simp [AV.renL,AV.ren]) ?_;rintro v s' ρ rfl;clear hfl hcs;generalize au (fl start []) ⟨start,[],[],bud,[],0⟩=r1 at *;simp [go_sem];refine EX hC (O0 F x E hsb aq hx r1 [] hok1) rfl aq (fun ρ=>rfl) ?_;rintro v s' ρ ⟨J',rfl⟩;obtain ⟨k,hok2⟩:=K7 x E.hh.1 E.hh.2 hx hsb (F.script.length+1) 0 r1 hok1;generalize fc x F.script (F.script.length+1) 0 r1=r2 at *;simp [go_sem];refine EX hC (W8 hC r2 J' 0 hok2.st) rfl aq (fun ρ=>rfl) ?_;rintro v s' ρ rfl;generalize sn r2=r3 at *;simp [go_sem];refine EX hC (eu hC r3 J' 0) rfl aq (fun ρ=>rfl) ?_;rintro v s' ρ ⟨rfl,rfl⟩;rw [TY];simp only [aF,bC,bB];by_cases he:r3.e=0
   ·rw [if_pos he];simp [go_sem,AV.ren,he,hC.2.2,ah];exact dB (cs':=[.d (.ro 2 (r3.cl.map dm)),.d (.int .i64 0)]) (ap (ak (EL (id:=2640) (ty:=55) (by simp [lk,Hj]) trivial)) (ap (bc trivial) bz)) rfl a9 rfl
   ·rw [if_neg he];simp [go_sem,AV.ren,he];refine b7 [0,1,2,3,4,5] [] 0 (k:=6) ?_;intro G hG;simp [go_sem,AV.ren,he,hC.2.2];refine hG _ _ ?_;clear hG G;simp [go_sem,ah];exact dB (cs':=[.d (.ro 2 []),.d (.int .i64 r3.e)]) (ap (ak (.nil 2)) (ap (bc trivial) bz)) rfl a9 rfl
  ·have hR:GO F x start bud=.tup [.d (.ro 2 []),.d (.int .i64 1)]:=if_pos (.inl (by rw [h];omega));rw [hR];rw [h] at hck;refine bK Tryz.func53 Tryz.ntmps53 (rs:=[.tmp 10,.tmp 11]) (uC F start bud) ?_;simp [go_sem,cN,eS,hlf,hlt];refine ag hck hdS ?_;simp [go_sem,ah];exact dB (cs':=[.d (.ro 2 []),.d (.int .i64 1)]) (ap (ak (.nil 2)) (ap (bc trivial) bz)) rfl a9 rfl
theorem EY {b:List Nat} (hb:b.length=32):(List.range 32).map (fun k=>((cb b).drop k).take 1)=rb b:=by
 rw [gK hb,cC]
theorem GP {Q:AV→Prop} {st:St} {id n:Nat} {e:Int} {L:List Nat} (hl:L.length=n) (hb:lk id st.hp=some ⟨5,1,rb L⟩) (hq:Q (.tup [.d (nb L),.d (.int .i64 e)])):dy Q (.tup [.own id 0 n n,.d (.int .i64 e)]) st :=
 dB (ap (ak (aU hl hb trivial)) (ap (bc trivial) bz)) rfl a9 hq
theorem GQ {Q:AV→Prop} {st:St} {e:Int} (hq:Q (.tup [.d (nb []),.d (.int .i64 e)])):dy Q (.tup [.nil,.d (.int .i64 e)]) st :=
 dB (ap (ak (.nil 1)) (ap (bc trivial) bz)) rfl a9 hq
theorem GR {inner x k:List Nat} {ps:List (List Nat)} {o:Bool} (hi:inner.length=32) (hk:k.length=32) (f:av Tryz.prog 92 [cN inner ps x] (fun r=>r=.tup [.agg (cb k),.d (.bool o),.d (.int .i64 1)])) :
  av Tryz.prog 46 [cN inner ps x] (fun r=>r=.tup [.d (nb []),.d (.int .i64 1)]):=by
 refine bK Tryz.func46 Tryz.ntmps46 (rs:=[.tmp 2,.tmp 3]) (cQ _ _ _) ?_;have zd:List.drop 32 (cb z32)=[]:=gP rfl;simp [go_sem,cN,aP,mH hi,mG hi,c7,nb,hi,rA hi];refine ag f (cQ _ _ _) ?_;simp [go_sem,ao,hk,ar hk,zd,ah];exact GQ rfl
theorem GU {inner x k:List Nat} {ps:List (List Nat)} {o:Bool} (hi:inner.length=32) (hk:k.length=32) (f:av Tryz.prog 92 [cN inner ps x] (fun r=>r=.tup [.agg (cb k),.d (.bool o),.d (.int .i64 0)])) :
  av Tryz.prog 46 [cN inner ps x] (fun r=>r=.tup [.d (nb (81 :: 32 :: k)),.d (.int .i64 0)]):=by
 refine bK Tryz.func46 Tryz.ntmps46 (rs:=[.tmp 2,.tmp 3]) (cQ _ _ _) ?_;have zd:List.drop 32 (cb z32)=[]:=gP rfl;simp [go_sem,cN,aP,mH hi,mG hi,c7,nb,hi,rA hi];refine ag f (cQ _ _ _) ?_;have hx1:=EY hk;simp [go_sem] at hx1;simp [go_sem,ao,hk,ar hk,zd,hx1,aH,ah];have e:rb (81 :: 32 :: k)=[AV.d (.int .u8 81)] :: [AV.d (.int .u8 32)] :: rb k:=by simp [rb]
 have h34:(81 :: 32 :: k).length=34:=by simp [hk]
 exact GP (L:=81 :: 32 :: k) h34 (by rw [e];rfl) (by simp [nb])
open Go.Am Go.Sha Go.Ec
theorem yr (a:List Int) (ha:Wn 4 a):∃ r:List Int,Wn 4 r∧av Tryz.prog 124 [.agg (cI a)] (fun v=>v=.agg (cI r)):=by
 obtain ⟨s,c,hs,hc,vc,f1⟩:=pX a OI ha KC;have hal:=ha.1;have hsl:=hs.1;have hz:List.drop 4 (cI zI)=[]:=aW rfl;refine ⟨if c=0 then s else a,by split <;> assumption,?_⟩;refine bK Tryz.func124 Tryz.ntmps124 (rs:=[.cell 2 96]) (aO a) ?_;simp [go_sem,hal,ae hal];refine ed [0] [1,2,6,7] [0,3,4,5,8] (.alt (bt 1 (.alt (.step 2 [3,4,5] true (bt 6 (.step 7 [8] true .done))) (bt 6 (.step 2 [3,4,5] true (.step 7 [8] true .done))))) (bt 6 (bt 1 (.step 2 [3,4,5] true (.step 7 [8] true .done))))) ⟨[(1,.ptr 0 0 0 1),(2,.ptr 32 0 0 1),(3,.ptr 256 0 0 1),(4,.d (.int .u64 c))],[(256,⟨96,4,[cI s]⟩),(32,⟨96,4,[cI zI]⟩),(0,⟨96,4,[cI a]⟩)],9000⟩ (k:=9) ?h3 ?hq
 case h3 =>
  intro G hG
  have hW:∀ (fr:Fr) (hp:Hp),(fv 1 fr=.ptr 0 0 0 1∧fv 2 fr=.ptr 32 0 0 1∧fv 3 fr=.ptr 256 0 0 1∧fv 4 fr=.d (.int .u64 c)∧lk 256 hp=some ⟨96,4,[cI s]⟩∧lk 32 hp=some ⟨96,4,[cI zI]⟩∧lk 0 hp=some ⟨96,4,[cI a]⟩)→G fr hp:=by
   rintro fr hp ⟨q0,q1,q2,q3,q4,q5,q6⟩;refine hG _ _ (cj ?_);simp only [ay,ai];refine ⟨fun p hp=>?_,fun p hp=>?_,aw⟩
   ·simp only [et,List.mem_nil_iff,or_false] at hp;rcases hp with rfl | rfl | rfl | rfl <;> exact ⟨.inl (Eq.symm (by assumption)),by simp [AV.low,AV.low1]⟩
   ·simp only [et,List.mem_nil_iff,or_false] at hp;rcases hp with rfl | rfl | rfl <;> exact ⟨.inl (by assumption),aw,by intro r hr;simp only [et,List.mem_nil_iff,or_false] at hr;subst hr;first | exact bR _ _ | exact aL _ _ | exact lM _ _ _ _⟩
  simp [go_sem,hal,hsl,ae hal,ae hsl,hz,dK]
  repeat' first | exact hW _ _ ⟨rfl,rfl,rfl,rfl,rfl,rfl,rfl⟩ | (refine hW _ _ ?_;simp [fv,lk];done) | refine ag qf aw ?_ | refine ag f1 (aJ _ _) ?_ | apply And.intro | simp [go_sem,hal,hsl,ae hal,ae hsl,hz,dK]
 case hq =>
  by_cases h0:c=0
  ·rw [if_pos h0];simp [go_sem,h0,hsl,ae hsl,hz,ah];exact dE rfl
  ·rw [if_neg h0];simp [go_sem,h0,hal,ae hal,hz,ah];exact dE rfl
theorem O1 (a:List Int) (ha:Wn 4 a):∃ r:List Int,Wn 4 r∧av Tryz.prog 128 [.agg (cI a)] (fun v=>v=.agg (cI r)):=by
 obtain ⟨b,hb,f1⟩:=yr a ha;obtain ⟨s,c,hs,hc,vc,f2⟩:=pX OI b KC hb;obtain ⟨r,hr,f3⟩:=yr s hs;have hal:=ha.1;have hbl:=hb.1;have hsl:=hs.1;have hrl:=hr.1;have hz:List.drop 4 (cI zI)=[]:=aW rfl;refine ⟨r,hr,?_⟩;refine bK Tryz.func128 Tryz.ntmps128 (rs:=[.cell 2 96]) (aO a) ?_;simp [go_sem,hal,ae hal];refine ed [1] [0,2,3,7,8] [1,4,5,6,9] (.alt (bt 0 (.alt (bt 2 (.alt (.step 3 [4,5,6] true (bt 7 (.step 8 [9] true .done))) (bt 7 (.step 3 [4,5,6] true (.step 8 [9] true .done))))) (bt 7 (bt 2 (.step 3 [4,5,6] true (.step 8 [9] true .done)))))) (bt 7 (bt 0 (bt 2 (.step 3 [4,5,6] true (.step 8 [9] true .done)))))) ⟨[(2,.ptr 32 0 0 1),(3,.ptr 288 0 0 1)],[(288,⟨96,4,[cI s]⟩),(32,⟨96,4,[cI zI]⟩)],9000⟩ (k:=10) ?h3 ?hq
 case h3 =>
  intro G hG
  have hW:∀ (fr:Fr) (hp:Hp),(fv 2 fr=.ptr 32 0 0 1∧fv 3 fr=.ptr 288 0 0 1∧lk 288 hp=some ⟨96,4,[cI s]⟩∧lk 32 hp=some ⟨96,4,[cI zI]⟩)→G fr hp:=by
   rintro fr hp ⟨q0,q1,q2,q3⟩;refine hG _ _ (cj ?_);simp only [ay,ai];refine ⟨fun p hp=>?_,fun p hp=>?_,aw⟩
   ·simp only [et,List.mem_nil_iff,or_false] at hp;rcases hp with rfl | rfl <;> exact ⟨.inl (Eq.symm (by assumption)),by simp [AV.low,AV.low1]⟩
   ·simp only [et,List.mem_nil_iff,or_false] at hp;rcases hp with rfl | rfl <;> exact ⟨.inl (by assumption),aw,by intro r hr;simp only [et,List.mem_nil_iff,or_false] at hr;subst hr;first | exact bR _ _ | exact aL _ _ | exact lM _ _ _ _⟩
  simp [go_sem,hal,hsl,ae hal,ae hsl,hz,dK]
  repeat' first | exact hW _ _ ⟨rfl,rfl,rfl,rfl⟩ | (refine hW _ _ ?_;simp [fv,lk];done) | refine ag qf aw ?_ | refine ag f1 (aO _) ?_ | refine ag f2 (aJ _ _) ?_ | apply And.intro | simp [go_sem,hal,hsl,ae hal,ae hsl,hz,dK]
 case hq =>
  simp [go_sem,hsl,ae hsl];refine ag f3 (aO _) ?_;simp [go_sem,hrl,ae hrl,hz,ah];exact dE rfl
theorem K8 (b:List Nat) (hb:b.length=32) (hby:bytes b):∃ r:List Int,Wn 4 r∧av Tryz.prog 135 [.agg (cb b)] (fun v=>v=.agg (cI r)):=by
 obtain ⟨a,ha,va,f1⟩:=uq b hb hby;obtain ⟨r,hr,f2⟩:=yr a ha;have hal:=ha.1;have hrl:=hr.1;have hz:List.drop 4 (cI zI)=[]:=aW rfl;have zd:List.drop 32 (cb b)=[]:=gP hb;refine ⟨r,hr,?_⟩;refine bK Tryz.func135 Tryz.ntmps135 (rs:=[.cell 2 96]) (cn b) ?_;simp [go_sem,ao,hb,ar hb,zd];refine ag f1 (cn _) ?_;simp [go_sem];refine ag f2 (aO _) ?_;simp [go_sem,hrl,ae hrl,hz,ah];exact dE rfl
def T0 (a b d:List Nat):Nat→AV
 | 0=>.nil
 | 1=>.own 1192 0 a.length a.length
 | 2=>.own 1192 0 (a ++ b).length (a ++ b).length
 | _=>.own 1192 0 d.length d.length
def T8 (a b d:List Nat):Nat→Hp
 | 0=>[]
 | 1=>[(1192,⟨5,1,rb a⟩)]
 | 2=>[(1192,⟨5,1,rb (a ++ b)⟩)]
 | _=>[(1192,⟨5,1,rb d⟩)]
theorem C0 (a b c d:List Nat) (hd:a ++ b ++ c=d) (ha:a.length=32) (hb:b.length=32) (hc:c.length≤1000000):av Tryz.prog 89 [.d (.ro 1 [[nb a],[nb b],[nb c]])] (fun r=>r=.d (nb d)):=by
 refine bK Tryz.func89 Tryz.ntmps89 (rs:=[.tmp 2]) a9 ?_;simp [go_sem]
 refine ax (fun k:Nat=>⟨[(3,T0 a b d k),(6,.d (.ro 1 [[nb a],[nb b],[nb c]])),(7,.d (.int .i64 3)),(8,.d (.int .i64 (k:Int)))],T8 a b d k,OL k⟩)
  (fun k=>k≤3) (fun k=>3 - k) 0 aq (by simp [ay,ai,fv,lk,AV.low,AV.low1,T0,T8,OL]) ?_
 intro k hk;simp only [go_sem,Nat.reduceEqDiff,Nat.reduceAdd,Nat.reduceLT,↓reduceIte]
 match k,hk with
 | 0,_ =>
  refine ⟨fun _=>?_,fun h=>absurd (by decide) h⟩;simp [go_sem,T0,T8,OL,nb,cC];refine ⟨by rw [aH];omega,?_⟩;have w1:IntKind.i64.wrap 1=1:=by decide
  refine al 1 aq aq ?_;simp [ay,ai,fv,lk,AV.low,AV.low1,aH,w1];exact bp _ _
 | 1,_ =>
  refine ⟨fun _=>?_,fun h=>absurd (by decide) h⟩;simp [go_sem,T0,T8,OL,nb,cC,aH];refine ⟨aq,?_⟩;have w1:IntKind.i64.wrap 2=2:=by decide
  have ra:rb (a ++ b)=rb a ++ rb b:=by simp [rb]
  refine al 2 aq aq ?_;simp [ay,ai,fv,lk,AV.low,AV.low1,aH,w1,ra];intro r hr;exact hr.elim (bp _ _ r) (bp _ _ r)
 | 2,_ =>
  refine ⟨fun _=>?_,fun h=>absurd (by decide) h⟩;have ra:rb d=rb (a ++ b) ++ rb c:=by rw [← hd];simp [rb]
  have hln:d.length=(a ++ b).length+c.length:=by rw [← hd];exact b_
  have hab:(a ++ b).length=64:=by simp [ha,hb]
  simp only [T0,T8];generalize a ++ b=e at *;simp [go_sem,T0,T8,OL,nb,cC,aH];refine ⟨aq,?_⟩;have w1:IntKind.i64.wrap 3=3:=by decide
  refine al 3 aq aq ?_;simp [ay,ai,fv,lk,AV.low,AV.low1,aH,w1,ra,hln];intro r hr;exact hr.elim (bp _ _ r) (bp _ _ r)
 | 3,_ =>
  refine ⟨fun h=>absurd h (by decide),fun _=>?_⟩;simp only [T0,T8];simp [go_sem,ah];exact iF rfl (by simp [nb])
def yt:List Nat:=[66,73,80,48,51,52,48,47,99,104,97,108,108,101,110,103,101]
theorem O2 (a b c:List Nat) (ha:a.length=32) (hb:b.length=32) (hc:c.length≤1000):∃ r:List Int,Wn 4 r∧av Tryz.prog 88 [.agg (cb a),.agg (cb b),.d (nb c)] (fun v=>v=.agg (cI r)):=by
 obtain ⟨r,hr,f1⟩:=K8 (eV yt (a ++ b ++ c)) (yi _ _).1 (yi _ _).2;have hrl:=hr.1;have hz:List.drop 4 (cI zI)=[]:=aW rfl;refine ⟨r,hr,?_⟩;refine bK Tryz.func88 Tryz.ntmps88 (rs:=[.cell 6 96]) (by intro v hv;simp at hv;rcases hv with rfl | rfl | rfl;exact dC _;exact dC _;trivial) ?_;have hl3:(a ++ b ++ c).length≤2000:=by simp;omega
 simp [go_sem,ao,ha,hb,ar ha,ar hb];refine b7 [0,1,2] [(3,[]),(4,[]),(5,[]),(6,[]),(7,[])] 0 (k:=8) ?_;intro G hG;simp [go_sem,ao,ha,hb];refine bL [0,32,192] (C0 a b c _ rfl ha hb aq) rfl (aj (.one (ak (gA (rows:=[[.sub 0 0 0 1 32 32 1],[.sub 32 0 0 1 32 32 1],[.d (nb c)]]) rfl aw rfl (RowsR.cons (.cons (dZ rfl aw ha) .nil) (RowsR.cons (.cons (dZ rfl aw hb) .nil) (RowsR.cons (.cons (.d _) .nil) .nil))) rfl (by intro r hr;simp at hr;rcases hr with rfl | rfl | rfl <;> rfl)))) aD) ?_;generalize a ++ b ++ c=d at *;simp [go_sem,aC];refine ag (gl yt (.str [66,73,80,48,51,52,48,47,99,104,97,108,108,101,110,103,101]) rfl d (by simp [yt]) aq) a9 ?_;simp [go_sem];refine ag f1 (cn _) ?_;simp [go_sem,hrl];refine hG _ _ ?_;clear hG G;simp [go_sem,hrl,ae hrl,ah];exact dE rfl
theorem Aw (l:List Nat):(l.map fun (b:Nat)=>[DV.int .u8 (b:Int)]).flatten=cd l:=by
 unfold cd
 induction l with
 | nil=>rfl
 | cons a l ih=>simp only [List.map_cons,List.flatten_cons,ih];rfl
theorem Ax:∀ l:List Nat,bW .u8 (cb l)=some (l.map fun (b:Nat)=>(b:Int))
 | []=>rfl
 | a :: l=>by
  have:=Ax l;unfold cb at this ⊢;simp only [List.map_cons,bW,if_true,this];rfl
theorem qk (k m s:List Nat):∀ v,v ∈ [AV.agg (cb k),.d (nb m),.d (nb s)]→v.deep:=by
 intro v hv;simp at hv;rcases hv with rfl | rfl | rfl
 ·exact dC _
 ·trivial
 ·trivial
theorem GV (key msg sig:List Nat) (hk:key.length=32) (hkb:bytes key) (hsb:bytes sig) (hm:msg.length≤1000) (hs:sig.length≤1000):∃ o:Bool,av Tryz.prog 156 [.agg (cb key),.d (nb msg),.d (nb sig)] (fun v=>v=.d (.bool o)):=by
 obtain ⟨x,y,c,ok,hx,hy,_,f1⟩:=An key hk hkb;have zd:List.drop 32 (cb key)=[]:=gP hk;have hz32:z32.length=32:=rfl;have hzd:List.drop 32 (cb z32)=[]:=rfl;have hz:List.drop 4 (cI zI)=[]:=aW rfl;have hxl:=hx.1;have hyl:=hy.1;have hpl:(cP x y c).length=9:=bU hxl hyl c;have hpt:List.take 9 (cP x y c)=cP x y c:=cA (by rw [hpl];omega)
 cases ok with
 | false =>
  refine ⟨false,?_⟩;refine bK Tryz.func156 Tryz.ntmps156 (rs:=[.tmp 6]) (qk _ _ _) ?_;simp [go_sem,ao,hk,ar hk,zd];refine ag f1 (cn _) ?_;simp [go_sem,hpl,hpt,ah];exact aa trivial rfl
 | true =>
  by_cases h64:sig.length=64
  ·have hrl:(sig.take 32).length=32:=by simp [h64]
   have hsl:(sig.drop 32).length=32:=by simp [h64]
   have hsbd:bytes (sig.drop 32):=fun z hz=>hsb z (List.mem_of_mem_drop hz);obtain ⟨s,ok2,hsw,_,f2⟩:=Ak (sig.drop 32) hsl hsbd;have hswl:=hsw.1;have h64i:(sig.length:Int)=64:=aq;have e1:List.take 32 (sig.map fun (b:Nat)=>[DV.int .u8 (b:Int)])=(sig.take 32).map fun (b:Nat)=>[DV.int .u8 (b:Int)]:=List.map_take.symm;have e2:List.drop 32 (sig.map fun (b:Nat)=>[DV.int .u8 (b:Int)])=(sig.drop 32).map fun (b:Nat)=>[DV.int .u8 (b:Int)]:=List.map_drop.symm;have e3:List.take 64 (sig.map fun (b:Nat)=>[DV.int .u8 (b:Int)])=sig.map fun (b:Nat)=>[DV.int .u8 (b:Int)]:=cA (by simp [h64]);obtain ⟨ch,hch,f3⟩:=O2 (sig.take 32) key msg hrl hk hm;generalize sig.take 32=R at *;generalize sig.drop 32=S at *
   cases ok2 with
   | false =>
    refine ⟨false,?_⟩;refine bK Tryz.func156 Tryz.ntmps156 (rs:=[.tmp 6]) (qk _ _ _) ?_;simp [go_sem,ao,hk,ar hk,zd];refine ag f1 (cn _) ?_;simp [go_sem,hpl,hpt,nb,h64,h64i,e1,e2,e3,Aw,lr,ar hrl,ar hsl,ao,hrl,hsl,hz32,hzd];refine ag f2 (cn _) ?_;simp [go_sem,hswl,ae hswl,hz,ah];exact aa trivial rfl
   | true =>
    obtain ⟨ng,hng,f4⟩:=O1 ch hch;obtain ⟨u,v,q,hu,hv,_,f5⟩:=EH s ng gX gY x y false c hsw hng WN WO hx hy;obtain ⟨o,_,f6⟩:=ED u v q hu hv;obtain ⟨B,hB,hBb,_,f7⟩:=wj u v q hu hv;have hngl:=hng.1;have hql:(cP u v q).length=9:=bU hu.1 hv.1 q;have hqt:List.take 9 (cP u v q)=cP u v q:=cA (by rw [hql];omega);refine ⟨o && decide ((B.map fun (b:Nat)=>(b:Int))=R.map fun (b:Nat)=>(b:Int)),?_⟩;refine bK Tryz.func156 Tryz.ntmps156 (rs:=[.tmp 6]) (qk _ _ _) ?_;simp [go_sem,ao,hk,ar hk,zd];refine ag f1 (cn _) ?_;simp [go_sem,hpl,hpt,nb,h64,h64i,e1,e2,e3,Aw,lr,ar hrl,ar hsl,ao,hrl,hsl,hz32,hzd];refine ag f2 (cn _) ?_;simp [go_sem,hswl,ae hswl,hz,ao,hk,hrl,ar hk,ar hrl];refine ag f3 (by intro v hv;simp at hv;rcases hv with rfl | rfl | rfl;exact dC _;exact dC _;trivial) ?_;simp [go_sem];refine ag f4 (aO _) ?_;simp [go_sem,hngl,ae hngl,hz];refine ed [0,2,3] [1,4,5,6] [0,2,3] (.alt (bt 1 (.alt (a_ [4,5,6]) (bt 5 (a_ [4,6])))) (bt 5 (bt 1 (a_ [4,6])))) ⟨[(9,.ptr 672 0 0 1),(12,.ptr 1536 0 0 1)],[(1536,⟨189,9,[cP u v q]⟩),(672,⟨29,32,[cb R]⟩)],9000⟩ (k:=7) ?h3 ?hq
    case h3 =>
     intro G hG
     have hW:∀ (fr:Fr) (hp:Hp),(fv 9 fr=.ptr 672 0 0 1∧fv 12 fr=.ptr 1536 0 0 1∧lk 1536 hp=some ⟨189,9,[cP u v q]⟩∧lk 672 hp=some ⟨29,32,[cb R]⟩)→G fr hp:=by
      rintro fr hp ⟨q0,q1,q2,q3⟩;refine hG _ _ (cj ?_);simp only [ay,ai];refine ⟨fun p hp=>?_,fun p hp=>?_,aw⟩
      ·simp only [et,List.mem_nil_iff,or_false] at hp;rcases hp with rfl | rfl <;> exact ⟨.inl (Eq.symm (by assumption)),by simp [AV.low,AV.low1]⟩
      ·simp only [et,List.mem_nil_iff,or_false] at hp;rcases hp with rfl | rfl <;> exact ⟨.inl (by assumption),aw,by intro r hr;simp only [et,List.mem_nil_iff,or_false] at hr;subst hr;first | exact bR _ _ | exact aL _ _ | exact lM _ _ _ _⟩
     simp [go_sem,hswl,hngl,ae hswl,ae hngl,hpl,hpt,hql,hqt,dK]
     repeat' first | exact hW _ _ ⟨rfl,rfl,rfl,rfl⟩ | (refine hW _ _ ?_;simp [fv,lk];done) | refine ag yf aw ?_ | refine ag f5 (by intro v hv;simp at hv;rcases hv with rfl | rfl | rfl | rfl <;> first | exact eC _ | exact jE _ _ _) ?_ | apply And.intro | simp [go_sem,hswl,hngl,ae hswl,ae hngl,hpl,hpt,hql,hqt,dK]
    case hq =>
     cases o with
     | false =>
      simp [go_sem];refine b7 [0] [(1,[2,3,5]),(4,[6,7,8])] 2 (k:=9) ?_;intro G hG;simp [go_sem,hql,hqt];refine ag f6 (by intro v hv;simp at hv;subst hv;exact jE _ _ _) ?_;simp [go_sem];refine hG _ _ ?_;clear hG G;simp [go_sem,ah];exact aa trivial rfl
     | true =>
      simp [go_sem];refine b7 [0] [(1,[2,3,5]),(4,[6,7,8])] 2 (k:=9) ?_;intro G hG;simp [go_sem,hql,hqt];refine ag f6 (by intro v hv;simp at hv;subst hv;exact jE _ _ _) ?_;simp [go_sem,hql,hqt,ao,hrl,ar hrl];refine ag f7 (by intro v hv;simp at hv;subst hv;exact jE _ _ _) ?_;simp [go_sem,ao,hrl,ar hrl,hB,Ax];refine hG _ _ ?_;clear hG G;simp [go_sem,ah];exact aa trivial rfl
  ·have h64i:¬ (sig.length:Int)=64:=aq;refine ⟨false,?_⟩;refine bK Tryz.func156 Tryz.ntmps156 (rs:=[.tmp 6]) (qk _ _ _) ?_;simp [go_sem,ao,hk,ar hk,zd];refine ag f1 (cn _) ?_;simp [go_sem,hpl,hpt,nb,h64,h64i,ah];exact aa trivial rfl
end Go.Proofs.YtmfnimjnneflnaaGreat
namespace Go.Sha
def qm (i:Ip):List Nat:=i.hash ++ le i.idx 4
def rC (i:Ip):List Nat:=le i.seq 4
def uD (o:Nat × List Nat):List Nat:=le o.1 8
def uU (o:Nat × List Nat):List Nat:=cq o.2
end Go.Sha
namespace Go.Proofs.YtmfnimjnneflnaaGreat
open Go.Am Go.Sha
def yu (l:List Nat):List AV:=da (E H0 l).1 ++ [.d (nb (E H0 l).2),.d (.int .u64 (l.length:Int))]
theorem bq (ρ:Nat→Nat) (l:List Nat):AV.renL ρ (yu l)=yu l:=by rw [yu,fN];rfl
theorem jH (n:Nat) (l:List Nat):∀ v,v ∈ yu l→v.low1 n:=by
 intro v hv;simp [yu,da] at hv;rcases hv with rfl | rfl | rfl | rfl | rfl | rfl | rfl | rfl | rfl | rfl <;> trivial
theorem O3 (n:Nat):IX n (da H0 ++ [.nil,.d (.int .u64 0)]) (yu []):=F8 (da H0) [.d (.int .u64 0)] (.inr (.inr ⟨.inl rfl,.inr ⟨1,rfl⟩⟩))
theorem Az {st:St} (L:Nat) (h:lk L st.hp=some ⟨167,10,[da H0 ++ [.nil,.d (.int .u64 0)]]⟩):Wk st ⟨st.fr,bT L ⟨167,10,[yu []]⟩ st.hp,st.nx⟩:=RP h (by decide) (O3 _)
theorem nZ (l b:List Nat) (hl:l.length+b.length≤100000000000) :
  cB Tryz.prog 58 1 [(0,⟨167,10,[yu l]⟩)] [.ptr 0 0 0 1,.d (nb b)] (fun r hp'=>r=.tup []∧lk 0 hp'=some ⟨167,10,[yu (l ++ b)]⟩):=by
 have h:=zp _ H0 l (cR _);have:=Nv (E H0 l).1 (.d (nb (E H0 l).2)) (E H0 l).2 b l.length (.inl rfl) aq aq;rw [← zo b l.length H0 l (cR _),← b_] at this;exact this
theorem C2 (ty:TypeId) (e:Nat) (row:List AV) (l b:List Nat) (hx0:(List.range 32).map (fun k=>(row.drop k).take 1)=List.map ((fun r=>List.map AV.d r) ∘ fun (x:Nat)=>[DV.int .u8 (x:Int)]) b) (hlow:∀ n v,v ∈ row→v.low1 n) (hb32:b.length=32) (hl:l.length+b.length≤100000000000) :
  cB Tryz.prog 58 2 [(0,⟨167,10,[yu l]⟩),(1,⟨ty,e,[row]⟩)] [.ptr 0 0 0 1,.sub 1 0 0 1 32 32 1] (fun r hp'=>r=.tup []∧lk 0 hp'=some ⟨167,10,[yu (l ++ b)]⟩∧lk 1 hp'=some ⟨ty,e,[row]⟩):=by
 have h:=zp _ H0 l (cR _);have:=IQ ty e row (E H0 l).1 (.d (nb (E H0 l).2)) (E H0 l).2 b l.length hx0 hlow (.inl rfl) aq hb32 aq;rw [← zo b l.length H0 l (cR _),← b_] at this;exact this
theorem wC (l:List Nat) (hl:l.length≤100000000000) :
  cB Tryz.prog 60 1 [(0,⟨167,10,[yu l]⟩)] [.ptr 0 0 0 1] (fun r hp'=>r=.agg (cb (bo l))∧lk 0 hp'=some ⟨167,10,[yu l]⟩):=by
 have h:=zp _ H0 l (cR _);exact Bw (E H0 l).1 (.d (nb (E H0 l).2)) (E H0 l).2 l.length (.inl rfl) aq
theorem lg {α:Type} {f:α→List Nat} {l:List α}:[] ++ gp f l 0=(l.map f).flatten:=by simp [gp]
theorem EZ (ρ:Nat→Nat) (i:Ip):AV.renL ρ (qX i)=qX i:=by
 unfold qX
 have:∀ (l m:List AV),AV.renL ρ (l ++ m)=AV.renL ρ l ++ AV.renL ρ m:=fun l m=>by
  induction l with
  | nil=>simp [AV.renL]
  | cons a l ih=>simp [AV.renL,ih]
 rw [this,dc];rfl
theorem E0 (t:Tn) (ht:Sm t):av Tryz.prog 55 [.agg (eT t)] (fun r=>r=.agg (cb (bo (t.ins.map rC).flatten))):=by
 obtain ⟨⟨hv,hlk,hi,ho⟩,h1,h2,h3,h4⟩:=ht;refine bK Tryz.func55 Tryz.ntmps55 (rs:=[.cell 2 29]) (by simp [AV.deep,AV.deep1,eT]) ?_;simp [go_sem,eT];refine bf [] mC rfl aw aw aw (by simp [AV.renL]) ?_;rintro r hp' ⟨rfl,h0⟩;refine ⟨[(97,0)],rfl,?_⟩;simp [go_sem,bQ,bI,h0,Blk.ren,aR,fN,AV.ren,bO];clear h0 hp';generalize hR0:(t.ins.map rC).flatten=R
 refine mz (fun u:Nat × List Nat=>⟨[(2,.ptr 32 0 0 1),(3,.ptr 64 0 0 1),(8,.d (.ro 35 (t.ins.map eI))),(9,.d (.int .i64 (t.ins.length:Int))),(10,.d (.int .i64 (u.1:Int)))],[(64,⟨167,10,[yu u.2]⟩),(32,⟨29,32,[cb z32]⟩)],2000⟩)
  (fun u=>u.1≤t.ins.length∧u.2.length≤4*u.1∧u.2 ++ gp rC t.ins u.1=R) (fun u=>t.ins.length - u.1) (0,[]) ⟨aw,aw,by rw [← hR0];exact lg⟩ ((Az 64 rfl).trans (cj (by
   simp [ay,ai,fv,lk,bT,AV.low,AV.low1]
   exact ⟨jH _ _,aL _ _⟩))) ?_
 rintro ⟨k,B⟩ ⟨hk,hBl,hR⟩;simp only at hk hBl hR;simp only [go_sem,Nat.reduceEqDiff,Nat.reduceAdd,Nat.reduceLT,↓reduceIte,Nat.reduceMul];refine ⟨fun h=>?_,fun h=>?_⟩
 ·obtain ⟨i,hi1,hd⟩:=bu (l:=t.ins) (k:=k) aq;obtain ⟨hi32,hidx,hseq⟩:=hi i (cr hi1);have w3:=aA (k:=k) aq;have hel:=tN hi32;have hcl:=nC hi32;simp [go_sem,hi1,hel,zK,hcl,mO hi32,mP,PX hi32];refine bL [] (gW [] i.seq aw hseq) rfl (aj (.one (ak (.nil 1))) (aj (.deep a9) aD)) ?_;simp [go_sem,aC];refine bf [(0,64)] (nZ B (le i.seq 4) (by rw [a8];omega)) rfl aw (by simp [lk]) (by simp [lk,Blk.ren,aR,bq]) (by simp [AV.renL,AV.ren,bO,gk,lk,ek]) ?_;rintro r hp' ⟨rfl,h0⟩;refine ⟨[],rfl,?_⟩;simp [go_sem,bQ,bI,h0,Blk.ren,aR,bq,AV.renL,AV.ren,bO,w3];refine al (k+1,B ++ le i.seq 4) ⟨by simp only;omega,by simp only [b_,a8];omega,fu hd hR⟩ (by simp only;omega) ?_;simp [ay,ai,fv,lk,AV.low,AV.low1];exact ⟨jH _ _,aL _ _⟩
 ·have hkl:k=t.ins.length:=aq;subst hkl;have:=fw hR;subst this;simp [go_sem];refine bf [(0,64)] (wC B aq) rfl aw (by simp [lk]) (by simp [lk,Blk.ren,aR,bq]) (by simp [AV.renL,AV.ren,bO,gk,lk]) ?_;rintro r hp' ⟨rfl,h0⟩;refine ⟨[],rfl,?_⟩;have hL:=aZ B;simp [go_sem,bQ,bI,h0,Blk.ren,aR,bq,dc,AV.ren,bO,hL,ar hL,cg,ah];exact aa (by simp [AV.deep];exact bZ _) rfl
theorem O4 (t:Tn) (ht:Sm t):av Tryz.prog 130 [.agg (eT t)] (fun r=>r=.agg (cb (bo (t.ins.map qm).flatten))):=by
 obtain ⟨⟨hv,hlk,hi,ho⟩,h1,h2,h3,h4⟩:=ht;refine bK Tryz.func130 Tryz.ntmps130 (rs:=[.cell 2 29]) (by simp [AV.deep,AV.deep1,eT]) ?_;simp [go_sem,eT];refine bf [] mC rfl aw aw aw (by simp [AV.renL]) ?_;rintro r hp' ⟨rfl,h0⟩;refine ⟨[(97,0)],rfl,?_⟩;simp [go_sem,bQ,bI,h0,Blk.ren,aR,fN,AV.ren,bO];clear h0 hp';generalize hR0:(t.ins.map qm).flatten=R
 refine mz (fun u:Nat × List Nat=>⟨[(2,.ptr 32 0 0 1),(3,.ptr 64 0 0 1),(8,.d (.ro 35 (t.ins.map eI))),(9,.d (.int .i64 (t.ins.length:Int))),(10,.d (.int .i64 (u.1:Int)))],[(64,⟨167,10,[yu u.2]⟩),(32,⟨29,32,[cb z32]⟩)],2000⟩)
  (fun u=>u.1≤t.ins.length∧u.2.length≤36*u.1∧u.2 ++ gp qm t.ins u.1=R) (fun u=>t.ins.length - u.1) (0,[]) ⟨aw,aw,by rw [← hR0];exact lg⟩ ((Az 64 rfl).trans (cj (by
   simp [ay,ai,fv,lk,bT,AV.low,AV.low1]
   exact ⟨jH _ _,aL _ _⟩))) ?_
 rintro ⟨k,B⟩ ⟨hk,hBl,hR⟩;simp only at hk hBl hR;simp only [go_sem,Nat.reduceEqDiff,Nat.reduceAdd,Nat.reduceLT,↓reduceIte,Nat.reduceMul];refine ⟨fun h=>?_,fun h=>?_⟩
 ·obtain ⟨i,hi1,hd⟩:=bu (l:=t.ins) (k:=k) aq;obtain ⟨hi32,hidx,hseq⟩:=hi i (cr hi1);have w3:=aA (k:=k) aq;have hel:=tN hi32;have hcl:=nC hi32;have hx:(List.range 32).map (fun k=>((qX i).drop k).take 1)=List.map ((fun r=>List.map AV.d r) ∘ fun (x:Nat)=>[DV.int .u8 (x:Int)]) i.hash:=by rw [zL hi32];simp [rb,Function.comp_def]
  simp [go_sem,hi1,hel,zK,hcl,mO hi32,mP];refine bf [(0,64),(1,2096)] (C2 68 35 (qX i) B i.hash hx (fun n=>NQ n i) hi32 aq) rfl aw (by simp [lk]) (by simp [lk,Blk.ren,aR,bq,EZ]) (by simp [AV.renL,AV.ren,bO,gk,lk]) ?_;rintro r hp' ⟨rfl,h0,h1⟩;refine ⟨[],rfl,?_⟩;have hBl2:(B ++ i.hash).length=B.length+32:=by rw [b_,hi32]
  have hB3:B ++ qm i=B ++ i.hash ++ le i.idx 4:=by simp [qm]
  generalize B ++ i.hash=B1 at *;simp [go_sem,bQ,bI,h0,h1,Blk.ren,aR,bq,EZ,AV.renL,AV.ren,bO,hcl,PW hi32];clear h0 h1 hp';refine bL [] (gW [] i.idx aw hidx) rfl (aj (.one (ak (.nil 1))) (aj (.deep a9) aD)) ?_;simp [go_sem,aC];refine bf [(0,64)] (nZ B1 (le i.idx 4) (by rw [a8];omega)) rfl aw (by simp [lk]) (by simp [lk,Blk.ren,aR,bq]) (by simp [AV.renL,AV.ren,bO,gk,lk,ek]) ?_;rintro r hp' ⟨rfl,h0⟩;refine ⟨[],rfl,?_⟩;rw [← hB3] at h0;have hB4:(B ++ qm i).length=B1.length+4:=by rw [hB3,b_,a8]
  simp [go_sem,bQ,bI,h0,Blk.ren,aR,bq,AV.renL,AV.ren,bO,w3];refine al (k+1,B ++ qm i) ⟨by simp only;omega,by simp only;omega,fu hd hR⟩ (by simp only;omega) ?_;simp [ay,ai,fv,lk,AV.low,AV.low1];exact ⟨jH _ _,aL _ _⟩
 ·have hkl:k=t.ins.length:=aq;subst hkl;have:=fw hR;subst this;simp [go_sem];refine bf [(0,64)] (wC B aq) rfl aw (by simp [lk]) (by simp [lk,Blk.ren,aR,bq]) (by simp [AV.renL,AV.ren,bO,gk,lk]) ?_;rintro r hp' ⟨rfl,h0⟩;refine ⟨[],rfl,?_⟩;have hL:=aZ B;simp [go_sem,bQ,bI,h0,Blk.ren,aR,bq,dc,AV.ren,bO,hL,ar hL,cg,ah];exact aa (by simp [AV.deep];exact bZ _) rfl
theorem AA (os:List (Nat × List Nat)) (hn:os.length≤8) (ho:∀ o,o ∈ os→o.1<18446744073709551616∧o.2.length≤1100):av Tryz.prog 56 [.d (.ro 2 (os.map eO))] (fun r=>r=.agg (cb (bo (os.map io).flatten))):=by
 refine bK Tryz.func56 Tryz.ntmps56 (rs:=[.cell 2 29]) a9 ?_;simp [go_sem];refine bf [] mC rfl aw aw aw (by simp [AV.renL]) ?_;rintro r hp' ⟨rfl,h0⟩;refine ⟨[(97,0)],rfl,?_⟩;simp [go_sem,bQ,bI,h0,Blk.ren,aR,fN,AV.ren,bO];clear h0 hp';generalize hR0:(os.map io).flatten=R
 refine mz (fun u:Nat × List Nat=>⟨[(2,.ptr 0 0 0 1),(3,.ptr 32 0 0 1),(7,.d (.ro 2 (os.map eO))),(8,.d (.int .i64 (os.length:Int))),(9,.d (.int .i64 (u.1:Int)))],[(32,⟨167,10,[yu u.2]⟩),(0,⟨29,32,[cb z32]⟩)],2000⟩)
  (fun u=>u.1≤os.length∧u.2.length≤1200*u.1∧u.2 ++ gp io os u.1=R) (fun u=>os.length - u.1) (0,[]) ⟨aw,aw,by rw [← hR0];exact lg⟩ ((Az 32 rfl).trans (cj (by
   simp [ay,ai,fv,lk,bT,AV.low,AV.low1]
   exact ⟨jH _ _,aL _ _⟩))) ?_
 rintro ⟨k,B⟩ ⟨hk,hBl,hR⟩;simp only at hk hBl hR;simp only [go_sem,Nat.reduceEqDiff,Nat.reduceAdd,Nat.reduceLT,↓reduceIte,Nat.reduceMul];refine ⟨fun h=>?_,fun h=>?_⟩
 ·obtain ⟨o,ho1,hd⟩:=bu (l:=os) (k:=k) aq;obtain ⟨ho64,hol⟩:=ho o (cr ho1);have w3:=aA (k:=k) aq;have hbl:=cE o.2.length;have hbb:(cq o.2).length=(aI o.2.length).length+o.2.length:=by simp [cq]
  simp [go_sem,ho1,eO];refine bL [] (tQ [] o.1 aw ho64) rfl (aj (.one (ak (.nil 1))) (aj (.deep a9) aD)) ?_;simp [go_sem,aC];refine bf [(0,32)] (nZ B (le o.1 8) (by rw [a8];omega)) rfl aw (by simp [lk]) (by simp [lk,Blk.ren,aR,bq]) (by simp [AV.renL,AV.ren,bO,gk,lk,ek]) ?_;rintro r hp' ⟨rfl,h0⟩;refine ⟨[],rfl,?_⟩;have hBl2:(B ++ le o.1 8).length=B.length+8:=by rw [b_,a8]
  have hB3:B ++ io o=B ++ le o.1 8 ++ cq o.2:=by simp [io]
  generalize B ++ le o.1 8=B1 at *;simp [go_sem,bQ,bI,h0,Blk.ren,aR,bq,AV.renL,AV.ren,bO];clear h0 hp';refine bL [] (eW [] o.2 aw aq) rfl (aj (.one (ak (.nil 1))) (aj (.deep a9) aD)) ?_;simp [go_sem,aC];refine bf [(0,32)] (nZ B1 (cq o.2) aq) rfl aw (by simp [lk]) (by simp [lk,Blk.ren,aR,bq]) (by simp [AV.renL,AV.ren,bO,gk,lk,nb,cq]) ?_;rintro r hp' ⟨rfl,h0⟩;refine ⟨[],rfl,?_⟩;rw [← hB3] at h0;have hB4:(B ++ io o).length=B1.length+(cq o.2).length:=by rw [hB3,b_]
  simp [go_sem,bQ,bI,h0,Blk.ren,aR,bq,AV.renL,AV.ren,bO,w3];refine al (k+1,B ++ io o) ⟨by simp only;omega,by simp only;omega,fu hd hR⟩ (by simp only;omega) ?_;simp [ay,ai,fv,lk,AV.low,AV.low1];exact ⟨jH _ _,aL _ _⟩
 ·have hkl:k=os.length:=aq;subst hkl;have:=fw hR;subst this;simp [go_sem];refine bf [(0,32)] (wC B aq) rfl aw (by simp [lk]) (by simp [lk,Blk.ren,aR,bq]) (by simp [AV.renL,AV.ren,bO,gk,lk]) ?_;rintro r hp' ⟨rfl,h0⟩;refine ⟨[],rfl,?_⟩;have hL:=aZ B;simp [go_sem,bQ,bI,h0,Blk.ren,aR,bq,dc,AV.ren,bO,hL,ar hL,cg,ah];exact aa (by simp [AV.deep];exact bZ _) rfl
end Go.Proofs.YtmfnimjnneflnaaGreat
namespace Go.Sha
def iK:List Nat:=[84,97,112,83,105,103,104,97,115,104]
end Go.Sha
namespace Go.Proofs.YtmfnimjnneflnaaGreat
open Go.Am Go.Sha
theorem K9 (os:List (Nat × List Nat)) (hn:os.length≤8) (ho:∀ o,o ∈ os→o.1<18446744073709551616∧o.2.length≤1100):av Tryz.prog 83 [.d (.ro 2 (os.map eO))] (fun r=>r=.tup [.agg (cb (bo (os.map uD).flatten)),.agg (cb (bo (os.map uU).flatten))]):=by
 refine bK Tryz.func83 Tryz.ntmps83 (rs:=[.cell 2 29,.cell 3 29]) a9 ?_;simp [go_sem];refine bf [] mC rfl aw aw aw (by simp [AV.renL]) ?_;rintro r hp' ⟨rfl,h0⟩;refine ⟨[(97,0)],rfl,?_⟩;simp [go_sem,bQ,bI,h0,Blk.ren,aR,fN,AV.ren,bO];clear h0 hp';refine bf [] mC rfl aw aw aw (by simp [AV.renL]) ?_;rintro r hp' ⟨rfl,h0⟩;refine ⟨[(97,0)],rfl,?_⟩;simp [go_sem,bQ,bI,h0,Blk.ren,aR,fN,AV.ren,bO];clear h0 hp';generalize hV0:(os.map uD).flatten=V;generalize hS0:(os.map uU).flatten=S
 refine mz (fun u:Nat × List Nat × List Nat=>⟨[(2,.ptr 0 0 0 1),(3,.ptr 32 0 0 1),(4,.ptr 64 0 0 1),(5,.ptr 96 0 0 1),(10,.d (.ro 2 (os.map eO))),(11,.d (.int .i64 (os.length:Int))),(12,.d (.int .i64 (u.1:Int)))],
   [(96,⟨167,10,[yu u.2.2]⟩),(64,⟨167,10,[yu u.2.1]⟩),(32,⟨29,32,[cb z32]⟩),(0,⟨29,32,[cb z32]⟩)],2000⟩)
  (fun u=>u.1≤os.length∧(u.2.1.length≤8*u.1∧u.2.2.length≤1200*u.1)∧u.2.1 ++ gp uD os u.1=V∧u.2.2 ++ gp uU os u.1=S) (fun u=>os.length - u.1) (0,[],[]) ⟨aw,aw,by rw [← hV0];exact lg,by rw [← hS0];exact lg⟩
  ((Az 64 rfl).trans ((Az 96 rfl).trans (cj (by
   simp [ay,ai,fv,lk,bT,AV.low,AV.low1]
   exact ⟨jH _ _,aL _ _⟩)))) ?_
 rintro ⟨k,A,B⟩ ⟨hk,⟨hAl,hBl⟩,hV,hS⟩;simp only at hk hAl hBl hV hS;simp only [go_sem,Nat.reduceEqDiff,Nat.reduceAdd,Nat.reduceLT,↓reduceIte,Nat.reduceMul];refine ⟨fun h=>?_,fun h=>?_⟩
 ·obtain ⟨o,ho1,hd⟩:=bu (l:=os) (k:=k) aq;obtain ⟨ho64,hol⟩:=ho o (cr ho1);have w3:=aA (k:=k) aq;have hbl:=cE o.2.length;have hbb:(cq o.2).length=(aI o.2.length).length+o.2.length:=by simp [cq]
  simp [go_sem,ho1,eO];refine bL [] (tQ [] o.1 aw ho64) rfl (aj (.one (ak (.nil 1))) (aj (.deep a9) aD)) ?_;simp [go_sem,aC];refine bf [(0,64)] (nZ A (le o.1 8) (by rw [a8];omega)) rfl aw (by simp [lk]) (by simp [lk,Blk.ren,aR,bq]) (by simp [AV.renL,AV.ren,bO,gk,lk,ek]) ?_;rintro r hp' ⟨rfl,h0⟩;refine ⟨[],rfl,?_⟩;have hA2:(A ++ uD o).length=A.length+8:=by rw [b_,uD,a8]
  rw [show A ++ le o.1 8=A ++ uD o from rfl] at h0;simp [go_sem,bQ,bI,h0,Blk.ren,aR,bq,AV.renL,AV.ren,bO];clear h0 hp';refine bL [] (eW [] o.2 aw aq) rfl (aj (.one (ak (.nil 1))) (aj (.deep a9) aD)) ?_;simp [go_sem,aC];refine bf [(0,96)] (nZ B (cq o.2) aq) rfl aw (by simp [lk]) (by simp [lk,Blk.ren,aR,bq]) (by simp [AV.renL,AV.ren,bO,gk,lk,nb,cq]) ?_;rintro r hp' ⟨rfl,h0⟩;refine ⟨[],rfl,?_⟩;have hB4:(B ++ uU o).length=B.length+(cq o.2).length:=by rw [b_];rfl
  rw [show B ++ cq o.2=B ++ uU o from rfl] at h0;simp [go_sem,bQ,bI,h0,Blk.ren,aR,bq,AV.renL,AV.ren,bO,w3];refine al (k+1,A ++ uD o,B ++ uU o) ⟨by simp only;omega,⟨by simp only;omega,by simp only;omega⟩,fu hd hV,fu hd hS⟩ (by simp only;omega) ?_;simp [ay,ai,fv,lk,AV.low,AV.low1];exact ⟨jH _ _,jH _ _,aL _ _⟩
 ·have hkl:k=os.length:=aq;subst hkl;have:=fw hV;subst this;have:=fw hS;subst this;have hLA:=aZ A;have hLB:=aZ B;simp [go_sem];refine bf [(0,64)] (wC A aq) rfl aw (by simp [lk]) (by simp [lk,Blk.ren,aR,bq]) (by simp [AV.renL,AV.ren,bO,gk,lk]) ?_;rintro r hp' ⟨rfl,h0⟩;refine ⟨[],rfl,?_⟩;simp [go_sem,bQ,bI,h0,Blk.ren,aR,bq,dc,AV.ren,bO];clear h0 hp';refine bf [(0,96)] (wC B aq) rfl aw (by simp [lk]) (by simp [lk,Blk.ren,aR,bq]) (by simp [AV.renL,AV.ren,bO,gk,lk]) ?_;rintro r hp' ⟨rfl,h0⟩;refine ⟨[],rfl,?_⟩;simp [go_sem,bQ,bI,h0,Blk.ren,aR,bq,dc,AV.ren,bO,hLA,hLB,ar hLA,ar hLB,cg,ah]
  exact aa (by
   intro c hc;simp at hc;rcases hc with rfl | rfl
   ·exact .inr ⟨_,rfl,bZ _⟩
   ·exact .inr ⟨_,rfl,bZ _⟩) rfl
theorem yv (t:Tn):∀ v,v ∈ [AV.agg (eT t)]→v.deep:=by simp [AV.deep,AV.deep1,eT]
def T9:List Nat:=List.replicate 96 0
theorem Ub:eH Tryz.prog 139=some (cb T9):=by kernel_rfl
def E2:List Nat:=List.replicate 160 0
theorem O5:eH Tryz.prog 143=some (cb E2):=by kernel_rfl
attribute [go_sem] Ub O5
theorem AB:T9.length=96:=rfl
theorem rD:List.drop 96 (cb T9)=[]:=rfl
theorem wE:E2.length=160:=by simp [E2]
theorem C3:List.drop 160 (cb E2)=[]:=dg (by rw [ao,wE];exact cR _)
theorem C4 {A Z:List AV} {n m:Nat} (hA:A.length=n) (hm:n≤m):List.drop m (A ++ List.drop n Z)=List.drop m Z:=by
 rw [List.drop_append,dg aq,List.nil_append,List.drop_drop,hA,show n+(m - n)=m by omega]
theorem qn {A B Z:List AV} {n m:Nat} (hA:A.length=n) (hm:n≤m):List.take n (A ++ List.drop n Z) ++ (B ++ List.drop m (A ++ List.drop n Z))=A ++ B ++ List.drop m Z:=by
 rw [C4 hA hm];subst hA;rw [List.take_left,cD]
theorem uE (a b:List Nat):cb (a ++ b)=cb a ++ cb b:=by simp [cb]
theorem Lc (t:Tn) (ht:Sm t):av Tryz.prog 82 [.agg (eT t)] (fun r=>r=.agg (cb (bo (t.ins.map qm).flatten ++ (bo (t.ins.map rC).flatten ++ bo (t.outs.map io).flatten)))):=by
 refine bK Tryz.func82 Tryz.ntmps82 (rs:=[.cell 2 139]) (yv t) ?_;have p1:=O4 t ht;have p2:=E0 t ht;have p3:=AA t.outs (by have:=ht.2.2.1;omega) (fun o h=>⟨ht.1.2.2.2 o h,by have:=ht.2.2.2.1 o h;omega⟩);have l1:=aZ (t.ins.map qm).flatten;have l2:=aZ (t.ins.map rC).flatten;have l3:=aZ (t.outs.map io).flatten;generalize bo (t.ins.map qm).flatten=a at *;generalize bo (t.ins.map rC).flatten=b at *;generalize bo (t.outs.map io).flatten=c at *;have hT:eT t=[.d (.int .u32 (t.ver:Int)),.d (.ro 35 (t.ins.map eI)),.d (.ro 2 (t.outs.map eO)),.d (.int .u32 (t.lock:Int))]:=rfl;have hd:=yv t;rw [hT] at p1 p2 hd;simp [go_sem,eT];refine b7 [0,2,4,5] [(1,[]),(3,[]),(6,[7]),(8,[])] 3 (k:=9) ?_;intro G hG;simp [go_sem];refine ag p1 hd ?_;simp [go_sem];refine ag p2 hd ?_;simp [go_sem];refine ag p3 a9 ?_;simp [go_sem,ao,l1,l2,l3,AB,rD];rw [C4 (A:=cb a) (n:=32) (by rw [ao,l1]) aq,← cD (cb a),qn (A:=cb a ++ cb b) (n:=64) (by simp [ao,l1,l2]) aq,rD,List.append_nil];refine hG _ _ ?_;clear hG G;have hL:(cb a ++ cb b ++ cb c).length=96:=by simp [ao,l1,l2,l3]
 have hT2:List.take 96 (cb a ++ cb b ++ cb c)=cb a ++ cb b ++ cb c:=cA aq;have hE:cb (a ++ (b ++ c))=cb a ++ cb b ++ cb c:=by rw [uE,uE,cD]
 have hD:=bZ (a ++ (b ++ c));rw [hE] at hD;rw [hE];generalize cb a ++ cb b ++ cb c=R at *;simp [go_sem,hL,hT2,ah];exact aa hD rfl
end Go.Proofs.YtmfnimjnneflnaaGreat
