/-
 Part 12 of what the claim rests on.
-/
import Derived.Test.YtmfnimjnneflnaaGreatV5
import Derived.Test.YtmfnimjnneflnaaGreatV6
import Derived.Test.YtmfnimjnneflnaaGreatV7
import Derived.Test.YtmfnimjnneflnaaGreatV10
set_option linter.unusedVariables false
set_option linter.unusedSimpArgs false
set_option maxRecDepth 100000
set_option maxHeartbeats 16000000
namespace Go.Proofs.YtmfnimjnneflnaaGreat
open Go.Am Go.Sha
theorem zU (r:Rn):(bn r).2.cl=r.cl:=by
 unfold bn
 split
 ·split
  ·unfold au;split <;> rfl
  ·rfl
 ·rfl
theorem N2 (most:Nat) (r:Rn):(d6 most r).2.cl=r.cl:=by
 have h:=zU r;unfold d6;generalize bn r=p at *;simp only
 split
 ·cases fJ most p.1 with
  | none=>simp only;unfold au;split <;> exact h
  | some n=>exact h
 ·exact h
theorem lF {most:Nat} {r:Rn} (h:StOk r.main r.alt):StOk (d6 most r).2.main (d6 most r).2.alt:=by
 have h:=(dy h).1;unfold d6;generalize bn r=p at *;simp only
 split
 ·cases fJ most p.1 with
  | none=>exact fL h
  | some n=>exact h
 ·exact h
theorem Ed {hp:Hp} {I:Nat→Prop} {id:Nat} {ty:TypeId} {cs:List (Int × Int)} (hb:lk id hp=some ⟨ty,2,cs.map Tf⟩) (hI:I id):SnapD hp I (.own id 0 cs.length cs.length) (.ro 2 (cs.map eW)):=by
 refine il hb hI aw ?_ aw (fun r hr=>by
  obtain ⟨x,_,rfl⟩:=List.mem_map.1 hr
  rfl)
 rw [List.drop_zero,cA aw]
 have e:cs.map Tf=(cs.map eW).map fun r=>r.map AV.d:=by
  rw [List.map_map];rfl
 rw [e];exact lY _
theorem Sr (F:RnF) (x:Rx) (hi:F.inner.length=32) (htl:x.tpl.length=32) (htb:bytes x.tpl) (te:Int) (hT:av Tryz.prog 18 [.agg (eT F.t),.d (.int .i64 (F.n:Int))] (fun v=>v=.tup [.agg (cb x.tpl),.d (.int .i64 te)])) (r:Rn) (J:List Bool) (H:Nat) (hk:StOk r.main r.alt) :
    cJ Tryz.prog 3 (aF (gm F)) 201 ⟨r,J,H⟩ [.ptr 0 0 0 1] (fun v s'=>s'=⟨xm x r,J,H⟩):=by
  refine al Tryz.func201 (by kernel_rfl) rfl Tryz.ntmps201 (rs:=[]) rfl (dS rfl) (by decide) ?_;have hC:=d0 (F:=F) hi;have hz:z32.length=32:=rfl;obtain ⟨hk2,hb1,hb2⟩:=xU hk;have hto:=IW hC r J H hk;unfold xm;generalize lr r=p at *;obtain ⟨b,r2⟩:=p;simp only at hto hk2 hb1 hb2 ⊢;simp [go_sem];refine dI (Pp:=[]) hC hto aq aw (by simp [AV.renL,AV.ren]) ?_;rintro v s' ρ ⟨rfl,rfl⟩ hρ;rw [bz];simp only [aF,bB,bA,id,gm,eS];simp only [eT] at hT;simp [go_sem,AV.ren];refine d5 [0,1,2,3,4,5,6,7,8,9] [10,14,15] [0,1,2,3,4,5,6,7,8,9,11,12,13,16] (.alt (.step 10 [11,12,13] true (bt 14 (.step 15 [16] true .done))) (bt 14 (.step 10 [11,12,13] true (.step 15 [16] true .done)))) ⟨[(0,.ptr 0 0 0 1),(2,.d (nb b)),(3,.ptr 548 0 0 1)],(548,⟨29,32,[cb x.tpl]⟩) :: gA 3 (aF (gm F)) ⟨r2,J,H⟩ id,9000⟩ (k:=17) ?h3 ?hq
  case h3 =>
    intro G hG;simp (config := { maxSteps := 3000000 }) [go_sem]
    repeat' first
      | apply And.intro
      | (refine ag hT a9 ?_
         simp (config := { maxSteps := 3000000 }) [go_sem,am,htl])
      | (refine hG _ _ (cn ⟨by simp [ai,fv,lk,AV.low,AV.low1],?_,aw⟩)
         intro p hp;rcases et.1 hp with rfl | hp
         · refine ⟨.inl (by simp [lk,am,hz]),by show 548<9000;omega,?_⟩
           intro r hr v hv;simp only [et,List.mem_nil_iff,or_false] at hr;subst hr;obtain ⟨y,_,rfl⟩:=List.mem_map.1 hv
           trivial
         · exact VY hC (dS rfl) (pN (by simp [lk,aF,bB,bA,gm,eS]) (by simp [lk,aF]) (by simp [lk,aF])) p hp)
  case hq =>
    simp [go_sem];refine iG (gJ b x.tpl hb2 htb) rfl (aj (.deep trivial) (aj (.one (ak (dW rfl trivial htl))) aE)) trivial ?_;by_cases hq:b=x.tpl
    · simp [go_sem,hq]
      rw [bz];exact aB (by simp [lk,aF,bB,bA,gm,eS]) rfl rfl
    · simp [go_sem,hq]
      refine aM (Pp:=[(548,⟨29,32,[cb x.tpl]⟩)]) hC (bu hC r2 J H 23) rfl (dS rfl) (by intro p hp;simp at hp;subst hp;simp) (by simp [AV.renL,AV.ren]) ?_;rintro v s' ρ rfl hρ;rw [bz];generalize au 23 r2=r';simp only [aF,bB,bA,id,gm,eS];simp [go_sem,ah];exact aB (by simp [lk,aF,bB,bA]) rfl rfl
theorem Pj {C:List AV} (hC:ig C) (ids:List Nat) (Pp:Hp) {N:Nat} {hp:Hp} {g:FuncId} {s:RnS} {ars ars2:List AV} {R:AV→RnS→Prop} {K:AV→Hp→Prop} (h:cJ Tryz.prog 3 (aF C) g s (.ptr 0 0 0 1 :: ars2) R) (hN:3≤N)
  (hd:∀ p,p ∈ Pp ++ gA 3 (aF C) s id→lk p.1 (aD ids hp)=some p.2) (hl:ars.length=ars2.length) (hs:∀ (i:Nat) (v v':AV),ars[i]?=some v→ars2[i]?=some v'→v'=v ∨ Snap hp (fun id=>id ∈ ids) v v') (hP:∀ p,p ∈ Pp→p.1<N∧3≤p.1) (has:∀ ρ,AV.renL ρ ars2=ars2)
  (hK:∀ v s' ρ,R v s'→(∀ j,j<3→ρ j=j)→K (v.ren ρ) (Pp ++ gA 3 (aF C) s' id)):rM Tryz.prog g (.ptr 0 0 0 1 :: ars) hp N K:=by
 refine cj ids Pp (args':=.ptr 0 0 0 1 :: ars2) (qM hC) id h (aQ 3) (fun j hj=>by show j<N;omega) hd (by simp [hl]) ?_ (fun p hp=>⟨(hP p hp).1,fun j hj=>by have:=(hP p hp).2;show j ≠ p.1;omega⟩) ?_ hK
 ·intro i v v' h1 h2
  match i with
  | 0=>simp at h1 h2;subst h1;subst h2;exact .inl rfl
  | i+1=>exact hs i v v' h1 h2
 ·rw [AV.renL,has,AV.ren];rfl
theorem Ee {hp:Hp} {I:Nat→Prop} {l:List AV}:∀ (i:Nat) (v v':AV),([]:List AV)[i]?=some v→l[i]?=some v'→v'=v ∨ Snap hp I v v':=by intro i v v' h;simp at h
theorem pO {hp:Hp} {I:Nat→Prop} {a a':AV} {args args':List AV} (h:a'=a ∨ Snap hp I a a') (t:∀ (i:Nat) (v v':AV),args[i]?=some v→args'[i]?=some v'→v'=v ∨ Snap hp I v v'):∀ (i:Nat) (v v':AV),(a :: args)[i]?=some v→(a' :: args')[i]?=some v'→v'=v ∨ Snap hp I v v':=by
 intro i v v' h1 h2
 match i with
 | 0=>simp at h1 h2;subst h1;subst h2;exact h
 | i+1=>exact t i v v' h1 h2
theorem N3 (F:RnF) (x:Rx) (hi:F.inner.length=32) (hR:∀ (h:bc) (o:Int),bytes h→h.length≤1000→av Tryz.prog 234 [.agg (eS F.t (F.n:Int) F.coins),.d (nb h),.d (.int .i64 o)] (fun v=>v=MY (x.rcv h o))) (r:Rn) (J:List Bool) (hk:StOk r.main r.alt) (hc:r.cl.length≤100000) :
  cJ Tryz.prog 3 (aF (gm F)) 203 ⟨r,J,0⟩ [.ptr 0 0 0 1] (fun v s'=>s'=⟨Bz x r,J,0⟩):=by
 refine al Tryz.func203 (by kernel_rfl) rfl Tryz.ntmps203 (rs:=[]) rfl (dS rfl) (by decide) ?_;have hC:=d0 (F:=F) hi;obtain ⟨hk2,hb1,hb2⟩:=dy hk;have hcl:(bn r).2.cl=r.cl:=zU r;have hta:=jR hC r J 0 hk;unfold Bz;generalize bn r=p at *;obtain ⟨h,r2⟩:=p;simp only at hta hk2 hb1 hb2 hcl ⊢;have htn:=rC hC r2 J 0 hk2 4 aq;have hk3:=lF (most:=4) hk2;have hcl2:(d6 4 r2).2.cl=r2.cl:=N2 4 r2;generalize d6 4 r2=p at *;obtain ⟨o,r3⟩:=p;simp only at htn hk3 hcl2 ⊢;have hR:=hR h o hb2 hb1;simp only [eS] at hR;generalize x.rcv h o=q at *;obtain ⟨c1,c2,e⟩:=q;simp [go_sem];refine dI (Pp:=[]) hC hta aq aw (by simp [AV.renL,AV.ren]) ?_;rintro v s' ρ ⟨rfl,rfl⟩ hρ;simp [go_sem,AV.ren];refine dI (Pp:=[]) hC htn aq aw (by simp [AV.renL,AV.ren]) ?_;rintro v s' ρ ⟨rfl,rfl⟩ hρ;simp [go_sem,AV.ren];refine dI (Pp:=[]) hC (ek hC r3 J 0) aq aw (by simp [AV.renL,AV.ren]) ?_;rintro v s' ρ' ⟨rfl,rfl⟩ hρ';by_cases he:r3.e=0
 ·rw [bz];simp only [aF,bB,bA,id,gm,eS];simp [go_sem,AV.ren,he];refine ag hR a9 ?_;simp [go_sem,MY];refine Pj hC [772] [] (s:=⟨r3,J,0⟩) (ars2:=[.d (.ro 2 ([(c1,c2)].map eW)),.d (.int .i64 e)]) (D9 hC r3 J hk3 [(c1,c2)] e (by rw [hcl2,hcl];exact hc) aw) aq ?_ rfl (pO (.inr (.one (ak (Ed (cs:=[(c1,c2)]) rfl aw)))) (pO (.inl rfl) Ee)) aw (by simp [AV.renL,AV.ren]) ?_
  ·exact pN (by simp [aD,lk,aF,bB,bA,gm,eS,he]) (by simp [aD,lk,aF]) (by simp [aD,lk,aF])
  rintro v s' ρ rfl hρ;rw [bz];generalize zr [(c1,c2)] e r3=r';simp only [aF,bB,bA,id,gm,eS];simp [go_sem,ah];exact aB (by simp [lk,aF,bB,bA]) rfl rfl
 ·simp [go_sem,AV.ren,he,ah];rw [bz];exact aB rfl rfl rfl
theorem Ss (F:RnF) (x:Rx) (hi:F.inner.length=32) (hs:F.script.length≤100000) (hml:x.msg.length=32) (me:Int)
    (hM:av Tryz.prog 43 [.agg (eS F.t (F.n:Int) F.coins),.d (nb (jI F.script)),.d (nb F.annex)] (fun v=>v=.tup [.agg (cb x.msg),.d (.int .i64 me)])) (r:Rn) (J:List Bool) (H:Nat) :
    cC Tryz.prog 226 3 (gA 3 (aF (gm F)) ⟨r,J,H⟩ id) [.ptr 0 0 0 1] (fun v hp'=>v=.sub 708 0 0 1 32 32 1∧lk 708 hp'=some ⟨29,32,[cb x.msg]⟩∧rI 3 (aF (gm F)) ⟨r,J,H⟩ id hp'):=by
  refine al Tryz.func226 (by kernel_rfl) rfl Tryz.ntmps226 (rs:=[.tmp 2]) rfl (dS rfl) (by decide) ?_;have hC:=d0 (F:=F) hi;have hz:z32.length=32:=rfl;have hth:=rk F.script hs;have hbl:(eR [84,97,112,76,101,97,102] (192 :: (aI F.script.length ++ F.script))).length=32:=qu F.script;rw [bz];simp only [aF,bB,bA,id,gm,eS,aP]
  have h39:∀ l:List AV,(cb F.inner ++ (AV.d (cZ F.path) :: AV.d (nb F.script) :: l))[33]?=some (.d (nb F.script)):=fun l=>by
    rw [dz (by rw [am,hi];omega),am,hi];rfl
  have h40:∀ l:List AV,(cb F.inner ++ (AV.d (cZ F.path) :: AV.d (nb F.script) :: AV.d (nb F.annex) :: l))[34]?=some (.d (nb F.annex)):=fun l=>by
    rw [dz (by rw [am,hi];omega),am,hi];rfl
  simp [go_sem,h39];refine ag hth a9 ?_;have hd0:List.drop 32 (cb z32)=[]:=rfl;have hlB:eR [84,97,112,76,101,97,102] (192 :: (aI F.script.length ++ F.script))=jI F.script:=rfl;rw [hlB] at hbl ⊢;generalize jI F.script=lb at *;simp only [eS] at hM;simp [go_sem,am,hz,hbl,hd0]
  have hfl:(AV.tup [.agg (cb x.msg),.d (.int .i64 me)]).flat:=by
    intro c hc;simp at hc;rcases hc with rfl | rfl
    · refine .inr ⟨_,rfl,fun y hy=>?_⟩
      obtain ⟨z,_,rfl⟩:=List.mem_map.1 hy
      trivial
    · exact .inl trivial
  refine d5 [0,1,2,3,4,5,6,7,8] [9,13,14] [0,1,2,3,4,5,6,7,8,10,11,12,15] (.alt (.step 9 [10,11,12] true (bt 13 (.step 14 [15] true .done))) (bt 13 (.step 9 [10,11,12] true (.step 14 [15] true .done)))) ⟨[(4,.ptr 708 0 0 1)],(708,⟨29,32,[cb x.msg]⟩) :: gA 3 (aF (gm F)) ⟨r,J,H⟩ id,9000⟩ (k:=16) ?h3 ?hq
  case h3 =>
    intro G hG;simp (config := { maxSteps := 3000000 }) [go_sem,h40,am,hbl]
    repeat' first
      | apply And.intro
      | (refine iG hM rfl (aj (.deep a9) (aj (.one (ak (dW rfl trivial hbl))) (aj (.deep trivial) aE))) hfl ?_
         simp (config := { maxSteps := 3000000 }) [go_sem,am,hml,hz])
      | (refine hG _ _ (cn ⟨by simp [ai,fv,lk,AV.low,AV.low1],?_,aw⟩)
         intro p hp;rcases et.1 hp with rfl | hp
         · refine ⟨.inl (by simp [lk,am,hz,hd0]),by show 708<9000;omega,?_⟩
           intro r hr v hv;simp only [et,List.mem_nil_iff,or_false] at hr;subst hr;obtain ⟨y,_,rfl⟩:=List.mem_map.1 hv
           trivial
         · exact VY hC (dS rfl) (pN (by simp [lk,aF,bB,bA,gm,eS,aP]) (by simp [lk,aF]) (by simp [lk,aF])) p hp)
  case hq =>
    simp [go_sem,ah];rw [bz];exact aB (by simp [lk,aF,bB,bA,gm,eS,aP]) rfl rfl
theorem Su (F:RnF) (x:Rx) (hi:F.inner.length=32) (hs:F.script.length≤100000) (hml:x.msg.length=32) (me:Int)
  (hM:av Tryz.prog 43 [.agg (eS F.t (F.n:Int) F.coins),.d (nb (jI F.script)),.d (nb F.annex)] (fun v=>v=.tup [.agg (cb x.msg),.d (.int .i64 me)])) {s:RnS} {N:Nat} {K:AV→Hp→Prop} (hN:3≤N)
  (hK:K (.sub N 0 0 1 32 32 1) ((N,⟨29,32,[cb x.msg]⟩) :: gA 3 (aF (gm F)) s id)):rM Tryz.prog 226 [.ptr 0 0 0 1] (gA 3 (aF (gm F)) s id) N K:=by
 have hC:=d0 (F:=F) hi;have ho:=qM hC;have hid:∀ j,j<3→bO (jL 3 id id) 3 (id j)=j:=fun j hj=>rS id 3 (aQ 3) hj;have hnw:cK (jL 3 id id) [(708,0)]=true:=Bg aq;have h708:vi 3 id [(708,0)] N 708=N:=wV (c:=708) (j:=0) hnw aw
 refine .inl (nl (n:=3) (b0:=aF (gm F) s id) id (Ss F x hi hs hml me hM s.r s.J s.H) (fun i x hi=>Dc i x hi) (aQ 3) (fun j hj=>by show j<N;omega)
  (fun j hj=>⟨_,wT _ (aQ 3) hj,ho.2 _ _ _ hj,(ho.1 s id _ id j hj hid).symm⟩) ?_ [(708,0)] hnw ?_)
 ·rw [AV.renL,AV.renL,AV.ren];rfl
 ·rintro r' hp' ⟨rfl,hb,hs'⟩ hpX q1 q2 q3;have hro:∀ j,j<3→vi 3 id [(708,0)] N (id j)=id j:=fun j hj=>wU hnw hj;refine ⟨(N,⟨29,32,[cb x.msg]⟩) :: gA 3 (aF (gm F)) s id,fun i b h=>?_,?_⟩
  ·simp only [lk] at h
   split at h
   ·rename_i e;subst e
    cases h
    have h2:=q2 708 0 aw _ hb
    have e:Blk.ren (vi 3 id [(708,0)] N) ⟨29,32,[cb x.msg]⟩=⟨29,32,[cb x.msg]⟩:=by
     simp only [Blk.ren,aR,List.map_cons,List.map_nil,py,cb,List.map_map];rfl
    rw [e] at h2;exact h2
   ·obtain ⟨j,hj,e⟩:=lg.1 (bG h)
    cases e
    have h2:=q1 j hj _ (hs' j hj);rw [ho.1 s id _ id j hj hro] at h2;exact h2
  ·rw [AV.ren,h708];exact hK
theorem Ef (m:bc):av Tryz.prog 228 [.rop [nb m]] (fun v=>v=.d (nb m)):=by
 refine bK Tryz.func228 Tryz.ntmps228 (rs:=[.tmp 1]) a9 ?_;simp [go_sem,ah];exact aa trivial rfl
def Sv (sg:bc→bc→bc→Bool):Prop:=∀ key msg sig:bc,key.length=32→bytes key→bytes msg→bytes sig→msg.length≤1000→sig.length≤1000→av Tryz.prog 156 [.agg (cb key),.d (nb msg),.d (nb sig)] (fun v=>v=.d (.bool (sg key sig msg)))
theorem pQ (key:bc):(key.map fun (b:Nat)=>[DV.int .u8 (b:Int)]).flatten=cd key:=by
 unfold cd
 induction key with
 | nil=>rfl
 | cons a l ih=>simp only [List.map_cons,List.flatten_cons,ih];rfl
theorem Eg {hp:Hp} {key:bc}:Snap hp (fun _=>True) (.agg (cb key)) (.agg (cb key)):=.deep (dx _)
theorem JR {C:List AV} (hC:ig C) (msg:bc) (hmb:bytes msg) (hml:msg.length≤1000) (sg:bc→bc→bc→Bool) (hV:Sv sg) (r:Rn) (J:List Bool) (H:Nat) (key sig:bc) (hkb:bytes key) (hsb:bytes sig) (hkl:key.length≤1000) (hsl:sig.length≤1000) (hbd:-9223372036854775808≤r.bud) (hbd2:r.bud<9223372036854775808) :
  cJ Tryz.prog 3 (aF C) 225 ⟨r,J,H⟩ [.ptr 0 0 0 1,.d (nb key),.d (nb sig),.fn 228 [.rop [nb msg]]] (fun v s'=>v=.d (.bool (fb sg key sig msg r).1)∧s'=⟨(fb sg key sig msg r).2,J,H⟩):=by
 refine al Tryz.func225 (by kernel_rfl) rfl Tryz.ntmps225 (rs:=[.tmp 8]) rfl (dS rfl) (by decide) ?_;have hl:=hC.2.2;simp [go_sem];refine dI (Pp:=[]) hC (ek hC r J H) aq aw (by simp [AV.renL,AV.ren]) ?_;rintro v s' ρ ⟨rfl,rfl⟩ hρ;by_cases he:r.e=0
 ·by_cases hs0:sig.length=0
  ·have hv:fb sg key sig msg r=(false,r):=by simp [fb,hs0]
   rw [hv];have hs0i:(sig.length:Int)=0:=aq;simp [go_sem,AV.ren,he,nb,hs0,hs0i,ah];rw [bz];exact aB rfl rfl rfl
  ·have hs0i:¬ (sig.length:Int)=0:=aq;by_cases hb5:r.bud<50
   ·have hv:fb sg key sig msg r=(false,au 21 r):=by simp [fb,hs0,he,hb5]
    rw [hv];simp [go_sem,AV.ren,he,nb,hs0,hs0i];rw [bz];simp only [aF,bB,bA,id];simp [go_sem,hl,hb5];refine aM (Pp:=[]) (s:=⟨r,J,H⟩) hC (bu hC r J H 21) (by simp [bz,aF,bB,bA,he]) aq aw (by simp [AV.renL,AV.ren]) ?_;rintro v s' ρ rfl hρ;rw [bz];generalize au 21 r=r';simp only [aF,bB,bA,id];simp [go_sem,ah];exact aB rfl rfl rfl
   ·have hv:fb sg key sig msg r=if key.length=32∧sg key sig msg=true then (true,{ r with bud:=r.bud - 50 }) else (false,au 20 { r with bud:=r.bud - 50 }):=by
     simp only [fb,hs0,he,hb5,if_false,ne_eq,not_false_eq_true,and_self,if_true]
    rw [hv];have w1:IntKind.i64.wrap (r.bud - 50)=r.bud - 50:=IntWalk.i64_in _ aq;simp [go_sem,AV.ren,he,nb,hs0,hs0i];rw [bz];simp only [aF,bB,bA,id];simp [go_sem,hl,hb5,w1];have hsh:∀ l:List AV,l=l:=fun _=>rfl;obtain ⟨main,alt,br,bud,cl,e⟩:=r;simp only at he hb5 w1 hbd hbd2 ⊢;subst he;have hid2:gq ⟨main,alt,br,bud,cl,0⟩=gq ⟨main,alt,br,bud - 50,cl,0⟩:=rfl;rw [hid2];have hfl:=bu hC ⟨main,alt,br,bud - 50,cl,0⟩ J H 20;by_cases h32:key.length=32
    ·have hve:=hV key msg sig h32 hkb hmb hsb;have h32i:(key.length:Int)=32:=aq
     cases hg:sg key sig msg with
     | true =>
      rw [hg] at hve;rw [if_pos ⟨h32,rfl⟩];simp [go_sem,h32,h32i];refine b7 [0,1,2,3,4,5,6,7,9] [(8,[]),(10,[11,12])] 2 (k:=13) ?_;intro G hG;simp [go_sem,h32,h32i,AV.ren,pQ,kX,ar h32,am];refine ag (Ef msg) a9 ?_;simp [go_sem];refine ag (hve hml hsl) (by intro v hv;simp at hv;rcases hv with rfl | rfl | rfl;exact dx _;trivial;trivial) ?_;simp [go_sem];refine hG _ _ ?_;clear hG G;simp [go_sem,ah];exact aB rfl rfl rfl
     | false =>
      rw [hg] at hve;rw [if_neg (fun h=>by cases h.2)];simp [go_sem,h32,h32i];refine b7 [0,1,2,3,4,5,6,7,9] [(8,[]),(10,[11,12])] 2 (k:=13) ?_;intro G hG;simp [go_sem,h32,h32i,AV.ren,pQ,kX,ar h32,am];refine ag (Ef msg) a9 ?_;simp [go_sem];refine ag (hve hml hsl) (by intro v hv;simp at hv;rcases hv with rfl | rfl | rfl;exact dx _;trivial;trivial) ?_;simp [go_sem];refine hG _ _ ?_;clear hG G;simp [go_sem];refine aM (Pp:=[]) (s:=⟨⟨main,alt,br,bud - 50,cl,0⟩,J,H⟩) hC hfl (by simp [bz,aF,bB,bA]) aq aw (by simp [AV.renL,AV.ren]) ?_;rintro v s' ρ rfl hρ;rw [bz];generalize au 20 ⟨main,alt,br,bud - 50,cl,0⟩=r';simp only [aF,bB,bA,id];simp [go_sem,ah];exact aB rfl rfl rfl
    ·have h32i:¬ (key.length:Int)=32:=aq;rw [if_neg (fun h=>h32 h.1)];simp [go_sem,h32,h32i];refine b7 [0,1,2,3,4,5,6,7,9] [(8,[]),(10,[11,12])] 2 (k:=13) ?_;intro G hG;simp [go_sem,h32,h32i,AV.ren];refine hG _ _ ?_;clear hG G;simp [go_sem];refine aM (Pp:=[]) (s:=⟨⟨main,alt,br,bud - 50,cl,0⟩,J,H⟩) hC hfl (by simp [bz,aF,bB,bA]) aq aw (by simp [AV.renL,AV.ren]) ?_;rintro v s' ρ rfl hρ;rw [bz];generalize au 20 ⟨main,alt,br,bud - 50,cl,0⟩=r';simp only [aF,bB,bA,id];simp [go_sem,ah];exact aB rfl rfl rfl
 ·have hv:fb sg key sig msg r=(false,r):=by simp [fb,he]
  rw [hv];simp [go_sem,AV.ren,he,ah];rw [bz];exact aB rfl rfl rfl
theorem Eh (F:RnF) (x:Rx) (hi:F.inner.length=32) (hs:F.script.length≤100000) (hml:x.msg.length=32) (me:Int)
  (hM:av Tryz.prog 43 [.agg (eS F.t (F.n:Int) F.coins),.d (nb (jI F.script)),.d (nb F.annex)] (fun v=>v=.tup [.agg (cb x.msg),.d (.int .i64 me)])) {s:RnS} {N:Nat} {hp:Hp} {K:AV→Hp→Prop} (he:hp=gA 3 (aF (gm F)) s id) (hN:3≤N)
  (hK:K (.sub N 0 0 1 32 32 1) ((N,⟨29,32,[cb x.msg]⟩) :: gA 3 (aF (gm F)) s id)):rM Tryz.prog 226 [.ptr 0 0 0 1] hp N K:=he ▸ Su F x hi hs hml me hM hN hK
theorem tQ (F:RnF) (x:Rx) (hi:F.inner.length=32) (hs:F.script.length≤100000) (hml:x.msg.length=32) (hmb:bytes x.msg) (me:Int) (hM:av Tryz.prog 43 [.agg (eS F.t (F.n:Int) F.coins),.d (nb (jI F.script)),.d (nb F.annex)] (fun v=>v=.tup [.agg (cb x.msg),.d (.int .i64 me)])) (sg:bc→bc→bc→Bool) (hV:Sv sg) (r:Rn) (J:List Bool) (H:Nat) (key sig:bc) (hkb:bytes key) (hsb:bytes sig) (hkl:key.length≤1000) (hsl:sig.length≤1000) (hbd:-9223372036854775808≤r.bud) (hbd2:r.bud<9223372036854775808) :
  cJ Tryz.prog 3 (aF (gm F)) 225 ⟨r,J,H⟩ [.ptr 0 0 0 1,.d (nb key),.d (nb sig),.mth 226 [.ptr 0 0 0 1]] (fun v s'=>v=.d (.bool (fb sg key sig x.msg r).1)∧s'=⟨(fb sg key sig x.msg r).2,J,H⟩):=by
 have hC:=d0 (F:=F) hi;generalize hCF:gm F=C at *;refine al Tryz.func225 (by kernel_rfl) rfl Tryz.ntmps225 (rs:=[.tmp 8]) rfl (dS rfl) (by decide) ?_;have hl:=hC.2.2;simp [go_sem];refine dI (Pp:=[]) hC (ek hC r J H) aq aw (by simp [AV.renL,AV.ren]) ?_;rintro v s' ρ ⟨rfl,rfl⟩ hρ;by_cases he:r.e=0
 ·by_cases hs0:sig.length=0
  ·have hv:fb sg key sig x.msg r=(false,r):=by simp [fb,hs0]
   rw [hv];have hs0i:(sig.length:Int)=0:=aq;simp [go_sem,AV.ren,he,nb,hs0,hs0i,ah];rw [bz];exact aB rfl rfl rfl
  ·have hs0i:¬ (sig.length:Int)=0:=aq;by_cases hb5:r.bud<50
   ·have hv:fb sg key sig x.msg r=(false,au 21 r):=by simp [fb,hs0,he,hb5]
    rw [hv];simp [go_sem,AV.ren,he,nb,hs0,hs0i];rw [bz];simp only [aF,bB,bA,id];simp [go_sem,hl,hb5];refine aM (Pp:=[]) (s:=⟨r,J,H⟩) hC (bu hC r J H 21) (by simp [bz,aF,bB,bA,he]) aq aw (by simp [AV.renL,AV.ren]) ?_;rintro v s' ρ rfl hρ;rw [bz];generalize au 21 r=r';simp only [aF,bB,bA,id];simp [go_sem,ah];exact aB rfl rfl rfl
   ·have hv:fb sg key sig x.msg r=if key.length=32∧sg key sig x.msg=true then (true,{ r with bud:=r.bud - 50 }) else (false,au 20 { r with bud:=r.bud - 50 }):=by
     simp only [fb,hs0,he,hb5,if_false,ne_eq,not_false_eq_true,and_self,if_true]
    rw [hv];have w1:IntKind.i64.wrap (r.bud - 50)=r.bud - 50:=IntWalk.i64_in _ aq;simp [go_sem,AV.ren,he,nb,hs0,hs0i];rw [bz];simp only [aF,bB,bA,id];simp [go_sem,hl,hb5,w1];have hsh:∀ l:List AV,l=l:=fun _=>rfl;obtain ⟨main,alt,br,bud,cl,e⟩:=r;simp only at he hb5 w1 hbd hbd2 ⊢;subst he;have hid2:gq ⟨main,alt,br,bud,cl,0⟩=gq ⟨main,alt,br,bud - 50,cl,0⟩:=rfl;rw [hid2];have hfl:=bu hC ⟨main,alt,br,bud - 50,cl,0⟩ J H 20;by_cases h32:key.length=32
    ·have hve:=hV key x.msg sig h32 hkb hmb hsb;have h32i:(key.length:Int)=32:=aq
     cases hg:sg key sig x.msg with
     | true =>
      rw [hg] at hve;rw [if_pos ⟨h32,rfl⟩];simp [go_sem,h32,h32i];refine b7 [0,1,2,3,4,5,6,7,9] [(8,[]),(10,[11,12])] 2 (k:=13) ?_;intro G hG;simp [go_sem,h32,h32i,AV.ren,pQ,kX,ar h32,am];refine Eh F x hi hs hml me hM (s:=⟨⟨main,alt,br,bud - 50,cl,0⟩,J,H⟩) (by simp [hCF,bz,aF,bB,bA]) aq ?_;rw [bz,hCF];simp only [aF,bB,bA,id];simp [go_sem];refine iG (hve aq hsl) rfl (aj Eg (aj (.one (ak (dW rfl trivial hml))) (aj (.deep trivial) aE))) trivial ?_;simp [go_sem];refine hG _ _ ?_;clear hG G;simp [go_sem,ah];exact aB rfl rfl rfl
     | false =>
      rw [hg] at hve;rw [if_neg (fun h=>by cases h.2)];simp [go_sem,h32,h32i];refine b7 [0,1,2,3,4,5,6,7,9] [(8,[]),(10,[11,12])] 2 (k:=13) ?_;intro G hG;simp [go_sem,h32,h32i,AV.ren,pQ,kX,ar h32,am];refine Eh F x hi hs hml me hM (s:=⟨⟨main,alt,br,bud - 50,cl,0⟩,J,H⟩) (by simp [hCF,bz,aF,bB,bA]) aq ?_;rw [bz,hCF];simp only [aF,bB,bA,id];simp [go_sem];refine iG (hve aq hsl) rfl (aj Eg (aj (.one (ak (dW rfl trivial hml))) (aj (.deep trivial) aE))) trivial ?_;simp [go_sem];refine hG _ _ ?_;clear hG G;simp [go_sem];refine aM (Pp:=[(964,⟨29,32,[cb x.msg]⟩)]) (s:=⟨⟨main,alt,br,bud - 50,cl,0⟩,J,H⟩) hC hfl (by simp [bz,aF,bB,bA]) aq aw (by simp [AV.renL,AV.ren]) ?_;rintro v s' ρ rfl hρ;rw [bz];generalize au 20 ⟨main,alt,br,bud - 50,cl,0⟩=r';simp only [aF,bB,bA,id];simp [go_sem,ah];exact aB rfl rfl rfl
    ·have h32i:¬ (key.length:Int)=32:=aq;rw [if_neg (fun h=>h32 h.1)];simp [go_sem,h32,h32i];refine b7 [0,1,2,3,4,5,6,7,9] [(8,[]),(10,[11,12])] 2 (k:=13) ?_;intro G hG;simp [go_sem,h32,h32i,AV.ren];refine hG _ _ ?_;clear hG G;simp [go_sem];refine aM (Pp:=[]) (s:=⟨⟨main,alt,br,bud - 50,cl,0⟩,J,H⟩) hC hfl (by simp [bz,aF,bB,bA]) aq aw (by simp [AV.renL,AV.ren]) ?_;rintro v s' ρ rfl hρ;rw [bz];generalize au 20 ⟨main,alt,br,bud - 50,cl,0⟩=r';simp only [aF,bB,bA,id];simp [go_sem,ah];exact aB rfl rfl rfl
 ·have hv:fb sg key sig x.msg r=(false,r):=by simp [fb,he]
  rw [hv];simp [go_sem,AV.ren,he,ah];rw [bz];exact aB rfl rfl rfl
structure RnL (r r':Rn):Prop where
 br:r'.br=r.br
 cl:r'.cl=r.cl
 bud:r'.bud=r.bud
theorem mO (x:Int) (r:Rn):RnL r (au x r):=by unfold au;split <;> exact ⟨rfl,rfl,rfl⟩
theorem RnL.trans {a b c:Rn} (h:RnL a b) (h2:RnL b c):RnL a c:=⟨h2.br.trans h.br,h2.cl.trans h.cl,h2.bud.trans h.bud⟩
theorem kA (r:Rn):RnL r (bn r).2:=by
 unfold bn
 split
 ·split
  ·exact mO _ _
  ·exact ⟨rfl,rfl,rfl⟩
 ·exact ⟨rfl,rfl,rfl⟩
theorem vI (most:Nat) (r:Rn):RnL r (d6 most r).2:=by
 have h:=kA r;unfold d6;generalize bn r=p at *;simp only
 split
 ·cases fJ most p.1 with
  | none=>exact h.trans (mO _ _)
  | some n=>exact h
 ·exact h
theorem VZ (b:bc) (r:Rn):RnL r (dp b r):=by
 unfold dp
 split
 ·split
  ·exact ⟨rfl,rfl,rfl⟩
  ·exact mO _ _
 ·exact ⟨rfl,rfl,rfl⟩
def fO (b:Int):Prop:=-9223372036854775808≤b∧b<9223372036854775808
theorem tV (sg:bc→bc→bc→Bool) (key sig msg:bc) (r:Rn) (h:fO r.bud) (hk:StOk r.main r.alt):(fb sg key sig msg r).2.br=r.br∧(fb sg key sig msg r).2.cl=r.cl∧fO (fb sg key sig msg r).2.bud∧StOk (fb sg key sig msg r).2.main (fb sg key sig msg r).2.alt:=by
 have bd:¬ r.bud<50→fO (r.bud - 50):=fun hh=>⟨by have:=h.2;omega,by have:=h.2;omega⟩;unfold fb
 split
 ·split
  ·have:=mO 21 r;exact ⟨this.br,this.cl,by rw [this.bud];exact h,fL hk⟩
  ·split
   ·exact ⟨rfl,rfl,bd ‹_›,hk⟩
   ·have:=mO 20 { r with bud:=r.bud - 50 };exact ⟨this.br,this.cl,by rw [this.bud];exact bd ‹_›,fL hk⟩
 ·exact ⟨rfl,rfl,h,hk⟩
theorem Ei {r:Rn} (h:StOk r.main r.alt):-2147483648<(d6 4 r).1∧(d6 4 r).1<2147483648:=by
 obtain ⟨_,_,hb⟩:=dy h;unfold d6;generalize bn r=p at *;simp only
 split
 ·cases hd:fJ 4 p.1 with
  | none=>simp only;omega
  | some n=>exact Du hb hd
 ·simp only;omega
structure RnE (F:RnF) (x:Rx):Prop where
 hi:F.inner.length=32
 hs:F.script.length≤100000
 ml:x.msg.length=32
 mb:bytes x.msg
 mg:∃ me:Int,av Tryz.prog 43 [.agg (eS F.t (F.n:Int) F.coins),.d (nb (jI F.script)),.d (nb F.annex)] (fun v=>v=.tup [.agg (cb x.msg),.d (.int .i64 me)])
 vf:Sv x.sg
 tl:x.tpl.length=32
 tb:bytes x.tpl
 tg:∃ te:Int,av Tryz.prog 18 [.agg (eT F.t),.d (.int .i64 (F.n:Int))] (fun v=>v=.tup [.agg (cb x.tpl),.d (.int .i64 te)])
 rc:∀ (h:bc) (o:Int),bytes h→h.length≤1000→av Tryz.prog 234 [.agg (eS F.t (F.n:Int) F.coins),.d (nb h),.d (.int .i64 o)] (fun v=>v=MY (x.rcv h o))
 tr:∀ (s:bc) (o0 o1 back:Int),bytes s→s.length≤100000→-9223372036854775808≤back→back<9223372036854775808→av Tryz.prog 27 [.agg (eS F.t (F.n:Int) F.coins),cM F.inner F.path F.script,.d (nb s),.agg [.d (.int .i64 o0),.d (.int .i64 o1)],.d (.int .i64 back)]
  (fun v=>v=.tup [.d (.ro 2 ((x.trg s o0 o1 back).1.map eW)),.d (.int .i64 (x.trg s o0 o1 back).2)])∧(x.trg s o0 o1 back).1.length≤2
 sq:∃ i:Ip,F.t.ins[F.n]?=some i∧i.ok∧x.seq=(i.seq:Int)
 lk:F.t.lock<4294967296∧x.lock=(F.t.lock:Int)
 vr:F.t.ver<4294967296∧x.ver=(F.t.ver:Int)
 hh:x.h1=bo∧x.h2=dP
theorem JS {C:List AV} (hC:ig C) {N:Nat} {g:FuncId} {s:RnS} {ars:List AV} {R:AV→RnS→Prop} {K:AV→Hp→Prop} (h:cJ Tryz.prog 3 (aF C) g s (.ptr 0 0 0 1 :: ars) R) (hN:3≤N) (has:AV.renL (bO (jL 3 id id) 3) ars=ars)
  (hK:∀ v s' ρ,R v s'→(∀ j,j<3→ρ j=j)→K (v.ren ρ) (gA 3 (aF C) s' id)):rM Tryz.prog g (.ptr 0 0 0 1 :: ars) (gA 3 (aF C) s id) N K:=by
 refine rT (Pp:=[]) (qM hC) h (aQ 3) (fun j hj=>by show j<N;omega) aw ?_ hK;rw [AV.renL,has,AV.ren];rfl
theorem r7 (F:RnF) (x:Rx) (E:RnE F x) (op:Nat) (ho:op=172 ∨ op=173 ∨ op=186 ∨ op=204) (r:Rn) (J:List Bool) (H:Nat) (hk:StOk r.main r.alt) (hbd:fO r.bud) :
  cJ Tryz.prog 3 (aF (gm F)) 198 ⟨r,J,H⟩ [.ptr 0 0 0 1,.d (.int .u8 (op:Int))] (fun v s'=>s'=⟨qK x op r,J,H⟩):=by
 refine al Tryz.func198 (by kernel_rfl) rfl Tryz.ntmps198 (rs:=[]) rfl (dS rfl) (by decide) ?_;have hC:=d0 (F:=F) E.hi;have hl:=hC.2.2;obtain ⟨me,hM⟩:=E.mg;have hta:=jR hC r J H hk;obtain ⟨hk2,hb1,hb2⟩:=dy hk;have hbd2:fO (bn r).2.bud:=by rw [(kA r).bud];exact hbd
 unfold qK;generalize bn r=p at *;obtain ⟨key,r2⟩:=p;simp only at hta hk2 hb1 hb2 hbd2 ⊢;rcases ho with rfl | rfl | rfl | rfl
 ·have hT:=True.intro;have htb:=jR hC r2 J H hk2;obtain ⟨hk3,hc21,hc22⟩:=dy hk2;have hbd3:fO (bn r2).2.bud:=by rw [(kA r2).bud];exact hbd2
  generalize bn r2=p at *;obtain ⟨sig,r3⟩:=p;simp only at htb hk3 hc21 hc22 hbd3 ⊢;have hsg:=tQ F x E.hi E.hs E.ml E.mb me hM x.sg E.vf r3 J H key sig hb2 hc22 hb1 hc21 hbd3.1 hbd3.2;obtain ⟨_,_,_,hk9⟩:=tV x.sg key sig x.msg r3 hbd3 hk3;generalize fb x.sg key sig x.msg r3=p at *;obtain ⟨b,r9⟩:=p;simp only at hsg hk9 ⊢;have hpu:=oC hC r9 J H hk9 (iw b) (by cases b <;> simp [iw]);simp [go_sem];refine dI (Pp:=[]) hC hta aq aw (by simp [AV.renL,AV.ren]) ?_;rintro v s' ρ ⟨rfl,rfl⟩ hρ;simp [go_sem,AV.ren,pg];refine dI (Pp:=[]) hC htb aq aw (by simp [AV.renL,AV.ren]) ?_;rintro v s' ρ ⟨rfl,rfl⟩ hρ;simp [go_sem,AV.ren,pg];refine JS hC hsg aq rfl ?_;rintro v s' ρ ⟨rfl,rfl⟩ hρ;simp [go_sem,AV.ren];refine ag (lm b) a9 ?_;simp [go_sem];refine aM (Pp:=[]) hC hpu (List.nil_append _).symm aq aw (by simp [AV.renL,AV.ren]) ?_;rintro v s' ρ rfl hρ;rw [bz];generalize dp (iw b) r9=r';simp only [aF,bB,bA,id];simp [go_sem,ah];exact aB rfl rfl rfl
 ·have hT:=True.intro;have htb:=jR hC r2 J H hk2;obtain ⟨hk3,hc21,hc22⟩:=dy hk2;have hbd3:fO (bn r2).2.bud:=by rw [(kA r2).bud];exact hbd2
  generalize bn r2=p at *;obtain ⟨sig,r3⟩:=p;simp only at htb hk3 hc21 hc22 hbd3 ⊢;have hsg:=tQ F x E.hi E.hs E.ml E.mb me hM x.sg E.vf r3 J H key sig hb2 hc22 hb1 hc21 hbd3.1 hbd3.2;obtain ⟨_,_,_,hk9⟩:=tV x.sg key sig x.msg r3 hbd3 hk3;generalize fb x.sg key sig x.msg r3=p at *;obtain ⟨b,r9⟩:=p;simp only at hsg hk9 ⊢;simp [go_sem];refine dI (Pp:=[]) hC hta aq aw (by simp [AV.renL,AV.ren]) ?_;rintro v s' ρ ⟨rfl,rfl⟩ hρ;simp [go_sem,AV.ren,pg];refine dI (Pp:=[]) hC htb aq aw (by simp [AV.renL,AV.ren]) ?_;rintro v s' ρ ⟨rfl,rfl⟩ hρ;simp [go_sem,AV.ren,pg];refine JS hC hsg aq rfl ?_;rintro v s' ρ ⟨rfl,rfl⟩ hρ
  cases b with
  | true =>
   simp [go_sem,AV.ren];rw [bz];exact aB rfl rfl rfl
  | false =>
   simp [go_sem,AV.ren];refine aM (Pp:=[]) hC (bu hC r9 J H 16) (List.nil_append _).symm aq aw (by simp [AV.renL,AV.ren]) ?_;rintro v s' ρ rfl hρ;rw [bz];generalize au 16 r9=r';simp only [aF,bB,bA,id];simp [go_sem,ah];exact aB rfl rfl rfl
 ·have hT:=True.intro;have hnb:=rC hC r2 J H hk2 4 aq;have hk3:=lF (most:=4) hk2;have hbd3:fO (d6 4 r2).2.bud:=by rw [(vI 4 r2).bud];exact hbd2
  have hn31:=Ei hk2;generalize d6 4 r2=p at *;obtain ⟨n,r3⟩:=p;simp only at hnb hk3 hbd3 hn31 ⊢;have htb:=jR hC r3 J H hk3;obtain ⟨hk4,hc31,hc32⟩:=dy hk3;have hbd4:fO (bn r3).2.bud:=by rw [(kA r3).bud];exact hbd3
  generalize bn r3=p at *;obtain ⟨sig,r4⟩:=p;simp only at htb hk4 hc31 hc32 hbd4 ⊢;have hsg:=tQ F x E.hi E.hs E.ml E.mb me hM x.sg E.vf r4 J H key sig hb2 hc32 hb1 hc31 hbd4.1 hbd4.2;obtain ⟨_,_,_,hk9⟩:=tV x.sg key sig x.msg r4 hbd4 hk4;generalize fb x.sg key sig x.msg r4=p at *;obtain ⟨b,r9⟩:=p;simp only at hsg hk9 ⊢;have w1:IntKind.i64.wrap (n+1)=n+1:=IntWalk.i64_in _ (by have:=hn31.1;have:=hn31.2;omega);simp [go_sem];refine dI (Pp:=[]) hC hta aq aw (by simp [AV.renL,AV.ren]) ?_;rintro v s' ρ ⟨rfl,rfl⟩ hρ;simp [go_sem,AV.ren,pg];refine dI (Pp:=[]) hC hnb aq aw (by simp [AV.renL,AV.ren]) ?_;rintro v s' ρ ⟨rfl,rfl⟩ hρ;simp [go_sem,AV.ren,pg];refine dI (Pp:=[]) hC htb aq aw (by simp [AV.renL,AV.ren]) ?_;rintro v s' ρ ⟨rfl,rfl⟩ hρ;simp [go_sem,AV.ren,pg];refine JS hC hsg aq rfl ?_;rintro v s' ρ ⟨rfl,rfl⟩ hρ
  cases b with
  | true =>
   have hpu:=oC hC r9 J H hk9 (fX (n+1)) (by have:=kH (n+1);omega);simp [go_sem,AV.ren,w1];refine ag (kY (n+1) (by have:=hn31.1;omega) (by have:=hn31.2;omega)) a9 ?_;simp [go_sem];refine aM (Pp:=[]) hC hpu (List.nil_append _).symm aq aw (by simp [AV.renL,AV.ren]) ?_;rintro v s' ρ rfl hρ;rw [bz];generalize dp (fX (n+1)) r9=r';simp only [aF,bB,bA,id];simp [go_sem,ah];exact aB rfl rfl rfl
  | false =>
   have hpu:=oC hC r9 J H hk9 (fX (n)) (by have:=kH (n);omega);simp [go_sem,AV.ren,w1];refine ag (kY (n) (by have:=hn31.1;omega) (by have:=hn31.2;omega)) a9 ?_;simp [go_sem];refine aM (Pp:=[]) hC hpu (List.nil_append _).symm aq aw (by simp [AV.renL,AV.ren]) ?_;rintro v s' ρ rfl hρ;rw [bz];generalize dp (fX (n)) r9=r';simp only [aF,bB,bA,id];simp [go_sem,ah];exact aB rfl rfl rfl
 ·have hT:=True.intro;have hmb:=jR hC r2 J H hk2;obtain ⟨hk3,hc21,hc22⟩:=dy hk2;have hbd3:fO (bn r2).2.bud:=by rw [(kA r2).bud];exact hbd2
  generalize bn r2=p at *;obtain ⟨msg,r3⟩:=p;simp only at hmb hk3 hc21 hc22 hbd3 ⊢;have htb:=jR hC r3 J H hk3;obtain ⟨hk4,hc31,hc32⟩:=dy hk3;have hbd4:fO (bn r3).2.bud:=by rw [(kA r3).bud];exact hbd3
  generalize bn r3=p at *;obtain ⟨sig,r4⟩:=p;simp only at htb hk4 hc31 hc32 hbd4 ⊢;have hsg:=JR hC msg hc22 hc21 x.sg E.vf r4 J H key sig hb2 hc32 hb1 hc31 hbd4.1 hbd4.2;obtain ⟨_,_,_,hk9⟩:=tV x.sg key sig msg r4 hbd4 hk4;generalize fb x.sg key sig msg r4=p at *;obtain ⟨b,r9⟩:=p;simp only at hsg hk9 ⊢;have hpu:=oC hC r9 J H hk9 (iw b) (by cases b <;> simp [iw]);simp [go_sem];refine dI (Pp:=[]) hC hta aq aw (by simp [AV.renL,AV.ren]) ?_;rintro v s' ρ ⟨rfl,rfl⟩ hρ;simp [go_sem,AV.ren,pg];refine dI (Pp:=[]) hC hmb aq aw (by simp [AV.renL,AV.ren]) ?_;rintro v s' ρ ⟨rfl,rfl⟩ hρ;simp [go_sem,AV.ren,pg];refine aM (Pp:=[(452,⟨31,1,[[.d (nb msg)]]⟩)]) hC htb rfl aq (by intro p hp;simp at hp;subst hp;simp) (by simp [AV.renL,AV.ren]) ?_;rintro v s' ρ ⟨rfl,rfl⟩ hρ;simp [go_sem,AV.ren,T9]
  refine Pj hC [452] [] (s:=⟨r4,J,H⟩) (ars2:=[.d (nb key),.d (nb sig),.fn 228 [.rop [nb msg]]]) hsg aq (pN rfl rfl rfl) rfl
   (pO (.inl rfl) (pO (.inl rfl) (pO (.inr (.fnp (b:=⟨31,1,[[.d (nb msg)]]⟩) aw rfl rfl rfl (qh [nb msg]))) Ee))) aw (fun ρ=>rfl) ?_
  rintro v s' ρ ⟨rfl,rfl⟩ hρ;simp [go_sem,AV.ren];refine ag (lm b) a9 ?_;simp [go_sem];refine aM (Pp:=[]) hC hpu (List.nil_append _).symm aq aw (by simp [AV.renL,AV.ren]) ?_;rintro v s' ρ rfl hρ;rw [bz];generalize dp (iw b) r9=r';simp only [aF,bB,bA,id];simp [go_sem,ah];exact aB rfl rfl rfl
theorem jV:∀ (j:Nat) (r:Rn),cz (j+1) r=((bn (cz j r).2).1 :: (cz j r).1,(bn (cz j r).2).2)
 | 0,r=>rfl
 | j+1,r=>by
  have h:=jV j (bn r).2;rw [cz,h];rfl
theorem nG:∀ (j:Nat) (r:Rn),(cz j r).1.length=j
 | 0,r=>rfl
 | j+1,r=>by rw [jV,List.length_cons,nG j r]
theorem tW {r:Rn} (h:StOk r.main r.alt):∀ j,StOk (cz j r).2.main (cz j r).2.alt∧∀ x,x ∈ (cz j r).1→x.length≤1000∧bytes x
 | 0=>⟨h,fun x hx=>by cases hx⟩
 | j+1=>by
  obtain ⟨h1,h2⟩:=tW h j;obtain ⟨h3,h4,h5⟩:=dy h1;rw [jV];refine ⟨h3,fun x hx=>?_⟩;rcases et.1 hx with rfl | hx
  ·exact ⟨h4,h5⟩
  ·exact h2 x hx
theorem Ej:∀ (j:Nat) (r:Rn),RnL r (cz j r).2
 | 0,r=>⟨rfl,rfl,rfl⟩
 | j+1,r=>by rw [jV];exact (Ej j r).trans (kA _)
def xW (k:Nat) (l:List bc):List (List AV):=List.replicate k [AV.nil] ++ l.map nn
theorem N4 (k:Nat) (x:bc) (l:List bc):(xW (k+1) l).set k [.d (nb x)]=xW k (x :: l):=by
 unfold xW;rw [List.set_append_left _ _ aw];rw [List.replicate_succ',List.set_append_right _ _ aw];simp [nn]
theorem N5 (l:List bc):xW 0 l=cG l []:=by simp [xW,cG]
theorem JU {C:List AV} (hC:ig C) (r:Rn) (J:List Bool) (H:Nat) (hk:StOk r.main r.alt) (n:Int) (hn1:-2147483648<n) (hn2:n<2147483648) :
  cC Tryz.prog 232 3 (gA 3 (aF C) ⟨r,J,H⟩ id) [.ptr 0 0 0 1,.d (.int .i64 n)] (fun v hp'=>rI 3 (aF C) ⟨(gU n r).2,J,H⟩ id hp' ∧
   ((v=.nil∧(gU n r).2.e ≠ 0) ∨ (v=.own 548 0 (gU n r).1.length (gU n r).1.length∧lk 548 hp'=some ⟨31,1,cG (gU n r).1 []⟩))):=by
 refine al Tryz.func232 (by kernel_rfl) rfl Tryz.ntmps232 (rs:=[.tmp 4]) rfl (dS rfl) (by decide) ?_;have hl:=hC.2.2;by_cases h0:n<0 ∨ (r.main.length:Int)<n
 ·have hv:gU n r=([],au 12 r):=by
   unfold gU;rw [if_pos h0];exact if_neg (xo aq)
  have hne:(au 12 r).e ≠ 0:=xo aq;have hf:=bu hC r J H 12;rw [hv];generalize au 12 r=r2 at *;rw [bz];simp only [aF,bB,bA,id];have tail:True:=trivial;by_cases hn0:n<0
  ·simp [go_sem,hl,hn0];refine aM (Pp:=[]) (s:=⟨r,J,H⟩) hC hf (by simp [bz,aF,bB,bA]) aq aw (by simp [AV.renL,AV.ren]) ?_;rintro v s' ρ rfl hρ;simp [go_sem];refine dI (Pp:=[]) hC (ek hC r2 J H) aq aw (by simp [AV.renL,AV.ren]) ?_;rintro v s' ρ ⟨rfl,rfl⟩ hρ;simp [go_sem,AV.ren,hne,ah];rw [bz];exact aB rfl rfl rfl
  ·have hn3:(r.main.length:Int)<n:=h0.resolve_left hn0;simp [go_sem,hl,hn0,hn3];refine aM (Pp:=[]) (s:=⟨r,J,H⟩) hC hf (by simp [bz,aF,bB,bA]) aq aw (by simp [AV.renL,AV.ren]) ?_;rintro v s' ρ rfl hρ;simp [go_sem];refine dI (Pp:=[]) hC (ek hC r2 J H) aq aw (by simp [AV.renL,AV.ren]) ?_;rintro v s' ρ ⟨rfl,rfl⟩ hρ;simp [go_sem,AV.ren,hne,ah];rw [bz];exact aB rfl rfl rfl
 ·have hn0:¬ n<0:=fun h=>h0 (.inl h);have hn3:¬ (r.main.length:Int)<n:=fun h=>h0 (.inr h);obtain ⟨m,rfl⟩:∃ m:Nat,n=(m:Int):=⟨n.toNat,aq⟩;have hm:m≤1000:=by have:=hk.m;omega
  have hn4:¬ r.main.length<m:=aq;rw [bz];simp only [aF,bB,bA,id];simp [go_sem,hl,hn0,hn3,hn4];refine aM (Pp:=[]) (s:=⟨r,J,H⟩) hC (ek hC r J H) (by simp [bz,aF,bB,bA]) aq aw (by simp [AV.renL,AV.ren]) ?_;rintro v s' ρ ⟨rfl,rfl⟩ hρ;by_cases he:r.e=0
  ·have hv:gU (m:Int) r=cz m r:=by
    unfold gU;rw [if_neg h0];exact if_pos he
   rw [hv];have w1:IntKind.i64.wrap ((m:Int) - 1)=(m:Int) - 1:=IntWalk.i64_in _ aq;simp [go_sem,AV.ren,he,w1];refine ⟨aq,aq,aq,?_⟩
   have hlw:∀ k l,∀ q,q ∈ xW k l→∀ v,v ∈ q→v.low1 9000:=by
    intro k l q hq v hv;rcases cL.1 hq with h | h
    ·rw [List.eq_of_mem_replicate h] at hv;simp only [et,List.mem_nil_iff,or_false] at hv;subst hv;trivial
    ·obtain ⟨x,_,rfl⟩:=List.mem_map.1 h;simp only [nn,et,List.mem_nil_iff,or_false] at hv;subst hv;trivial
   have hwk:∀ (fr:Fr) (hp:Hp) (nx j:Nat),(fv 0 fr=.ptr 0 0 0 1∧fv 5 fr=.own 548 0 m m∧fv 6 fr=.d (.int .i64 ((m:Int) - 1 - (j:Int))))→lk 548 hp=some ⟨31,1,xW (m - j) (cz j r).1⟩→(∀ p,p ∈ gA 3 (aF C) ⟨(cz j r).2,J,H⟩ id→lk p.1 hp=some p.2) →
     aA ⟨fr,hp,nx⟩ ⟨[(0,.ptr 0 0 0 1),(5,.own 548 0 m m),(6,.d (.int .i64 ((m:Int) - 1 - (j:Int))))],(548,⟨31,1,xW (m - j) (cz j r).1⟩) :: gA 3 (aF C) ⟨(cz j r).2,J,H⟩ id,9000⟩:=by
    rintro fr hp nx j ⟨q0,q1,q2⟩ h1 h2;refine ⟨?_,fun p hp'=>?_,.inr (by show 64≤9000;omega)⟩
    ·intro p hp';simp only [et,List.mem_nil_iff,or_false] at hp';rcases hp' with rfl | rfl | rfl
     ·exact ⟨.inl q0.symm,by simp [AV.low,AV.low1]⟩
     ·exact ⟨.inl q1.symm,by simp [AV.low,AV.low1]⟩
     ·exact ⟨.inl q2.symm,by simp [AV.low,AV.low1]⟩
    ·rcases et.1 hp' with rfl | hp'
     ·exact ⟨.inl h1,by show 548<9000;omega,hlw _ _⟩
     ·exact VY hC (dS rfl) h2 p hp'
   refine ax (fun j:Nat=>⟨[(0,.ptr 0 0 0 1),(5,.own 548 0 m m),(6,.d (.int .i64 ((m:Int) - 1 - (j:Int))))],(548,⟨31,1,xW (m - j) (cz j r).1⟩) :: gA 3 (aF C) ⟨(cz j r).2,J,H⟩ id,9000⟩)
    (fun j=>j≤m) (fun j=>m - j) 0 aq (hwk _ _ _ 0 (by simp [fv,lk]) (by simp [lk,xW,cz]) (pN rfl rfl rfl)) ?_
   intro j hj;by_cases hjm:j=m
   ·subst hjm;have c0:¬ (0:Int)≤(j:Int) - 1 - (j:Int):=aq;have c1:((j:Int) - 1 - (j:Int))<0:=aq;simp [go_sem,c0,c1,ah];refine ⟨fun h=>aq,fun _=>⟨?_,(nG _ _).symm,N5 _⟩⟩;rw [bz];exact aB rfl rfl rfl
   ·have hjm2:j<m:=aq;have e1:(m:Int) - 1 - (j:Int)=((m - (j+1):Nat):Int):=aq;obtain ⟨hkj,hxj⟩:=tW hk j;have hsn:=jV j r;have hlen:(xW (m - j) (cz j r).1).length=m:=by simp [xW,nG];omega
    have hset:(xW (m - j) (cz j r).1).set (m - (j+1)) [.d (nb (bn (cz j r).2).1)]=xW (m - (j+1)) (cz (j+1) r).1:=by
     rw [hsn,show m - j=(m - (j+1))+1 by omega];exact N4 _ _ _
    have hat:(xW (m - j) (cz j r).1)[m - (j+1)]?=some [.nil]:=by
     unfold xW;rw [List.getElem?_append_left (by simp;omega),List.getElem?_replicate,if_pos aq]
    have hsg:∀ h:m - (j+1)<(xW (m - j) (cz j r).1).length,(xW (m - j) (cz j r).1)[m - (j+1)]=[.nil]:=fun h=>Option.some.inj ((cm h).symm.trans hat);have hta:=jR hC (cz j r).2 J H hkj;have w2:IntKind.i64.wrap (((m - (j+1):Nat):Int) - 1)=(m:Int) - 1 - ((j+1:Nat):Int):=by rw [IntWalk.i64_in _ aq];omega
    have hlt:m - (j+1)<m:=aq;have hlti:((m - (j+1):Nat):Int)<(m:Int):=aq;rw [e1];generalize hq:m - (j+1)=q at *;simp [go_sem];refine aM (Pp:=[(548,⟨31,1,xW (m - j) (cz j r).1⟩)]) hC hta rfl aq (by intro p hp;simp at hp;subst hp;simp) (by simp [AV.renL,AV.ren]) ?_;rintro v s' ρ ⟨rfl,rfl⟩ hρ;simp [go_sem,AV.ren,hlen,hlt,hlti,w2,hat,hsg,hset];refine ap (j+1) aq aq (hwk _ _ _ (j+1) (by simp [fv,lk]) ?_ ?_)
    ·rw [hq];simp [lk,hset]
    ·rw [hsn];exact pN rfl rfl rfl
  ·have hv:gU (m:Int) r=([],r):=by
    unfold gU;rw [if_neg h0];exact if_neg he
   rw [hv];simp [go_sem,AV.ren,he,ah];rw [bz];exact aB rfl rfl rfl
theorem Sz {C:List AV} (hC:ig C) (r:Rn) (J:List Bool) (H:Nat) (hk:StOk r.main r.alt) (n:Int) (hn1:-2147483648<n) (hn2:n<2147483648) {N:Nat} {K:AV→Hp→Prop} (hN:3≤N)
  (h1:(gU n r).2.e ≠ 0→K .nil (gA 3 (aF C) ⟨(gU n r).2,J,H⟩ id))
  (h2:K (.own N 0 (gU n r).1.length (gU n r).1.length) ((N,⟨31,1,cG (gU n r).1 []⟩) :: gA 3 (aF C) ⟨(gU n r).2,J,H⟩ id)):rM Tryz.prog 232 [.ptr 0 0 0 1,.d (.int .i64 n)] (gA 3 (aF C) ⟨r,J,H⟩ id) N K:=by
 have ho:=qM hC;have hid:∀ j,j<3→bO (jL 3 id id) 3 (id j)=j:=fun j hj=>rS id 3 (aQ 3) hj;have hnw:cK (jL 3 id id) [(548,0)]=true:=Bg aq;have h548:vi 3 id [(548,0)] N 548=N:=wV (c:=548) (j:=0) hnw aw
 refine .inl (nl (n:=3) (b0:=aF C ⟨r,J,H⟩ id) id (JU hC r J H hk n hn1 hn2) (fun i x hi=>Dc i x hi) (aQ 3) (fun j hj=>by show j<N;omega)
  (fun j hj=>⟨_,wT _ (aQ 3) hj,ho.2 _ _ _ hj,(ho.1 _ id _ id j hj hid).symm⟩) ?_ [(548,0)] hnw ?_)
 ·rw [AV.renL,AV.renL,AV.renL,AV.ren];rfl
 ·rintro r' hp' ⟨hs',hv⟩ hpX q1 q2 q3;have hro:∀ j,j<3→vi 3 id [(548,0)] N (id j)=id j:=fun j hj=>wU hnw hj
  have ob:∀ i b,lk i (gA 3 (aF C) ⟨(gU n r).2,J,H⟩ id)=some b→lk i hpX=some b:=by
   intro i b h;obtain ⟨j,hj,e⟩:=lg.1 (bG h)
   cases e
   have h2:=q1 j hj _ (hs' j hj);rw [ho.1 _ id _ id j hj hro] at h2;exact h2
  rcases hv with ⟨rfl,he⟩ | ⟨rfl,hb⟩
  ·exact ⟨_,ob,h1 he⟩
  ·refine ⟨_,fun i b h=>?_,by rw [AV.ren,h548];exact h2⟩;simp only [lk] at h
   split at h
   ·rename_i e;subst e
    cases h
    have h3:=q2 548 0 aw _ hb
    have e:Blk.ren (vi 3 id [(548,0)] N) ⟨31,1,cG (gU n r).1 []⟩=⟨31,1,cG (gU n r).1 []⟩:=by
     simp only [Blk.ren,kg]
    rw [e] at h3;exact h3
   ·exact ob i b h
theorem V0 {b:bc} {n:Int} (hb:bytes b) (h:fJ 8 b=some n):-9223372036854775808≤n∧n<9223372036854775808:=by
 unfold fJ at h
 split at h
 ·rename_i h1;obtain rfl:=Option.some.inj h;have hl:b.length≤8:=aq;rcases eg b with rfl | ⟨a,x,rfl⟩
  ·decide
  ·have hx:x<256:=hb x aw;have ha:=qE (b:=a) (fun y hy=>hb y (List.mem_append_left _ hy));simp at hl;rw [nk];have hc:a.length=0 ∨ a.length=1 ∨ a.length=2 ∨ a.length=3 ∨ a.length=4 ∨ a.length=5 ∨ a.length=6 ∨ a.length=7:=aq;rcases hc with e | e | e | e | e | e | e | e <;> rw [e] at ha ⊢ <;> simp at ha ⊢ <;> split <;> omega
 ·cases h
theorem JW {r:Rn} (h:StOk r.main r.alt):-9223372036854775808≤(d6 8 r).1∧(d6 8 r).1<9223372036854775808:=by
 obtain ⟨_,_,hb⟩:=dy h;unfold d6;generalize bn r=p at *;simp only
 split
 ·cases hd:fJ 8 p.1 with
  | none=>simp only;omega
  | some n=>exact V0 hb hd
 ·simp only;omega
theorem JX {most:Nat} {r:Rn} (h:r.e ≠ 0):d6 most r=(0,r):=by
 have ht:bn r=([],r):=if_neg h;unfold d6;rw [ht];exact if_neg h
theorem JY {r:Rn} (h:StOk r.main r.alt) (n:Int):StOk (gU n r).2.main (gU n r).2.alt∧(∀ x,x ∈ (gU n r).1→x.length≤1000∧bytes x)∧(gU n r).1.length≤1000∧RnL r (gU n r).2:=by
 unfold gU;simp only
 split
 ·rename_i hb
  split
  ·rename_i he;exact absurd he (xo aq)
  ·exact ⟨fL h,fun x hx=>(by cases hx),aw,mO _ _⟩
 ·rename_i hb
  split
  ·obtain ⟨h1,h2⟩:=tW h n.toNat
   exact ⟨h1,h2,by rw [nG];have:=h.m;omega,Ej _ _⟩
  ·exact ⟨h,fun x hx=>(by cases hx),aw,⟨rfl,rfl,rfl⟩⟩
theorem B7 {l:List bc} {b:bc} (h:(qA l b).2=0):(qA l b).1.length≤1000:=by
 unfold qA at h ⊢
 cases hu:sT [] l with
 | none=>rw [hu] at h;simp at h
 | some out =>
  rw [hu] at h;simp only at h ⊢
  split at h
  ·simp at h
  ·rename_i h2;rw [if_neg h2];simp only;omega
theorem N6 (F:RnF) (x:Rx) (E:RnE F x) (r:Rn) (J:List Bool) (hk:StOk r.main r.alt) (hc:r.cl.length≤100000) :
  cJ Tryz.prog 3 (aF (gm F)) 202 ⟨r,J,0⟩ [.ptr 0 0 0 1] (fun v s'=>s'=⟨BB x r,J,0⟩):=by
 refine al Tryz.func202 (by kernel_rfl) rfl Tryz.ntmps202 (rs:=[]) rfl (dS rfl) (by decide) ?_;have hC:=d0 (F:=F) E.hi;have hl:=hC.2.2;unfold BB;have h1:=rC hC r J 0 hk 4 aq;have k1:=lF (most:=4) hk;have n1:=Ei hk;have l1:=vI 4 r;generalize d6 4 r=p1 at *;obtain ⟨n,r1⟩:=p1;simp only at h1 k1 n1 l1 ⊢;have h2:=jR hC r1 J 0 k1;obtain ⟨k2,b1,b2⟩:=dy k1;have l2:=kA r1;generalize bn r1=p2 at *;obtain ⟨b,r2⟩:=p2;simp only at h2 k2 b1 b2 l2 ⊢;obtain ⟨k3,t1,t2,l3⟩:=JY k2 n;have h3:=fun {N:Nat} {K:AV→Hp→Prop} (hN:3≤N)=>Sz hC r2 J 0 k2 n n1.1 n1.2 (K:=K) hN;generalize gU n r2=p3 at *;obtain ⟨l,r3⟩:=p3;simp only at h3 k3 t1 t2 l3 ⊢;simp [go_sem];refine dI (Pp:=[]) hC h1 aq aw (by simp [AV.renL,AV.ren]) ?_;rintro v s' ρ ⟨rfl,rfl⟩ hρ;simp [go_sem,AV.ren];refine dI (Pp:=[]) hC h2 aq aw (by simp [AV.renL,AV.ren]) ?_;rintro v s' ρ ⟨rfl,rfl⟩ hρ;simp [go_sem,AV.ren];refine h3 aq (fun he=>?_) ?_
 ·have e1:d6 4 r3=(0,r3):=JX he;have e2:d6 8 r3=(0,r3):=JX he;have m1:=rC hC r3 J 0 k3 4 aq;have m2:=rC hC r3 J 0 k3 8 aq;rw [e1] at m1;rw [e2] at m2;simp only [e1,e2];rw [if_neg he];simp [go_sem];refine aM (Pp:=[]) hC m1 (List.nil_append _).symm aq aw (by simp [AV.renL,AV.ren]) ?_;rintro v s' ρ ⟨rfl,rfl⟩ hρ;simp [go_sem,AV.ren];refine aM (Pp:=[]) hC m1 (List.nil_append _).symm aq aw (by simp [AV.renL,AV.ren]) ?_;rintro v s' ρ ⟨rfl,rfl⟩ hρ;simp [go_sem,AV.ren];refine aM (Pp:=[]) hC m2 (List.nil_append _).symm aq aw (by simp [AV.renL,AV.ren]) ?_;rintro v s' ρ ⟨rfl,rfl⟩ hρ;simp [go_sem,AV.ren];refine aM (Pp:=[]) hC (ek hC r3 J 0) (List.nil_append _).symm aq aw (by simp [AV.renL,AV.ren]) ?_;rintro v s' ρ ⟨rfl,rfl⟩ hρ;simp [go_sem,AV.ren,he];rw [bz];exact aB rfl rfl rfl
 ·have h4:=rC hC r3 J 0 k3 4 aq;have k4:=lF (most:=4) k3;have l4:=vI 4 r3;generalize d6 4 r3=p4 at *;obtain ⟨o,r4⟩:=p4;simp only at h4 k4 l4 ⊢;have h5:=rC hC r4 J 0 k4 4 aq;have k5:=lF (most:=4) k4;have l5:=vI 4 r4;generalize d6 4 r4=p5 at *;obtain ⟨t,r5⟩:=p5;simp only at h5 k5 l5 ⊢;have h6:=rC hC r5 J 0 k5 8 aq;have k6:=lF (most:=8) k5;have l6:=vI 8 r5;have n6:=JW k5;generalize d6 8 r5=p6 at *;obtain ⟨bk,r6⟩:=p6;simp only at h6 k6 l6 n6 ⊢;have hcl:r6.cl.length≤100000:=by rw [l6.cl,l5.cl,l4.cl,l3.cl,l2.cl,l1.cl];exact hc
  have hPB:∀ (N:Nat),261≤N→∀ p,p ∈ [((260:Nat),(⟨31,1,cG l []⟩:Blk))]→p.1<N∧3≤p.1:=by
   intro N hN p hp;simp at hp;subst hp;exact ⟨by show 260<N;omega,by show 3≤260;omega⟩
  simp [go_sem];refine aM (Pp:=[(260,⟨31,1,cG l []⟩)]) hC h4 rfl aq (hPB _ aq) (by simp [AV.renL,AV.ren]) ?_;rintro v s' ρ ⟨rfl,rfl⟩ hρ;simp [go_sem,AV.ren];refine aM (Pp:=[(260,⟨31,1,cG l []⟩)]) hC h5 rfl aq (hPB _ aq) (by simp [AV.renL,AV.ren]) ?_;rintro v s' ρ ⟨rfl,rfl⟩ hρ;simp [go_sem,AV.ren];refine aM (Pp:=[(260,⟨31,1,cG l []⟩)]) hC h6 rfl aq (hPB _ aq) (by simp [AV.renL,AV.ren]) ?_;rintro v s' ρ ⟨rfl,rfl⟩ hρ;simp [go_sem,AV.ren];refine aM (Pp:=[(260,⟨31,1,cG l []⟩)]) hC (ek hC r6 J 0) rfl aq (hPB _ aq) (by simp [AV.renL,AV.ren]) ?_;rintro v s' ρ ⟨rfl,rfl⟩ hρ;by_cases he:r6.e=0
  ·rw [if_pos he];have hup:=Bc l b t2 (fun y hy=>⟨by have:=(t1 y hy).1;omega,(t1 y hy).2⟩) aq;have hub:=Be (things:=l) b2 (fun y hy=>⟨by have:=(t1 y hy).1;omega,(t1 y hy).2⟩);have hus:=@B7 l b;simp [go_sem,AV.ren,he];refine bN [260] hup rfl (aj (.one (ak (gP (J:=[]) rfl aw))) (aj (.deep trivial) aE)) ?_;have hdr:aD [260] ((260,(⟨31,1,cG l []⟩:Blk)) :: gA 3 (aF (gm F)) ⟨r6,J,0⟩ id)=gA 3 (aF (gm F)) ⟨r6,J,0⟩ id:=rfl;rw [hdr];generalize qA l b=u at *;obtain ⟨s,ue⟩:=u;simp only at hub hus ⊢;by_cases hu:ue=0
   ·subst hu;obtain ⟨hT,hT2⟩:=E.tr s o t bk hub (by have:=hus rfl;omega) n6.1 n6.2;generalize x.trg s o t bk=q at *;obtain ⟨cs,ce⟩:=q;simp only at hT hT2 ⊢;simp only [if_true];have hcm:=D9 hC r6 J k6 cs ce hcl aq;simp only [eS,cM] at hT;rw [bz];simp only [aF,bB,bA,id,gm,eS];simp [go_sem];refine b7 [0,1,2,3,4,5,6,7,8,9,10,11,12,13] [(14,[15,16]),(17,[])] 1 (k:=18) ?_;intro G hG;have hlf:(aP F.inner (AV.d (cZ F.path)) (AV.d (nb F.script))).length=34:=by simp [aP,am,E.hi]
    have hlt:∀ l:List AV,List.take 34 (aP F.inner (AV.d (cZ F.path)) (AV.d (nb F.script)) ++ l)=aP F.inner (AV.d (cZ F.path)) (AV.d (nb F.script)):=fun l=>by rw [← hlf,List.take_left]
    simp [go_sem,hlf,hlt];refine ag hT (by intro v hv;simp at hv;rcases hv with rfl | rfl | rfl | rfl | rfl;simp [AV.deep,AV.deep1];exact cO F.inner F.path F.script _ (List.mem_singleton.2 rfl);trivial;simp [AV.deep,AV.deep1];trivial) ?_;simp [go_sem];refine aM (Pp:=[]) (s:=⟨r6,J,0⟩) hC hcm (by simp [bz,aF,bB,bA,gm,eS]) aq aw (by simp [AV.renL,AV.ren]) ?_;rintro v s' ρ rfl hρ;simp [go_sem];refine hG _ _ ?_;clear hG G;simp [go_sem];rw [bz];exact aB (by simp [lk,aF,bB,bA,gm,eS]) rfl rfl
   ·rw [if_neg hu];simp [go_sem,hu];refine aM (Pp:=[]) hC (bu hC r6 J 0 ue) (List.nil_append _).symm aq aw (by simp [AV.renL,AV.ren]) ?_;rintro v s' ρ rfl hρ;rw [bz];generalize au ue r6=r';simp only [aF,bB,bA,id];simp [go_sem,ah];exact aB rfl rfl rfl
  ·rw [if_neg he];simp [go_sem,AV.ren,he];rw [bz];exact aB rfl rfl rfl
theorem N7 (F:RnF) (x:Rx) (E:RnE F x) (op:Nat) (h8:op<256) (r:Rn) (J:List Bool) (hk:StOk r.main r.alt) (hc:r.cl.length≤100000) (hbd:fO r.bud) :
  cJ Tryz.prog 3 (aF (gm F)) 172 ⟨r,J,0⟩ [.ptr 0 0 0 1,.d (.int .u8 (op:Int))] (fun v s'=>s'=⟨tp x op r,J,0⟩):=by
 refine al Tryz.func172 (by kernel_rfl) rfl Tryz.ntmps172 (rs:=[]) rfl (dS rfl) (by decide) ?_;have hC:=d0 (F:=F) E.hi;have hl:=hC.2.2;obtain ⟨i,hn,hio,hxs⟩:=E.sq;obtain ⟨te,hte⟩:=E.tg;by_cases h106:op=106
 ·subst h106;have hv:tp x 106 r=au 17 r:=rfl;rw [hv];simp [go_sem];refine aM (Pp:=[]) hC (bu hC r J 0 17) (List.nil_append _).symm aq aw (by simp [AV.renL,AV.ren]) ?_;rintro v s' ρ rfl hρ;rw [bz];generalize au 17 r=r';simp only [aF,bB,bA,id];simp [go_sem,ah];exact aB rfl rfl rfl
 by_cases h172:op=172
 ·subst h172;have hv:tp x 172 r=qK x 172 r:=rfl;rw [hv];simp [go_sem];refine aM (Pp:=[]) hC (r7 F x E 172 aq r J 0 hk hbd) (List.nil_append _).symm aq aw (by simp [AV.renL,AV.ren]) ?_;rintro v s' ρ rfl hρ;rw [bz];generalize qK x 172 r=r';simp only [aF,bB,bA,id];simp [go_sem,ah];exact aB rfl rfl rfl
 by_cases h173:op=173
 ·subst h173;have hv:tp x 173 r=qK x 173 r:=rfl;rw [hv];simp [go_sem];refine aM (Pp:=[]) hC (r7 F x E 173 aq r J 0 hk hbd) (List.nil_append _).symm aq aw (by simp [AV.renL,AV.ren]) ?_;rintro v s' ρ rfl hρ;rw [bz];generalize qK x 173 r=r';simp only [aF,bB,bA,id];simp [go_sem,ah];exact aB rfl rfl rfl
 by_cases h186:op=186
 ·subst h186;have hv:tp x 186 r=qK x 186 r:=rfl;rw [hv];simp [go_sem];refine aM (Pp:=[]) hC (r7 F x E 186 aq r J 0 hk hbd) (List.nil_append _).symm aq aw (by simp [AV.renL,AV.ren]) ?_;rintro v s' ρ rfl hρ;rw [bz];generalize qK x 186 r=r';simp only [aF,bB,bA,id];simp [go_sem,ah];exact aB rfl rfl rfl
 by_cases h204:op=204
 ·subst h204;have hv:tp x 204 r=qK x 204 r:=rfl;rw [hv];simp [go_sem];refine aM (Pp:=[]) hC (r7 F x E 204 aq r J 0 hk hbd) (List.nil_append _).symm aq aw (by simp [AV.renL,AV.ren]) ?_;rintro v s' ρ rfl hρ;rw [bz];generalize qK x 204 r=r';simp only [aF,bB,bA,id];simp [go_sem,ah];exact aB rfl rfl rfl
 by_cases h177:op=177
 ·subst h177;have hv:tp x 177 r=tn x r:=rfl;rw [hv];simp [go_sem];refine aM (Pp:=[]) hC (JL F x E.hi i hn hio E.lk.1 E.lk.2 hxs r J 0 hk) (List.nil_append _).symm aq aw (by simp [AV.renL,AV.ren]) ?_;rintro v s' ρ rfl hρ;rw [bz];generalize tn x r=r';simp only [aF,bB,bA,id];simp [go_sem,ah];exact aB rfl rfl rfl
 by_cases h178:op=178
 ·subst h178;have hv:tp x 178 r=Bw x r:=rfl;rw [hv];simp [go_sem];refine aM (Pp:=[]) hC (N1 F x E.hi i hn hio E.vr.1 E.vr.2 hxs r J 0 hk) (List.nil_append _).symm aq aw (by simp [AV.renL,AV.ren]) ?_;rintro v s' ρ rfl hρ;rw [bz];generalize Bw x r=r';simp only [aF,bB,bA,id];simp [go_sem,ah];exact aB rfl rfl rfl
 by_cases h179:op=179
 ·subst h179;have hv:tp x 179 r=xm x r:=rfl;rw [hv];simp [go_sem];refine aM (Pp:=[]) hC (Sr F x E.hi E.tl E.tb te hte r J 0 hk) (List.nil_append _).symm aq aw (by simp [AV.renL,AV.ren]) ?_;rintro v s' ρ rfl hρ;rw [bz];generalize xm x r=r';simp only [aF,bB,bA,id];simp [go_sem,ah];exact aB rfl rfl rfl
 by_cases h187:op=187
 ·subst h187;have hv:tp x 187 r=BB x r:=rfl;rw [hv];simp [go_sem];refine aM (Pp:=[]) hC (N6 F x E r J hk hc) (List.nil_append _).symm aq aw (by simp [AV.renL,AV.ren]) ?_;rintro v s' ρ rfl hρ;rw [bz];generalize BB x r=r';simp only [aF,bB,bA,id];simp [go_sem,ah];exact aB rfl rfl rfl
 by_cases h188:op=188
 ·subst h188;have hv:tp x 188 r=Bz x r:=rfl;rw [hv];simp [go_sem];refine aM (Pp:=[]) hC (N3 F x E.hi E.rc r J hk hc) (List.nil_append _).symm aq aw (by simp [AV.renL,AV.ren]) ?_;rintro v s' ρ rfl hρ;rw [bz];generalize Bz x r=r';simp only [aF,bB,bA,id];simp [go_sem,ah];exact aB rfl rfl rfl
 have i106:¬ (op:Int)=106:=aq;have i172:¬ (op:Int)=172:=aq;have i173:¬ (op:Int)=173:=aq;have i186:¬ (op:Int)=186:=aq;have i204:¬ (op:Int)=204:=aq;have i177:¬ (op:Int)=177:=aq;have i178:¬ (op:Int)=178:=aq;have i179:¬ (op:Int)=179:=aq;have i187:¬ (op:Int)=187:=aq;have i188:¬ (op:Int)=188:=aq
 have hv:tp x op r={ au (vh bo dP op r.main r.alt).2.2 r with main:=(vh bo dP op r.main r.alt).1,alt:=(vh bo dP op r.main r.alt).2.1 }:=by
  unfold tp;rw [E.hh.1,E.hh.2,if_neg h106,if_neg aq,if_neg h177,if_neg h178,if_neg h179,if_neg h187,if_neg h188]
 rw [hv];have hdo:=Na op h8 r.main r.alt hk.m hk.a (fun y hy=>by have:=(hk.mb y hy).1;omega) (fun y hy=>by have:=(hk.ab y hy).1;omega) (fun y hy=>(hk.mb y hy).2);unfold ye at hdo
 generalize vh bo dP op r.main r.alt=d at *;obtain ⟨m2,a2,e2⟩:=d;simp only at hdo ⊢;have hf:=bu hC r J 0 e2;rw [bz];simp only [aF,bB,bA,id,jm] at *;simp [go_sem,h106,i106,h172,i172,h173,i173,h186,i186,h204,i204,h177,i177,h178,i178,h179,i179,h187,i187,h188,i188,hl];refine ag hdo (by intro v hv;simp at hv;rcases hv with rfl | rfl;trivial;exact eu r.main r.alt) ?_;simp [go_sem];refine aM (Pp:=[(964,⟨155,2,[[.d (.ro 1 (m2.map bJ)),.d (.ro 1 (a2.map bJ))]]⟩)]) (s:=⟨r,J,0⟩) hC hf (by simp [bz,aF,bB,bA]) aq (by intro p hp;simp at hp;subst hp;simp) (by simp [AV.renL,AV.ren]) ?_;rintro v s' ρ rfl hρ;rw [bz];generalize au e2 r=r';have hid2:gq r'=gq { r' with main:=m2,alt:=a2 }:=rfl;simp only [aF,bB,bA,id];simp [go_sem,hl,BC,ah];exact aB rfl rfl rfl
def Pl (l:List bc):Prop:=∀ x,x ∈ l→bytes x
def kN (m:Mc):Prop:=Pl m.main∧Pl m.alt
theorem xX:bytes []:=fun x hx=>(by cases hx)
theorem se {l:List bc} (h:Pl l):bytes (l.getLastD []):=by
 rcases l.eq_nil_or_concat with rfl | ⟨a,x,rfl⟩
 ·exact xX
 ·rw [List.concat_eq_append] at h ⊢;rw [List.getLastD_concat];exact h x aw
theorem xY {l:List bc} (h:Pl l) (i:Nat):bytes (l.getD i []):=by
 rw [cS]
 cases hq:l[i]? with
 | none=>exact xX
 | some x=>exact h x (cr hq)
theorem tX {m:Mc} (x:Int) (h:kN m):kN (gn x m):=by unfold gn;split <;> exact h
theorem ko {m:Mc} (n:Nat) (h:kN m):kN (aL n m):=by unfold aL;split;exact tX 12 h;exact h
theorem tY {m:Mc} (h:kN m):kN (db m).2∧bytes (db m).1:=by
 unfold db
 split
 ·exact ⟨⟨fun x hx=>h.1 x ((List.dropLast_sublist _).mem hx),h.2⟩,se h.1⟩
 ·exact ⟨ko 1 h,xX⟩
theorem kB {m:Mc} {l:List bc} (hl:Pl l) (h:kN m):kN (dO l m):=⟨fun x hx=>(cL.1 hx).elim (h.1 x) (hl x),h.2⟩
theorem Ek {m:Mc} (most:Nat) (x:bc) (h:kN m):kN (fa most x m).2:=by
 unfold fa
 split
 ·cases fJ most x with
  | none=>exact tX 15 h
  | some n=>exact h
 ·exact h
theorem xZ {m:Mc} (k:Nat) (put:List Nat) (h:kN m):kN (cf k put m):=by
 unfold cf
 split
 ·refine ⟨fun x hx=>?_,h.2⟩;rcases cL.1 hx with q | q
  ·exact h.1 x (List.mem_of_mem_take q)
  ·obtain ⟨i,_,rfl⟩:=List.mem_map.1 q;exact xY (fun y hy=>h.1 y (List.mem_of_mem_drop hy)) i
 ·exact ko k h
theorem iC {x:bc} (h:bytes x):Pl [x]:=fun y hy=>by simp at hy;subst hy;exact h
theorem JZ {m:Mc} (h:kN m):kN (lc m):=by
 obtain ⟨h1,h2⟩:=tY h;exact ⟨h1.1,fun x hx=>(cL.1 hx).elim (h1.2 x) (iC h2 x)⟩
theorem N8 {m:Mc} (h:kN m):kN (nO m):=by
 unfold nO
 split
 ·exact tX 12 h
 ·exact ⟨fun x hx=>(cL.1 hx).elim (h.1 x) (iC (se h.2) x),fun x hx=>h.2 x ((List.dropLast_sublist _).mem hx)⟩
theorem x4 {m:Mc} (c:Bool) (h:kN m):kN (je c m):=by unfold je;split;exact h;exact tX 16 h
theorem Em {m:Mc} (h:kN m):kN (fK m).2:=by
 unfold fK
 split
 ·exact xZ 2 [] h
 ·exact ko 2 h
theorem N9 {m:Mc} (h:kN m):kN (nP m):=by
 unfold nP
 split
 ·exact kB (iC (qB (xY h.1 _) (se h.1))) (xZ 2 [] h)
 ·exact ko 2 h
theorem En {m:Mc} (f:bc→bc) (hf:∀ x,bytes (f x)) (h:kN m):kN (ke f m):=by
 unfold ke
 split
 ·exact kB (iC (hf _)) (tY h).1
 ·exact ko 1 h
theorem Eo {m:Mc} (r:Bool) (h:kN m):kN (jd r m):=by
 have h1:=Ek 4 (db m).1 (tY h).1;unfold jd;simp only
 split
 ·split
  ·exact tX 12 h1
  ·refine kB (iC (xY h1.1 _)) ⟨fun x hx=>?_,h1.2⟩
   cases r
   ·exact h1.1 x hx
   ·exact h1.1 x (List.mem_of_mem_eraseIdx hx)
 ·exact h1
theorem J0:∀ (k:Nat) (m:Mc),kN m→kN (lN k m).2
 | 0,m,h=>h
 | k+1,m,h=>J0 k _ (Ek 4 _ (tY h).1)
theorem sf {m:Mc} (n:Nat) (h:kN m):kN (dm n m).2:=by
 unfold dm
 split
 ·exact J0 n m h
 ·exact ko n h
theorem tZ (b:Bool):bytes (iw b):=by cases b;exact xX;intro x hx;simp [iw] at hx;omega
theorem ep {c:Prop} [Decidable c] {x y:Mc} {r:Option Mc} (h:(if c then some x else r)=some y) (hx:kN x) (hr:r=some y→kN y):kN y:=by
 split at h
 ·cases h;exact hx
 ·exact hr h
theorem SA {op:Nat} {m m':Mc} (h:iy op m=some m') (hs:kN m):kN m':=by
 unfold iy at h;refine ep h hs fun h=>?_;refine ep h (JZ hs) fun h=>?_;refine ep h (N8 hs) fun h=>?_
 iterate 13 refine ep h (xZ _ _ hs) fun h=>?_
 cases h
theorem V1 {op:Nat} {m m':Mc} (h:ug bo dP op m=some m') (hs:kN m):kN m':=by
 unfold ug at h;refine ep h (Eo _ hs) fun h=>?_;refine ep h (Eo _ hs) fun h=>?_;refine ep h (x4 _ (tY hs).1) fun h=>?_;refine ep h ?_ fun h=>?_
 ·split
  ·split
   ·exact kB (iC (se hs.1)) hs
   ·exact hs
  ·exact ko 1 hs
 refine ep h (kB (iC (fY _)) hs) fun h=>?_;refine ep h (N9 hs) fun h=>?_;refine ep h ?_ fun h=>?_
 ·split
  ·exact kB (iC (fY _)) hs
  ·exact ko 1 hs
 refine ep h (kB (iC (tZ _)) (Em hs)) fun h=>?_;refine ep h (x4 _ (Em hs)) fun h=>?_;refine ep h (En _ fW hs) fun h=>?_;refine ep h (En _ (fun _=>fW _) hs) fun h=>?_
 cases h
theorem SB {op:Nat} {m m':Mc} (h:nK op m=some m') (hs:kN m):kN m':=by
 unfold nK at h
 split at h
 ·obtain rfl:=Option.some.inj h;exact kB (iC (tZ _)) (sf 3 hs)
 ·split at h
  ·obtain rfl:=Option.some.inj h;exact kB (iC (fY _)) (sf 1 hs)
  ·split at h
   ·cases h
   ·obtain rfl:=Option.some.inj h;simp only
    split
    ·exact x4 _ (sf 2 hs)
    ·exact kB (iC (fY _)) (sf 2 hs)
theorem gW {main alt:List bc} (h:fi main alt=0):(∀ x,x ∈ main→x.length≤520)∧(∀ x,x ∈ alt→x.length≤520)∧main.length+alt.length≤100:=by
 unfold fi at h
 split at h
 ·rename_i hc;simp only [Bool.and_eq_true,d9,decide_eq_true_eq] at hc
  split at h
  ·exact ⟨hc.1,hc.2,‹_›⟩
  ·simp at h
 ·simp at h
theorem J1 {main alt:List bc} (h:fi main alt=0) (h1:Pl main) (h2:Pl alt):StOk main alt:=by
 obtain ⟨a,b,c⟩:=gW h;exact ⟨aq,aq,fun x hx=>⟨by have:=a x hx;omega,h1 x hx⟩,fun x hx=>⟨by have:=b x hx;omega,h2 x hx⟩⟩
theorem B8:StOk [] []:=⟨aw,aw,fun x hx=>(by cases hx),fun x hx=>(by cases hx)⟩
theorem x5 {m:Mc} (h:kN m):StOk (df m).1 (df m).2.1:=by
 unfold df
 split
 ·split
  ·exact J1 ‹_› h.1 h.2
  ·exact B8
 ·exact B8
theorem V2 {main alt:List bc} (h:StOk main alt) (op:Nat):StOk (vh bo dP op main alt).1 (vh bo dP op main alt).2.1:=by
 have hs:kN ⟨main,alt,0⟩:=⟨fun x hx=>(h.mb x hx).2,fun x hx=>(h.ab x hx).2⟩;unfold vh
 cases h1:iy op ⟨main,alt,0⟩ with
 | some m=>exact x5 (SA h1 hs)
 | none =>
  cases h2:ug bo dP op ⟨main,alt,0⟩ with
  | some m=>exact x5 (V1 h2 hs)
  | none =>
   cases h3:nK op ⟨main,alt,0⟩ with
   | some m=>exact x5 (SB h3 hs)
   | none=>exact B8
structure RnG (r r':Rn):Prop where
 st:StOk r'.main r'.alt
 bd:fO r'.bud
 br:r'.br=r.br
 cl:r'.cl=r.cl
theorem RnG.trans {a b c:Rn} (h:RnG a b) (h2:RnG b c):RnG a c:=⟨h2.st,h2.bd,h2.br.trans h.br,h2.cl.trans h.cl⟩
theorem J4 {r r':Rn} (h:fO r.bud) (l:RnL r r') (s:StOk r'.main r'.alt):RnG r r':=⟨s,by rw [l.bud];exact h,l.br,l.cl⟩
theorem SC {r:Rn} (h:StOk r.main r.alt) (hb:fO r.bud):RnG r r:=⟨h,hb,rfl,rfl⟩
theorem fC {r:Rn} (h:StOk r.main r.alt) (hb:fO r.bud) (x:Int):RnG r (au x r):=J4 hb (mO x r) (fL h)
theorem oL {r:Rn} (h:StOk r.main r.alt) (hb:fO r.bud):RnG r (bn r).2:=J4 hb (kA r) (dy h).1
theorem vJ {r:Rn} (h:StOk r.main r.alt) (hb:fO r.bud) (most:Nat):RnG r (d6 most r).2:=J4 hb (vI most r) (lF h)
theorem zV {r:Rn} (h:StOk r.main r.alt) (hb:fO r.bud) {b:bc} (hbb:bytes b):RnG r (dp b r):=by
 refine J4 hb (VZ b r) ?_;unfold dp
 split
 ·split
  ·exact J1 ‹_› (fun x hx=>(cL.1 hx).elim (fun q=>(h.mb x q).2) (iC hbb x)) (fun x hx=>(h.ab x hx).2)
  ·exact fL h
 ·exact h
theorem Ep {r:Rn} (h:StOk r.main r.alt) (hb:fO r.bud) (sg:bc→bc→bc→Bool) (key sig msg:bc):RnG r (fb sg key sig msg r).2:=by
 obtain ⟨h1,h2,h3,h4⟩:=tV sg key sig msg r hb h;exact ⟨h4,h3,h1,h2⟩
theorem Pm {r:Rn} (h:StOk r.main r.alt) (hb:fO r.bud):RnG r (lr r).2:=by
 unfold lr
 split
 ·exact fC h hb 12
 ·exact SC h hb
theorem J5 {r:Rn} (h:StOk r.main r.alt) (hb:fO r.bud):RnG r (lK r).2:=by
 have g:=Pm h hb;unfold lK;generalize lr r=p at *;simp only
 split
 ·cases fJ 5 p.1 with
  | none=>exact g.trans (fC g.st g.bd 15)
  | some n =>
   simp only
   split
   ·exact g.trans (fC g.st g.bd 22)
   ·exact g
 ·exact g
theorem SD {r:Rn} (h:StOk r.main r.alt) (hb:fO r.bud):RnG r (lJ r).2:=by
 have g:=oL h hb;unfold lJ;simp only
 split
 ·exact g.trans (fC g.st g.bd 19)
 ·exact g
theorem V3 {r:Rn} (h:StOk r.main r.alt) (hb:fO r.bud) (x:Rx) (op:Nat):RnG r (qK x op r):=by
 have g1:=oL h hb;unfold qK;simp only;generalize bn r=k at *;have g2:=oL g1.st g1.bd
 split
 ·generalize bn k.2=s at *;have g3:=Ep g2.st g2.bd x.sg k.1 s.1 x.msg;exact g1.trans (g2.trans (g3.trans (zV g3.st g3.bd (tZ _))))
 ·split
  ·generalize bn k.2=s at *;have g3:=Ep g2.st g2.bd x.sg k.1 s.1 x.msg
   split
   ·exact g1.trans (g2.trans g3)
   ·exact g1.trans (g2.trans (g3.trans (fC g3.st g3.bd 16)))
  ·split
   ·have g2:=vJ g1.st g1.bd 4;generalize d6 4 k.2=n at *;have g3:=oL g2.st g2.bd;generalize bn n.2=s at *;have g4:=Ep g3.st g3.bd x.sg k.1 s.1 x.msg;exact g1.trans (g2.trans (g3.trans (g4.trans (zV g4.st g4.bd (fY _)))))
   ·split
    ·generalize bn k.2=m at *;have g3:=oL g2.st g2.bd;generalize bn m.2=s at *;have g4:=Ep g3.st g3.bd x.sg k.1 s.1 m.1;exact g1.trans (g2.trans (g3.trans (g4.trans (zV g4.st g4.bd (tZ _)))))
    ·exact g1
theorem SE {r:Rn} (h:StOk r.main r.alt) (hb:fO r.bud) (x:Rx):RnG r (tn x r):=by
 have g:=J5 h hb;unfold tn;simp only
 split
 ·exact g.trans (fC g.st g.bd 22)
 ·exact g
theorem V5 {r:Rn} (h:StOk r.main r.alt) (hb:fO r.bud) (x:Rx):RnG r (Bw x r):=by
 have g:=J5 h hb;unfold Bw;simp only
 split
 ·exact g
 ·split
  ·exact g.trans (fC g.st g.bd 22)
  ·exact g
theorem V6 {r:Rn} (h:StOk r.main r.alt) (hb:fO r.bud) (x:Rx):RnG r (xm x r):=by
 have g:=Pm h hb;unfold xm;simp only
 split
 ·exact g
 ·exact g.trans (fC g.st g.bd 23)
structure RnOk (r:Rn) (k:Nat):Prop where
 st:StOk r.main r.alt
 bd:fO r.bud
 br:r.br.length≤k
 cl:r.cl.length≤2*k
theorem mP {r r':Rn} {k:Nat} (h:RnOk r k) (g:RnG r r'):RnOk r' k:=⟨g.st,g.bd,by rw [g.br];exact h.br,by rw [g.cl];exact h.cl⟩
theorem kO {r:Rn} {k m:Nat} (h:RnOk r k) (hm:k≤m):RnOk r m:=⟨h.st,h.bd,by have:=h.br;omega,by have:=h.cl;omega⟩
theorem J6 {r:Rn} {k:Nat} (h:RnOk r k) (l:List (Int × Int)) (hl:l.length≤2) (e:Int):RnOk (zr l e r) (k+1):=by
 unfold zr
 split
 ·have g:=fC h.st h.bd e;have g2:RnG { au e r with cl:=r.cl ++ l } (dp (iw true) { au e r with cl:=r.cl ++ l }):=zV (r:={ au e r with cl:=r.cl ++ l }) g.st g.bd (tZ true);refine ⟨g2.st,g2.bd,?_,?_⟩
  ·rw [g2.br];show (au e r).br.length≤k+1;rw [g.br];have:=h.br;omega
  ·rw [g2.cl];show (r.cl ++ l).length≤2*(k+1);have:=h.cl;simp;omega
 ·exact kO h aq
theorem SG {r:Rn} {k:Nat} (h:RnOk r k) (x:Rx):RnOk (Bz x r) (k+1):=by
 have h1:=mP h (oL h.st h.bd);unfold Bz;simp only;generalize bn r=p at *;have h2:=mP h1 (vJ h1.st h1.bd 4)
 split
 ·exact J6 h2 _ aw _
 ·exact kO h2 aq
theorem SH {r:Rn} {k:Nat} (h:RnOk r k) (x:Rx) (hx:∀ s o0 o1 bk,(x.trg s o0 o1 bk).1.length≤2):RnOk (BB x r) (k+1):=by
 have h1:=mP h (vJ h.st h.bd 4);unfold BB;simp only;generalize d6 4 r=p1 at *;have h2:=mP h1 (oL h1.st h1.bd);generalize bn p1.2=p2 at *;obtain ⟨s3,_,_,l3⟩:=JY h2.st p1.1;have h3:=mP h2 (J4 h2.bd l3 s3);generalize gU p1.1 p2.2=p3 at *;have h4:=mP h3 (vJ h3.st h3.bd 4);generalize d6 4 p3.2=p4 at *;have h5:=mP h4 (vJ h4.st h4.bd 4);generalize d6 4 p4.2=p5 at *;have h6:=mP h5 (vJ h5.st h5.bd 8);generalize d6 8 p5.2=p6 at *
 split
 ·split
  ·exact J6 h6 _ (hx _ _ _ _) _
  ·exact kO (mP h6 (fC h6.st h6.bd _)) aq
 ·exact kO h6 aq
theorem V7 {r:Rn} {k:Nat} (h:RnOk r k) (x:Rx) (h1:x.h1=bo) (h2:x.h2=dP) (hx:∀ s o0 o1 bk,(x.trg s o0 o1 bk).1.length≤2) (op:Nat):RnOk (tp x op r) (k+1):=by
 have le:∀ {r':Rn},RnG r r'→RnOk r' (k+1):=fun g=>kO (mP h g) aq;unfold tp;rw [h1,h2]
 split
 ·exact le (fC h.st h.bd 17)
 split
 ·exact le (V3 h.st h.bd x op)
 split
 ·exact le (SE h.st h.bd x)
 split
 ·exact le (V5 h.st h.bd x)
 split
 ·exact le (V6 h.st h.bd x)
 split
 ·exact SH h x hx
 split
 ·exact SG h x
 ·have hd:=V2 h.st op;have hl:=mO (vh bo dP op r.main r.alt).2.2 r;exact le ⟨hd,by show fO (au _ r).bud;rw [hl.bud];exact h.bd,hl.br,hl.cl⟩
theorem B9 {r:Rn} {k:Nat} (h:RnOk r k) (b:Bool):RnOk (kK b r) (k+1):=⟨h.st,h.bd,by have:=h.br;simp [kK];omega,by have:=h.cl;show r.cl.length≤_;omega⟩
theorem J7 {r:Rn} {k:Nat} (h:RnOk r k):RnOk (lu r).2 k∧((lu r).1 ≠ none→(lu r).2.br.length+1≤k):=by
 unfold lu
 split
 ·exact ⟨mP h (fC h.st h.bd 18),fun q=>absurd rfl q⟩
 ·rename_i hb;have:=h.br;exact ⟨⟨h.st,h.bd,by simp;omega,h.cl⟩,fun _=>by simp;omega⟩
theorem SI {r r':Rn} {k op:Nat} (h:RnOk r k) (hb:mH op r=some r'):RnOk r' (k+1):=by
 unfold mH at hb
 split at hb
 ·obtain rfl:=Option.some.inj hb
  split
  ·exact B9 (mP h (SD h.st h.bd)) _
  ·exact B9 h false
 ·split at hb
  ·obtain rfl:=Option.some.inj hb;obtain ⟨h1,h2⟩:=J7 h;generalize lu r=p at *;obtain ⟨o,r2⟩:=p
   cases o with
   | none=>exact kO h1 aq
   | some b=>exact B9 h1 _
  ·split at hb
   ·obtain rfl:=Option.some.inj hb;exact kO (J7 h).1 aq
   ·cases hb
theorem J8 {r:Rn} {k:Nat} (h:RnOk r k) (x:Rx) (h1:x.h1=bo) (h2:x.h2=dP) (hx:∀ s o0 o1 bk,(x.trg s o0 o1 bk).1.length≤2) (w:Wd) (h8:w.1<256) (hb:bytes w.2):RnOk (lQ x w r) (k+1):=by
 unfold lQ
 split
 ·exact kO (mP h (fC h.st h.bd 10)) aq
 ·cases hbr:mH w.1 r with
  | some r'=>exact SI h hbr
  | none =>
   simp only
   split
   ·exact kO h aq
   ·cases hp:ew w with
    | none=>exact V7 h x h1 h2 hx w.1
    | some b =>
     simp only
     split
     ·exact kO (mP h (zV h.st h.bd (tu hb h8 hp))) aq
     ·exact kO (mP h (fC h.st h.bd 11)) aq
theorem SJ (F:RnF) (x:Rx) (E:RnE F x) (w:Wd) (h8:w.1<256) (hwb:bytes w.2) (hwl:w.2.length≤50000) (r:Rn) (J:List Bool) (k:Nat) (hk:RnOk r k) (hk2:k≤10000) :
  cJ Tryz.prog 3 (aF (gm F)) 140 ⟨r,J,0⟩ [.ptr 0 0 0 1,.agg (uv w)] (fun v s'=>∃ J',s'=⟨lQ x w r,J',0⟩):=by
 refine al Tryz.func140 (by kernel_rfl) rfl Tryz.ntmps140 (rs:=[]) rfl (dS rfl) (by decide) ?_;have hC:=d0 (F:=F) E.hi;have hl:=hC.2.2;have hbr:=hk.br;have hcl:=hk.cl;have hps:=tq w h8 aq;have hnm:=Nc w.1 h8;have hsh:=FN w h8 hwb hwl;have hbn:=IY hC w.1 h8 r J 0 hk.st aq
 have hdw:∀ v,v ∈ [AV.agg (uv w)]→v.deep:=by
  intro v hv;simp at hv;subst hv;exact jP w
 obtain ⟨op,wb⟩:=w;simp only [uv] at *
 have hPB:∀ (N:Nat),5≤N→∀ p,p ∈ [((4:Nat),(⟨42,2,[[.d (.int .u8 (op:Int)),.d (nb wb)]]⟩:Blk))]→p.1<N∧3≤p.1:=by
  intro N hN p hp;simp at hp;subst hp;exact ⟨by show 4<N;omega,by show 3≤4;omega⟩
 simp [go_sem];refine ag hps hdw ?_;have hpA:IT (ew (op,wb))=.tup [.d (nb ((ew (op,wb)).getD [])),.d (.bool (ew (op,wb)).isSome)]:=by cases ew (op,wb) <;> rfl
 rw [hpA];simp [go_sem];refine ag hnm a9 ?_;by_cases hA:(!nL op && (ew (op,wb)).isNone)=true
 ·have hv:lQ x (op,wb) r=au 10 r:=if_pos hA;rw [hv];have hA1:nL op=false:=by simp at hA;exact hA.1
  have hA2:ew (op,wb)=none:=by simp at hA;exact hA.2
  simp [go_sem,hA1,hA2];refine aM (Pp:=[(4,⟨42,2,[[.d (.int .u8 (op:Int)),.d (nb wb)]]⟩)]) hC (bu hC r J 0 10) rfl aq (hPB _ aq) (by simp [AV.renL,AV.ren]) ?_;rintro v s' ρ rfl hρ;rw [bz];generalize au 10 r=r';simp only [aF,bB,bA,id];simp [go_sem,ah];exact ⟨_,⟨J,rfl⟩,aB rfl rfl rfl⟩
 ·have hA':(nL op=true∧(ew (op,wb)).isSome=true) ∨ (nL op=true∧ew (op,wb)=none) ∨ (nL op=false∧(ew (op,wb)).isSome=true):=by
   cases h1:nL op
   ·cases h2:ew (op,wb)
    ·rw [h1,h2] at hA;simp at hA
    ·exact .inr (.inr ⟨rfl,rfl⟩)
   ·cases h2:ew (op,wb)
    ·exact .inr (.inl ⟨rfl,rfl⟩)
    ·exact .inl ⟨rfl,rfl⟩
  have hv0:lQ x (op,wb) r=(match mH op r with
    | some r'=>r'
    | none=>if 0<gq r then r else match ew (op,wb) with
     | some b=>if rA (op,wb) then dp b r else au 11 r
     | none=>tp x op r):=if_neg hA
  cases hb:mH op r with
  | some r1 =>
   have hv:lQ x (op,wb) r=r1:=by rw [hv0,hb]
   rw [hv];rw [hb] at hbn;rcases hA' with ⟨hn,hp⟩ | ⟨hn,hp⟩ | ⟨hn,hp⟩
   ·simp [go_sem,hn,hp];refine aM (Pp:=[(4,⟨42,2,[[.d (.int .u8 (op:Int)),.d (nb wb)]]⟩)]) hC hbn (by first | rfl | simp [bz,aF,bB,bA]) aq (hPB _ aq) (by simp [AV.renL,AV.ren]) ?_;rintro v s' ρ ⟨rfl,J2,rfl⟩ hρ;simp [go_sem,AV.ren];rw [bz];exact ⟨_,⟨J2,rfl⟩,aB rfl rfl rfl⟩
   ·simp [go_sem,hn,hp];refine aM (Pp:=[(4,⟨42,2,[[.d (.int .u8 (op:Int)),.d (nb wb)]]⟩)]) hC hbn (by first | rfl | simp [bz,aF,bB,bA]) aq (hPB _ aq) (by simp [AV.renL,AV.ren]) ?_;rintro v s' ρ ⟨rfl,J2,rfl⟩ hρ;simp [go_sem,AV.ren];rw [bz];exact ⟨_,⟨J2,rfl⟩,aB rfl rfl rfl⟩
   ·simp [go_sem,hn,hp];refine aM (Pp:=[(4,⟨42,2,[[.d (.int .u8 (op:Int)),.d (nb wb)]]⟩)]) hC hbn (by first | rfl | simp [bz,aF,bB,bA]) aq (hPB _ aq) (by simp [AV.renL,AV.ren]) ?_;rintro v s' ρ ⟨rfl,J2,rfl⟩ hρ;simp [go_sem,AV.ren];rw [bz];exact ⟨_,⟨J2,rfl⟩,aB rfl rfl rfl⟩
  | none =>
   rw [hb] at hv0 hbn;by_cases hid:0<gq r
   ·have hv:lQ x (op,wb) r=r:=by rw [hv0];exact if_pos hid
    rw [hv];have hidi:(0:Int)<(gq r:Int):=aq;rcases hA' with ⟨hn,hp⟩ | ⟨hn,hp⟩ | ⟨hn,hp⟩
    ·simp [go_sem,hn,hp];refine aM (Pp:=[(4,⟨42,2,[[.d (.int .u8 (op:Int)),.d (nb wb)]]⟩)]) hC hbn (by first | rfl | simp [bz,aF,bB,bA]) aq (hPB _ aq) (by simp [AV.renL,AV.ren]) ?_;rintro v s' ρ ⟨rfl,J2,rfl⟩ hρ;rw [bz];simp only [aF,bB,bA,id];simp [go_sem,AV.ren,hl,hid];exact ⟨_,⟨J2,rfl⟩,aB rfl rfl rfl⟩
    ·simp [go_sem,hn,hp];refine aM (Pp:=[(4,⟨42,2,[[.d (.int .u8 (op:Int)),.d (nb wb)]]⟩)]) hC hbn (by first | rfl | simp [bz,aF,bB,bA]) aq (hPB _ aq) (by simp [AV.renL,AV.ren]) ?_;rintro v s' ρ ⟨rfl,J2,rfl⟩ hρ;rw [bz];simp only [aF,bB,bA,id];simp [go_sem,AV.ren,hl,hid];exact ⟨_,⟨J2,rfl⟩,aB rfl rfl rfl⟩
    ·simp [go_sem,hn,hp];refine aM (Pp:=[(4,⟨42,2,[[.d (.int .u8 (op:Int)),.d (nb wb)]]⟩)]) hC hbn (by first | rfl | simp [bz,aF,bB,bA]) aq (hPB _ aq) (by simp [AV.renL,AV.ren]) ?_;rintro v s' ρ ⟨rfl,J2,rfl⟩ hρ;rw [bz];simp only [aF,bB,bA,id];simp [go_sem,AV.ren,hl,hid];exact ⟨_,⟨J2,rfl⟩,aB rfl rfl rfl⟩
   ·have hid0:gq r=0:=aq;have hnI:nL op=true ∨ nL op=false:=by cases nL op;exact .inr rfl;exact .inl rfl
    cases hpw:ew (op,wb) with
    | none =>
     have hn:nL op=true:=by rcases hA' with ⟨hn,hp⟩ | ⟨hn,hp⟩ | ⟨hn,hp⟩ <;> first | exact hn | (rw [hpw] at hp;simp at hp)
     have hv:lQ x (op,wb) r=tp x op r:=by rw [hv0,hpw];exact if_neg hid
     rw [hv];simp [go_sem,hn,hpw];refine aM (Pp:=[(4,⟨42,2,[[.d (.int .u8 (op:Int)),.d (nb wb)]]⟩)]) hC hbn (by first | rfl | simp [bz,aF,bB,bA]) aq (hPB _ aq) (by simp [AV.renL,AV.ren]) ?_;rintro v s' ρ ⟨rfl,J2,rfl⟩ hρ;rw [bz];simp only [aF,bB,bA,id];simp [go_sem,AV.ren,hl,hid0];refine aM (Pp:=[(4,⟨42,2,[[.d (.int .u8 (op:Int)),.d (nb wb)]]⟩)]) (s:=⟨r,J2,0⟩) hC (N7 F x E op h8 r J2 hk.st aq hk.bd) (by simp [bz,aF,bB,bA,hid0]) aq (hPB _ aq) (by simp [AV.renL,AV.ren]) ?_;rintro v s' ρ rfl hρ;rw [bz];generalize tp x op r=r';simp only [aF,bB,bA,id];simp [go_sem,ah];exact ⟨_,⟨J2,rfl⟩,aB rfl rfl rfl⟩
    | some b =>
     have hble:=DC hpw;simp only at hble;by_cases hs:rA (op,wb)=true
     ·have hv:lQ x (op,wb) r=dp b r:=by rw [hv0,hpw];exact (if_neg hid).trans (if_pos hs)
      rw [hv];rw [hs] at hsh;rcases hnI with hn | hn
      ·simp [go_sem,hn,hpw];refine aM (Pp:=[(4,⟨42,2,[[.d (.int .u8 (op:Int)),.d (nb wb)]]⟩)]) hC hbn (by first | rfl | simp [bz,aF,bB,bA]) aq (hPB _ aq) (by simp [AV.renL,AV.ren]) ?_;rintro v s' ρ ⟨rfl,J2,rfl⟩ hρ;rw [bz];simp only [aF,bB,bA,id];simp [go_sem,AV.ren,hl,hid0];refine ag hsh hdw ?_;simp [go_sem];refine aM (Pp:=[(4,⟨42,2,[[.d (.int .u8 (op:Int)),.d (nb wb)]]⟩)]) (s:=⟨r,J2,0⟩) hC (oC hC r J2 0 hk.st b aq) (by simp [bz,aF,bB,bA,hid0]) aq (hPB _ aq) (by simp [AV.renL,AV.ren]) ?_;rintro v s' ρ rfl hρ;rw [bz];generalize dp b r=r';simp only [aF,bB,bA,id];simp [go_sem,ah];exact ⟨_,⟨J2,rfl⟩,aB rfl rfl rfl⟩
      ·simp [go_sem,hn,hpw];refine aM (Pp:=[(4,⟨42,2,[[.d (.int .u8 (op:Int)),.d (nb wb)]]⟩)]) hC hbn (by first | rfl | simp [bz,aF,bB,bA]) aq (hPB _ aq) (by simp [AV.renL,AV.ren]) ?_;rintro v s' ρ ⟨rfl,J2,rfl⟩ hρ;rw [bz];simp only [aF,bB,bA,id];simp [go_sem,AV.ren,hl,hid0];refine ag hsh hdw ?_;simp [go_sem];refine aM (Pp:=[(4,⟨42,2,[[.d (.int .u8 (op:Int)),.d (nb wb)]]⟩)]) (s:=⟨r,J2,0⟩) hC (oC hC r J2 0 hk.st b aq) (by simp [bz,aF,bB,bA,hid0]) aq (hPB _ aq) (by simp [AV.renL,AV.ren]) ?_;rintro v s' ρ rfl hρ;rw [bz];generalize dp b r=r';simp only [aF,bB,bA,id];simp [go_sem,ah];exact ⟨_,⟨J2,rfl⟩,aB rfl rfl rfl⟩
     ·have hs0:rA (op,wb)=false:=by simpa using hs
      have hv:lQ x (op,wb) r=au 11 r:=by rw [hv0,hpw];exact (if_neg hid).trans (if_neg hs)
      rw [hv];rw [hs0] at hsh;rcases hnI with hn | hn
      ·simp [go_sem,hn,hpw];refine aM (Pp:=[(4,⟨42,2,[[.d (.int .u8 (op:Int)),.d (nb wb)]]⟩)]) hC hbn (by first | rfl | simp [bz,aF,bB,bA]) aq (hPB _ aq) (by simp [AV.renL,AV.ren]) ?_;rintro v s' ρ ⟨rfl,J2,rfl⟩ hρ;rw [bz];simp only [aF,bB,bA,id];simp [go_sem,AV.ren,hl,hid0];refine ag hsh hdw ?_;simp [go_sem];refine aM (Pp:=[(4,⟨42,2,[[.d (.int .u8 (op:Int)),.d (nb wb)]]⟩)]) (s:=⟨r,J2,0⟩) hC (bu hC r J2 0 11) (by simp [bz,aF,bB,bA,hid0]) aq (hPB _ aq) (by simp [AV.renL,AV.ren]) ?_;rintro v s' ρ rfl hρ;rw [bz];generalize au 11 r=r';simp only [aF,bB,bA,id];simp [go_sem,ah];exact ⟨_,⟨J2,rfl⟩,aB rfl rfl rfl⟩
      ·simp [go_sem,hn,hpw];refine aM (Pp:=[(4,⟨42,2,[[.d (.int .u8 (op:Int)),.d (nb wb)]]⟩)]) hC hbn (by first | rfl | simp [bz,aF,bB,bA]) aq (hPB _ aq) (by simp [AV.renL,AV.ren]) ?_;rintro v s' ρ ⟨rfl,J2,rfl⟩ hρ;rw [bz];simp only [aF,bB,bA,id];simp [go_sem,AV.ren,hl,hid0];refine ag hsh hdw ?_;simp [go_sem];refine aM (Pp:=[(4,⟨42,2,[[.d (.int .u8 (op:Int)),.d (nb wb)]]⟩)]) (s:=⟨r,J2,0⟩) hC (bu hC r J2 0 11) (by simp [bz,aF,bB,bA,hid0]) aq (hPB _ aq) (by simp [AV.renL,AV.ren]) ?_;rintro v s' ρ rfl hρ;rw [bz];generalize au 11 r=r';simp only [aF,bB,bA,id];simp [go_sem,ah];exact ⟨_,⟨J2,rfl⟩,aB rfl rfl rfl⟩
theorem Es {s:bc} {a b:Nat} {w:Wd} (hb:bytes s) (ha:a<s.length) (h:mG s a=some (w,b)):a<b∧b≤s.length∧w.1<256∧bytes w.2∧w.2.length≤s.length:=by
 obtain ⟨op,r,hd⟩:∃ op r,s.drop a=op :: r:=by
  rcases h:s.drop a with _ | ⟨op,r⟩
  ·have:=congrArg List.length h;simp at this;omega
  ·exact ⟨op,r,rfl⟩
 have hdb:bytes (op :: r):=fun x hx=>hb x (by rw [← hd] at hx;exact List.mem_of_mem_drop hx)
 have hrs:a+(r.length+1)=s.length:=by
  have:=congrArg List.length hd;simp at this;omega
 unfold mG at h;rw [hd] at h
 cases hw:gR (op :: r) with
 | none=>rw [hw] at h;cases h
 | some p =>
  obtain ⟨n,hh⟩:=p;obtain ⟨t1,t2,t3⟩:=zu hdb hw;rw [hw] at h;simp only [List.length_cons,List.headD_cons] at h
  split at h
  ·cases h
  ·rename_i hq;simp only [Option.some.injEq,Prod.mk.injEq] at h;obtain ⟨rfl,rfl⟩:=h;refine ⟨aq,aq,hdb op aw,fun y hy=>hdb y (List.mem_of_mem_drop (List.mem_of_mem_take hy)),?_⟩;simp;omega
theorem Oa (F:RnF) (x:Rx) (E:RnE F x) (hsb:bytes F.script) (hsl:F.script.length≤1000) (hx:∀ s o0 o1 bk,(x.trg s o0 o1 bk).1.length≤2) (r:Rn) (J:List Bool) (hk:RnOk r 0) :
  cJ Tryz.prog 3 (aF (gm F)) 98 ⟨r,J,0⟩ [.ptr 0 0 0 1] (fun v s'=>∃ J',s'=⟨lv x F.script (F.script.length+1) 0 r,J',0⟩):=by
 refine al Tryz.func98 (by kernel_rfl) rfl Tryz.ntmps98 (rs:=[]) rfl (dS rfl) (by decide) ?_;have hC:=d0 (F:=F) E.hi;have hl:=hC.2.2
 have h39:∀ l:List AV,(gm F ++ l)[39]?=some (.d (.ro 1 (F.script.map fun (b:Nat)=>[.int .u8 (b:Int)]))):=fun l=>by
  unfold gm aP;rw [cD,dz (by simp [eS])];simp only [eS,List.length_cons,List.length_nil,cD];rw [dz (by rw [am,E.hi];omega),am,E.hi];rfl
 generalize hW:lv x F.script (F.script.length+1) 0 r=W;simp [go_sem]
 have hwk:∀ (fr:Fr) (hp:Hp) (nx a:Nat) (r':Rn) (J':List Bool),(fv 0 fr=.ptr 0 0 0 1∧fv 2 fr=.d (.int .i64 (a:Int)))→(∀ p,p ∈ gA 3 (aF (gm F)) ⟨r',J',0⟩ id→lk p.1 hp=some p.2) →
   aA ⟨fr,hp,nx⟩ ⟨[(0,.ptr 0 0 0 1),(2,.d (.int .i64 (a:Int)))],gA 3 (aF (gm F)) ⟨r',J',0⟩ id,9000⟩:=by
  rintro fr hp nx a r' J' ⟨q0,q1⟩ h2;refine ⟨?_,VY hC (dS rfl) h2,.inr (by show 64≤9000;omega)⟩;intro p hp';simp only [et,List.mem_nil_iff,or_false] at hp';rcases hp' with rfl | rfl
  ·exact ⟨.inl q0.symm,by simp [AV.low,AV.low1]⟩
  ·exact ⟨.inl q1.symm,by simp [AV.low,AV.low1]⟩
 refine ax (fun u:Nat × Nat × Rn × List Bool=>⟨[(0,.ptr 0 0 0 1),(2,.d (.int .i64 (u.1:Int)))],gA 3 (aF (gm F)) ⟨u.2.2.1,u.2.2.2,0⟩ id,9000⟩)
  (fun u=>u.1≤F.script.length∧F.script.length+1≤u.2.1+u.1∧RnOk u.2.2.1 u.1∧lv x F.script u.2.1 u.1 u.2.2.1=W) (fun u=>F.script.length - u.1) (0,F.script.length+1,r,J) ⟨aq,by show _≤F.script.length+1+0;omega,hk,hW⟩
  (hwk _ _ _ 0 r J (by simp [fv,lk]) (pN rfl rfl rfl)) ?_
 rintro ⟨a,f,r',J'⟩ ⟨ha,hf,hr,hw⟩;simp only at ha hf hr hw;obtain ⟨f,rfl⟩:∃ f',f=f'+1:=⟨f - 1,aq⟩;rw [lv] at hw;simp only;by_cases hlt:a<F.script.length
 ·have hlti:(a:Int)<(F.script.length:Int):=aq;rw [bz];simp only [aF,bB,bA,id];simp [go_sem,hlt,hlti,h39];refine aM (Pp:=[]) (s:=⟨r',J',0⟩) hC (ek hC r' J' 0) (by simp [bz,aF,bB,bA]) aq aw (by simp [AV.renL,AV.ren]) ?_;rintro v s' ρ ⟨rfl,rfl⟩ hρ;by_cases he:r'.e=0
  ·rw [if_pos ⟨hlt,he⟩] at hw;have hnx:=IS F.script a hsb aq hlt;rw [bz];simp only [aF,bB,bA,id];simp [go_sem,AV.ren,he,h39];refine ag hnx a9 ?_
   cases hq:mG F.script a with
   | none =>
    rw [hq] at hw;subst hw;simp [go_sem,IR,uv];refine aM (Pp:=[(9736,⟨42,2,[[.d (.int .u8 0),.d (nb [])]]⟩)]) (s:=⟨r',J',0⟩) hC (bu hC r' J' 0 2) (by simp [bz,aF,bB,bA,he]) aq (by intro p hp;simp at hp;subst hp;simp) (by simp [AV.renL,AV.ren]) ?_;rintro v s' ρ rfl hρ;rw [bz];generalize au 2 r'=r2;simp only [aF,bB,bA,id];simp [go_sem,ah];exact ⟨_,⟨J',rfl⟩,aB rfl rfl rfl⟩
   | some p =>
    obtain ⟨w,b⟩:=p;rw [hq] at hw;obtain ⟨n1,n2,n3,n4,n5⟩:=Es hsb hlt hq;have hwm:=SJ F x E w n3 n4 aq r' J' a hr aq;have hok:=kO (J8 hr x E.hh.1 E.hh.2 hx w n3 n4) (show a+1≤b by omega);simp only [uv] at hwm;simp [go_sem,IR,uv];refine aM (Pp:=[(9736,⟨42,2,[[.d (.int .u8 (w.1:Int)),.d (nb w.2)]]⟩)]) (s:=⟨r',J',0⟩) hC hwm (by simp [bz,aF,bB,bA,he]) aq (by intro p hp;simp at hp;subst hp;simp) (fun ρ=>rfl) ?_;rintro v s' ρ ⟨J2,rfl⟩ hρ;simp [go_sem];refine ap (b,f,lQ x w r',J2) ⟨n2,by show _≤f+b;omega,hok,hw⟩ (by show F.script.length - b<F.script.length - a;omega) (hwk _ _ _ b _ _ (by simp [fv,lk]) (pN rfl rfl rfl))
  ·rw [if_neg (fun h=>he h.2)] at hw;subst hw;simp [go_sem,AV.ren,he];rw [bz];exact ⟨_,⟨J',rfl⟩,aB rfl rfl rfl⟩
 ·rw [if_neg (fun h=>hlt h.1)] at hw;subst hw;have hlti:¬ (a:Int)<(F.script.length:Int):=aq;rw [bz];simp only [aF,bB,bA,id];simp [go_sem,hlt,hlti,h39];exact ⟨_,⟨J',rfl⟩,aB rfl rfl rfl⟩
def rK (r1:Rn):Rn:=if r1.main.length=1∧jK (r1.main.headD [])=true then r1 else au 25 r1
theorem V9 {C:List AV} (hC:ig C) (r:Rn) (J:List Bool) (H:Nat) (hk:StOk r.main r.alt):cJ Tryz.prog 3 (aF C) 99 ⟨r,J,H⟩ [.ptr 0 0 0 1] (fun v s'=>s'=⟨mI r,J,H⟩):=by
 refine al Tryz.func99 (by kernel_rfl) rfl Tryz.ntmps99 (rs:=[]) rfl (dS rfl) (by decide) ?_;have hl:=hC.2.2;by_cases hb:0<r.br.length
 ·have hR:mI r=rK (au 18 r):=by simp only [mI,if_pos hb,rK]
  rw [hR];have hkb:StOk (au 18 r).main (au 18 r).alt:=fL hk;have hbi:(0:Int)<(r.br.length:Int):=aq;have hf:=bu hC r J H 18;generalize au 18 r=r1 at *;rw [bz];simp only [aF,bB,bA,id];simp [go_sem,hl,hb,hbi];refine aM (Pp:=[]) (s:=⟨r,J,H⟩) hC hf (by simp [bz,aF,bB,bA]) aq aw (by simp [AV.renL,AV.ren]) ?_;rintro v s' ρ rfl hρ;obtain ⟨main,alt,br,bud,cl,e⟩:=r1;simp only at hkb;rcases main with _ | ⟨y,_ | ⟨z,l⟩⟩
  ·have hv:rK ⟨[],alt,br,bud,cl,e⟩=au 25 ⟨[],alt,br,bud,cl,e⟩:=rfl;rw [hv,bz];simp only [aF,bB,bA,id];simp [go_sem,hl];refine aM (Pp:=[]) (s:=⟨⟨[],alt,br,bud,cl,e⟩,J,H⟩) hC (bu hC ⟨[],alt,br,bud,cl,e⟩ J H 25) (by simp [bz,aF,bB,bA,bJ]) aq aw (by simp [AV.renL,AV.ren]) ?_;rintro v s' ρ rfl hρ;rw [bz];generalize au 25 ⟨[],alt,br,bud,cl,e⟩=r';simp only [aF,bB,bA,id];simp [go_sem,ah];exact aB rfl rfl rfl
  ·obtain ⟨y1,y2⟩:=hkb.mb y aw;have htr:=mE y y2 aq;rw [bz];simp only [aF,bB,bA,id];by_cases ht:jK y=true
   ·have hv:rK ⟨[y],alt,br,bud,cl,e⟩=⟨[y],alt,br,bud,cl,e⟩:=if_pos ⟨rfl,ht⟩;rw [hv];rw [ht] at htr;simp [go_sem,hl,bJ];refine ag htr a9 ?_;simp [go_sem,ah];exact aB rfl rfl rfl
   ·have hv:rK ⟨[y],alt,br,bud,cl,e⟩=au 25 ⟨[y],alt,br,bud,cl,e⟩:=if_neg (fun h=>ht h.2);rw [hv];rw [show jK y=false by simpa using ht] at htr;simp [go_sem,hl,bJ];refine ag htr a9 ?_;simp [go_sem];refine aM (Pp:=[]) (s:=⟨⟨[y],alt,br,bud,cl,e⟩,J,H⟩) hC (bu hC ⟨[y],alt,br,bud,cl,e⟩ J H 25) (by simp [bz,aF,bB,bA,bJ]) aq aw (by simp [AV.renL,AV.ren]) ?_;rintro v s' ρ rfl hρ;rw [bz];generalize au 25 ⟨[y],alt,br,bud,cl,e⟩=r';simp only [aF,bB,bA,id];simp [go_sem,ah];exact aB rfl rfl rfl
  ·have hv:rK ⟨y :: z :: l,alt,br,bud,cl,e⟩=au 25 ⟨y :: z :: l,alt,br,bud,cl,e⟩:=if_neg (fun h=>by simp at h);have hn2:¬ (l.length:Int)+1+1=1:=aq;rw [hv,bz];simp only [aF,bB,bA,id];simp [go_sem,hl,hn2];refine aM (Pp:=[]) (s:=⟨⟨y :: z :: l,alt,br,bud,cl,e⟩,J,H⟩) hC (bu hC ⟨y :: z :: l,alt,br,bud,cl,e⟩ J H 25) (by simp [bz,aF,bB,bA,bJ]) aq aw (by simp [AV.renL,AV.ren]) ?_;rintro v s' ρ rfl hρ;rw [bz];generalize au 25 ⟨y :: z :: l,alt,br,bud,cl,e⟩=r';simp only [aF,bB,bA,id];simp [go_sem,ah];exact aB rfl rfl rfl
 ·have hR:mI r=rK r:=by simp only [mI,if_neg hb,rK]
  rw [hR];have hkb:=hk;have hbi:¬ (0:Int)<(r.br.length:Int):=aq;obtain ⟨r1,rfl⟩:∃ r1,r1=r:=⟨r,rfl⟩;obtain ⟨main,alt,br,bud,cl,e⟩:=r1;simp only at hkb hb hbi;rcases main with _ | ⟨y,_ | ⟨z,l⟩⟩
  ·have hv:rK ⟨[],alt,br,bud,cl,e⟩=au 25 ⟨[],alt,br,bud,cl,e⟩:=rfl;rw [hv,bz];simp only [aF,bB,bA,id];simp [go_sem,hl,hb,hbi];refine aM (Pp:=[]) (s:=⟨⟨[],alt,br,bud,cl,e⟩,J,H⟩) hC (bu hC ⟨[],alt,br,bud,cl,e⟩ J H 25) (by simp [bz,aF,bB,bA,bJ]) aq aw (by simp [AV.renL,AV.ren]) ?_;rintro v s' ρ rfl hρ;rw [bz];generalize au 25 ⟨[],alt,br,bud,cl,e⟩=r';simp only [aF,bB,bA,id];simp [go_sem,ah];exact aB rfl rfl rfl
  ·obtain ⟨y1,y2⟩:=hkb.mb y aw;have htr:=mE y y2 aq;rw [bz];simp only [aF,bB,bA,id];by_cases ht:jK y=true
   ·have hv:rK ⟨[y],alt,br,bud,cl,e⟩=⟨[y],alt,br,bud,cl,e⟩:=if_pos ⟨rfl,ht⟩;rw [hv];rw [ht] at htr;simp [go_sem,hl,bJ,hb,hbi];refine ag htr a9 ?_;simp [go_sem,ah];exact aB rfl rfl rfl
   ·have hv:rK ⟨[y],alt,br,bud,cl,e⟩=au 25 ⟨[y],alt,br,bud,cl,e⟩:=if_neg (fun h=>ht h.2);rw [hv];rw [show jK y=false by simpa using ht] at htr;simp [go_sem,hl,bJ,hb,hbi];refine ag htr a9 ?_;simp [go_sem];refine aM (Pp:=[]) (s:=⟨⟨[y],alt,br,bud,cl,e⟩,J,H⟩) hC (bu hC ⟨[y],alt,br,bud,cl,e⟩ J H 25) (by simp [bz,aF,bB,bA,bJ]) aq aw (by simp [AV.renL,AV.ren]) ?_;rintro v s' ρ rfl hρ;rw [bz];generalize au 25 ⟨[y],alt,br,bud,cl,e⟩=r';simp only [aF,bB,bA,id];simp [go_sem,ah];exact aB rfl rfl rfl
  ·have hv:rK ⟨y :: z :: l,alt,br,bud,cl,e⟩=au 25 ⟨y :: z :: l,alt,br,bud,cl,e⟩:=if_neg (fun h=>by simp at h);have hn2:¬ (l.length:Int)+1+1=1:=aq;rw [hv,bz];simp only [aF,bB,bA,id];simp [go_sem,hl,hn2,hb,hbi];refine aM (Pp:=[]) (s:=⟨⟨y :: z :: l,alt,br,bud,cl,e⟩,J,H⟩) hC (bu hC ⟨y :: z :: l,alt,br,bud,cl,e⟩ J H 25) (by simp [bz,aF,bB,bA,bJ]) aq aw (by simp [AV.renL,AV.ren]) ?_;rintro v s' ρ rfl hρ;rw [bz];generalize au 25 ⟨y :: z :: l,alt,br,bud,cl,e⟩=r';simp only [aF,bB,bA,id];simp [go_sem,ah];exact aB rfl rfl rfl
def F4 (F:RnF) (x:Rx) (start:List bc) (bud:Int):AV :=
 if cg F.t (F.n:Int) F.coins ≠ 0 ∨ 1000<F.script.length then .tup [.d (.ro 2 []),.d (.int .i64 1)]
 else .tup [.d (.ro 2 ((pD x F.script start bud).1.map eW)),.d (.int .i64 (pD x F.script start bud).2)]
theorem qS (t:Tn) (n:Int) (coins:List (Nat × List Nat)):cg t n coins=0 ∨ cg t n coins=1:=by
 rcases ll t n coins with h | h
 ·exact .inr h
 ·exact .inl h.1
theorem t6 (F:RnF) (start:List bc) (bud:Int):∀ v,v ∈ [AV.agg (eS F.t (F.n:Int) F.coins),cM F.inner F.path F.script,.d (.ro 1 (start.map bJ)),.d (nb F.annex),.d (.int .i64 bud)]→v.deep:=by
 intro v hv;simp at hv;rcases hv with rfl | rfl | rfl | rfl | rfl
 ·simp [AV.deep,AV.deep1,eS]
 ·exact cO F.inner F.path F.script _ (List.mem_singleton.2 rfl)
 ·trivial
 ·trivial
 ·trivial
def J9:List AV:=[.d (.int .u32 0),.nil,.nil,.d (.int .u32 0),.d (.int .i64 0),.nil] ++ (cb z32 ++ [.nil,.nil,.nil,.nil,.nil,.nil,.d (.int .i64 0),.d (.int .i64 0),.nil,.d (.int .i64 0)])
theorem Yi:eE Tryz.prog 158=some J9:=by kernel_rfl
theorem Ko:J9.length=48:=rfl
theorem Kp:List.drop 40 J9=[.nil,.nil,.nil,.nil,.d (.int .i64 0),.d (.int .i64 0),.nil,.d (.int .i64 0)]:=rfl
theorem Wb {L:List AV} (h:L.length=34) (k:Nat) (l:List AV):List.take (34+k) (L ++ l)=L ++ List.take k l:=by
 rw [List.take_append,cA aq,h,Nat.add_sub_cancel_left]
theorem SK {L:List AV} (h:L.length=34) (k:Nat) (l:List AV):List.drop (34+k) (L ++ l)=List.drop k l:=by
 rw [List.drop_append,dg aq,h,Nat.add_sub_cancel_left,List.nil_append]
def fR (j:Nat):Nat:=640+1000*j
theorem SL:og 3 fR:=by
 intro i j hi hj h;unfold fR at h;omega
theorem SN (C:List AV) (s:RnS):gA 3 (aF C) s fR=[(640,aF C s fR 0),(1640,aF C s fR 1),(2640,aF C s fR 2)]:=rfl
theorem Et {C:List AV} (hC:ig C) {N:Nat} {hp:Hp} {g:FuncId} {s:RnS} {ars:List AV} {R:AV→RnS→Prop} {K:AV→Hp→Prop} (h:cJ Tryz.prog 3 (aF C) g s (.ptr 0 0 0 1 :: ars) R) (he:hp=gA 3 (aF C) s fR) (hN:2641≤N) (has:∀ ρ,AV.renL ρ ars=ars)
  (hK:∀ v s' ρ,R v s'→K (v.ren ρ) (gA 3 (aF C) s' fR)):rM Tryz.prog g (.ptr 640 0 0 1 :: ars) hp N K:=by
 subst he;refine rT (Pp:=[]) (qM hC) h SL (fun j hj=>by unfold fR;omega) aw ?_ fun v s' ρ hR _=>hK v s' ρ hR;rw [AV.renL,has,AV.ren];rfl
theorem Kq (x:Rx) (h1:x.h1=bo) (h2:x.h2=dP) (hx:∀ s o0 o1 bk,(x.trg s o0 o1 bk).1.length≤2) {s:bc} (hb:bytes s):∀ (f a:Nat) (r:Rn),RnOk r a→∃ k,RnOk (lv x s f a r) k
 | 0,a,r,h=>⟨a,h⟩
 | f+1,a,r,h=>by
  rw [lv]
  split
  ·rename_i hc
   cases hq:mG s a with
   | none=>exact ⟨a,mP h (fC h.st h.bd 2)⟩
   | some p =>
    obtain ⟨w,b⟩:=p;obtain ⟨n1,n2,n3,n4,n5⟩:=Es hb hc.1 hq;exact Kq x h1 h2 hx hb f b _ (kO (J8 h x h1 h2 hx w n3 n4) aq)
  ·exact ⟨a,h⟩
theorem SQ (F:RnF) (x:Rx) (start:List bc) (bud:Int) (ht:Sm F.t) (hc:F.coins.length≤1000) (hi:F.inner.length=32) (hsb:bytes F.script) (hst:StOk start []) (hbd:fO bud)
  (E:cg F.t (F.n:Int) F.coins=0→F.script.length≤1000→RnE F x) (hx:∀ s o0 o1 bk,(x.trg s o0 o1 bk).1.length≤2) :
  av Tryz.prog 53 [.agg (eS F.t (F.n:Int) F.coins),cM F.inner F.path F.script,.d (.ro 1 (start.map bJ)),.d (nb F.annex),.d (.int .i64 bud)] (fun v=>v=F4 F x start bud):=by
 have hck:=kJ F.t (F.n:Int) F.coins ht hc;have hlf:(aP F.inner (AV.d (cZ F.path)) (AV.d (nb F.script))).length=34:=by simp [aP,am,hi]
 have hlt:List.take 34 (aP F.inner (AV.d (cZ F.path)) (AV.d (nb F.script)))=aP F.inner (AV.d (cZ F.path)) (AV.d (nb F.script)):=cA (by rw [hlf];omega)
 have h33:(aP F.inner (AV.d (cZ F.path)) (AV.d (nb F.script)))[33]?=some (.d (.ro 1 (F.script.map fun (b:Nat)=>[.int .u8 (b:Int)]))):=by
  unfold aP;rw [dz (by rw [am,hi];omega),am,hi];rfl
 have hdS:∀ v,v ∈ [AV.agg (eS F.t (F.n:Int) F.coins)]→v.deep:=by simp [AV.deep,AV.deep1,eS]
 simp only [eS] at hck hdS;by_cases hs:1000<F.script.length
 ·have hR:F4 F x start bud=.tup [.d (.ro 2 []),.d (.int .i64 1)]:=if_pos (.inr hs);rw [hR];have hsi:(1000:Int)<(F.script.length:Int):=aq;refine bK Tryz.func53 Tryz.ntmps53 (rs:=[.tmp 10,.tmp 11]) (t6 F start bud) ?_;simp [go_sem,cM,eS,hlf,hlt];refine ag hck hdS ?_;rcases qS F.t (F.n:Int) F.coins with h | h
  ·simp [go_sem,h,h33,hs,hsi,ah];exact dr (cs':=[.d (.ro 2 []),.d (.int .i64 1)]) (ao (ak (.nil 2)) (ao (aZ trivial) bw)) rfl a9 rfl
  ·simp [go_sem,h,ah];exact dr (cs':=[.d (.ro 2 []),.d (.int .i64 1)]) (ao (ak (.nil 2)) (ao (aZ trivial) bw)) rfl a9 rfl
 ·rcases qS F.t (F.n:Int) F.coins with h | h
  ·have hR:F4 F x start bud=.tup [.d (.ro 2 ((pD x F.script start bud).1.map eW)),.d (.int .i64 (pD x F.script start bud).2)]:=if_neg (by rw [h];simp;omega);rw [hR];have E:=E h aq;rw [h] at hck;have hsi:¬ (1000:Int)<(F.script.length:Int):=aq;refine Fb Tryz.func53 (by kernel_rfl) rfl Tryz.ntmps53 (rs:=[.tmp 10,.tmp 11]) rfl (dS rfl) (t6 F start bud) ?_;refine wS (kZ ?_);simp [go_sem,cM,eS,hlf,hlt];simp only [AM];refine wS (kZ ?_);simp [go_sem,hlf,hlt];refine ag hck hdS ?_;simp [go_sem,h33,hs,hsi];simp only [AM];refine wS (kZ ?_);have t35:∀ l,List.take 35 (aP F.inner (AV.d (cZ F.path)) (AV.d (nb F.script)) ++ l)=aP F.inner (AV.d (cZ F.path)) (AV.d (nb F.script)) ++ List.take 1 l:=Wb hlf 1;have t39:∀ l,List.take 39 (aP F.inner (AV.d (cZ F.path)) (AV.d (nb F.script)) ++ l)=aP F.inner (AV.d (cZ F.path)) (AV.d (nb F.script)) ++ List.take 5 l:=Wb hlf 5;have d35:∀ l,List.drop 35 (aP F.inner (AV.d (cZ F.path)) (AV.d (nb F.script)) ++ l)=List.drop 1 l:=SK hlf 1;have d37:∀ l,List.drop 37 (aP F.inner (AV.d (cZ F.path)) (AV.d (nb F.script)) ++ l)=List.drop 3 l:=SK hlf 3;have d40:∀ l,List.drop 40 (aP F.inner (AV.d (cZ F.path)) (AV.d (nb F.script)) ++ l)=List.drop 6 l:=SK hlf 6;simp [go_sem,hlf,hlt,Yi,Ko,Kp,t35,t39,d35,d37,d40];simp only [AM];have hC:=d0 (F:=F) hi;refine Ic (st':=⟨[(12,.ptr 640 0 0 1)],[(640,⟨158,48,[gm F ++ [.d (.ro 1 (start.map bJ)),.nil,.nil,.d (.int .i64 0),.d (.int .i64 bud),.nil,.d (.int .i64 0)]]⟩),(1640,⟨4,1,[]⟩),(2640,⟨55,2,[]⟩)],9000⟩) (cn ⟨by simp [ai,fv,lk,AV.low,AV.low1],?_,aw⟩) ?_
   ·intro p hp;simp only [et,List.mem_nil_iff,or_false] at hp;rcases hp with rfl | rfl | rfl
    ·refine ⟨.inl (by simp [lk,gm,eS]),by show 640<9000;omega,?_⟩;intro q hq v hv;simp only [et,List.mem_nil_iff,or_false] at hq;subst hq;rcases cL.1 hv with h | h
     ·exact hC.2.1 v h _
     ·simp only [et,List.mem_nil_iff,or_false] at h;rcases h with rfl | rfl | rfl | rfl | rfl | rfl | rfl <;> trivial
    ·exact ⟨.inr ⟨by show 704≤1640;omega,rfl⟩,by show 1640<9000;omega,by intro q hq;simp at hq⟩
    ·exact ⟨.inr ⟨by show 704≤2640;omega,rfl⟩,by show 2640<9000;omega,by intro q hq;simp at hq⟩
   refine Ic (st':=⟨[(12,.ptr 640 0 0 1)],gA 3 (aF (gm F)) ⟨⟨start,[],[],bud,[],0⟩,[],0⟩ fR,9000⟩) ?_ ?_
   ·refine Fe (st:=⟨_,_,9000⟩) (L:=640) (b:=⟨158,48,[gm F ++ [.d (.ro 1 (start.map bJ)),.nil,.nil,.d (.int .i64 0),.d (.int .i64 bud),.nil,.d (.int .i64 0)]]⟩) (es':=[bB (gm F) ⟨⟨start,[],[],bud,[],0⟩,[],0⟩ fR]) rfl aw rfl ?_;intro i y y' h1 h2
    match i with
    | 0 =>
     simp only [List.getElem?_cons_zero,Option.some.injEq] at h1 h2;subst h1 h2;refine ⟨by simp [bB,bA],fun j v v' a1 a2=>?_⟩;unfold bB bA at a2;by_cases hj:j<41
     ·rw [List.getElem?_append_left (by rw [hC.2.2];exact hj)] at a1 a2;rw [a1] at a2;exact .inl (Option.some.inj a2).symm
     ·rw [dz (by rw [hC.2.2];omega),hC.2.2] at a1 a2;generalize j - 41=k at a1 a2
      match k,a1,a2 with
      | 0,a1,a2=>cases a1;cases a2;exact .inl rfl
      | 1,a1,a2=>cases a1;cases a2;exact .inr (.inr ⟨rfl,1,rfl⟩)
      | 2,a1,a2=>cases a1;cases a2;exact .inr (.inl ⟨rfl,1640,by show 1640<9000;omega,rfl⟩)
      | 3,a1,a2=>cases a1;cases a2;exact .inl rfl
      | 4,a1,a2=>cases a1;cases a2;exact .inl rfl
      | 5,a1,a2=>cases a1;cases a2;exact .inr (.inl ⟨rfl,2640,by show 2640<9000;omega,rfl⟩)
      | 6,a1,a2=>cases a1;cases a2;exact .inl rfl
      | k+7,a1,a2=>cases a1
    | i+1=>simp at h1
   refine kZ ?_;have hcs:=zk start [] (by have:=hst.m;omega) aw;have hfl:=bu hC ⟨start,[],[],bud,[],0⟩ [] 0 (fi start []);have hok0:RnOk ⟨start,[],[],bud,[],0⟩ 0:=⟨hst,hbd,aw,aw⟩;have hok1:=mP hok0 (fC hok0.st hok0.bd (fi start []));rw [SN];simp only [aF,bB,bA,id,jm] at *;simp [go_sem,hC.2.2];refine ag hcs (by intro v hv;simp at hv;subst hv;exact eu start []) ?_;simp [go_sem];have hRun:pD x F.script start bud=(if (mI (lv x F.script (F.script.length+1) 0 (au (fi start []) ⟨start,[],[],bud,[],0⟩))).e=0 then ((mI (lv x F.script (F.script.length+1) 0 (au (fi start []) ⟨start,[],[],bud,[],0⟩))).cl,0) else ([],(mI (lv x F.script (F.script.length+1) 0 (au (fi start []) ⟨start,[],[],bud,[],0⟩))).e)):=rfl;rw [hRun];clear hRun hR;refine Et hC hfl (by simp [SN,aF,bB,bA]) aq (by simp [AV.renL,AV.ren]) ?_;rintro v s' ρ rfl;clear hfl hcs;generalize au (fi start []) ⟨start,[],[],bud,[],0⟩=r1 at *;simp [go_sem];refine Et hC (Oa F x E hsb aq hx r1 [] hok1) rfl aq (fun ρ=>rfl) ?_;rintro v s' ρ ⟨J',rfl⟩;obtain ⟨k,hok2⟩:=Kq x E.hh.1 E.hh.2 hx hsb (F.script.length+1) 0 r1 hok1;generalize lv x F.script (F.script.length+1) 0 r1=r2 at *;simp [go_sem];refine Et hC (V9 hC r2 J' 0 hok2.st) rfl aq (fun ρ=>rfl) ?_;rintro v s' ρ rfl;generalize mI r2=r3 at *;simp [go_sem];refine Et hC (ek hC r3 J' 0) rfl aq (fun ρ=>rfl) ?_;rintro v s' ρ ⟨rfl,rfl⟩;rw [SN];simp only [aF,bB,bA];by_cases he:r3.e=0
   ·rw [if_pos he];simp [go_sem,AV.ren,he,hC.2.2,ah];exact dr (cs':=[.d (.ro 2 (r3.cl.map eW)),.d (.int .i64 0)]) (ao (ak (Ed (id:=2640) (ty:=55) (by simp [lk,Gw]) trivial)) (ao (aZ trivial) bw)) rfl a9 rfl
   ·rw [if_neg he];simp [go_sem,AV.ren,he];refine b7 [0,1,2,3,4,5] [] 0 (k:=6) ?_;intro G hG;simp [go_sem,AV.ren,he,hC.2.2];refine hG _ _ ?_;clear hG G;simp [go_sem,ah];exact dr (cs':=[.d (.ro 2 []),.d (.int .i64 r3.e)]) (ao (ak (.nil 2)) (ao (aZ trivial) bw)) rfl a9 rfl
  ·have hR:F4 F x start bud=.tup [.d (.ro 2 []),.d (.int .i64 1)]:=if_pos (.inl (by rw [h];omega));rw [hR];rw [h] at hck;refine bK Tryz.func53 Tryz.ntmps53 (rs:=[.tmp 10,.tmp 11]) (t6 F start bud) ?_;simp [go_sem,cM,eS,hlf,hlt];refine ag hck hdS ?_;simp [go_sem,ah];exact dr (cs':=[.d (.ro 2 []),.d (.int .i64 1)]) (ao (ak (.nil 2)) (ao (aZ trivial) bw)) rfl a9 rfl
theorem Eu {b:List Nat} (hb:b.length=32):(List.range 32).map (fun k=>((cb b).drop k).take 1)=rb b:=by
 rw [fH hb,cE]
theorem F5 {Q:AV→Prop} {st:St} {id n:Nat} {e:Int} {L:List Nat} (hl:L.length=n) (hb:lk id st.hp=some ⟨5,1,rb L⟩) (hq:Q (.tup [.d (nb L),.d (.int .i64 e)])):dk Q (.tup [.own id 0 n n,.d (.int .i64 e)]) st :=
 dr (ao (ak (a8 hl hb trivial)) (ao (aZ trivial) bw)) rfl a9 hq
theorem F6 {Q:AV→Prop} {st:St} {e:Int} (hq:Q (.tup [.d (nb []),.d (.int .i64 e)])):dk Q (.tup [.nil,.d (.int .i64 e)]) st :=
 dr (ao (ak (.nil 1)) (ao (aZ trivial) bw)) rfl a9 hq
theorem F7 {inner x k:List Nat} {ps:List (List Nat)} {o:Bool} (hi:inner.length=32) (hk:k.length=32) (f:av Tryz.prog 92 [cM inner ps x] (fun r=>r=.tup [.agg (cb k),.d (.bool o),.d (.int .i64 1)])) :
  av Tryz.prog 46 [cM inner ps x] (fun r=>r=.tup [.d (nb []),.d (.int .i64 1)]):=by
 refine bK Tryz.func46 Tryz.ntmps46 (rs:=[.tmp 2,.tmp 3]) (cO _ _ _) ?_;have zd:List.drop 32 (cb z32)=[]:=gz rfl;simp [go_sem,cM,aP,mo hi,mn hi,cZ,nb,hi,qR hi];refine ag f (cO _ _ _) ?_;simp [go_sem,am,hk,ar hk,zd,ah];exact F6 rfl
theorem F8 {inner x k:List Nat} {ps:List (List Nat)} {o:Bool} (hi:inner.length=32) (hk:k.length=32) (f:av Tryz.prog 92 [cM inner ps x] (fun r=>r=.tup [.agg (cb k),.d (.bool o),.d (.int .i64 0)])) :
  av Tryz.prog 46 [cM inner ps x] (fun r=>r=.tup [.d (nb (81 :: 32 :: k)),.d (.int .i64 0)]):=by
 refine bK Tryz.func46 Tryz.ntmps46 (rs:=[.tmp 2,.tmp 3]) (cO _ _ _) ?_;have zd:List.drop 32 (cb z32)=[]:=gz rfl;simp [go_sem,cM,aP,mo hi,mn hi,cZ,nb,hi,qR hi];refine ag f (cO _ _ _) ?_;have hx1:=Eu hk;simp [go_sem] at hx1;simp [go_sem,am,hk,ar hk,zd,hx1,aH,ah];have e:rb (81 :: 32 :: k)=[AV.d (.int .u8 81)] :: [AV.d (.int .u8 32)] :: rb k:=by simp [rb]
 have h34:(81 :: 32 :: k).length=34:=by simp [hk]
 exact F5 (L:=81 :: 32 :: k) h34 (by rw [e];rfl) (by simp [nb])
open Go.Am Go.Sha Go.Ec
theorem x6 (a:List Int) (ha:Wn 4 a):∃ r:List Int,Wn 4 r∧av Tryz.prog 124 [.agg (cI a)] (fun v=>v=.agg (cI r)):=by
 obtain ⟨s,c,hs,hc,vc,f1⟩:=pH a NR ha JE;have hal:=ha.1;have hsl:=hs.1;have hz:List.drop 4 (cI zI)=[]:=aV rfl;refine ⟨if c=0 then s else a,by split <;> assumption,?_⟩;refine bK Tryz.func124 Tryz.ntmps124 (rs:=[.cell 2 96]) (aN a) ?_;simp [go_sem,hal,ae hal];refine d5 [0] [1,2,6,7] [0,3,4,5,8] (.alt (bt 1 (.alt (.step 2 [3,4,5] true (bt 6 (.step 7 [8] true .done))) (bt 6 (.step 2 [3,4,5] true (.step 7 [8] true .done))))) (bt 6 (bt 1 (.step 2 [3,4,5] true (.step 7 [8] true .done))))) ⟨[(1,.ptr 0 0 0 1),(2,.ptr 32 0 0 1),(3,.ptr 256 0 0 1),(4,.d (.int .u64 c))],[(256,⟨96,4,[cI s]⟩),(32,⟨96,4,[cI zI]⟩),(0,⟨96,4,[cI a]⟩)],9000⟩ (k:=9) ?h3 ?hq
 case h3 =>
  intro G hG
  have hW:∀ (fr:Fr) (hp:Hp),(fv 1 fr=.ptr 0 0 0 1∧fv 2 fr=.ptr 32 0 0 1∧fv 3 fr=.ptr 256 0 0 1∧fv 4 fr=.d (.int .u64 c)∧lk 256 hp=some ⟨96,4,[cI s]⟩∧lk 32 hp=some ⟨96,4,[cI zI]⟩∧lk 0 hp=some ⟨96,4,[cI a]⟩)→G fr hp:=by
   rintro fr hp ⟨q0,q1,q2,q3,q4,q5,q6⟩;refine hG _ _ (cn ?_);simp only [aA,ai];refine ⟨fun p hp=>?_,fun p hp=>?_,aw⟩
   ·simp only [et,List.mem_nil_iff,or_false] at hp;rcases hp with rfl | rfl | rfl | rfl <;> exact ⟨.inl (Eq.symm (by assumption)),by simp [AV.low,AV.low1]⟩
   ·simp only [et,List.mem_nil_iff,or_false] at hp;rcases hp with rfl | rfl | rfl <;> exact ⟨.inl (by assumption),aw,by intro r hr;simp only [et,List.mem_nil_iff,or_false] at hr;subst hr;first | exact bT _ _ | exact aK _ _ | exact lB _ _ _ _⟩
  simp [go_sem,hal,hsl,ae hal,ae hsl,hz,dF]
  repeat' first | exact hW _ _ ⟨rfl,rfl,rfl,rfl,rfl,rfl,rfl⟩ | (refine hW _ _ ?_;simp [fv,lk];done) | refine ag pM aw ?_ | refine ag f1 (aJ _ _) ?_ | apply And.intro | simp [go_sem,hal,hsl,ae hal,ae hsl,hz,dF]
 case hq =>
  by_cases h0:c=0
  ·rw [if_pos h0];simp [go_sem,h0,hsl,ae hsl,hz,ah];exact dA rfl
  ·rw [if_neg h0];simp [go_sem,h0,hal,ae hal,hz,ah];exact dA rfl
theorem Ob (a:List Int) (ha:Wn 4 a):∃ r:List Int,Wn 4 r∧av Tryz.prog 128 [.agg (cI a)] (fun v=>v=.agg (cI r)):=by
 obtain ⟨b,hb,f1⟩:=x6 a ha;obtain ⟨s,c,hs,hc,vc,f2⟩:=pH NR b JE hb;obtain ⟨r,hr,f3⟩:=x6 s hs;have hal:=ha.1;have hbl:=hb.1;have hsl:=hs.1;have hrl:=hr.1;have hz:List.drop 4 (cI zI)=[]:=aV rfl;refine ⟨r,hr,?_⟩;refine bK Tryz.func128 Tryz.ntmps128 (rs:=[.cell 2 96]) (aN a) ?_;simp [go_sem,hal,ae hal];refine d5 [1] [0,2,3,7,8] [1,4,5,6,9] (.alt (bt 0 (.alt (bt 2 (.alt (.step 3 [4,5,6] true (bt 7 (.step 8 [9] true .done))) (bt 7 (.step 3 [4,5,6] true (.step 8 [9] true .done))))) (bt 7 (bt 2 (.step 3 [4,5,6] true (.step 8 [9] true .done)))))) (bt 7 (bt 0 (bt 2 (.step 3 [4,5,6] true (.step 8 [9] true .done)))))) ⟨[(2,.ptr 32 0 0 1),(3,.ptr 288 0 0 1)],[(288,⟨96,4,[cI s]⟩),(32,⟨96,4,[cI zI]⟩)],9000⟩ (k:=10) ?h3 ?hq
 case h3 =>
  intro G hG
  have hW:∀ (fr:Fr) (hp:Hp),(fv 2 fr=.ptr 32 0 0 1∧fv 3 fr=.ptr 288 0 0 1∧lk 288 hp=some ⟨96,4,[cI s]⟩∧lk 32 hp=some ⟨96,4,[cI zI]⟩)→G fr hp:=by
   rintro fr hp ⟨q0,q1,q2,q3⟩;refine hG _ _ (cn ?_);simp only [aA,ai];refine ⟨fun p hp=>?_,fun p hp=>?_,aw⟩
   ·simp only [et,List.mem_nil_iff,or_false] at hp;rcases hp with rfl | rfl <;> exact ⟨.inl (Eq.symm (by assumption)),by simp [AV.low,AV.low1]⟩
   ·simp only [et,List.mem_nil_iff,or_false] at hp;rcases hp with rfl | rfl <;> exact ⟨.inl (by assumption),aw,by intro r hr;simp only [et,List.mem_nil_iff,or_false] at hr;subst hr;first | exact bT _ _ | exact aK _ _ | exact lB _ _ _ _⟩
  simp [go_sem,hal,hsl,ae hal,ae hsl,hz,dF]
  repeat' first | exact hW _ _ ⟨rfl,rfl,rfl,rfl⟩ | (refine hW _ _ ?_;simp [fv,lk];done) | refine ag pM aw ?_ | refine ag f1 (aN _) ?_ | refine ag f2 (aJ _ _) ?_ | apply And.intro | simp [go_sem,hal,hsl,ae hal,ae hsl,hz,dF]
 case hq =>
  simp [go_sem,hsl,ae hsl];refine ag f3 (aN _) ?_;simp [go_sem,hrl,ae hrl,hz,ah];exact dA rfl
theorem Kr (b:List Nat) (hb:b.length=32) (hby:bytes b):∃ r:List Int,Wn 4 r∧av Tryz.prog 135 [.agg (cb b)] (fun v=>v=.agg (cI r)):=by
 obtain ⟨a,ha,va,f1⟩:=tN b hb hby;obtain ⟨r,hr,f2⟩:=x6 a ha;have hal:=ha.1;have hrl:=hr.1;have hz:List.drop 4 (cI zI)=[]:=aV rfl;have zd:List.drop 32 (cb b)=[]:=gz hb;refine ⟨r,hr,?_⟩;refine bK Tryz.func135 Tryz.ntmps135 (rs:=[.cell 2 96]) (cp b) ?_;simp [go_sem,am,hb,ar hb,zd];refine ag f1 (cp _) ?_;simp [go_sem];refine ag f2 (aN _) ?_;simp [go_sem,hrl,ae hrl,hz,ah];exact dA rfl
def SR (a b d:List Nat):Nat→AV
 | 0=>.nil
 | 1=>.own 1192 0 a.length a.length
 | 2=>.own 1192 0 (a ++ b).length (a ++ b).length
 | _=>.own 1192 0 d.length d.length
def SS (a b d:List Nat):Nat→Hp
 | 0=>[]
 | 1=>[(1192,⟨5,1,rb a⟩)]
 | 2=>[(1192,⟨5,1,rb (a ++ b)⟩)]
 | _=>[(1192,⟨5,1,rb d⟩)]
theorem Cb (a b c d:List Nat) (hd:a ++ b ++ c=d) (ha:a.length=32) (hb:b.length=32) (hc:c.length≤1000000):av Tryz.prog 89 [.d (.ro 1 [[nb a],[nb b],[nb c]])] (fun r=>r=.d (nb d)):=by
 refine bK Tryz.func89 Tryz.ntmps89 (rs:=[.tmp 2]) a9 ?_;simp [go_sem]
 refine ax (fun k:Nat=>⟨[(3,SR a b d k),(6,.d (.ro 1 [[nb a],[nb b],[nb c]])),(7,.d (.int .i64 3)),(8,.d (.int .i64 (k:Int)))],SS a b d k,NU k⟩)
  (fun k=>k≤3) (fun k=>3 - k) 0 aq (by simp [aA,ai,fv,lk,AV.low,AV.low1,SR,SS,NU]) ?_
 intro k hk;simp only [go_sem,Nat.reduceEqDiff,Nat.reduceAdd,Nat.reduceLT,↓reduceIte]
 match k,hk with
 | 0,_ =>
  refine ⟨fun _=>?_,fun h=>absurd (by decide) h⟩;simp [go_sem,SR,SS,NU,nb,cE];refine ⟨by rw [aH];omega,?_⟩;have w1:IntKind.i64.wrap 1=1:=by decide
  refine ap 1 aq aq ?_;simp [aA,ai,fv,lk,AV.low,AV.low1,aH,w1];exact bp _ _
 | 1,_ =>
  refine ⟨fun _=>?_,fun h=>absurd (by decide) h⟩;simp [go_sem,SR,SS,NU,nb,cE,aH];refine ⟨aq,?_⟩;have w1:IntKind.i64.wrap 2=2:=by decide
  have ra:rb (a ++ b)=rb a ++ rb b:=by simp [rb]
  refine ap 2 aq aq ?_;simp [aA,ai,fv,lk,AV.low,AV.low1,aH,w1,ra];intro r hr;exact hr.elim (bp _ _ r) (bp _ _ r)
 | 2,_ =>
  refine ⟨fun _=>?_,fun h=>absurd (by decide) h⟩;have ra:rb d=rb (a ++ b) ++ rb c:=by rw [← hd];simp [rb]
  have hln:d.length=(a ++ b).length+c.length:=by rw [← hd];exact b_
  have hab:(a ++ b).length=64:=by simp [ha,hb]
  simp only [SR,SS];generalize a ++ b=e at *;simp [go_sem,SR,SS,NU,nb,cE,aH];refine ⟨aq,?_⟩;have w1:IntKind.i64.wrap 3=3:=by decide
  refine ap 3 aq aq ?_;simp [aA,ai,fv,lk,AV.low,AV.low1,aH,w1,ra,hln];intro r hr;exact hr.elim (bp _ _ r) (bp _ _ r)
 | 3,_ =>
  refine ⟨fun h=>absurd h (by decide),fun _=>?_⟩;simp only [SR,SS];simp [go_sem,ah];exact iu rfl (by simp [nb])
def x7:List Nat:=[66,73,80,48,51,52,48,47,99,104,97,108,108,101,110,103,101]
theorem Oc (a b c:List Nat) (ha:a.length=32) (hb:b.length=32) (hc:c.length≤1000):∃ r:List Int,Wn 4 r∧av Tryz.prog 88 [.agg (cb a),.agg (cb b),.d (nb c)] (fun v=>v=.agg (cI r)):=by
 obtain ⟨r,hr,f1⟩:=Kr (eR x7 (a ++ b ++ c)) (xT _ _).1 (xT _ _).2;have hrl:=hr.1;have hz:List.drop 4 (cI zI)=[]:=aV rfl;refine ⟨r,hr,?_⟩;refine bK Tryz.func88 Tryz.ntmps88 (rs:=[.cell 6 96]) (by intro v hv;simp at hv;rcases hv with rfl | rfl | rfl;exact dx _;exact dx _;trivial) ?_;have hl3:(a ++ b ++ c).length≤2000:=by simp;omega
 simp [go_sem,am,ha,hb,ar ha,ar hb];refine b7 [0,1,2] [(3,[]),(4,[]),(5,[]),(6,[]),(7,[])] 0 (k:=8) ?_;intro G hG;simp [go_sem,am,ha,hb];refine bN [0,32,192] (Cb a b c _ rfl ha hb aq) rfl (aj (.one (ak (il (rows:=[[.sub 0 0 0 1 32 32 1],[.sub 32 0 0 1 32 32 1],[.d (nb c)]]) rfl aw rfl (RowsR.cons (.cons (dW rfl aw ha) .nil) (RowsR.cons (.cons (dW rfl aw hb) .nil) (RowsR.cons (.cons (.d _) .nil) .nil))) rfl (by intro r hr;simp at hr;rcases hr with rfl | rfl | rfl <;> rfl)))) aE) ?_;generalize a ++ b ++ c=d at *;simp [go_sem,aD];refine ag (gf x7 (.str [66,73,80,48,51,52,48,47,99,104,97,108,108,101,110,103,101]) rfl d (by simp [x7]) aq) a9 ?_;simp [go_sem];refine ag f1 (cp _) ?_;simp [go_sem,hrl];refine hG _ _ ?_;clear hG G;simp [go_sem,hrl,ae hrl,ah];exact dA rfl
theorem zX (l:List Nat):(l.map fun (b:Nat)=>[DV.int .u8 (b:Int)]).flatten=cd l:=by
 unfold cd
 induction l with
 | nil=>rfl
 | cons a l ih=>simp only [List.map_cons,List.flatten_cons,ih];rfl
theorem zY:∀ l:List Nat,bX .u8 (cb l)=some (l.map fun (b:Nat)=>(b:Int))
 | []=>rfl
 | a :: l=>by
  have:=zY l;unfold cb at this ⊢;simp only [List.map_cons,bX,if_true,this];rfl
theorem pR (k m s:List Nat):∀ v,v ∈ [AV.agg (cb k),.d (nb m),.d (nb s)]→v.deep:=by
 intro v hv;simp at hv;rcases hv with rfl | rfl | rfl
 ·exact dx _
 ·trivial
 ·trivial
theorem F9 (key msg sig:List Nat) (hk:key.length=32) (hkb:bytes key) (hsb:bytes sig) (hm:msg.length≤1000) (hs:sig.length≤1000):∃ o:Bool,av Tryz.prog 156 [.agg (cb key),.d (nb msg),.d (nb sig)] (fun v=>v=.d (.bool o)):=by
 obtain ⟨x,y,c,ok,hx,hy,_,f1⟩:=zO key hk hkb;have zd:List.drop 32 (cb key)=[]:=gz hk;have hz32:z32.length=32:=rfl;have hzd:List.drop 32 (cb z32)=[]:=rfl;have hz:List.drop 4 (cI zI)=[]:=aV rfl;have hxl:=hx.1;have hyl:=hy.1;have hpl:(cP x y c).length=9:=bW hxl hyl c;have hpt:List.take 9 (cP x y c)=cP x y c:=cA (by rw [hpl];omega)
 cases ok with
 | false =>
  refine ⟨false,?_⟩;refine bK Tryz.func156 Tryz.ntmps156 (rs:=[.tmp 6]) (pR _ _ _) ?_;simp [go_sem,am,hk,ar hk,zd];refine ag f1 (cp _) ?_;simp [go_sem,hpl,hpt,ah];exact aa trivial rfl
 | true =>
  by_cases h64:sig.length=64
  ·have hrl:(sig.take 32).length=32:=by simp [h64]
   have hsl:(sig.drop 32).length=32:=by simp [h64]
   have hsbd:bytes (sig.drop 32):=fun z hz=>hsb z (List.mem_of_mem_drop hz);obtain ⟨s,ok2,hsw,_,f2⟩:=zN (sig.drop 32) hsl hsbd;have hswl:=hsw.1;have h64i:(sig.length:Int)=64:=aq;have e1:List.take 32 (sig.map fun (b:Nat)=>[DV.int .u8 (b:Int)])=(sig.take 32).map fun (b:Nat)=>[DV.int .u8 (b:Int)]:=List.map_take.symm;have e2:List.drop 32 (sig.map fun (b:Nat)=>[DV.int .u8 (b:Int)])=(sig.drop 32).map fun (b:Nat)=>[DV.int .u8 (b:Int)]:=List.map_drop.symm;have e3:List.take 64 (sig.map fun (b:Nat)=>[DV.int .u8 (b:Int)])=sig.map fun (b:Nat)=>[DV.int .u8 (b:Int)]:=cA (by simp [h64]);obtain ⟨ch,hch,f3⟩:=Oc (sig.take 32) key msg hrl hk hm;generalize sig.take 32=R at *;generalize sig.drop 32=S at *
   cases ok2 with
   | false =>
    refine ⟨false,?_⟩;refine bK Tryz.func156 Tryz.ntmps156 (rs:=[.tmp 6]) (pR _ _ _) ?_;simp [go_sem,am,hk,ar hk,zd];refine ag f1 (cp _) ?_;simp [go_sem,hpl,hpt,nb,h64,h64i,e1,e2,e3,zX,kX,ar hrl,ar hsl,am,hrl,hsl,hz32,hzd];refine ag f2 (cp _) ?_;simp [go_sem,hswl,ae hswl,hz,ah];exact aa trivial rfl
   | true =>
    obtain ⟨ng,hng,f4⟩:=Ob ch hch;obtain ⟨u,v,q,hu,hv,_,f5⟩:=D8 s ng gX gY x y false c hsw hng VP VQ hx hy;obtain ⟨o,_,f6⟩:=D4 u v q hu hv;obtain ⟨B,hB,hBb,_,f7⟩:=vG u v q hu hv;have hngl:=hng.1;have hql:(cP u v q).length=9:=bW hu.1 hv.1 q;have hqt:List.take 9 (cP u v q)=cP u v q:=cA (by rw [hql];omega);refine ⟨o && decide ((B.map fun (b:Nat)=>(b:Int))=R.map fun (b:Nat)=>(b:Int)),?_⟩;refine bK Tryz.func156 Tryz.ntmps156 (rs:=[.tmp 6]) (pR _ _ _) ?_;simp [go_sem,am,hk,ar hk,zd];refine ag f1 (cp _) ?_;simp [go_sem,hpl,hpt,nb,h64,h64i,e1,e2,e3,zX,kX,ar hrl,ar hsl,am,hrl,hsl,hz32,hzd];refine ag f2 (cp _) ?_;simp [go_sem,hswl,ae hswl,hz,am,hk,hrl,ar hk,ar hrl];refine ag f3 (by intro v hv;simp at hv;rcases hv with rfl | rfl | rfl;exact dx _;exact dx _;trivial) ?_;simp [go_sem];refine ag f4 (aN _) ?_;simp [go_sem,hngl,ae hngl,hz];refine d5 [0,2,3] [1,4,5,6] [0,2,3] (.alt (bt 1 (.alt (a_ [4,5,6]) (bt 5 (a_ [4,6])))) (bt 5 (bt 1 (a_ [4,6])))) ⟨[(9,.ptr 672 0 0 1),(12,.ptr 1536 0 0 1)],[(1536,⟨189,9,[cP u v q]⟩),(672,⟨29,32,[cb R]⟩)],9000⟩ (k:=7) ?h3 ?hq
    case h3 =>
     intro G hG
     have hW:∀ (fr:Fr) (hp:Hp),(fv 9 fr=.ptr 672 0 0 1∧fv 12 fr=.ptr 1536 0 0 1∧lk 1536 hp=some ⟨189,9,[cP u v q]⟩∧lk 672 hp=some ⟨29,32,[cb R]⟩)→G fr hp:=by
      rintro fr hp ⟨q0,q1,q2,q3⟩;refine hG _ _ (cn ?_);simp only [aA,ai];refine ⟨fun p hp=>?_,fun p hp=>?_,aw⟩
      ·simp only [et,List.mem_nil_iff,or_false] at hp;rcases hp with rfl | rfl <;> exact ⟨.inl (Eq.symm (by assumption)),by simp [AV.low,AV.low1]⟩
      ·simp only [et,List.mem_nil_iff,or_false] at hp;rcases hp with rfl | rfl <;> exact ⟨.inl (by assumption),aw,by intro r hr;simp only [et,List.mem_nil_iff,or_false] at hr;subst hr;first | exact bT _ _ | exact aK _ _ | exact lB _ _ _ _⟩
     simp [go_sem,hswl,hngl,ae hswl,ae hngl,hpl,hpt,hql,hqt,dF]
     repeat' first | exact hW _ _ ⟨rfl,rfl,rfl,rfl⟩ | (refine hW _ _ ?_;simp [fv,lk];done) | refine ag xP aw ?_ | refine ag f5 (by intro v hv;simp at hv;rcases hv with rfl | rfl | rfl | rfl <;> first | exact eA _ | exact js _ _ _) ?_ | apply And.intro | simp [go_sem,hswl,hngl,ae hswl,ae hngl,hpl,hpt,hql,hqt,dF]
    case hq =>
     cases o with
     | false =>
      simp [go_sem];refine b7 [0] [(1,[2,3,5]),(4,[6,7,8])] 2 (k:=9) ?_;intro G hG;simp [go_sem,hql,hqt];refine ag f6 (by intro v hv;simp at hv;subst hv;exact js _ _ _) ?_;simp [go_sem];refine hG _ _ ?_;clear hG G;simp [go_sem,ah];exact aa trivial rfl
     | true =>
      simp [go_sem];refine b7 [0] [(1,[2,3,5]),(4,[6,7,8])] 2 (k:=9) ?_;intro G hG;simp [go_sem,hql,hqt];refine ag f6 (by intro v hv;simp at hv;subst hv;exact js _ _ _) ?_;simp [go_sem,hql,hqt,am,hrl,ar hrl];refine ag f7 (by intro v hv;simp at hv;subst hv;exact js _ _ _) ?_;simp [go_sem,am,hrl,ar hrl,hB,zY];refine hG _ _ ?_;clear hG G;simp [go_sem,ah];exact aa trivial rfl
  ·have h64i:¬ (sig.length:Int)=64:=aq;refine ⟨false,?_⟩;refine bK Tryz.func156 Tryz.ntmps156 (rs:=[.tmp 6]) (pR _ _ _) ?_;simp [go_sem,am,hk,ar hk,zd];refine ag f1 (cp _) ?_;simp [go_sem,hpl,hpt,nb,h64,h64i,ah];exact aa trivial rfl
end Go.Proofs.YtmfnimjnneflnaaGreat
namespace Go.Sha
def pS (i:Ip):List Nat:=i.hash ++ le i.idx 4
def qT (i:Ip):List Nat:=le i.seq 4
def t7 (o:Nat × List Nat):List Nat:=le o.1 8
def uy (o:Nat × List Nat):List Nat:=cv o.2
end Go.Sha
namespace Go.Proofs.YtmfnimjnneflnaaGreat
open Go.Am Go.Sha
def x8 (l:List Nat):List AV:=c7 (E H0 l).1 ++ [.d (nb (E H0 l).2),.d (.int .u64 (l.length:Int))]
theorem bq (ρ:Nat→Nat) (l:List Nat):AV.renL ρ (x8 l)=x8 l:=by rw [x8,fG];rfl
theorem jw (n:Nat) (l:List Nat):∀ v,v ∈ x8 l→v.low1 n:=by
 intro v hv;simp [x8,c7] at hv;rcases hv with rfl | rfl | rfl | rfl | rfl | rfl | rfl | rfl | rfl | rfl <;> trivial
theorem Oe (n:Nat):Ie n (c7 H0 ++ [.nil,.d (.int .u64 0)]) (x8 []):=Ff (c7 H0) [.d (.int .u64 0)] (.inr (.inr ⟨.inl rfl,.inr ⟨1,rfl⟩⟩))
theorem zZ {st:St} (L:Nat) (h:lk L st.hp=some ⟨167,10,[c7 H0 ++ [.nil,.d (.int .u64 0)]]⟩):Wk st ⟨st.fr,bV L ⟨167,10,[x8 []]⟩ st.hp,st.nx⟩:=QS h (by decide) (Oe _)
theorem nR (l b:List Nat) (hl:l.length+b.length≤100000000000) :
  cC Tryz.prog 58 1 [(0,⟨167,10,[x8 l]⟩)] [.ptr 0 0 0 1,.d (nb b)] (fun r hp'=>r=.tup []∧lk 0 hp'=some ⟨167,10,[x8 (l ++ b)]⟩):=by
 have h:=yP _ H0 l (cR _);have:=MC (E H0 l).1 (.d (nb (E H0 l).2)) (E H0 l).2 b l.length (.inl rfl) aq aq;rw [← yO b l.length H0 l (cR _),← b_] at this;exact this
theorem Cc (ty:TypeId) (e:Nat) (row:List AV) (l b:List Nat) (hx0:(List.range 32).map (fun k=>(row.drop k).take 1)=List.map ((fun r=>List.map AV.d r) ∘ fun (x:Nat)=>[DV.int .u8 (x:Int)]) b) (hlow:∀ n v,v ∈ row→v.low1 n) (hb32:b.length=32) (hl:l.length+b.length≤100000000000) :
  cC Tryz.prog 58 2 [(0,⟨167,10,[x8 l]⟩),(1,⟨ty,e,[row]⟩)] [.ptr 0 0 0 1,.sub 1 0 0 1 32 32 1] (fun r hp'=>r=.tup []∧lk 0 hp'=some ⟨167,10,[x8 (l ++ b)]⟩∧lk 1 hp'=some ⟨ty,e,[row]⟩):=by
 have h:=yP _ H0 l (cR _);have:=H6 ty e row (E H0 l).1 (.d (nb (E H0 l).2)) (E H0 l).2 b l.length hx0 hlow (.inl rfl) aq hb32 aq;rw [← yO b l.length H0 l (cR _),← b_] at this;exact this
theorem vK (l:List Nat) (hl:l.length≤100000000000) :
  cC Tryz.prog 60 1 [(0,⟨167,10,[x8 l]⟩)] [.ptr 0 0 0 1] (fun r hp'=>r=.agg (cb (bo l))∧lk 0 hp'=some ⟨167,10,[x8 l]⟩):=by
 have h:=yP _ H0 l (cR _);exact A3 (E H0 l).1 (.d (nb (E H0 l).2)) (E H0 l).2 l.length (.inl rfl) aq
theorem kP {α:Type} {f:α→List Nat} {l:List α}:[] ++ gj f l 0=(l.map f).flatten:=by simp [gj]
theorem Ew (ρ:Nat→Nat) (i:Ip):AV.renL ρ (qG i)=qG i:=by
 unfold qG
 have:∀ (l m:List AV),AV.renL ρ (l ++ m)=AV.renL ρ l ++ AV.renL ρ m:=fun l m=>by
  induction l with
  | nil=>simp [AV.renL]
  | cons a l ih=>simp [AV.renL,ih]
 rw [this,da];rfl
theorem Ey (t:Tn) (ht:Sm t):av Tryz.prog 55 [.agg (eT t)] (fun r=>r=.agg (cb (bo (t.ins.map qT).flatten))):=by
 obtain ⟨⟨hv,hlk,hi,ho⟩,h1,h2,h3,h4⟩:=ht;refine bK Tryz.func55 Tryz.ntmps55 (rs:=[.cell 2 29]) (by simp [AV.deep,AV.deep1,eT]) ?_;simp [go_sem,eT];refine bf [] mf rfl aw aw aw (by simp [AV.renL]) ?_;rintro r hp' ⟨rfl,h0⟩;refine ⟨[(97,0)],rfl,?_⟩;simp [go_sem,bQ,bI,h0,Blk.ren,aR,fG,AV.ren,bO];clear h0 hp';generalize hR0:(t.ins.map qT).flatten=R
 refine lZ (fun u:Nat × List Nat=>⟨[(2,.ptr 32 0 0 1),(3,.ptr 64 0 0 1),(8,.d (.ro 35 (t.ins.map eI))),(9,.d (.int .i64 (t.ins.length:Int))),(10,.d (.int .i64 (u.1:Int)))],[(64,⟨167,10,[x8 u.2]⟩),(32,⟨29,32,[cb z32]⟩)],2000⟩)
  (fun u=>u.1≤t.ins.length∧u.2.length≤4*u.1∧u.2 ++ gj qT t.ins u.1=R) (fun u=>t.ins.length - u.1) (0,[]) ⟨aw,aw,by rw [← hR0];exact kP⟩ ((zZ 64 rfl).trans (cn (by
   simp [aA,ai,fv,lk,bV,AV.low,AV.low1]
   exact ⟨jw _ _,aK _ _⟩))) ?_
 rintro ⟨k,B⟩ ⟨hk,hBl,hR⟩;simp only at hk hBl hR;simp only [go_sem,Nat.reduceEqDiff,Nat.reduceAdd,Nat.reduceLT,↓reduceIte,Nat.reduceMul];refine ⟨fun h=>?_,fun h=>?_⟩
 ·obtain ⟨i,hi1,hd⟩:=bH (l:=t.ins) (k:=k) aq;obtain ⟨hi32,hidx,hseq⟩:=hi i (cr hi1);have w3:=az (k:=k) aq;have hel:=s6 hi32;have hcl:=np hi32;simp [go_sem,hi1,hel,zg,hcl,mC hi32,mD,OS hi32];refine bN [] (gG [] i.seq aw hseq) rfl (aj (.one (ak (.nil 1))) (aj (.deep a9) aE)) ?_;simp [go_sem,aD];refine bf [(0,64)] (nR B (le i.seq 4) (by rw [aW];omega)) rfl aw (by simp [lk]) (by simp [lk,Blk.ren,aR,bq]) (by simp [AV.renL,AV.ren,bO,ga,lk,ef]) ?_;rintro r hp' ⟨rfl,h0⟩;refine ⟨[],rfl,?_⟩;simp [go_sem,bQ,bI,h0,Blk.ren,aR,bq,AV.renL,AV.ren,bO,w3];refine ap (k+1,B ++ le i.seq 4) ⟨by simp only;omega,by simp only [b_,aW];omega,fl hd hR⟩ (by simp only;omega) ?_;simp [aA,ai,fv,lk,AV.low,AV.low1];exact ⟨jw _ _,aK _ _⟩
 ·have hkl:k=t.ins.length:=aq;subst hkl;have:=fq hR;subst this;simp [go_sem];refine bf [(0,64)] (vK B aq) rfl aw (by simp [lk]) (by simp [lk,Blk.ren,aR,bq]) (by simp [AV.renL,AV.ren,bO,ga,lk]) ?_;rintro r hp' ⟨rfl,h0⟩;refine ⟨[],rfl,?_⟩;have hL:=aS B;simp [go_sem,bQ,bI,h0,Blk.ren,aR,bq,da,AV.ren,bO,hL,ar hL,ca,ah];exact aa (by simp [AV.deep];exact b8 _) rfl
theorem Og (t:Tn) (ht:Sm t):av Tryz.prog 130 [.agg (eT t)] (fun r=>r=.agg (cb (bo (t.ins.map pS).flatten))):=by
 obtain ⟨⟨hv,hlk,hi,ho⟩,h1,h2,h3,h4⟩:=ht;refine bK Tryz.func130 Tryz.ntmps130 (rs:=[.cell 2 29]) (by simp [AV.deep,AV.deep1,eT]) ?_;simp [go_sem,eT];refine bf [] mf rfl aw aw aw (by simp [AV.renL]) ?_;rintro r hp' ⟨rfl,h0⟩;refine ⟨[(97,0)],rfl,?_⟩;simp [go_sem,bQ,bI,h0,Blk.ren,aR,fG,AV.ren,bO];clear h0 hp';generalize hR0:(t.ins.map pS).flatten=R
 refine lZ (fun u:Nat × List Nat=>⟨[(2,.ptr 32 0 0 1),(3,.ptr 64 0 0 1),(8,.d (.ro 35 (t.ins.map eI))),(9,.d (.int .i64 (t.ins.length:Int))),(10,.d (.int .i64 (u.1:Int)))],[(64,⟨167,10,[x8 u.2]⟩),(32,⟨29,32,[cb z32]⟩)],2000⟩)
  (fun u=>u.1≤t.ins.length∧u.2.length≤36*u.1∧u.2 ++ gj pS t.ins u.1=R) (fun u=>t.ins.length - u.1) (0,[]) ⟨aw,aw,by rw [← hR0];exact kP⟩ ((zZ 64 rfl).trans (cn (by
   simp [aA,ai,fv,lk,bV,AV.low,AV.low1]
   exact ⟨jw _ _,aK _ _⟩))) ?_
 rintro ⟨k,B⟩ ⟨hk,hBl,hR⟩;simp only at hk hBl hR;simp only [go_sem,Nat.reduceEqDiff,Nat.reduceAdd,Nat.reduceLT,↓reduceIte,Nat.reduceMul];refine ⟨fun h=>?_,fun h=>?_⟩
 ·obtain ⟨i,hi1,hd⟩:=bH (l:=t.ins) (k:=k) aq;obtain ⟨hi32,hidx,hseq⟩:=hi i (cr hi1);have w3:=az (k:=k) aq;have hel:=s6 hi32;have hcl:=np hi32;have hx:(List.range 32).map (fun k=>((qG i).drop k).take 1)=List.map ((fun r=>List.map AV.d r) ∘ fun (x:Nat)=>[DV.int .u8 (x:Int)]) i.hash:=by rw [zh hi32];simp [rb,Function.comp_def]
  simp [go_sem,hi1,hel,zg,hcl,mC hi32,mD];refine bf [(0,64),(1,2096)] (Cc 68 35 (qG i) B i.hash hx (fun n=>MW n i) hi32 aq) rfl aw (by simp [lk]) (by simp [lk,Blk.ren,aR,bq,Ew]) (by simp [AV.renL,AV.ren,bO,ga,lk]) ?_;rintro r hp' ⟨rfl,h0,h1⟩;refine ⟨[],rfl,?_⟩;have hBl2:(B ++ i.hash).length=B.length+32:=by rw [b_,hi32]
  have hB3:B ++ pS i=B ++ i.hash ++ le i.idx 4:=by simp [pS]
  generalize B ++ i.hash=B1 at *;simp [go_sem,bQ,bI,h0,h1,Blk.ren,aR,bq,Ew,AV.renL,AV.ren,bO,hcl,OR hi32];clear h0 h1 hp';refine bN [] (gG [] i.idx aw hidx) rfl (aj (.one (ak (.nil 1))) (aj (.deep a9) aE)) ?_;simp [go_sem,aD];refine bf [(0,64)] (nR B1 (le i.idx 4) (by rw [aW];omega)) rfl aw (by simp [lk]) (by simp [lk,Blk.ren,aR,bq]) (by simp [AV.renL,AV.ren,bO,ga,lk,ef]) ?_;rintro r hp' ⟨rfl,h0⟩;refine ⟨[],rfl,?_⟩;rw [← hB3] at h0;have hB4:(B ++ pS i).length=B1.length+4:=by rw [hB3,b_,aW]
  simp [go_sem,bQ,bI,h0,Blk.ren,aR,bq,AV.renL,AV.ren,bO,w3];refine ap (k+1,B ++ pS i) ⟨by simp only;omega,by simp only;omega,fl hd hR⟩ (by simp only;omega) ?_;simp [aA,ai,fv,lk,AV.low,AV.low1];exact ⟨jw _ _,aK _ _⟩
 ·have hkl:k=t.ins.length:=aq;subst hkl;have:=fq hR;subst this;simp [go_sem];refine bf [(0,64)] (vK B aq) rfl aw (by simp [lk]) (by simp [lk,Blk.ren,aR,bq]) (by simp [AV.renL,AV.ren,bO,ga,lk]) ?_;rintro r hp' ⟨rfl,h0⟩;refine ⟨[],rfl,?_⟩;have hL:=aS B;simp [go_sem,bQ,bI,h0,Blk.ren,aR,bq,da,AV.ren,bO,hL,ar hL,ca,ah];exact aa (by simp [AV.deep];exact b8 _) rfl
theorem Aa (os:List (Nat × List Nat)) (hn:os.length≤8) (ho:∀ o,o ∈ os→o.1<18446744073709551616∧o.2.length≤1100):av Tryz.prog 56 [.d (.ro 2 (os.map eO))] (fun r=>r=.agg (cb (bo (os.map ie).flatten))):=by
 refine bK Tryz.func56 Tryz.ntmps56 (rs:=[.cell 2 29]) a9 ?_;simp [go_sem];refine bf [] mf rfl aw aw aw (by simp [AV.renL]) ?_;rintro r hp' ⟨rfl,h0⟩;refine ⟨[(97,0)],rfl,?_⟩;simp [go_sem,bQ,bI,h0,Blk.ren,aR,fG,AV.ren,bO];clear h0 hp';generalize hR0:(os.map ie).flatten=R
 refine lZ (fun u:Nat × List Nat=>⟨[(2,.ptr 0 0 0 1),(3,.ptr 32 0 0 1),(7,.d (.ro 2 (os.map eO))),(8,.d (.int .i64 (os.length:Int))),(9,.d (.int .i64 (u.1:Int)))],[(32,⟨167,10,[x8 u.2]⟩),(0,⟨29,32,[cb z32]⟩)],2000⟩)
  (fun u=>u.1≤os.length∧u.2.length≤1200*u.1∧u.2 ++ gj ie os u.1=R) (fun u=>os.length - u.1) (0,[]) ⟨aw,aw,by rw [← hR0];exact kP⟩ ((zZ 32 rfl).trans (cn (by
   simp [aA,ai,fv,lk,bV,AV.low,AV.low1]
   exact ⟨jw _ _,aK _ _⟩))) ?_
 rintro ⟨k,B⟩ ⟨hk,hBl,hR⟩;simp only at hk hBl hR;simp only [go_sem,Nat.reduceEqDiff,Nat.reduceAdd,Nat.reduceLT,↓reduceIte,Nat.reduceMul];refine ⟨fun h=>?_,fun h=>?_⟩
 ·obtain ⟨o,ho1,hd⟩:=bH (l:=os) (k:=k) aq;obtain ⟨ho64,hol⟩:=ho o (cr ho1);have w3:=az (k:=k) aq;have hbl:=cF o.2.length;have hbb:(cv o.2).length=(aI o.2.length).length+o.2.length:=by simp [cv]
  simp [go_sem,ho1,eO];refine bN [] (s8 [] o.1 aw ho64) rfl (aj (.one (ak (.nil 1))) (aj (.deep a9) aE)) ?_;simp [go_sem,aD];refine bf [(0,32)] (nR B (le o.1 8) (by rw [aW];omega)) rfl aw (by simp [lk]) (by simp [lk,Blk.ren,aR,bq]) (by simp [AV.renL,AV.ren,bO,ga,lk,ef]) ?_;rintro r hp' ⟨rfl,h0⟩;refine ⟨[],rfl,?_⟩;have hBl2:(B ++ le o.1 8).length=B.length+8:=by rw [b_,aW]
  have hB3:B ++ ie o=B ++ le o.1 8 ++ cv o.2:=by simp [ie]
  generalize B ++ le o.1 8=B1 at *;simp [go_sem,bQ,bI,h0,Blk.ren,aR,bq,AV.renL,AV.ren,bO];clear h0 hp';refine bN [] (eU [] o.2 aw aq) rfl (aj (.one (ak (.nil 1))) (aj (.deep a9) aE)) ?_;simp [go_sem,aD];refine bf [(0,32)] (nR B1 (cv o.2) aq) rfl aw (by simp [lk]) (by simp [lk,Blk.ren,aR,bq]) (by simp [AV.renL,AV.ren,bO,ga,lk,nb,cv]) ?_;rintro r hp' ⟨rfl,h0⟩;refine ⟨[],rfl,?_⟩;rw [← hB3] at h0;have hB4:(B ++ ie o).length=B1.length+(cv o.2).length:=by rw [hB3,b_]
  simp [go_sem,bQ,bI,h0,Blk.ren,aR,bq,AV.renL,AV.ren,bO,w3];refine ap (k+1,B ++ ie o) ⟨by simp only;omega,by simp only;omega,fl hd hR⟩ (by simp only;omega) ?_;simp [aA,ai,fv,lk,AV.low,AV.low1];exact ⟨jw _ _,aK _ _⟩
 ·have hkl:k=os.length:=aq;subst hkl;have:=fq hR;subst this;simp [go_sem];refine bf [(0,32)] (vK B aq) rfl aw (by simp [lk]) (by simp [lk,Blk.ren,aR,bq]) (by simp [AV.renL,AV.ren,bO,ga,lk]) ?_;rintro r hp' ⟨rfl,h0⟩;refine ⟨[],rfl,?_⟩;have hL:=aS B;simp [go_sem,bQ,bI,h0,Blk.ren,aR,bq,da,AV.ren,bO,hL,ar hL,ca,ah];exact aa (by simp [AV.deep];exact b8 _) rfl
end Go.Proofs.YtmfnimjnneflnaaGreat
namespace Go.Sha
def iD:List Nat:=[84,97,112,83,105,103,104,97,115,104]
end Go.Sha
namespace Go.Proofs.YtmfnimjnneflnaaGreat
open Go.Am Go.Sha
theorem Ks (os:List (Nat × List Nat)) (hn:os.length≤8) (ho:∀ o,o ∈ os→o.1<18446744073709551616∧o.2.length≤1100):av Tryz.prog 83 [.d (.ro 2 (os.map eO))] (fun r=>r=.tup [.agg (cb (bo (os.map t7).flatten)),.agg (cb (bo (os.map uy).flatten))]):=by
 refine bK Tryz.func83 Tryz.ntmps83 (rs:=[.cell 2 29,.cell 3 29]) a9 ?_;simp [go_sem];refine bf [] mf rfl aw aw aw (by simp [AV.renL]) ?_;rintro r hp' ⟨rfl,h0⟩;refine ⟨[(97,0)],rfl,?_⟩;simp [go_sem,bQ,bI,h0,Blk.ren,aR,fG,AV.ren,bO];clear h0 hp';refine bf [] mf rfl aw aw aw (by simp [AV.renL]) ?_;rintro r hp' ⟨rfl,h0⟩;refine ⟨[(97,0)],rfl,?_⟩;simp [go_sem,bQ,bI,h0,Blk.ren,aR,fG,AV.ren,bO];clear h0 hp';generalize hV0:(os.map t7).flatten=V;generalize hS0:(os.map uy).flatten=S
 refine lZ (fun u:Nat × List Nat × List Nat=>⟨[(2,.ptr 0 0 0 1),(3,.ptr 32 0 0 1),(4,.ptr 64 0 0 1),(5,.ptr 96 0 0 1),(10,.d (.ro 2 (os.map eO))),(11,.d (.int .i64 (os.length:Int))),(12,.d (.int .i64 (u.1:Int)))],
   [(96,⟨167,10,[x8 u.2.2]⟩),(64,⟨167,10,[x8 u.2.1]⟩),(32,⟨29,32,[cb z32]⟩),(0,⟨29,32,[cb z32]⟩)],2000⟩)
  (fun u=>u.1≤os.length∧(u.2.1.length≤8*u.1∧u.2.2.length≤1200*u.1)∧u.2.1 ++ gj t7 os u.1=V∧u.2.2 ++ gj uy os u.1=S) (fun u=>os.length - u.1) (0,[],[]) ⟨aw,aw,by rw [← hV0];exact kP,by rw [← hS0];exact kP⟩
  ((zZ 64 rfl).trans ((zZ 96 rfl).trans (cn (by
   simp [aA,ai,fv,lk,bV,AV.low,AV.low1]
   exact ⟨jw _ _,aK _ _⟩)))) ?_
 rintro ⟨k,A,B⟩ ⟨hk,⟨hAl,hBl⟩,hV,hS⟩;simp only at hk hAl hBl hV hS;simp only [go_sem,Nat.reduceEqDiff,Nat.reduceAdd,Nat.reduceLT,↓reduceIte,Nat.reduceMul];refine ⟨fun h=>?_,fun h=>?_⟩
 ·obtain ⟨o,ho1,hd⟩:=bH (l:=os) (k:=k) aq;obtain ⟨ho64,hol⟩:=ho o (cr ho1);have w3:=az (k:=k) aq;have hbl:=cF o.2.length;have hbb:(cv o.2).length=(aI o.2.length).length+o.2.length:=by simp [cv]
  simp [go_sem,ho1,eO];refine bN [] (s8 [] o.1 aw ho64) rfl (aj (.one (ak (.nil 1))) (aj (.deep a9) aE)) ?_;simp [go_sem,aD];refine bf [(0,64)] (nR A (le o.1 8) (by rw [aW];omega)) rfl aw (by simp [lk]) (by simp [lk,Blk.ren,aR,bq]) (by simp [AV.renL,AV.ren,bO,ga,lk,ef]) ?_;rintro r hp' ⟨rfl,h0⟩;refine ⟨[],rfl,?_⟩;have hA2:(A ++ t7 o).length=A.length+8:=by rw [b_,t7,aW]
  rw [show A ++ le o.1 8=A ++ t7 o from rfl] at h0;simp [go_sem,bQ,bI,h0,Blk.ren,aR,bq,AV.renL,AV.ren,bO];clear h0 hp';refine bN [] (eU [] o.2 aw aq) rfl (aj (.one (ak (.nil 1))) (aj (.deep a9) aE)) ?_;simp [go_sem,aD];refine bf [(0,96)] (nR B (cv o.2) aq) rfl aw (by simp [lk]) (by simp [lk,Blk.ren,aR,bq]) (by simp [AV.renL,AV.ren,bO,ga,lk,nb,cv]) ?_;rintro r hp' ⟨rfl,h0⟩;refine ⟨[],rfl,?_⟩;have hB4:(B ++ uy o).length=B.length+(cv o.2).length:=by rw [b_];rfl
  rw [show B ++ cv o.2=B ++ uy o from rfl] at h0;simp [go_sem,bQ,bI,h0,Blk.ren,aR,bq,AV.renL,AV.ren,bO,w3];refine ap (k+1,A ++ t7 o,B ++ uy o) ⟨by simp only;omega,⟨by simp only;omega,by simp only;omega⟩,fl hd hV,fl hd hS⟩ (by simp only;omega) ?_;simp [aA,ai,fv,lk,AV.low,AV.low1];exact ⟨jw _ _,jw _ _,aK _ _⟩
 ·have hkl:k=os.length:=aq;subst hkl;have:=fq hV;subst this;have:=fq hS;subst this;have hLA:=aS A;have hLB:=aS B;simp [go_sem];refine bf [(0,64)] (vK A aq) rfl aw (by simp [lk]) (by simp [lk,Blk.ren,aR,bq]) (by simp [AV.renL,AV.ren,bO,ga,lk]) ?_;rintro r hp' ⟨rfl,h0⟩;refine ⟨[],rfl,?_⟩;simp [go_sem,bQ,bI,h0,Blk.ren,aR,bq,da,AV.ren,bO];clear h0 hp';refine bf [(0,96)] (vK B aq) rfl aw (by simp [lk]) (by simp [lk,Blk.ren,aR,bq]) (by simp [AV.renL,AV.ren,bO,ga,lk]) ?_;rintro r hp' ⟨rfl,h0⟩;refine ⟨[],rfl,?_⟩;simp [go_sem,bQ,bI,h0,Blk.ren,aR,bq,da,AV.ren,bO,hLA,hLB,ar hLA,ar hLB,ca,ah]
  exact aa (by
   intro c hc;simp at hc;rcases hc with rfl | rfl
   ·exact .inr ⟨_,rfl,b8 _⟩
   ·exact .inr ⟨_,rfl,b8 _⟩) rfl
theorem x9 (t:Tn):∀ v,v ∈ [AV.agg (eT t)]→v.deep:=by simp [AV.deep,AV.deep1,eT]
def SU:List Nat:=List.replicate 96 0
theorem SV:eE Tryz.prog 139=some (cb SU):=by kernel_rfl
def Ez:List Nat:=List.replicate 160 0
theorem Oh:eE Tryz.prog 143=some (cb Ez):=by kernel_rfl
attribute [go_sem] SV Oh
theorem Ab:SU.length=96:=rfl
theorem qU:List.drop 96 (cb SU)=[]:=rfl
theorem vM:Ez.length=160:=by simp [Ez]
theorem Cd:List.drop 160 (cb Ez)=[]:=dg (by rw [am,vM];exact cR _)
theorem Ce {A Z:List AV} {n m:Nat} (hA:A.length=n) (hm:n≤m):List.drop m (A ++ List.drop n Z)=List.drop m Z:=by
 rw [List.drop_append,dg aq,List.nil_append,List.drop_drop,hA,show n+(m - n)=m by omega]
theorem pT {A B Z:List AV} {n m:Nat} (hA:A.length=n) (hm:n≤m):List.take n (A ++ List.drop n Z) ++ (B ++ List.drop m (A ++ List.drop n Z))=A ++ B ++ List.drop m Z:=by
 rw [Ce hA hm];subst hA;rw [List.take_left,cD]
theorem ua (a b:List Nat):cb (a ++ b)=cb a ++ cb b:=by simp [cb]
theorem Kt (t:Tn) (ht:Sm t):av Tryz.prog 82 [.agg (eT t)] (fun r=>r=.agg (cb (bo (t.ins.map pS).flatten ++ (bo (t.ins.map qT).flatten ++ bo (t.outs.map ie).flatten)))):=by
 refine bK Tryz.func82 Tryz.ntmps82 (rs:=[.cell 2 139]) (x9 t) ?_;have p1:=Og t ht;have p2:=Ey t ht;have p3:=Aa t.outs (by have:=ht.2.2.1;omega) (fun o h=>⟨ht.1.2.2.2 o h,by have:=ht.2.2.2.1 o h;omega⟩);have l1:=aS (t.ins.map pS).flatten;have l2:=aS (t.ins.map qT).flatten;have l3:=aS (t.outs.map ie).flatten;generalize bo (t.ins.map pS).flatten=a at *;generalize bo (t.ins.map qT).flatten=b at *;generalize bo (t.outs.map ie).flatten=c at *;have hT:eT t=[.d (.int .u32 (t.ver:Int)),.d (.ro 35 (t.ins.map eI)),.d (.ro 2 (t.outs.map eO)),.d (.int .u32 (t.lock:Int))]:=rfl;have hd:=x9 t;rw [hT] at p1 p2 hd;simp [go_sem,eT];refine b7 [0,2,4,5] [(1,[]),(3,[]),(6,[7]),(8,[])] 3 (k:=9) ?_;intro G hG;simp [go_sem];refine ag p1 hd ?_;simp [go_sem];refine ag p2 hd ?_;simp [go_sem];refine ag p3 a9 ?_;simp [go_sem,am,l1,l2,l3,Ab,qU];rw [Ce (A:=cb a) (n:=32) (by rw [am,l1]) aq,← cD (cb a),pT (A:=cb a ++ cb b) (n:=64) (by simp [am,l1,l2]) aq,qU,List.append_nil];refine hG _ _ ?_;clear hG G;have hL:(cb a ++ cb b ++ cb c).length=96:=by simp [am,l1,l2,l3]
 have hT2:List.take 96 (cb a ++ cb b ++ cb c)=cb a ++ cb b ++ cb c:=cA aq;have hE:cb (a ++ (b ++ c))=cb a ++ cb b ++ cb c:=by rw [ua,ua,cD]
 have hD:=b8 (a ++ (b ++ c));rw [hE] at hD;rw [hE];generalize cb a ++ cb b ++ cb c=R at *;simp [go_sem,hL,hT2,ah];exact aa hD rfl
end Go.Proofs.YtmfnimjnneflnaaGreat
