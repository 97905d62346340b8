/-
 Part 12 of what the claim rests on.
-/
import Derived.Test.YtmfnimjnneflnaaGreatG5
import Derived.Test.YtmfnimjnneflnaaGreatG6
import Derived.Test.YtmfnimjnneflnaaGreatG7
import Derived.Test.YtmfnimjnneflnaaGreatG10
set_option linter.unusedVariables false
set_option linter.unusedSimpArgs false
set_option maxRecDepth 100000
set_option maxHeartbeats 16000000
namespace Go.Proofs.YtmfnimjnneflnaaGreat
open Go.Am Go.Sha
theorem Aq (r:Rn):(bp r).2.cl=r.cl:=by
 unfold bp
 split
 ·split
  ·unfold ay;split <;> rfl
  ·rfl
 ·rfl
theorem Oz (most:Nat) (r:Rn):(eo most r).2.cl=r.cl:=by
 have h:=Aq r;unfold eo;generalize bp r=p at *;simp only
 split
 ·cases fq most p.1 with
  | none=>simp only;unfold ay;split <;> exact h
  | some n=>exact h
 ·exact h
theorem lV {most:Nat} {r:Rn} (h:StOk r.main r.alt):StOk (eo most r).2.main (eo most r).2.alt:=by
 have h:=(dG h).1;unfold eo;generalize bp r=p at *;simp only
 split
 ·cases fq most p.1 with
  | none=>exact fZ h
  | some n=>exact h
 ·exact h
theorem EJ {hp:Hp} {I:Nat→Prop} {id:Nat} {ty:TypeId} {cs:List (Int × Int)} (hb:lk id hp=some ⟨ty,2,cs.map Uc⟩) (hI:I id):SnapD hp I (.own id 0 cs.length cs.length) (.ro 2 (cs.map fl)):=by
 refine iH hb hI aw ?_ aw (fun r hr=>by
  obtain ⟨x,_,rfl⟩:=List.mem_map.1 hr
  rfl)
 rw [List.drop_zero,cx aw]
 have e:cs.map Uc=(cs.map fl).map fun r=>r.map AV.d:=by
  rw [List.map_map];rfl
 rw [e];exact mD _
theorem Ta (F:RnF) (x:Rx) (hi:F.inner.length=32) (htl:x.tpl.length=32) (htb:bytes x.tpl) (te:Int) (hT:ax Tryz.prog 18 [.agg (eT F.t),.d (.int .i64 (F.n:Int))] (fun v=>v=.tup [.agg (cb x.tpl),.d (.int .i64 te)])) (r:Rn) (J:List Bool) (H:Nat) (hk:StOk r.main r.alt) :
    cO Tryz.prog 3 (aH (gB F)) 201 ⟨r,J,H⟩ [.ptr 0 0 0 1] (fun v s'=>s'=⟨BW x r,J,H⟩):=by
  refine al Tryz.func201 (by kernel_rfl) rfl Tryz.ntmps201 (rs:=[]) rfl (dT rfl) (by decide) ?_;have hC:=ej (F:=F) hi;have hz:z32.length=32:=rfl;obtain ⟨hk2,hb1,hb2⟩:=yf hk;have hto:=Jr hC r J H hk;unfold BW;generalize kZ r=p at *;obtain ⟨b,r2⟩:=p;simp only at hto hk2 hb1 hb2 ⊢;simp [go_sem];refine dO (Pp:=[]) hC hto aq aw (by simp [AV.renL,AV.ren]) ?_;rintro v s' ρ ⟨rfl,rfl⟩ hρ;rw [bE];simp only [aH,bG,bF,id,gB,eS];simp only [eT] at hT;simp [go_sem,AV.ren];refine ek [0,1,2,3,4,5,6,7,8,9] [10,14,15] [0,1,2,3,4,5,6,7,8,9,11,12,13,16] (.alt (.step 10 [11,12,13] true (bt 14 (.step 15 [16] true .done))) (bt 14 (.step 10 [11,12,13] true (.step 15 [16] true .done)))) ⟨[(0,.ptr 0 0 0 1),(2,.d (nb b)),(3,.ptr 548 0 0 1)],(548,⟨29,32,[cb x.tpl]⟩) :: ie 3 (aH (gB F)) ⟨r2,J,H⟩ id,9000⟩ (k:=17) ?h3 ?hq
  case h3 =>
    intro G hG;simp (config := { maxSteps := 3000000 }) [go_sem]
    repeat' first
      | apply And.intro
      | (refine ag hT a9 ?_
         simp (config := { maxSteps := 3000000 }) [go_sem,am,htl])
      | (refine hG _ _ (cz ⟨by simp [ai,fv,lk,AV.low,AV.low1],?_,aw⟩)
         intro p hp;rcases d_.1 hp with rfl | hp
         · refine ⟨.inl (by simp [lk,am,hz]),by show 548<9000;omega,?_⟩
           intro r hr v hv;simp only [d_,List.mem_nil_iff,or_false] at hr;subst hr;obtain ⟨y,_,rfl⟩:=List.mem_map.1 hv
           trivial
         · exact WP hC (dT rfl) (qd (by simp [lk,aH,bG,bF,gB,eS]) (by simp [lk,aH]) (by simp [lk,aH])) p hp)
  case hq =>
    simp [go_sem];refine iV (ij b x.tpl hb2 htb) rfl (aj (.deep trivial) (aj (.one (ak (ed rfl trivial htl))) aD)) trivial ?_;by_cases hq:b=x.tpl
    · simp [go_sem,hq]
      rw [bE];exact aC (by simp [lk,aH,bG,bF,gB,eS]) rfl rfl
    · simp [go_sem,hq]
      refine aQ (Pp:=[(548,⟨29,32,[cb x.tpl]⟩)]) hC (bA hC r2 J H 23) rfl (dT rfl) (by intro p hp;simp at hp;subst hp;simp) (by simp [AV.renL,AV.ren]) ?_;rintro v s' ρ rfl hρ;rw [bE];generalize ay 23 r2=r';simp only [aH,bG,bF,id,gB,eS];simp [go_sem,ah];exact aC (by simp [lk,aH,bG,bF]) rfl rfl
theorem PY {C:List AV} (hC:iD C) (ids:List Nat) (Pp:Hp) {N:Nat} {hp:Hp} {g:FuncId} {s:RnS} {ars ars2:List AV} {R:AV→RnS→Prop} {K:AV→Hp→Prop} (h:cO Tryz.prog 3 (aH C) g s (.ptr 0 0 0 1 :: ars2) R) (hN:3≤N)
  (hd:∀ p,p ∈ Pp ++ ie 3 (aH C) s id→lk p.1 (aE ids hp)=some p.2) (hl:ars.length=ars2.length) (hs:∀ (i:Nat) (v v':AV),ars[i]?=some v→ars2[i]?=some v'→v'=v ∨ Snap hp (fun id=>id ∈ ids) v v') (hP:∀ p,p ∈ Pp→p.1<N∧3≤p.1) (has:∀ ρ,AV.renL ρ ars2=ars2)
  (hK:∀ v s' ρ,R v s'→(∀ j,j<3→ρ j=j)→K (v.ren ρ) (Pp ++ ie 3 (aH C) s' id)):rY Tryz.prog g (.ptr 0 0 0 1 :: ars) hp N K:=by
 refine cq ids Pp (args':=.ptr 0 0 0 1 :: ars2) (qY hC) id h (aU 3) (fun j hj=>by show j<N;omega) hd (by simp [hl]) ?_ (fun p hp=>⟨(hP p hp).1,fun j hj=>by have:=(hP p hp).2;show j ≠ p.1;omega⟩) ?_ hK
 ·intro i v v' h1 h2
  match i with
  | 0=>simp at h1 h2;subst h1;subst h2;exact .inl rfl
  | i+1=>exact hs i v v' h1 h2
 ·rw [AV.renL,has,AV.ren];rfl
theorem EK {hp:Hp} {I:Nat→Prop} {l:List AV}:∀ (i:Nat) (v v':AV),([]:List AV)[i]?=some v→l[i]?=some v'→v'=v ∨ Snap hp I v v':=by intro i v v' h;simp at h
theorem qe {hp:Hp} {I:Nat→Prop} {a a':AV} {args args':List AV} (h:a'=a ∨ Snap hp I a a') (t:∀ (i:Nat) (v v':AV),args[i]?=some v→args'[i]?=some v'→v'=v ∨ Snap hp I v v'):∀ (i:Nat) (v v':AV),(a :: args)[i]?=some v→(a' :: args')[i]?=some v'→v'=v ∨ Snap hp I v v':=by
 intro i v v' h1 h2
 match i with
 | 0=>simp at h1 h2;subst h1;subst h2;exact h
 | i+1=>exact t i v v' h1 h2
theorem OA (F:RnF) (x:Rx) (hi:F.inner.length=32) (hR:∀ (h:be) (o:Int),bytes h→h.length≤1000→ax Tryz.prog 234 [.agg (eS F.t (F.n:Int) F.coins),.d (nb h),.d (.int .i64 o)] (fun v=>v=Ny (x.rcv h o))) (r:Rn) (J:List Bool) (hk:StOk r.main r.alt) (hc:r.cl.length≤100000) :
  cO Tryz.prog 3 (aH (gB F)) 203 ⟨r,J,0⟩ [.ptr 0 0 0 1] (fun v s'=>s'=⟨BX x r,J,0⟩):=by
 refine al Tryz.func203 (by kernel_rfl) rfl Tryz.ntmps203 (rs:=[]) rfl (dT rfl) (by decide) ?_;have hC:=ej (F:=F) hi;obtain ⟨hk2,hb1,hb2⟩:=dG hk;have hcl:(bp r).2.cl=r.cl:=Aq r;have hta:=j9 hC r J 0 hk;unfold BX;generalize bp r=p at *;obtain ⟨h,r2⟩:=p;simp only at hta hk2 hb1 hb2 hcl ⊢;have htn:=rN hC r2 J 0 hk2 4 aq;have hk3:=lV (most:=4) hk2;have hcl2:(eo 4 r2).2.cl=r2.cl:=Oz 4 r2;generalize eo 4 r2=p at *;obtain ⟨o,r3⟩:=p;simp only at htn hk3 hcl2 ⊢;have hR:=hR h o hb2 hb1;simp only [eS] at hR;generalize x.rcv h o=q at *;obtain ⟨c1,c2,e⟩:=q;simp [go_sem];refine dO (Pp:=[]) hC hta aq aw (by simp [AV.renL,AV.ren]) ?_;rintro v s' ρ ⟨rfl,rfl⟩ hρ;simp [go_sem,AV.ren];refine dO (Pp:=[]) hC htn aq aw (by simp [AV.renL,AV.ren]) ?_;rintro v s' ρ ⟨rfl,rfl⟩ hρ;simp [go_sem,AV.ren];refine dO (Pp:=[]) hC (eE hC r3 J 0) aq aw (by simp [AV.renL,AV.ren]) ?_;rintro v s' ρ' ⟨rfl,rfl⟩ hρ';by_cases he:r3.e=0
 ·rw [bE];simp only [aH,bG,bF,id,gB,eS];simp [go_sem,AV.ren,he];refine ag hR a9 ?_;simp [go_sem,Ny];refine PY hC [772] [] (s:=⟨r3,J,0⟩) (ars2:=[.d (.ro 2 ([(c1,c2)].map fl)),.d (.int .i64 e)]) (EG hC r3 J hk3 [(c1,c2)] e (by rw [hcl2,hcl];exact hc) aw) aq ?_ rfl (qe (.inr (.one (ak (EJ (cs:=[(c1,c2)]) rfl aw)))) (qe (.inl rfl) EK)) aw (by simp [AV.renL,AV.ren]) ?_
  ·exact qd (by simp [aE,lk,aH,bG,bF,gB,eS,he]) (by simp [aE,lk,aH]) (by simp [aE,lk,aH])
  rintro v s' ρ rfl hρ;rw [bE];generalize zP [(c1,c2)] e r3=r';simp only [aH,bG,bF,id,gB,eS];simp [go_sem,ah];exact aC (by simp [lk,aH,bG,bF]) rfl rfl
 ·simp [go_sem,AV.ren,he,ah];rw [bE];exact aC rfl rfl rfl
theorem Tc (F:RnF) (x:Rx) (hi:F.inner.length=32) (hs:F.script.length≤100000) (hml:x.msg.length=32) (me:Int)
    (hM:ax Tryz.prog 43 [.agg (eS F.t (F.n:Int) F.coins),.d (nb (jV F.script)),.d (nb F.annex)] (fun v=>v=.tup [.agg (cb x.msg),.d (.int .i64 me)])) (r:Rn) (J:List Bool) (H:Nat) :
    cj Tryz.prog 226 3 (ie 3 (aH (gB F)) ⟨r,J,H⟩ id) [.ptr 0 0 0 1] (fun v hp'=>v=.sub 708 0 0 1 32 32 1∧lk 708 hp'=some ⟨29,32,[cb x.msg]⟩∧rU 3 (aH (gB F)) ⟨r,J,H⟩ id hp'):=by
  refine al Tryz.func226 (by kernel_rfl) rfl Tryz.ntmps226 (rs:=[.tmp 2]) rfl (dT rfl) (by decide) ?_;have hC:=ej (F:=F) hi;have hz:z32.length=32:=rfl;have hth:=rG F.script hs;have hbl:(fh [84,97,112,76,101,97,102] (192 :: (au F.script.length ++ F.script))).length=32:=qK F.script;rw [bE];simp only [aH,bG,bF,id,gB,eS,aT]
  have h39:∀ l:List AV,(cb F.inner ++ (AV.d (da F.path) :: AV.d (nb F.script) :: l))[33]?=some (.d (nb F.script)):=fun l=>by
    rw [dn (by rw [am,hi];omega),am,hi];rfl
  have h40:∀ l:List AV,(cb F.inner ++ (AV.d (da F.path) :: AV.d (nb F.script) :: AV.d (nb F.annex) :: l))[34]?=some (.d (nb F.annex)):=fun l=>by
    rw [dn (by rw [am,hi];omega),am,hi];rfl
  simp [go_sem,h39];refine ag hth a9 ?_;have hd0:List.drop 32 (cb z32)=[]:=rfl;have hlB:fh [84,97,112,76,101,97,102] (192 :: (au F.script.length ++ F.script))=jV F.script:=rfl;rw [hlB] at hbl ⊢;generalize jV F.script=lb at *;simp only [eS] at hM;simp [go_sem,am,hz,hbl,hd0]
  have hfl:(AV.tup [.agg (cb x.msg),.d (.int .i64 me)]).flat:=by
    intro c hc;simp at hc;rcases hc with rfl | rfl
    · refine .inr ⟨_,rfl,fun y hy=>?_⟩
      obtain ⟨z,_,rfl⟩:=List.mem_map.1 hy
      trivial
    · exact .inl trivial
  refine ek [0,1,2,3,4,5,6,7,8] [9,13,14] [0,1,2,3,4,5,6,7,8,10,11,12,15] (.alt (.step 9 [10,11,12] true (bt 13 (.step 14 [15] true .done))) (bt 13 (.step 9 [10,11,12] true (.step 14 [15] true .done)))) ⟨[(4,.ptr 708 0 0 1)],(708,⟨29,32,[cb x.msg]⟩) :: ie 3 (aH (gB F)) ⟨r,J,H⟩ id,9000⟩ (k:=16) ?h3 ?hq
  case h3 =>
    intro G hG;simp (config := { maxSteps := 3000000 }) [go_sem,h40,am,hbl]
    repeat' first
      | apply And.intro
      | (refine iV hM rfl (aj (.deep a9) (aj (.one (ak (ed rfl trivial hbl))) (aj (.deep trivial) aD))) hfl ?_
         simp (config := { maxSteps := 3000000 }) [go_sem,am,hml,hz])
      | (refine hG _ _ (cz ⟨by simp [ai,fv,lk,AV.low,AV.low1],?_,aw⟩)
         intro p hp;rcases d_.1 hp with rfl | hp
         · refine ⟨.inl (by simp [lk,am,hz,hd0]),by show 708<9000;omega,?_⟩
           intro r hr v hv;simp only [d_,List.mem_nil_iff,or_false] at hr;subst hr;obtain ⟨y,_,rfl⟩:=List.mem_map.1 hv
           trivial
         · exact WP hC (dT rfl) (qd (by simp [lk,aH,bG,bF,gB,eS,aT]) (by simp [lk,aH]) (by simp [lk,aH])) p hp)
  case hq =>
    simp [go_sem,ah];rw [bE];exact aC (by simp [lk,aH,bG,bF,gB,eS,aT]) rfl rfl
theorem Td (F:RnF) (x:Rx) (hi:F.inner.length=32) (hs:F.script.length≤100000) (hml:x.msg.length=32) (me:Int)
  (hM:ax Tryz.prog 43 [.agg (eS F.t (F.n:Int) F.coins),.d (nb (jV F.script)),.d (nb F.annex)] (fun v=>v=.tup [.agg (cb x.msg),.d (.int .i64 me)])) {s:RnS} {N:Nat} {K:AV→Hp→Prop} (hN:3≤N)
  (hK:K (.sub N 0 0 1 32 32 1) ((N,⟨29,32,[cb x.msg]⟩) :: ie 3 (aH (gB F)) s id)):rY Tryz.prog 226 [.ptr 0 0 0 1] (ie 3 (aH (gB F)) s id) N K:=by
 have hC:=ej (F:=F) hi;have ho:=qY hC;have hid:∀ j,j<3→bR (jY 3 id id) 3 (id j)=j:=fun j hj=>sk id 3 (aU 3) hj;have hnw:cv (jY 3 id id) [(708,0)]=true:=BG aq;have h708:vJ 3 id [(708,0)] N 708=N:=xn (c:=708) (j:=0) hnw aw
 refine .inl (nG (n:=3) (b0:=aH (gB F) s id) id (Tc F x hi hs hml me hM s.r s.J s.H) (fun i x hi=>DL i x hi) (aU 3) (fun j hj=>by show j<N;omega)
  (fun j hj=>⟨_,xk _ (aU 3) hj,ho.2 _ _ _ hj,(ho.1 s id _ id j hj hid).symm⟩) ?_ [(708,0)] hnw ?_)
 ·rw [AV.renL,AV.renL,AV.ren];rfl
 ·rintro r' hp' ⟨rfl,hb,hs'⟩ hpX q1 q2 q3;have hro:∀ j,j<3→vJ 3 id [(708,0)] N (id j)=id j:=fun j hj=>xm hnw hj;refine ⟨(N,⟨29,32,[cb x.msg]⟩) :: ie 3 (aH (gB F)) s id,fun i b h=>?_,?_⟩
  ·simp only [lk] at h
   split at h
   ·rename_i e;subst e
    cases h
    have h2:=q2 708 0 aw _ hb
    have e:Blk.ren (vJ 3 id [(708,0)] N) ⟨29,32,[cb x.msg]⟩=⟨29,32,[cb x.msg]⟩:=by
     simp only [Blk.ren,aL,List.map_cons,List.map_nil,pL,cb,List.map_map];rfl
    rw [e] at h2;exact h2
   ·obtain ⟨j,hj,e⟩:=lH.1 (bL h)
    cases e
    have h2:=q1 j hj _ (hs' j hj);rw [ho.1 s id _ id j hj hro] at h2;exact h2
  ·rw [AV.ren,h708];exact hK
theorem EL (m:be):ax Tryz.prog 228 [.rop [nb m]] (fun v=>v=.d (nb m)):=by
 refine bO Tryz.func228 Tryz.ntmps228 (rs:=[.tmp 1]) a9 ?_;simp [go_sem,ah];exact aa trivial rfl
def Tf (sg:be→be→be→Bool):Prop:=∀ key msg sig:be,key.length=32→bytes key→bytes msg→bytes sig→msg.length≤1000→sig.length≤1000→ax Tryz.prog 156 [.agg (cb key),.d (nb msg),.d (nb sig)] (fun v=>v=.d (.bool (sg key sig msg)))
theorem qf (key:be):(key.map fun (b:Nat)=>[DV.int .u8 (b:Int)]).flatten=cd key:=by
 unfold cd
 induction key with
 | nil=>rfl
 | cons a l ih=>simp only [List.map_cons,List.flatten_cons,ih];rfl
theorem EM {hp:Hp} {key:be}:Snap hp (fun _=>True) (.agg (cb key)) (.agg (cb key)):=.deep (dE _)
theorem KC {C:List AV} (hC:iD C) (msg:be) (hmb:bytes msg) (hml:msg.length≤1000) (sg:be→be→be→Bool) (hV:Tf sg) (r:Rn) (J:List Bool) (H:Nat) (key sig:be) (hkb:bytes key) (hsb:bytes sig) (hkl:key.length≤1000) (hsl:sig.length≤1000) (hbd:-9223372036854775808≤r.bud) (hbd2:r.bud<9223372036854775808) :
  cO Tryz.prog 3 (aH C) 225 ⟨r,J,H⟩ [.ptr 0 0 0 1,.d (nb key),.d (nb sig),.fn 228 [.rop [nb msg]]] (fun v s'=>v=.d (.bool (fB sg key sig msg r).1)∧s'=⟨(fB sg key sig msg r).2,J,H⟩):=by
 refine al Tryz.func225 (by kernel_rfl) rfl Tryz.ntmps225 (rs:=[.tmp 8]) rfl (dT rfl) (by decide) ?_;have hl:=hC.2.2;simp [go_sem];refine dO (Pp:=[]) hC (eE hC r J H) aq aw (by simp [AV.renL,AV.ren]) ?_;rintro v s' ρ ⟨rfl,rfl⟩ hρ;by_cases he:r.e=0
 ·by_cases hs0:sig.length=0
  ·have hv:fB sg key sig msg r=(false,r):=by simp [fB,hs0]
   rw [hv];have hs0i:(sig.length:Int)=0:=aq;simp [go_sem,AV.ren,he,nb,hs0,hs0i,ah];rw [bE];exact aC rfl rfl rfl
  ·have hs0i:¬ (sig.length:Int)=0:=aq;by_cases hb5:r.bud<50
   ·have hv:fB sg key sig msg r=(false,ay 21 r):=by simp [fB,hs0,he,hb5]
    rw [hv];simp [go_sem,AV.ren,he,nb,hs0,hs0i];rw [bE];simp only [aH,bG,bF,id];simp [go_sem,hl,hb5];refine aQ (Pp:=[]) (s:=⟨r,J,H⟩) hC (bA hC r J H 21) (by simp [bE,aH,bG,bF,he]) aq aw (by simp [AV.renL,AV.ren]) ?_;rintro v s' ρ rfl hρ;rw [bE];generalize ay 21 r=r';simp only [aH,bG,bF,id];simp [go_sem,ah];exact aC rfl rfl rfl
   ·have hv:fB sg key sig msg r=if key.length=32∧sg key sig msg=true then (true,{ r with bud:=r.bud - 50 }) else (false,ay 20 { r with bud:=r.bud - 50 }):=by
     simp only [fB,hs0,he,hb5,if_false,ne_eq,not_false_eq_true,and_self,if_true]
    rw [hv];have w1:IntKind.i64.wrap (r.bud - 50)=r.bud - 50:=IntWalk.i64_in _ aq;simp [go_sem,AV.ren,he,nb,hs0,hs0i];rw [bE];simp only [aH,bG,bF,id];simp [go_sem,hl,hb5,w1];have hsh:∀ l:List AV,l=l:=fun _=>rfl;obtain ⟨main,alt,br,bud,cl,e⟩:=r;simp only at he hb5 w1 hbd hbd2 ⊢;subst he;have hid2:gJ ⟨main,alt,br,bud,cl,0⟩=gJ ⟨main,alt,br,bud - 50,cl,0⟩:=rfl;rw [hid2];have hfl:=bA hC ⟨main,alt,br,bud - 50,cl,0⟩ J H 20;by_cases h32:key.length=32
    ·have hve:=hV key msg sig h32 hkb hmb hsb;have h32i:(key.length:Int)=32:=aq
     cases hg:sg key sig msg with
     | true =>
      rw [hg] at hve;rw [if_pos ⟨h32,rfl⟩];simp [go_sem,h32,h32i];refine cf [0,1,2,3,4,5,6,7,9] [(8,[]),(10,[11,12])] 2 (k:=13) ?_;intro G hG;simp [go_sem,h32,h32i,AV.ren,qf,lB,av h32,am];refine ag (EL msg) a9 ?_;simp [go_sem];refine ag (hve hml hsl) (by intro v hv;simp at hv;rcases hv with rfl | rfl | rfl;exact dE _;trivial;trivial) ?_;simp [go_sem];refine hG _ _ ?_;clear hG G;simp [go_sem,ah];exact aC rfl rfl rfl
     | false =>
      rw [hg] at hve;rw [if_neg (fun h=>by cases h.2)];simp [go_sem,h32,h32i];refine cf [0,1,2,3,4,5,6,7,9] [(8,[]),(10,[11,12])] 2 (k:=13) ?_;intro G hG;simp [go_sem,h32,h32i,AV.ren,qf,lB,av h32,am];refine ag (EL msg) a9 ?_;simp [go_sem];refine ag (hve hml hsl) (by intro v hv;simp at hv;rcases hv with rfl | rfl | rfl;exact dE _;trivial;trivial) ?_;simp [go_sem];refine hG _ _ ?_;clear hG G;simp [go_sem];refine aQ (Pp:=[]) (s:=⟨⟨main,alt,br,bud - 50,cl,0⟩,J,H⟩) hC hfl (by simp [bE,aH,bG,bF]) aq aw (by simp [AV.renL,AV.ren]) ?_;rintro v s' ρ rfl hρ;rw [bE];generalize ay 20 ⟨main,alt,br,bud - 50,cl,0⟩=r';simp only [aH,bG,bF,id];simp [go_sem,ah];exact aC rfl rfl rfl
    ·have h32i:¬ (key.length:Int)=32:=aq;rw [if_neg (fun h=>h32 h.1)];simp [go_sem,h32,h32i];refine cf [0,1,2,3,4,5,6,7,9] [(8,[]),(10,[11,12])] 2 (k:=13) ?_;intro G hG;simp [go_sem,h32,h32i,AV.ren];refine hG _ _ ?_;clear hG G;simp [go_sem];refine aQ (Pp:=[]) (s:=⟨⟨main,alt,br,bud - 50,cl,0⟩,J,H⟩) hC hfl (by simp [bE,aH,bG,bF]) aq aw (by simp [AV.renL,AV.ren]) ?_;rintro v s' ρ rfl hρ;rw [bE];generalize ay 20 ⟨main,alt,br,bud - 50,cl,0⟩=r';simp only [aH,bG,bF,id];simp [go_sem,ah];exact aC rfl rfl rfl
 ·have hv:fB sg key sig msg r=(false,r):=by simp [fB,he]
  rw [hv];simp [go_sem,AV.ren,he,ah];rw [bE];exact aC rfl rfl rfl
theorem EN (F:RnF) (x:Rx) (hi:F.inner.length=32) (hs:F.script.length≤100000) (hml:x.msg.length=32) (me:Int)
  (hM:ax Tryz.prog 43 [.agg (eS F.t (F.n:Int) F.coins),.d (nb (jV F.script)),.d (nb F.annex)] (fun v=>v=.tup [.agg (cb x.msg),.d (.int .i64 me)])) {s:RnS} {N:Nat} {hp:Hp} {K:AV→Hp→Prop} (he:hp=ie 3 (aH (gB F)) s id) (hN:3≤N)
  (hK:K (.sub N 0 0 1 32 32 1) ((N,⟨29,32,[cb x.msg]⟩) :: ie 3 (aH (gB F)) s id)):rY Tryz.prog 226 [.ptr 0 0 0 1] hp N K:=he ▸ Td F x hi hs hml me hM hN hK
theorem uc (F:RnF) (x:Rx) (hi:F.inner.length=32) (hs:F.script.length≤100000) (hml:x.msg.length=32) (hmb:bytes x.msg) (me:Int) (hM:ax Tryz.prog 43 [.agg (eS F.t (F.n:Int) F.coins),.d (nb (jV F.script)),.d (nb F.annex)] (fun v=>v=.tup [.agg (cb x.msg),.d (.int .i64 me)])) (sg:be→be→be→Bool) (hV:Tf sg) (r:Rn) (J:List Bool) (H:Nat) (key sig:be) (hkb:bytes key) (hsb:bytes sig) (hkl:key.length≤1000) (hsl:sig.length≤1000) (hbd:-9223372036854775808≤r.bud) (hbd2:r.bud<9223372036854775808) :
  cO Tryz.prog 3 (aH (gB F)) 225 ⟨r,J,H⟩ [.ptr 0 0 0 1,.d (nb key),.d (nb sig),.mth 226 [.ptr 0 0 0 1]] (fun v s'=>v=.d (.bool (fB sg key sig x.msg r).1)∧s'=⟨(fB sg key sig x.msg r).2,J,H⟩):=by
 have hC:=ej (F:=F) hi;generalize hCF:gB F=C at *;refine al Tryz.func225 (by kernel_rfl) rfl Tryz.ntmps225 (rs:=[.tmp 8]) rfl (dT rfl) (by decide) ?_;have hl:=hC.2.2;simp [go_sem];refine dO (Pp:=[]) hC (eE hC r J H) aq aw (by simp [AV.renL,AV.ren]) ?_;rintro v s' ρ ⟨rfl,rfl⟩ hρ;by_cases he:r.e=0
 ·by_cases hs0:sig.length=0
  ·have hv:fB sg key sig x.msg r=(false,r):=by simp [fB,hs0]
   rw [hv];have hs0i:(sig.length:Int)=0:=aq;simp [go_sem,AV.ren,he,nb,hs0,hs0i,ah];rw [bE];exact aC rfl rfl rfl
  ·have hs0i:¬ (sig.length:Int)=0:=aq;by_cases hb5:r.bud<50
   ·have hv:fB sg key sig x.msg r=(false,ay 21 r):=by simp [fB,hs0,he,hb5]
    rw [hv];simp [go_sem,AV.ren,he,nb,hs0,hs0i];rw [bE];simp only [aH,bG,bF,id];simp [go_sem,hl,hb5];refine aQ (Pp:=[]) (s:=⟨r,J,H⟩) hC (bA hC r J H 21) (by simp [bE,aH,bG,bF,he]) aq aw (by simp [AV.renL,AV.ren]) ?_;rintro v s' ρ rfl hρ;rw [bE];generalize ay 21 r=r';simp only [aH,bG,bF,id];simp [go_sem,ah];exact aC rfl rfl rfl
   ·have hv:fB sg key sig x.msg r=if key.length=32∧sg key sig x.msg=true then (true,{ r with bud:=r.bud - 50 }) else (false,ay 20 { r with bud:=r.bud - 50 }):=by
     simp only [fB,hs0,he,hb5,if_false,ne_eq,not_false_eq_true,and_self,if_true]
    rw [hv];have w1:IntKind.i64.wrap (r.bud - 50)=r.bud - 50:=IntWalk.i64_in _ aq;simp [go_sem,AV.ren,he,nb,hs0,hs0i];rw [bE];simp only [aH,bG,bF,id];simp [go_sem,hl,hb5,w1];have hsh:∀ l:List AV,l=l:=fun _=>rfl;obtain ⟨main,alt,br,bud,cl,e⟩:=r;simp only at he hb5 w1 hbd hbd2 ⊢;subst he;have hid2:gJ ⟨main,alt,br,bud,cl,0⟩=gJ ⟨main,alt,br,bud - 50,cl,0⟩:=rfl;rw [hid2];have hfl:=bA hC ⟨main,alt,br,bud - 50,cl,0⟩ J H 20;by_cases h32:key.length=32
    ·have hve:=hV key x.msg sig h32 hkb hmb hsb;have h32i:(key.length:Int)=32:=aq
     cases hg:sg key sig x.msg with
     | true =>
      rw [hg] at hve;rw [if_pos ⟨h32,rfl⟩];simp [go_sem,h32,h32i];refine cf [0,1,2,3,4,5,6,7,9] [(8,[]),(10,[11,12])] 2 (k:=13) ?_;intro G hG;simp [go_sem,h32,h32i,AV.ren,qf,lB,av h32,am];refine EN F x hi hs hml me hM (s:=⟨⟨main,alt,br,bud - 50,cl,0⟩,J,H⟩) (by simp [hCF,bE,aH,bG,bF]) aq ?_;rw [bE,hCF];simp only [aH,bG,bF,id];simp [go_sem];refine iV (hve aq hsl) rfl (aj EM (aj (.one (ak (ed rfl trivial hml))) (aj (.deep trivial) aD))) trivial ?_;simp [go_sem];refine hG _ _ ?_;clear hG G;simp [go_sem,ah];exact aC rfl rfl rfl
     | false =>
      rw [hg] at hve;rw [if_neg (fun h=>by cases h.2)];simp [go_sem,h32,h32i];refine cf [0,1,2,3,4,5,6,7,9] [(8,[]),(10,[11,12])] 2 (k:=13) ?_;intro G hG;simp [go_sem,h32,h32i,AV.ren,qf,lB,av h32,am];refine EN F x hi hs hml me hM (s:=⟨⟨main,alt,br,bud - 50,cl,0⟩,J,H⟩) (by simp [hCF,bE,aH,bG,bF]) aq ?_;rw [bE,hCF];simp only [aH,bG,bF,id];simp [go_sem];refine iV (hve aq hsl) rfl (aj EM (aj (.one (ak (ed rfl trivial hml))) (aj (.deep trivial) aD))) trivial ?_;simp [go_sem];refine hG _ _ ?_;clear hG G;simp [go_sem];refine aQ (Pp:=[(964,⟨29,32,[cb x.msg]⟩)]) (s:=⟨⟨main,alt,br,bud - 50,cl,0⟩,J,H⟩) hC hfl (by simp [bE,aH,bG,bF]) aq aw (by simp [AV.renL,AV.ren]) ?_;rintro v s' ρ rfl hρ;rw [bE];generalize ay 20 ⟨main,alt,br,bud - 50,cl,0⟩=r';simp only [aH,bG,bF,id];simp [go_sem,ah];exact aC rfl rfl rfl
    ·have h32i:¬ (key.length:Int)=32:=aq;rw [if_neg (fun h=>h32 h.1)];simp [go_sem,h32,h32i];refine cf [0,1,2,3,4,5,6,7,9] [(8,[]),(10,[11,12])] 2 (k:=13) ?_;intro G hG;simp [go_sem,h32,h32i,AV.ren];refine hG _ _ ?_;clear hG G;simp [go_sem];refine aQ (Pp:=[]) (s:=⟨⟨main,alt,br,bud - 50,cl,0⟩,J,H⟩) hC hfl (by simp [bE,aH,bG,bF]) aq aw (by simp [AV.renL,AV.ren]) ?_;rintro v s' ρ rfl hρ;rw [bE];generalize ay 20 ⟨main,alt,br,bud - 50,cl,0⟩=r';simp only [aH,bG,bF,id];simp [go_sem,ah];exact aC rfl rfl rfl
 ·have hv:fB sg key sig x.msg r=(false,r):=by simp [fB,he]
  rw [hv];simp [go_sem,AV.ren,he,ah];rw [bE];exact aC rfl rfl rfl
structure RnL (r r':Rn):Prop where
 br:r'.br=r.br
 cl:r'.cl=r.cl
 bud:r'.bud=r.bud
theorem na (x:Int) (r:Rn):RnL r (ay x r):=by unfold ay;split <;> exact ⟨rfl,rfl,rfl⟩
theorem RnL.trans {a b c:Rn} (h:RnL a b) (h2:RnL b c):RnL a c:=⟨h2.br.trans h.br,h2.cl.trans h.cl,h2.bud.trans h.bud⟩
theorem kN (r:Rn):RnL r (bp r).2:=by
 unfold bp
 split
 ·split
  ·exact na _ _
  ·exact ⟨rfl,rfl,rfl⟩
 ·exact ⟨rfl,rfl,rfl⟩
theorem v6 (most:Nat) (r:Rn):RnL r (eo most r).2:=by
 have h:=kN r;unfold eo;generalize bp r=p at *;simp only
 split
 ·cases fq most p.1 with
  | none=>exact h.trans (na _ _)
  | some n=>exact h
 ·exact h
theorem WQ (b:be) (r:Rn):RnL r (dA b r):=by
 unfold dA
 split
 ·split
  ·exact ⟨rfl,rfl,rfl⟩
  ·exact na _ _
 ·exact ⟨rfl,rfl,rfl⟩
def gh (b:Int):Prop:=-9223372036854775808≤b∧b<9223372036854775808
theorem ud (sg:be→be→be→Bool) (key sig msg:be) (r:Rn) (h:gh r.bud) (hk:StOk r.main r.alt):(fB sg key sig msg r).2.br=r.br∧(fB sg key sig msg r).2.cl=r.cl∧gh (fB sg key sig msg r).2.bud∧StOk (fB sg key sig msg r).2.main (fB sg key sig msg r).2.alt:=by
 have bd:¬ r.bud<50→gh (r.bud - 50):=fun hh=>⟨by have:=h.2;omega,by have:=h.2;omega⟩;unfold fB
 split
 ·split
  ·have:=na 21 r;exact ⟨this.br,this.cl,by rw [this.bud];exact h,fZ hk⟩
  ·split
   ·exact ⟨rfl,rfl,bd ‹_›,hk⟩
   ·have:=na 20 { r with bud:=r.bud - 50 };exact ⟨this.br,this.cl,by rw [this.bud];exact bd ‹_›,fZ hk⟩
 ·exact ⟨rfl,rfl,h,hk⟩
theorem EO {r:Rn} (h:StOk r.main r.alt):-2147483648<(eo 4 r).1∧(eo 4 r).1<2147483648:=by
 obtain ⟨_,_,hb⟩:=dG h;unfold eo;generalize bp r=p at *;simp only
 split
 ·cases hd:fq 4 p.1 with
  | none=>simp only;omega
  | some n=>exact D5 hb hd
 ·simp only;omega
structure RnE (F:RnF) (x:Rx):Prop where
 hi:F.inner.length=32
 hs:F.script.length≤100000
 ml:x.msg.length=32
 mb:bytes x.msg
 mg:∃ me:Int,ax Tryz.prog 43 [.agg (eS F.t (F.n:Int) F.coins),.d (nb (jV F.script)),.d (nb F.annex)] (fun v=>v=.tup [.agg (cb x.msg),.d (.int .i64 me)])
 vf:Tf x.sg
 tl:x.tpl.length=32
 tb:bytes x.tpl
 tg:∃ te:Int,ax Tryz.prog 18 [.agg (eT F.t),.d (.int .i64 (F.n:Int))] (fun v=>v=.tup [.agg (cb x.tpl),.d (.int .i64 te)])
 rc:∀ (h:be) (o:Int),bytes h→h.length≤1000→ax Tryz.prog 234 [.agg (eS F.t (F.n:Int) F.coins),.d (nb h),.d (.int .i64 o)] (fun v=>v=Ny (x.rcv h o))
 tr:∀ (s:be) (o0 o1 back:Int),bytes s→s.length≤100000→-9223372036854775808≤back→back<9223372036854775808→ax Tryz.prog 27 [.agg (eS F.t (F.n:Int) F.coins),cQ F.inner F.path F.script,.d (nb s),.agg [.d (.int .i64 o0),.d (.int .i64 o1)],.d (.int .i64 back)]
  (fun v=>v=.tup [.d (.ro 2 ((x.trg s o0 o1 back).1.map fl)),.d (.int .i64 (x.trg s o0 o1 back).2)])∧(x.trg s o0 o1 back).1.length≤2
 sq:∃ i:Ip,F.t.ins[F.n]?=some i∧i.ok∧x.seq=(i.seq:Int)
 lk:F.t.lock<4294967296∧x.lock=(F.t.lock:Int)
 vr:F.t.ver<4294967296∧x.ver=(F.t.ver:Int)
 hh:x.h1=bq∧x.h2=dW
theorem KD {C:List AV} (hC:iD C) {N:Nat} {g:FuncId} {s:RnS} {ars:List AV} {R:AV→RnS→Prop} {K:AV→Hp→Prop} (h:cO Tryz.prog 3 (aH C) g s (.ptr 0 0 0 1 :: ars) R) (hN:3≤N) (has:AV.renL (bR (jY 3 id id) 3) ars=ars)
  (hK:∀ v s' ρ,R v s'→(∀ j,j<3→ρ j=j)→K (v.ren ρ) (ie 3 (aH C) s' id)):rY Tryz.prog g (.ptr 0 0 0 1 :: ars) (ie 3 (aH C) s id) N K:=by
 refine sn (Pp:=[]) (qY hC) h (aU 3) (fun j hj=>by show j<N;omega) aw ?_ hK;rw [AV.renL,has,AV.ren];rfl
theorem sB (F:RnF) (x:Rx) (E:RnE F x) (op:Nat) (ho:op=172 ∨ op=173 ∨ op=186 ∨ op=204) (r:Rn) (J:List Bool) (H:Nat) (hk:StOk r.main r.alt) (hbd:gh r.bud) :
  cO Tryz.prog 3 (aH (gB F)) 198 ⟨r,J,H⟩ [.ptr 0 0 0 1,.d (.int .u8 (op:Int))] (fun v s'=>s'=⟨qW x op r,J,H⟩):=by
 refine al Tryz.func198 (by kernel_rfl) rfl Tryz.ntmps198 (rs:=[]) rfl (dT rfl) (by decide) ?_;have hC:=ej (F:=F) E.hi;have hl:=hC.2.2;obtain ⟨me,hM⟩:=E.mg;have hta:=j9 hC r J H hk;obtain ⟨hk2,hb1,hb2⟩:=dG hk;have hbd2:gh (bp r).2.bud:=by rw [(kN r).bud];exact hbd
 unfold qW;generalize bp r=p at *;obtain ⟨key,r2⟩:=p;simp only at hta hk2 hb1 hb2 hbd2 ⊢;rcases ho with rfl | rfl | rfl | rfl
 ·have hT:=True.intro;have htb:=j9 hC r2 J H hk2;obtain ⟨hk3,hc21,hc22⟩:=dG hk2;have hbd3:gh (bp r2).2.bud:=by rw [(kN r2).bud];exact hbd2
  generalize bp r2=p at *;obtain ⟨sig,r3⟩:=p;simp only at htb hk3 hc21 hc22 hbd3 ⊢;have hsg:=uc F x E.hi E.hs E.ml E.mb me hM x.sg E.vf r3 J H key sig hb2 hc22 hb1 hc21 hbd3.1 hbd3.2;obtain ⟨_,_,_,hk9⟩:=ud x.sg key sig x.msg r3 hbd3 hk3;generalize fB x.sg key sig x.msg r3=p at *;obtain ⟨b,r9⟩:=p;simp only at hsg hk9 ⊢;have hpu:=oP hC r9 J H hk9 (iN b) (by cases b <;> simp [iN]);simp [go_sem];refine dO (Pp:=[]) hC hta aq aw (by simp [AV.renL,AV.ren]) ?_;rintro v s' ρ ⟨rfl,rfl⟩ hρ;simp [go_sem,AV.ren,pz];refine dO (Pp:=[]) hC htb aq aw (by simp [AV.renL,AV.ren]) ?_;rintro v s' ρ ⟨rfl,rfl⟩ hρ;simp [go_sem,AV.ren,pz];refine KD hC hsg aq rfl ?_;rintro v s' ρ ⟨rfl,rfl⟩ hρ;simp [go_sem,AV.ren];refine ag (lK b) a9 ?_;simp [go_sem];refine aQ (Pp:=[]) hC hpu (List.nil_append _).symm aq aw (by simp [AV.renL,AV.ren]) ?_;rintro v s' ρ rfl hρ;rw [bE];generalize dA (iN b) r9=r';simp only [aH,bG,bF,id];simp [go_sem,ah];exact aC rfl rfl rfl
 ·have hT:=True.intro;have htb:=j9 hC r2 J H hk2;obtain ⟨hk3,hc21,hc22⟩:=dG hk2;have hbd3:gh (bp r2).2.bud:=by rw [(kN r2).bud];exact hbd2
  generalize bp r2=p at *;obtain ⟨sig,r3⟩:=p;simp only at htb hk3 hc21 hc22 hbd3 ⊢;have hsg:=uc F x E.hi E.hs E.ml E.mb me hM x.sg E.vf r3 J H key sig hb2 hc22 hb1 hc21 hbd3.1 hbd3.2;obtain ⟨_,_,_,hk9⟩:=ud x.sg key sig x.msg r3 hbd3 hk3;generalize fB x.sg key sig x.msg r3=p at *;obtain ⟨b,r9⟩:=p;simp only at hsg hk9 ⊢;simp [go_sem];refine dO (Pp:=[]) hC hta aq aw (by simp [AV.renL,AV.ren]) ?_;rintro v s' ρ ⟨rfl,rfl⟩ hρ;simp [go_sem,AV.ren,pz];refine dO (Pp:=[]) hC htb aq aw (by simp [AV.renL,AV.ren]) ?_;rintro v s' ρ ⟨rfl,rfl⟩ hρ;simp [go_sem,AV.ren,pz];refine KD hC hsg aq rfl ?_;rintro v s' ρ ⟨rfl,rfl⟩ hρ
  cases b with
  | true =>
   simp [go_sem,AV.ren];rw [bE];exact aC rfl rfl rfl
  | false =>
   simp [go_sem,AV.ren];refine aQ (Pp:=[]) hC (bA hC r9 J H 16) (List.nil_append _).symm aq aw (by simp [AV.renL,AV.ren]) ?_;rintro v s' ρ rfl hρ;rw [bE];generalize ay 16 r9=r';simp only [aH,bG,bF,id];simp [go_sem,ah];exact aC rfl rfl rfl
 ·have hT:=True.intro;have hnb:=rN hC r2 J H hk2 4 aq;have hk3:=lV (most:=4) hk2;have hbd3:gh (eo 4 r2).2.bud:=by rw [(v6 4 r2).bud];exact hbd2
  have hn31:=EO hk2;generalize eo 4 r2=p at *;obtain ⟨n,r3⟩:=p;simp only at hnb hk3 hbd3 hn31 ⊢;have htb:=j9 hC r3 J H hk3;obtain ⟨hk4,hc31,hc32⟩:=dG hk3;have hbd4:gh (bp r3).2.bud:=by rw [(kN r3).bud];exact hbd3
  generalize bp r3=p at *;obtain ⟨sig,r4⟩:=p;simp only at htb hk4 hc31 hc32 hbd4 ⊢;have hsg:=uc F x E.hi E.hs E.ml E.mb me hM x.sg E.vf r4 J H key sig hb2 hc32 hb1 hc31 hbd4.1 hbd4.2;obtain ⟨_,_,_,hk9⟩:=ud x.sg key sig x.msg r4 hbd4 hk4;generalize fB x.sg key sig x.msg r4=p at *;obtain ⟨b,r9⟩:=p;simp only at hsg hk9 ⊢;have w1:IntKind.i64.wrap (n+1)=n+1:=IntWalk.i64_in _ (by have:=hn31.1;have:=hn31.2;omega);simp [go_sem];refine dO (Pp:=[]) hC hta aq aw (by simp [AV.renL,AV.ren]) ?_;rintro v s' ρ ⟨rfl,rfl⟩ hρ;simp [go_sem,AV.ren,pz];refine dO (Pp:=[]) hC hnb aq aw (by simp [AV.renL,AV.ren]) ?_;rintro v s' ρ ⟨rfl,rfl⟩ hρ;simp [go_sem,AV.ren,pz];refine dO (Pp:=[]) hC htb aq aw (by simp [AV.renL,AV.ren]) ?_;rintro v s' ρ ⟨rfl,rfl⟩ hρ;simp [go_sem,AV.ren,pz];refine KD hC hsg aq rfl ?_;rintro v s' ρ ⟨rfl,rfl⟩ hρ
  cases b with
  | true =>
   have hpu:=oP hC r9 J H hk9 (c8 (n+1)) (by have:=fX (n+1);omega);simp [go_sem,AV.ren,w1];refine ag (kJ (n+1) (by have:=hn31.1;omega) (by have:=hn31.2;omega)) a9 ?_;simp [go_sem];refine aQ (Pp:=[]) hC hpu (List.nil_append _).symm aq aw (by simp [AV.renL,AV.ren]) ?_;rintro v s' ρ rfl hρ;rw [bE];generalize dA (c8 (n+1)) r9=r';simp only [aH,bG,bF,id];simp [go_sem,ah];exact aC rfl rfl rfl
  | false =>
   have hpu:=oP hC r9 J H hk9 (c8 (n)) (by have:=fX (n);omega);simp [go_sem,AV.ren,w1];refine ag (kJ (n) (by have:=hn31.1;omega) (by have:=hn31.2;omega)) a9 ?_;simp [go_sem];refine aQ (Pp:=[]) hC hpu (List.nil_append _).symm aq aw (by simp [AV.renL,AV.ren]) ?_;rintro v s' ρ rfl hρ;rw [bE];generalize dA (c8 (n)) r9=r';simp only [aH,bG,bF,id];simp [go_sem,ah];exact aC rfl rfl rfl
 ·have hT:=True.intro;have hmb:=j9 hC r2 J H hk2;obtain ⟨hk3,hc21,hc22⟩:=dG hk2;have hbd3:gh (bp r2).2.bud:=by rw [(kN r2).bud];exact hbd2
  generalize bp r2=p at *;obtain ⟨msg,r3⟩:=p;simp only at hmb hk3 hc21 hc22 hbd3 ⊢;have htb:=j9 hC r3 J H hk3;obtain ⟨hk4,hc31,hc32⟩:=dG hk3;have hbd4:gh (bp r3).2.bud:=by rw [(kN r3).bud];exact hbd3
  generalize bp r3=p at *;obtain ⟨sig,r4⟩:=p;simp only at htb hk4 hc31 hc32 hbd4 ⊢;have hsg:=KC hC msg hc22 hc21 x.sg E.vf r4 J H key sig hb2 hc32 hb1 hc31 hbd4.1 hbd4.2;obtain ⟨_,_,_,hk9⟩:=ud x.sg key sig msg r4 hbd4 hk4;generalize fB x.sg key sig msg r4=p at *;obtain ⟨b,r9⟩:=p;simp only at hsg hk9 ⊢;have hpu:=oP hC r9 J H hk9 (iN b) (by cases b <;> simp [iN]);simp [go_sem];refine dO (Pp:=[]) hC hta aq aw (by simp [AV.renL,AV.ren]) ?_;rintro v s' ρ ⟨rfl,rfl⟩ hρ;simp [go_sem,AV.ren,pz];refine dO (Pp:=[]) hC hmb aq aw (by simp [AV.renL,AV.ren]) ?_;rintro v s' ρ ⟨rfl,rfl⟩ hρ;simp [go_sem,AV.ren,pz];refine aQ (Pp:=[(452,⟨31,1,[[.d (nb msg)]]⟩)]) hC htb rfl aq (by intro p hp;simp at hp;subst hp;simp) (by simp [AV.renL,AV.ren]) ?_;rintro v s' ρ ⟨rfl,rfl⟩ hρ;simp [go_sem,AV.ren,UM]
  refine PY hC [452] [] (s:=⟨r4,J,H⟩) (ars2:=[.d (nb key),.d (nb sig),.fn 228 [.rop [nb msg]]]) hsg aq (qd rfl rfl rfl) rfl
   (qe (.inl rfl) (qe (.inl rfl) (qe (.inr (.fnp (b:=⟨31,1,[[.d (nb msg)]]⟩) aw rfl rfl rfl (qB [nb msg]))) EK))) aw (fun ρ=>rfl) ?_
  rintro v s' ρ ⟨rfl,rfl⟩ hρ;simp [go_sem,AV.ren];refine ag (lK b) a9 ?_;simp [go_sem];refine aQ (Pp:=[]) hC hpu (List.nil_append _).symm aq aw (by simp [AV.renL,AV.ren]) ?_;rintro v s' ρ rfl hρ;rw [bE];generalize dA (iN b) r9=r';simp only [aH,bG,bF,id];simp [go_sem,ah];exact aC rfl rfl rfl
theorem ki:∀ (j:Nat) (r:Rn),cH (j+1) r=((bp (cH j r).2).1 :: (cH j r).1,(bp (cH j r).2).2)
 | 0,r=>rfl
 | j+1,r=>by
  have h:=ki j (bp r).2;rw [cH,h];rfl
theorem nT:∀ (j:Nat) (r:Rn),(cH j r).1.length=j
 | 0,r=>rfl
 | j+1,r=>by rw [ki,List.length_cons,nT j r]
theorem uf {r:Rn} (h:StOk r.main r.alt):∀ j,StOk (cH j r).2.main (cH j r).2.alt∧∀ x,x ∈ (cH j r).1→x.length≤1000∧bytes x
 | 0=>⟨h,fun x hx=>by cases hx⟩
 | j+1=>by
  obtain ⟨h1,h2⟩:=uf h j;obtain ⟨h3,h4,h5⟩:=dG h1;rw [ki];refine ⟨h3,fun x hx=>?_⟩;rcases d_.1 hx with rfl | hx
  ·exact ⟨h4,h5⟩
  ·exact h2 x hx
theorem EP:∀ (j:Nat) (r:Rn),RnL r (cH j r).2
 | 0,r=>⟨rfl,rfl,rfl⟩
 | j+1,r=>by rw [ki];exact (EP j r).trans (kN _)
def yh (k:Nat) (l:List be):List (List AV):=List.replicate k [AV.nil] ++ l.map nH
theorem OB (k:Nat) (x:be) (l:List be):(yh (k+1) l).set k [.d (nb x)]=yh k (x :: l):=by
 unfold yh;rw [List.set_append_left _ _ aw];rw [List.replicate_succ',List.set_append_right _ _ aw];simp [nH]
theorem OC (l:List be):yh 0 l=cM l []:=by simp [yh,cM]
theorem KE {C:List AV} (hC:iD C) (r:Rn) (J:List Bool) (H:Nat) (hk:StOk r.main r.alt) (n:Int) (hn1:-2147483648<n) (hn2:n<2147483648) :
  cj Tryz.prog 232 3 (ie 3 (aH C) ⟨r,J,H⟩ id) [.ptr 0 0 0 1,.d (.int .i64 n)] (fun v hp'=>rU 3 (aH C) ⟨(iq n r).2,J,H⟩ id hp' ∧
   ((v=.nil∧(iq n r).2.e ≠ 0) ∨ (v=.own 548 0 (iq n r).1.length (iq n r).1.length∧lk 548 hp'=some ⟨31,1,cM (iq n r).1 []⟩))):=by
 refine al Tryz.func232 (by kernel_rfl) rfl Tryz.ntmps232 (rs:=[.tmp 4]) rfl (dT rfl) (by decide) ?_;have hl:=hC.2.2;by_cases h0:n<0 ∨ (r.main.length:Int)<n
 ·have hv:iq n r=([],ay 12 r):=by
   unfold iq;rw [if_pos h0];exact if_neg (xO aq)
  have hne:(ay 12 r).e ≠ 0:=xO aq;have hf:=bA hC r J H 12;rw [hv];generalize ay 12 r=r2 at *;rw [bE];simp only [aH,bG,bF,id];have tail:True:=trivial;by_cases hn0:n<0
  ·simp [go_sem,hl,hn0];refine aQ (Pp:=[]) (s:=⟨r,J,H⟩) hC hf (by simp [bE,aH,bG,bF]) aq aw (by simp [AV.renL,AV.ren]) ?_;rintro v s' ρ rfl hρ;simp [go_sem];refine dO (Pp:=[]) hC (eE hC r2 J H) aq aw (by simp [AV.renL,AV.ren]) ?_;rintro v s' ρ ⟨rfl,rfl⟩ hρ;simp [go_sem,AV.ren,hne,ah];rw [bE];exact aC rfl rfl rfl
  ·have hn3:(r.main.length:Int)<n:=h0.resolve_left hn0;simp [go_sem,hl,hn0,hn3];refine aQ (Pp:=[]) (s:=⟨r,J,H⟩) hC hf (by simp [bE,aH,bG,bF]) aq aw (by simp [AV.renL,AV.ren]) ?_;rintro v s' ρ rfl hρ;simp [go_sem];refine dO (Pp:=[]) hC (eE hC r2 J H) aq aw (by simp [AV.renL,AV.ren]) ?_;rintro v s' ρ ⟨rfl,rfl⟩ hρ;simp [go_sem,AV.ren,hne,ah];rw [bE];exact aC rfl rfl rfl
 ·have hn0:¬ n<0:=fun h=>h0 (.inl h);have hn3:¬ (r.main.length:Int)<n:=fun h=>h0 (.inr h);obtain ⟨m,rfl⟩:∃ m:Nat,n=(m:Int):=⟨n.toNat,aq⟩;have hm:m≤1000:=by have:=hk.m;omega
  have hn4:¬ r.main.length<m:=aq;rw [bE];simp only [aH,bG,bF,id];simp [go_sem,hl,hn0,hn3,hn4];refine aQ (Pp:=[]) (s:=⟨r,J,H⟩) hC (eE hC r J H) (by simp [bE,aH,bG,bF]) aq aw (by simp [AV.renL,AV.ren]) ?_;rintro v s' ρ ⟨rfl,rfl⟩ hρ;by_cases he:r.e=0
  ·have hv:iq (m:Int) r=cH m r:=by
    unfold iq;rw [if_neg h0];exact if_pos he
   rw [hv];have w1:IntKind.i64.wrap ((m:Int) - 1)=(m:Int) - 1:=IntWalk.i64_in _ aq;simp [go_sem,AV.ren,he,w1];refine ⟨aq,aq,aq,?_⟩
   have hlw:∀ k l,∀ q,q ∈ yh k l→∀ v,v ∈ q→v.low1 9000:=by
    intro k l q hq v hv;rcases cD.1 hq with h | h
    ·rw [List.eq_of_mem_replicate h] at hv;simp only [d_,List.mem_nil_iff,or_false] at hv;subst hv;trivial
    ·obtain ⟨x,_,rfl⟩:=List.mem_map.1 h;simp only [nH,d_,List.mem_nil_iff,or_false] at hv;subst hv;trivial
   have hwk:∀ (fr:Fr) (hp:Hp) (nx j:Nat),(fv 0 fr=.ptr 0 0 0 1∧fv 5 fr=.own 548 0 m m∧fv 6 fr=.d (.int .i64 ((m:Int) - 1 - (j:Int))))→lk 548 hp=some ⟨31,1,yh (m - j) (cH j r).1⟩→(∀ p,p ∈ ie 3 (aH C) ⟨(cH j r).2,J,H⟩ id→lk p.1 hp=some p.2) →
     aA ⟨fr,hp,nx⟩ ⟨[(0,.ptr 0 0 0 1),(5,.own 548 0 m m),(6,.d (.int .i64 ((m:Int) - 1 - (j:Int))))],(548,⟨31,1,yh (m - j) (cH j r).1⟩) :: ie 3 (aH C) ⟨(cH j r).2,J,H⟩ id,9000⟩:=by
    rintro fr hp nx j ⟨q0,q1,q2⟩ h1 h2;refine ⟨?_,fun p hp'=>?_,.inr (by show 64≤9000;omega)⟩
    ·intro p hp';simp only [d_,List.mem_nil_iff,or_false] at hp';rcases hp' with rfl | rfl | rfl
     ·exact ⟨.inl q0.symm,by simp [AV.low,AV.low1]⟩
     ·exact ⟨.inl q1.symm,by simp [AV.low,AV.low1]⟩
     ·exact ⟨.inl q2.symm,by simp [AV.low,AV.low1]⟩
    ·rcases d_.1 hp' with rfl | hp'
     ·exact ⟨.inl h1,by show 548<9000;omega,hlw _ _⟩
     ·exact WP hC (dT rfl) h2 p hp'
   refine ar (fun j:Nat=>⟨[(0,.ptr 0 0 0 1),(5,.own 548 0 m m),(6,.d (.int .i64 ((m:Int) - 1 - (j:Int))))],(548,⟨31,1,yh (m - j) (cH j r).1⟩) :: ie 3 (aH C) ⟨(cH j r).2,J,H⟩ id,9000⟩)
    (fun j=>j≤m) (fun j=>m - j) 0 aq (hwk _ _ _ 0 (by simp [fv,lk]) (by simp [lk,yh,cH]) (qd rfl rfl rfl)) ?_
   intro j hj;by_cases hjm:j=m
   ·subst hjm;have c0:¬ (0:Int)≤(j:Int) - 1 - (j:Int):=aq;have c1:((j:Int) - 1 - (j:Int))<0:=aq;simp [go_sem,c0,c1,ah];refine ⟨fun h=>aq,fun _=>⟨?_,(nT _ _).symm,OC _⟩⟩;rw [bE];exact aC rfl rfl rfl
   ·have hjm2:j<m:=aq;have e1:(m:Int) - 1 - (j:Int)=((m - (j+1):Nat):Int):=aq;obtain ⟨hkj,hxj⟩:=uf hk j;have hsn:=ki j r;have hlen:(yh (m - j) (cH j r).1).length=m:=by simp [yh,nT];omega
    have hset:(yh (m - j) (cH j r).1).set (m - (j+1)) [.d (nb (bp (cH j r).2).1)]=yh (m - (j+1)) (cH (j+1) r).1:=by
     rw [hsn,show m - j=(m - (j+1))+1 by omega];exact OB _ _ _
    have hat:(yh (m - j) (cH j r).1)[m - (j+1)]?=some [.nil]:=by
     unfold yh;rw [List.getElem?_append_left (by simp;omega),List.getElem?_replicate,if_pos aq]
    have hsg:∀ h:m - (j+1)<(yh (m - j) (cH j r).1).length,(yh (m - j) (cH j r).1)[m - (j+1)]=[.nil]:=fun h=>Option.some.inj ((cm h).symm.trans hat);have hta:=j9 hC (cH j r).2 J H hkj;have w2:IntKind.i64.wrap (((m - (j+1):Nat):Int) - 1)=(m:Int) - 1 - ((j+1:Nat):Int):=by rw [IntWalk.i64_in _ aq];omega
    have hlt:m - (j+1)<m:=aq;have hlti:((m - (j+1):Nat):Int)<(m:Int):=aq;rw [e1];generalize hq:m - (j+1)=q at *;simp [go_sem];refine aQ (Pp:=[(548,⟨31,1,yh (m - j) (cH j r).1⟩)]) hC hta rfl aq (by intro p hp;simp at hp;subst hp;simp) (by simp [AV.renL,AV.ren]) ?_;rintro v s' ρ ⟨rfl,rfl⟩ hρ;simp [go_sem,AV.ren,hlen,hlt,hlti,w2,hat,hsg,hset];refine ao (j+1) aq aq (hwk _ _ _ (j+1) (by simp [fv,lk]) ?_ ?_)
    ·rw [hq];simp [lk,hset]
    ·rw [hsn];exact qd rfl rfl rfl
  ·have hv:iq (m:Int) r=([],r):=by
    unfold iq;rw [if_neg h0];exact if_neg he
   rw [hv];simp [go_sem,AV.ren,he,ah];rw [bE];exact aC rfl rfl rfl
theorem Ti {C:List AV} (hC:iD C) (r:Rn) (J:List Bool) (H:Nat) (hk:StOk r.main r.alt) (n:Int) (hn1:-2147483648<n) (hn2:n<2147483648) {N:Nat} {K:AV→Hp→Prop} (hN:3≤N)
  (h1:(iq n r).2.e ≠ 0→K .nil (ie 3 (aH C) ⟨(iq n r).2,J,H⟩ id))
  (h2:K (.own N 0 (iq n r).1.length (iq n r).1.length) ((N,⟨31,1,cM (iq n r).1 []⟩) :: ie 3 (aH C) ⟨(iq n r).2,J,H⟩ id)):rY Tryz.prog 232 [.ptr 0 0 0 1,.d (.int .i64 n)] (ie 3 (aH C) ⟨r,J,H⟩ id) N K:=by
 have ho:=qY hC;have hid:∀ j,j<3→bR (jY 3 id id) 3 (id j)=j:=fun j hj=>sk id 3 (aU 3) hj;have hnw:cv (jY 3 id id) [(548,0)]=true:=BG aq;have h548:vJ 3 id [(548,0)] N 548=N:=xn (c:=548) (j:=0) hnw aw
 refine .inl (nG (n:=3) (b0:=aH C ⟨r,J,H⟩ id) id (KE hC r J H hk n hn1 hn2) (fun i x hi=>DL i x hi) (aU 3) (fun j hj=>by show j<N;omega)
  (fun j hj=>⟨_,xk _ (aU 3) hj,ho.2 _ _ _ hj,(ho.1 _ id _ id j hj hid).symm⟩) ?_ [(548,0)] hnw ?_)
 ·rw [AV.renL,AV.renL,AV.renL,AV.ren];rfl
 ·rintro r' hp' ⟨hs',hv⟩ hpX q1 q2 q3;have hro:∀ j,j<3→vJ 3 id [(548,0)] N (id j)=id j:=fun j hj=>xm hnw hj
  have ob:∀ i b,lk i (ie 3 (aH C) ⟨(iq n r).2,J,H⟩ id)=some b→lk i hpX=some b:=by
   intro i b h;obtain ⟨j,hj,e⟩:=lH.1 (bL h)
   cases e
   have h2:=q1 j hj _ (hs' j hj);rw [ho.1 _ id _ id j hj hro] at h2;exact h2
  rcases hv with ⟨rfl,he⟩ | ⟨rfl,hb⟩
  ·exact ⟨_,ob,h1 he⟩
  ·refine ⟨_,fun i b h=>?_,by rw [AV.ren,h548];exact h2⟩;simp only [lk] at h
   split at h
   ·rename_i e;subst e
    cases h
    have h3:=q2 548 0 aw _ hb
    have e:Blk.ren (vJ 3 id [(548,0)] N) ⟨31,1,cM (iq n r).1 []⟩=⟨31,1,cM (iq n r).1 []⟩:=by
     simp only [Blk.ren,kt]
    rw [e] at h3;exact h3
   ·exact ob i b h
theorem WR {b:be} {n:Int} (hb:bytes b) (h:fq 8 b=some n):-9223372036854775808≤n∧n<9223372036854775808:=by
 unfold fq at h
 split at h
 ·rename_i h1;obtain rfl:=Option.some.inj h;have hl:b.length≤8:=aq;rcases dZ b with rfl | ⟨a,x,rfl⟩
  ·decide
  ·have hx:x<256:=hb x aw;have ha:=qP (b:=a) (fun y hy=>hb y (List.mem_append_left _ hy));simp at hl;rw [gw];have hc:a.length=0 ∨ a.length=1 ∨ a.length=2 ∨ a.length=3 ∨ a.length=4 ∨ a.length=5 ∨ a.length=6 ∨ a.length=7:=aq;rcases hc with e | e | e | e | e | e | e | e <;> rw [e] at ha ⊢ <;> simp at ha ⊢ <;> split <;> omega
 ·cases h
theorem KF {r:Rn} (h:StOk r.main r.alt):-9223372036854775808≤(eo 8 r).1∧(eo 8 r).1<9223372036854775808:=by
 obtain ⟨_,_,hb⟩:=dG h;unfold eo;generalize bp r=p at *;simp only
 split
 ·cases hd:fq 8 p.1 with
  | none=>simp only;omega
  | some n=>exact WR hb hd
 ·simp only;omega
theorem KG {most:Nat} {r:Rn} (h:r.e ≠ 0):eo most r=(0,r):=by
 have ht:bp r=([],r):=if_neg h;unfold eo;rw [ht];exact if_neg h
theorem KH {r:Rn} (h:StOk r.main r.alt) (n:Int):StOk (iq n r).2.main (iq n r).2.alt∧(∀ x,x ∈ (iq n r).1→x.length≤1000∧bytes x)∧(iq n r).1.length≤1000∧RnL r (iq n r).2:=by
 unfold iq;simp only
 split
 ·rename_i hb
  split
  ·rename_i he;exact absurd he (xO aq)
  ·exact ⟨fZ h,fun x hx=>(by cases hx),aw,na _ _⟩
 ·rename_i hb
  split
  ·obtain ⟨h1,h2⟩:=uf h n.toNat
   exact ⟨h1,h2,by rw [nT];have:=h.m;omega,EP _ _⟩
  ·exact ⟨h,fun x hx=>(by cases hx),aw,⟨rfl,rfl,rfl⟩⟩
theorem CS {l:List be} {b:be} (h:(qM l b).2=0):(qM l b).1.length≤1000:=by
 unfold qM at h ⊢
 cases hu:s9 [] l with
 | none=>rw [hu] at h;simp at h
 | some out =>
  rw [hu] at h;simp only at h ⊢
  split at h
  ·simp at h
  ·rename_i h2;rw [if_neg h2];simp only;omega
theorem OD (F:RnF) (x:Rx) (E:RnE F x) (r:Rn) (J:List Bool) (hk:StOk r.main r.alt) (hc:r.cl.length≤100000) :
  cO Tryz.prog 3 (aH (gB F)) 202 ⟨r,J,0⟩ [.ptr 0 0 0 1] (fun v s'=>s'=⟨BZ x r,J,0⟩):=by
 refine al Tryz.func202 (by kernel_rfl) rfl Tryz.ntmps202 (rs:=[]) rfl (dT rfl) (by decide) ?_;have hC:=ej (F:=F) E.hi;have hl:=hC.2.2;unfold BZ;have h1:=rN hC r J 0 hk 4 aq;have k1:=lV (most:=4) hk;have n1:=EO hk;have l1:=v6 4 r;generalize eo 4 r=p1 at *;obtain ⟨n,r1⟩:=p1;simp only at h1 k1 n1 l1 ⊢;have h2:=j9 hC r1 J 0 k1;obtain ⟨k2,b1,b2⟩:=dG k1;have l2:=kN r1;generalize bp r1=p2 at *;obtain ⟨b,r2⟩:=p2;simp only at h2 k2 b1 b2 l2 ⊢;obtain ⟨k3,t1,t2,l3⟩:=KH k2 n;have h3:=fun {N:Nat} {K:AV→Hp→Prop} (hN:3≤N)=>Ti hC r2 J 0 k2 n n1.1 n1.2 (K:=K) hN;generalize iq n r2=p3 at *;obtain ⟨l,r3⟩:=p3;simp only at h3 k3 t1 t2 l3 ⊢;simp [go_sem];refine dO (Pp:=[]) hC h1 aq aw (by simp [AV.renL,AV.ren]) ?_;rintro v s' ρ ⟨rfl,rfl⟩ hρ;simp [go_sem,AV.ren];refine dO (Pp:=[]) hC h2 aq aw (by simp [AV.renL,AV.ren]) ?_;rintro v s' ρ ⟨rfl,rfl⟩ hρ;simp [go_sem,AV.ren];refine h3 aq (fun he=>?_) ?_
 ·have e1:eo 4 r3=(0,r3):=KG he;have e2:eo 8 r3=(0,r3):=KG he;have m1:=rN hC r3 J 0 k3 4 aq;have m2:=rN hC r3 J 0 k3 8 aq;rw [e1] at m1;rw [e2] at m2;simp only [e1,e2];rw [if_neg he];simp [go_sem];refine aQ (Pp:=[]) hC m1 (List.nil_append _).symm aq aw (by simp [AV.renL,AV.ren]) ?_;rintro v s' ρ ⟨rfl,rfl⟩ hρ;simp [go_sem,AV.ren];refine aQ (Pp:=[]) hC m1 (List.nil_append _).symm aq aw (by simp [AV.renL,AV.ren]) ?_;rintro v s' ρ ⟨rfl,rfl⟩ hρ;simp [go_sem,AV.ren];refine aQ (Pp:=[]) hC m2 (List.nil_append _).symm aq aw (by simp [AV.renL,AV.ren]) ?_;rintro v s' ρ ⟨rfl,rfl⟩ hρ;simp [go_sem,AV.ren];refine aQ (Pp:=[]) hC (eE hC r3 J 0) (List.nil_append _).symm aq aw (by simp [AV.renL,AV.ren]) ?_;rintro v s' ρ ⟨rfl,rfl⟩ hρ;simp [go_sem,AV.ren,he];rw [bE];exact aC rfl rfl rfl
 ·have h4:=rN hC r3 J 0 k3 4 aq;have k4:=lV (most:=4) k3;have l4:=v6 4 r3;generalize eo 4 r3=p4 at *;obtain ⟨o,r4⟩:=p4;simp only at h4 k4 l4 ⊢;have h5:=rN hC r4 J 0 k4 4 aq;have k5:=lV (most:=4) k4;have l5:=v6 4 r4;generalize eo 4 r4=p5 at *;obtain ⟨t,r5⟩:=p5;simp only at h5 k5 l5 ⊢;have h6:=rN hC r5 J 0 k5 8 aq;have k6:=lV (most:=8) k5;have l6:=v6 8 r5;have n6:=KF k5;generalize eo 8 r5=p6 at *;obtain ⟨bk,r6⟩:=p6;simp only at h6 k6 l6 n6 ⊢;have hcl:r6.cl.length≤100000:=by rw [l6.cl,l5.cl,l4.cl,l3.cl,l2.cl,l1.cl];exact hc
  have hPB:∀ (N:Nat),261≤N→∀ p,p ∈ [((260:Nat),(⟨31,1,cM l []⟩:Blk))]→p.1<N∧3≤p.1:=by
   intro N hN p hp;simp at hp;subst hp;exact ⟨by show 260<N;omega,by show 3≤260;omega⟩
  simp [go_sem];refine aQ (Pp:=[(260,⟨31,1,cM l []⟩)]) hC h4 rfl aq (hPB _ aq) (by simp [AV.renL,AV.ren]) ?_;rintro v s' ρ ⟨rfl,rfl⟩ hρ;simp [go_sem,AV.ren];refine aQ (Pp:=[(260,⟨31,1,cM l []⟩)]) hC h5 rfl aq (hPB _ aq) (by simp [AV.renL,AV.ren]) ?_;rintro v s' ρ ⟨rfl,rfl⟩ hρ;simp [go_sem,AV.ren];refine aQ (Pp:=[(260,⟨31,1,cM l []⟩)]) hC h6 rfl aq (hPB _ aq) (by simp [AV.renL,AV.ren]) ?_;rintro v s' ρ ⟨rfl,rfl⟩ hρ;simp [go_sem,AV.ren];refine aQ (Pp:=[(260,⟨31,1,cM l []⟩)]) hC (eE hC r6 J 0) rfl aq (hPB _ aq) (by simp [AV.renL,AV.ren]) ?_;rintro v s' ρ ⟨rfl,rfl⟩ hρ;by_cases he:r6.e=0
  ·rw [if_pos he];have hup:=BC l b t2 (fun y hy=>⟨by have:=(t1 y hy).1;omega,(t1 y hy).2⟩) aq;have hub:=BE (things:=l) b2 (fun y hy=>⟨by have:=(t1 y hy).1;omega,(t1 y hy).2⟩);have hus:=@CS l b;simp [go_sem,AV.ren,he];refine bN [260] hup rfl (aj (.one (ak (il (J:=[]) rfl aw))) (aj (.deep trivial) aD)) ?_;have hdr:aE [260] ((260,(⟨31,1,cM l []⟩:Blk)) :: ie 3 (aH (gB F)) ⟨r6,J,0⟩ id)=ie 3 (aH (gB F)) ⟨r6,J,0⟩ id:=rfl;rw [hdr];generalize qM l b=u at *;obtain ⟨s,ue⟩:=u;simp only at hub hus ⊢;by_cases hu:ue=0
   ·subst hu;obtain ⟨hT,hT2⟩:=E.tr s o t bk hub (by have:=hus rfl;omega) n6.1 n6.2;generalize x.trg s o t bk=q at *;obtain ⟨cs,ce⟩:=q;simp only at hT hT2 ⊢;simp only [if_true];have hcm:=EG hC r6 J k6 cs ce hcl aq;simp only [eS,cQ] at hT;rw [bE];simp only [aH,bG,bF,id,gB,eS];simp [go_sem];refine cf [0,1,2,3,4,5,6,7,8,9,10,11,12,13] [(14,[15,16]),(17,[])] 1 (k:=18) ?_;intro G hG;have hlf:(aT F.inner (AV.d (da F.path)) (AV.d (nb F.script))).length=34:=by simp [aT,am,E.hi]
    have hlt:∀ l:List AV,List.take 34 (aT F.inner (AV.d (da F.path)) (AV.d (nb F.script)) ++ l)=aT F.inner (AV.d (da F.path)) (AV.d (nb F.script)):=fun l=>by rw [← hlf,List.take_left]
    simp [go_sem,hlf,hlt];refine ag hT (by intro v hv;simp at hv;rcases hv with rfl | rfl | rfl | rfl | rfl;simp [AV.deep,AV.deep1];exact cX F.inner F.path F.script _ (List.mem_singleton.2 rfl);trivial;simp [AV.deep,AV.deep1];trivial) ?_;simp [go_sem];refine aQ (Pp:=[]) (s:=⟨r6,J,0⟩) hC hcm (by simp [bE,aH,bG,bF,gB,eS]) aq aw (by simp [AV.renL,AV.ren]) ?_;rintro v s' ρ rfl hρ;simp [go_sem];refine hG _ _ ?_;clear hG G;simp [go_sem];rw [bE];exact aC (by simp [lk,aH,bG,bF,gB,eS]) rfl rfl
   ·rw [if_neg hu];simp [go_sem,hu];refine aQ (Pp:=[]) hC (bA hC r6 J 0 ue) (List.nil_append _).symm aq aw (by simp [AV.renL,AV.ren]) ?_;rintro v s' ρ rfl hρ;rw [bE];generalize ay ue r6=r';simp only [aH,bG,bF,id];simp [go_sem,ah];exact aC rfl rfl rfl
  ·rw [if_neg he];simp [go_sem,AV.ren,he];rw [bE];exact aC rfl rfl rfl
theorem OE (F:RnF) (x:Rx) (E:RnE F x) (op:Nat) (h8:op<256) (r:Rn) (J:List Bool) (hk:StOk r.main r.alt) (hc:r.cl.length≤100000) (hbd:gh r.bud) :
  cO Tryz.prog 3 (aH (gB F)) 172 ⟨r,J,0⟩ [.ptr 0 0 0 1,.d (.int .u8 (op:Int))] (fun v s'=>s'=⟨oe x op r,J,0⟩):=by
 refine al Tryz.func172 (by kernel_rfl) rfl Tryz.ntmps172 (rs:=[]) rfl (dT rfl) (by decide) ?_;have hC:=ej (F:=F) E.hi;have hl:=hC.2.2;obtain ⟨i,hn,hio,hxs⟩:=E.sq;obtain ⟨te,hte⟩:=E.tg;by_cases h106:op=106
 ·subst h106;have hv:oe x 106 r=ay 17 r:=rfl;rw [hv];simp [go_sem];refine aQ (Pp:=[]) hC (bA hC r J 0 17) (List.nil_append _).symm aq aw (by simp [AV.renL,AV.ren]) ?_;rintro v s' ρ rfl hρ;rw [bE];generalize ay 17 r=r';simp only [aH,bG,bF,id];simp [go_sem,ah];exact aC rfl rfl rfl
 by_cases h172:op=172
 ·subst h172;have hv:oe x 172 r=qW x 172 r:=rfl;rw [hv];simp [go_sem];refine aQ (Pp:=[]) hC (sB F x E 172 aq r J 0 hk hbd) (List.nil_append _).symm aq aw (by simp [AV.renL,AV.ren]) ?_;rintro v s' ρ rfl hρ;rw [bE];generalize qW x 172 r=r';simp only [aH,bG,bF,id];simp [go_sem,ah];exact aC rfl rfl rfl
 by_cases h173:op=173
 ·subst h173;have hv:oe x 173 r=qW x 173 r:=rfl;rw [hv];simp [go_sem];refine aQ (Pp:=[]) hC (sB F x E 173 aq r J 0 hk hbd) (List.nil_append _).symm aq aw (by simp [AV.renL,AV.ren]) ?_;rintro v s' ρ rfl hρ;rw [bE];generalize qW x 173 r=r';simp only [aH,bG,bF,id];simp [go_sem,ah];exact aC rfl rfl rfl
 by_cases h186:op=186
 ·subst h186;have hv:oe x 186 r=qW x 186 r:=rfl;rw [hv];simp [go_sem];refine aQ (Pp:=[]) hC (sB F x E 186 aq r J 0 hk hbd) (List.nil_append _).symm aq aw (by simp [AV.renL,AV.ren]) ?_;rintro v s' ρ rfl hρ;rw [bE];generalize qW x 186 r=r';simp only [aH,bG,bF,id];simp [go_sem,ah];exact aC rfl rfl rfl
 by_cases h204:op=204
 ·subst h204;have hv:oe x 204 r=qW x 204 r:=rfl;rw [hv];simp [go_sem];refine aQ (Pp:=[]) hC (sB F x E 204 aq r J 0 hk hbd) (List.nil_append _).symm aq aw (by simp [AV.renL,AV.ren]) ?_;rintro v s' ρ rfl hρ;rw [bE];generalize qW x 204 r=r';simp only [aH,bG,bF,id];simp [go_sem,ah];exact aC rfl rfl rfl
 by_cases h177:op=177
 ·subst h177;have hv:oe x 177 r=pQ x r:=rfl;rw [hv];simp [go_sem];refine aQ (Pp:=[]) hC (Ky F x E.hi i hn hio E.lk.1 E.lk.2 hxs r J 0 hk) (List.nil_append _).symm aq aw (by simp [AV.renL,AV.ren]) ?_;rintro v s' ρ rfl hρ;rw [bE];generalize pQ x r=r';simp only [aH,bG,bF,id];simp [go_sem,ah];exact aC rfl rfl rfl
 by_cases h178:op=178
 ·subst h178;have hv:oe x 178 r=xM x r:=rfl;rw [hv];simp [go_sem];refine aQ (Pp:=[]) hC (Oy F x E.hi i hn hio E.vr.1 E.vr.2 hxs r J 0 hk) (List.nil_append _).symm aq aw (by simp [AV.renL,AV.ren]) ?_;rintro v s' ρ rfl hρ;rw [bE];generalize xM x r=r';simp only [aH,bG,bF,id];simp [go_sem,ah];exact aC rfl rfl rfl
 by_cases h179:op=179
 ·subst h179;have hv:oe x 179 r=BW x r:=rfl;rw [hv];simp [go_sem];refine aQ (Pp:=[]) hC (Ta F x E.hi E.tl E.tb te hte r J 0 hk) (List.nil_append _).symm aq aw (by simp [AV.renL,AV.ren]) ?_;rintro v s' ρ rfl hρ;rw [bE];generalize BW x r=r';simp only [aH,bG,bF,id];simp [go_sem,ah];exact aC rfl rfl rfl
 by_cases h187:op=187
 ·subst h187;have hv:oe x 187 r=BZ x r:=rfl;rw [hv];simp [go_sem];refine aQ (Pp:=[]) hC (OD F x E r J hk hc) (List.nil_append _).symm aq aw (by simp [AV.renL,AV.ren]) ?_;rintro v s' ρ rfl hρ;rw [bE];generalize BZ x r=r';simp only [aH,bG,bF,id];simp [go_sem,ah];exact aC rfl rfl rfl
 by_cases h188:op=188
 ·subst h188;have hv:oe x 188 r=BX x r:=rfl;rw [hv];simp [go_sem];refine aQ (Pp:=[]) hC (OA F x E.hi E.rc r J hk hc) (List.nil_append _).symm aq aw (by simp [AV.renL,AV.ren]) ?_;rintro v s' ρ rfl hρ;rw [bE];generalize BX x r=r';simp only [aH,bG,bF,id];simp [go_sem,ah];exact aC rfl rfl rfl
 have i106:¬ (op:Int)=106:=aq;have i172:¬ (op:Int)=172:=aq;have i173:¬ (op:Int)=173:=aq;have i186:¬ (op:Int)=186:=aq;have i204:¬ (op:Int)=204:=aq;have i177:¬ (op:Int)=177:=aq;have i178:¬ (op:Int)=178:=aq;have i179:¬ (op:Int)=179:=aq;have i187:¬ (op:Int)=187:=aq;have i188:¬ (op:Int)=188:=aq
 have hv:oe x op r={ ay (vI bq dW op r.main r.alt).2.2 r with main:=(vI bq dW op r.main r.alt).1,alt:=(vI bq dW op r.main r.alt).2.1 }:=by
  unfold oe;rw [E.hh.1,E.hh.2,if_neg h106,if_neg aq,if_neg h177,if_neg h178,if_neg h179,if_neg h187,if_neg h188]
 rw [hv];have hdo:=NI op h8 r.main r.alt hk.m hk.a (fun y hy=>by have:=(hk.mb y hy).1;omega) (fun y hy=>by have:=(hk.ab y hy).1;omega) (fun y hy=>(hk.mb y hy).2);unfold yB at hdo
 generalize vI bq dW op r.main r.alt=d at *;obtain ⟨m2,a2,e2⟩:=d;simp only at hdo ⊢;have hf:=bA hC r J 0 e2;rw [bE];simp only [aH,bG,bF,id,jD] at *;simp [go_sem,h106,i106,h172,i172,h173,i173,h186,i186,h204,i204,h177,i177,h178,i178,h179,i179,h187,i187,h188,i188,hl];refine ag hdo (by intro v hv;simp at hv;rcases hv with rfl | rfl;trivial;exact eJ r.main r.alt) ?_;simp [go_sem];refine aQ (Pp:=[(964,⟨155,2,[[.d (.ro 1 (m2.map bD)),.d (.ro 1 (a2.map bD))]]⟩)]) (s:=⟨r,J,0⟩) hC hf (by simp [bE,aH,bG,bF]) aq (by intro p hp;simp at hp;subst hp;simp) (by simp [AV.renL,AV.ren]) ?_;rintro v s' ρ rfl hρ;rw [bE];generalize ay e2 r=r';have hid2:gJ r'=gJ { r' with main:=m2,alt:=a2 }:=rfl;simp only [aH,bG,bF,id];simp [go_sem,hl,B5,ah];exact aC rfl rfl rfl
def PZ (l:List be):Prop:=∀ x,x ∈ l→bytes x
def lj (m:Mc):Prop:=PZ m.main∧PZ m.alt
theorem yi:bytes []:=fun x hx=>(by cases hx)
theorem sC {l:List be} (h:PZ l):bytes (l.getLastD []):=by
 rcases l.eq_nil_or_concat with rfl | ⟨a,x,rfl⟩
 ·exact yi
 ·rw [List.concat_eq_append] at h ⊢;rw [List.getLastD_concat];exact h x aw
theorem yj {l:List be} (h:PZ l) (i:Nat):bytes (l.getD i []):=by
 rw [cR]
 cases hq:l[i]? with
 | none=>exact yi
 | some x=>exact h x (cr hq)
theorem ug {m:Mc} (x:Int) (h:lj m):lj (gC x m):=by unfold gC;split <;> exact h
theorem kD {m:Mc} (n:Nat) (h:lj m):lj (aP n m):=by unfold aP;split;exact ug 12 h;exact h
theorem uh {m:Mc} (h:lj m):lj (dh m).2∧bytes (dh m).1:=by
 unfold dh
 split
 ·exact ⟨⟨fun x hx=>h.1 x ((List.dropLast_sublist _).mem hx),h.2⟩,sC h.1⟩
 ·exact ⟨kD 1 h,yi⟩
theorem kO {m:Mc} {l:List be} (hl:PZ l) (h:lj m):lj (dV l m):=⟨fun x hx=>(cD.1 hx).elim (h.1 x) (hl x),h.2⟩
theorem EQ {m:Mc} (most:Nat) (x:be) (h:lj m):lj (fu most x m).2:=by
 unfold fu
 split
 ·cases fq most x with
  | none=>exact ug 15 h
  | some n=>exact h
 ·exact h
theorem yk {m:Mc} (k:Nat) (put:List Nat) (h:lj m):lj (cn k put m):=by
 unfold cn
 split
 ·refine ⟨fun x hx=>?_,h.2⟩;rcases cD.1 hx with q | q
  ·exact h.1 x (List.mem_of_mem_take q)
  ·obtain ⟨i,_,rfl⟩:=List.mem_map.1 q;exact yj (fun y hy=>h.1 y (List.mem_of_mem_drop hy)) i
 ·exact kD k h
theorem iQ {x:be} (h:bytes x):PZ [x]:=fun y hy=>by simp at hy;subst hy;exact h
theorem KI {m:Mc} (h:lj m):lj (lG m):=by
 obtain ⟨h1,h2⟩:=uh h;exact ⟨h1.1,fun x hx=>(cD.1 hx).elim (h1.2 x) (iQ h2 x)⟩
theorem OF {m:Mc} (h:lj m):lj (oa m):=by
 unfold oa
 split
 ·exact ug 12 h
 ·exact ⟨fun x hx=>(cD.1 hx).elim (h.1 x) (iQ (sC h.2) x),fun x hx=>h.2 x ((List.dropLast_sublist _).mem hx)⟩
theorem yl {m:Mc} (c:Bool) (h:lj m):lj (jv c m):=by unfold jv;split;exact h;exact ug 16 h
theorem ER {m:Mc} (h:lj m):lj (fY m).2:=by
 unfold fY
 split
 ·exact yk 2 [] h
 ·exact kD 2 h
theorem OG {m:Mc} (h:lj m):lj (oc m):=by
 unfold oc
 split
 ·exact kO (iQ (qO (yj h.1 _) (sC h.1))) (yk 2 [] h)
 ·exact kD 2 h
theorem ES {m:Mc} (f:be→be) (hf:∀ x,bytes (f x)) (h:lj m):lj (kr f m):=by
 unfold kr
 split
 ·exact kO (iQ (hf _)) (uh h).1
 ·exact kD 1 h
theorem ET {m:Mc} (r:Bool) (h:lj m):lj (ju r m):=by
 have h1:=EQ 4 (dh m).1 (uh h).1;unfold ju;simp only
 split
 ·split
  ·exact ug 12 h1
  ·refine kO (iQ (yj h1.1 _)) ⟨fun x hx=>?_,h1.2⟩
   cases r
   ·exact h1.1 x hx
   ·exact h1.1 x (List.mem_of_mem_eraseIdx hx)
 ·exact h1
theorem KJ:∀ (k:Nat) (m:Mc),lj m→lj (mi k m).2
 | 0,m,h=>h
 | k+1,m,h=>KJ k _ (EQ 4 _ (uh h).1)
theorem sD {m:Mc} (n:Nat) (h:lj m):lj (dy n m).2:=by
 unfold dy
 split
 ·exact KJ n m h
 ·exact kD n h
theorem ui (b:Bool):bytes (iN b):=by cases b;exact yi;intro x hx;simp [iN] at hx;omega
theorem eG {c:Prop} [Decidable c] {x y:Mc} {r:Option Mc} (h:(if c then some x else r)=some y) (hx:lj x) (hr:r=some y→lj y):lj y:=by
 split at h
 ·cases h;exact hx
 ·exact hr h
theorem Tj {op:Nat} {m m':Mc} (h:iO op m=some m') (hs:lj m):lj m':=by
 unfold iO at h;refine eG h hs fun h=>?_;refine eG h (KI hs) fun h=>?_;refine eG h (OF hs) fun h=>?_
 iterate 13 refine eG h (yk _ _ hs) fun h=>?_
 cases h
theorem WS {op:Nat} {m m':Mc} (h:uy bq dW op m=some m') (hs:lj m):lj m':=by
 unfold uy at h;refine eG h (ET _ hs) fun h=>?_;refine eG h (ET _ hs) fun h=>?_;refine eG h (yl _ (uh hs).1) fun h=>?_;refine eG h ?_ fun h=>?_
 ·split
  ·split
   ·exact kO (iQ (sC hs.1)) hs
   ·exact hs
  ·exact kD 1 hs
 refine eG h (kO (iQ (dF _)) hs) fun h=>?_;refine eG h (OG hs) fun h=>?_;refine eG h ?_ fun h=>?_
 ·split
  ·exact kO (iQ (dF _)) hs
  ·exact kD 1 hs
 refine eG h (kO (iQ (ui _)) (ER hs)) fun h=>?_;refine eG h (yl _ (ER hs)) fun h=>?_;refine eG h (ES _ iM hs) fun h=>?_;refine eG h (ES _ (fun _=>iM _) hs) fun h=>?_
 cases h
theorem Tm {op:Nat} {m m':Mc} (h:nX op m=some m') (hs:lj m):lj m':=by
 unfold nX at h
 split at h
 ·obtain rfl:=Option.some.inj h;exact kO (iQ (ui _)) (sD 3 hs)
 ·split at h
  ·obtain rfl:=Option.some.inj h;exact kO (iQ (dF _)) (sD 1 hs)
  ·split at h
   ·cases h
   ·obtain rfl:=Option.some.inj h;simp only
    split
    ·exact yl _ (sD 2 hs)
    ·exact kO (iQ (dF _)) (sD 2 hs)
theorem iw {main alt:List be} (h:fw main alt=0):(∀ x,x ∈ main→x.length≤520)∧(∀ x,x ∈ alt→x.length≤520)∧main.length+alt.length≤100:=by
 unfold fw at h
 split at h
 ·rename_i hc;simp only [Bool.and_eq_true,d7,decide_eq_true_eq] at hc
  split at h
  ·exact ⟨hc.1,hc.2,‹_›⟩
  ·simp at h
 ·simp at h
theorem KL {main alt:List be} (h:fw main alt=0) (h1:PZ main) (h2:PZ alt):StOk main alt:=by
 obtain ⟨a,b,c⟩:=iw h;exact ⟨aq,aq,fun x hx=>⟨by have:=a x hx;omega,h1 x hx⟩,fun x hx=>⟨by have:=b x hx;omega,h2 x hx⟩⟩
theorem CU:StOk [] []:=⟨aw,aw,fun x hx=>(by cases hx),fun x hx=>(by cases hx)⟩
theorem ym {m:Mc} (h:lj m):StOk (dm m).1 (dm m).2.1:=by
 unfold dm
 split
 ·split
  ·exact KL ‹_› h.1 h.2
  ·exact CU
 ·exact CU
theorem WT {main alt:List be} (h:StOk main alt) (op:Nat):StOk (vI bq dW op main alt).1 (vI bq dW op main alt).2.1:=by
 have hs:lj ⟨main,alt,0⟩:=⟨fun x hx=>(h.mb x hx).2,fun x hx=>(h.ab x hx).2⟩;unfold vI
 cases h1:iO op ⟨main,alt,0⟩ with
 | some m=>exact ym (Tj h1 hs)
 | none =>
  cases h2:uy bq dW op ⟨main,alt,0⟩ with
  | some m=>exact ym (WS h2 hs)
  | none =>
   cases h3:nX op ⟨main,alt,0⟩ with
   | some m=>exact ym (Tm h3 hs)
   | none=>exact CU
structure RnG (r r':Rn):Prop where
 st:StOk r'.main r'.alt
 bd:gh r'.bud
 br:r'.br=r.br
 cl:r'.cl=r.cl
theorem RnG.trans {a b c:Rn} (h:RnG a b) (h2:RnG b c):RnG a c:=⟨h2.st,h2.bd,h2.br.trans h.br,h2.cl.trans h.cl⟩
theorem KN {r r':Rn} (h:gh r.bud) (l:RnL r r') (s:StOk r'.main r'.alt):RnG r r':=⟨s,by rw [l.bud];exact h,l.br,l.cl⟩
theorem To {r:Rn} (h:StOk r.main r.alt) (hb:gh r.bud):RnG r r:=⟨h,hb,rfl,rfl⟩
theorem fQ {r:Rn} (h:StOk r.main r.alt) (hb:gh r.bud) (x:Int):RnG r (ay x r):=KN hb (na x r) (fZ h)
theorem oY {r:Rn} (h:StOk r.main r.alt) (hb:gh r.bud):RnG r (bp r).2:=KN hb (kN r) (dG h).1
theorem v8 {r:Rn} (h:StOk r.main r.alt) (hb:gh r.bud) (most:Nat):RnG r (eo most r).2:=KN hb (v6 most r) (lV h)
theorem Ar {r:Rn} (h:StOk r.main r.alt) (hb:gh r.bud) {b:be} (hbb:bytes b):RnG r (dA b r):=by
 refine KN hb (WQ b r) ?_;unfold dA
 split
 ·split
  ·exact KL ‹_› (fun x hx=>(cD.1 hx).elim (fun q=>(h.mb x q).2) (iQ hbb x)) (fun x hx=>(h.ab x hx).2)
  ·exact fZ h
 ·exact h
theorem EU {r:Rn} (h:StOk r.main r.alt) (hb:gh r.bud) (sg:be→be→be→Bool) (key sig msg:be):RnG r (fB sg key sig msg r).2:=by
 obtain ⟨h1,h2,h3,h4⟩:=ud sg key sig msg r hb h;exact ⟨h4,h3,h1,h2⟩
theorem P0 {r:Rn} (h:StOk r.main r.alt) (hb:gh r.bud):RnG r (kZ r).2:=by
 unfold kZ
 split
 ·exact fQ h hb 12
 ·exact To h hb
theorem KO {r:Rn} (h:StOk r.main r.alt) (hb:gh r.bud):RnG r (jh r).2:=by
 have g:=P0 h hb;unfold jh;generalize kZ r=p at *;simp only
 split
 ·cases fq 5 p.1 with
  | none=>exact g.trans (fQ g.st g.bd 15)
  | some n =>
   simp only
   split
   ·exact g.trans (fQ g.st g.bd 22)
   ·exact g
 ·exact g
theorem Tq {r:Rn} (h:StOk r.main r.alt) (hb:gh r.bud):RnG r (ma r).2:=by
 have g:=oY h hb;unfold ma;simp only
 split
 ·exact g.trans (fQ g.st g.bd 19)
 ·exact g
theorem WU {r:Rn} (h:StOk r.main r.alt) (hb:gh r.bud) (x:Rx) (op:Nat):RnG r (qW x op r):=by
 have g1:=oY h hb;unfold qW;simp only;generalize bp r=k at *;have g2:=oY g1.st g1.bd
 split
 ·generalize bp k.2=s at *;have g3:=EU g2.st g2.bd x.sg k.1 s.1 x.msg;exact g1.trans (g2.trans (g3.trans (Ar g3.st g3.bd (ui _))))
 ·split
  ·generalize bp k.2=s at *;have g3:=EU g2.st g2.bd x.sg k.1 s.1 x.msg
   split
   ·exact g1.trans (g2.trans g3)
   ·exact g1.trans (g2.trans (g3.trans (fQ g3.st g3.bd 16)))
  ·split
   ·have g2:=v8 g1.st g1.bd 4;generalize eo 4 k.2=n at *;have g3:=oY g2.st g2.bd;generalize bp n.2=s at *;have g4:=EU g3.st g3.bd x.sg k.1 s.1 x.msg;exact g1.trans (g2.trans (g3.trans (g4.trans (Ar g4.st g4.bd (dF _)))))
   ·split
    ·generalize bp k.2=m at *;have g3:=oY g2.st g2.bd;generalize bp m.2=s at *;have g4:=EU g3.st g3.bd x.sg k.1 s.1 m.1;exact g1.trans (g2.trans (g3.trans (g4.trans (Ar g4.st g4.bd (ui _)))))
    ·exact g1
theorem Tt {r:Rn} (h:StOk r.main r.alt) (hb:gh r.bud) (x:Rx):RnG r (pQ x r):=by
 have g:=KO h hb;unfold pQ;simp only
 split
 ·exact g.trans (fQ g.st g.bd 22)
 ·exact g
theorem WV {r:Rn} (h:StOk r.main r.alt) (hb:gh r.bud) (x:Rx):RnG r (xM x r):=by
 have g:=KO h hb;unfold xM;simp only
 split
 ·exact g
 ·split
  ·exact g.trans (fQ g.st g.bd 22)
  ·exact g
theorem WW {r:Rn} (h:StOk r.main r.alt) (hb:gh r.bud) (x:Rx):RnG r (BW x r):=by
 have g:=P0 h hb;unfold BW;simp only
 split
 ·exact g
 ·exact g.trans (fQ g.st g.bd 23)
structure RnOk (r:Rn) (k:Nat):Prop where
 st:StOk r.main r.alt
 bd:gh r.bud
 br:r.br.length≤k
 cl:r.cl.length≤2*k
theorem nc {r r':Rn} {k:Nat} (h:RnOk r k) (g:RnG r r'):RnOk r' k:=⟨g.st,g.bd,by rw [g.br];exact h.br,by rw [g.cl];exact h.cl⟩
theorem ll {r:Rn} {k m:Nat} (h:RnOk r k) (hm:k≤m):RnOk r m:=⟨h.st,h.bd,by have:=h.br;omega,by have:=h.cl;omega⟩
theorem KP {r:Rn} {k:Nat} (h:RnOk r k) (l:List (Int × Int)) (hl:l.length≤2) (e:Int):RnOk (zP l e r) (k+1):=by
 unfold zP
 split
 ·have g:=fQ h.st h.bd e;have g2:RnG { ay e r with cl:=r.cl ++ l } (dA (iN true) { ay e r with cl:=r.cl ++ l }):=Ar (r:={ ay e r with cl:=r.cl ++ l }) g.st g.bd (ui true);refine ⟨g2.st,g2.bd,?_,?_⟩
  ·rw [g2.br];show (ay e r).br.length≤k+1;rw [g.br];have:=h.br;omega
  ·rw [g2.cl];show (r.cl ++ l).length≤2*(k+1);have:=h.cl;simp;omega
 ·exact ll h aq
theorem Tu {r:Rn} {k:Nat} (h:RnOk r k) (x:Rx):RnOk (BX x r) (k+1):=by
 have h1:=nc h (oY h.st h.bd);unfold BX;simp only;generalize bp r=p at *;have h2:=nc h1 (v8 h1.st h1.bd 4)
 split
 ·exact KP h2 _ aw _
 ·exact ll h2 aq
theorem Tv {r:Rn} {k:Nat} (h:RnOk r k) (x:Rx) (hx:∀ s o0 o1 bk,(x.trg s o0 o1 bk).1.length≤2):RnOk (BZ x r) (k+1):=by
 have h1:=nc h (v8 h.st h.bd 4);unfold BZ;simp only;generalize eo 4 r=p1 at *;have h2:=nc h1 (oY h1.st h1.bd);generalize bp p1.2=p2 at *;obtain ⟨s3,_,_,l3⟩:=KH h2.st p1.1;have h3:=nc h2 (KN h2.bd l3 s3);generalize iq p1.1 p2.2=p3 at *;have h4:=nc h3 (v8 h3.st h3.bd 4);generalize eo 4 p3.2=p4 at *;have h5:=nc h4 (v8 h4.st h4.bd 4);generalize eo 4 p4.2=p5 at *;have h6:=nc h5 (v8 h5.st h5.bd 8);generalize eo 8 p5.2=p6 at *
 split
 ·split
  ·exact KP h6 _ (hx _ _ _ _) _
  ·exact ll (nc h6 (fQ h6.st h6.bd _)) aq
 ·exact ll h6 aq
theorem WX {r:Rn} {k:Nat} (h:RnOk r k) (x:Rx) (h1:x.h1=bq) (h2:x.h2=dW) (hx:∀ s o0 o1 bk,(x.trg s o0 o1 bk).1.length≤2) (op:Nat):RnOk (oe x op r) (k+1):=by
 have le:∀ {r':Rn},RnG r r'→RnOk r' (k+1):=fun g=>ll (nc h g) aq;unfold oe;rw [h1,h2]
 split
 ·exact le (fQ h.st h.bd 17)
 split
 ·exact le (WU h.st h.bd x op)
 split
 ·exact le (Tt h.st h.bd x)
 split
 ·exact le (WV h.st h.bd x)
 split
 ·exact le (WW h.st h.bd x)
 split
 ·exact Tv h x hx
 split
 ·exact Tu h x
 ·have hd:=WT h.st op;have hl:=na (vI bq dW op r.main r.alt).2.2 r;exact le ⟨hd,by show gh (ay _ r).bud;rw [hl.bud];exact h.bd,hl.br,hl.cl⟩
theorem CV {r:Rn} {k:Nat} (h:RnOk r k) (b:Bool):RnOk (lc b r) (k+1):=⟨h.st,h.bd,by have:=h.br;simp [lc];omega,by have:=h.cl;show r.cl.length≤_;omega⟩
theorem KQ {r:Rn} {k:Nat} (h:RnOk r k):RnOk (lO r).2 k∧((lO r).1 ≠ none→(lO r).2.br.length+1≤k):=by
 unfold lO
 split
 ·exact ⟨nc h (fQ h.st h.bd 18),fun q=>absurd rfl q⟩
 ·rename_i hb;have:=h.br;exact ⟨⟨h.st,h.bd,by simp;omega,h.cl⟩,fun _=>by simp;omega⟩
theorem Tz {r r':Rn} {k op:Nat} (h:RnOk r k) (hb:mU op r=some r'):RnOk r' (k+1):=by
 unfold mU at hb
 split at hb
 ·obtain rfl:=Option.some.inj hb
  split
  ·exact CV (nc h (Tq h.st h.bd)) _
  ·exact CV h false
 ·split at hb
  ·obtain rfl:=Option.some.inj hb;obtain ⟨h1,h2⟩:=KQ h;generalize lO r=p at *;obtain ⟨o,r2⟩:=p
   cases o with
   | none=>exact ll h1 aq
   | some b=>exact CV h1 _
  ·split at hb
   ·obtain rfl:=Option.some.inj hb;exact ll (KQ h).1 aq
   ·cases hb
theorem KR {r:Rn} {k:Nat} (h:RnOk r k) (x:Rx) (h1:x.h1=bq) (h2:x.h2=dW) (hx:∀ s o0 o1 bk,(x.trg s o0 o1 bk).1.length≤2) (w:Wd) (h8:w.1<256) (hb:bytes w.2):RnOk (mn x w r) (k+1):=by
 unfold mn
 split
 ·exact ll (nc h (fQ h.st h.bd 10)) aq
 ·cases hbr:mU w.1 r with
  | some r'=>exact Tz h hbr
  | none =>
   simp only
   split
   ·exact ll h aq
   ·cases hp:eK w with
    | none=>exact WX h x h1 h2 hx w.1
    | some b =>
     simp only
     split
     ·exact ll (nc h (Ar h.st h.bd (tM hb h8 hp))) aq
     ·exact ll (nc h (fQ h.st h.bd 11)) aq
theorem TA (F:RnF) (x:Rx) (E:RnE F x) (w:Wd) (h8:w.1<256) (hwb:bytes w.2) (hwl:w.2.length≤50000) (r:Rn) (J:List Bool) (k:Nat) (hk:RnOk r k) (hk2:k≤10000) :
  cO Tryz.prog 3 (aH (gB F)) 140 ⟨r,J,0⟩ [.ptr 0 0 0 1,.agg (uH w)] (fun v s'=>∃ J',s'=⟨mn x w r,J',0⟩):=by
 refine al Tryz.func140 (by kernel_rfl) rfl Tryz.ntmps140 (rs:=[]) rfl (dT rfl) (by decide) ?_;have hC:=ej (F:=F) E.hi;have hl:=hC.2.2;have hbr:=hk.br;have hcl:=hk.cl;have hps:=tL w h8 aq;have hnm:=NK w.1 h8;have hsh:=Gl w h8 hwb hwl;have hbn:=Jt hC w.1 h8 r J 0 hk.st aq
 have hdw:∀ v,v ∈ [AV.agg (uH w)]→v.deep:=by
  intro v hv;simp at hv;subst hv;exact j7 w
 obtain ⟨op,wb⟩:=w;simp only [uH] at *
 have hPB:∀ (N:Nat),5≤N→∀ p,p ∈ [((4:Nat),(⟨42,2,[[.d (.int .u8 (op:Int)),.d (nb wb)]]⟩:Blk))]→p.1<N∧3≤p.1:=by
  intro N hN p hp;simp at hp;subst hp;exact ⟨by show 4<N;omega,by show 3≤4;omega⟩
 simp [go_sem];refine ag hps hdw ?_;have hpA:Jo (eK (op,wb))=.tup [.d (nb ((eK (op,wb)).getD [])),.d (.bool (eK (op,wb)).isSome)]:=by cases eK (op,wb) <;> rfl
 rw [hpA];simp [go_sem];refine ag hnm a9 ?_;by_cases hA:(!lN op && (eK (op,wb)).isNone)=true
 ·have hv:mn x (op,wb) r=ay 10 r:=if_pos hA;rw [hv];have hA1:lN op=false:=by simp at hA;exact hA.1
  have hA2:eK (op,wb)=none:=by simp at hA;exact hA.2
  simp [go_sem,hA1,hA2];refine aQ (Pp:=[(4,⟨42,2,[[.d (.int .u8 (op:Int)),.d (nb wb)]]⟩)]) hC (bA hC r J 0 10) rfl aq (hPB _ aq) (by simp [AV.renL,AV.ren]) ?_;rintro v s' ρ rfl hρ;rw [bE];generalize ay 10 r=r';simp only [aH,bG,bF,id];simp [go_sem,ah];exact ⟨_,⟨J,rfl⟩,aC rfl rfl rfl⟩
 ·have hA':(lN op=true∧(eK (op,wb)).isSome=true) ∨ (lN op=true∧eK (op,wb)=none) ∨ (lN op=false∧(eK (op,wb)).isSome=true):=by
   cases h1:lN op
   ·cases h2:eK (op,wb)
    ·rw [h1,h2] at hA;simp at hA
    ·exact .inr (.inr ⟨rfl,rfl⟩)
   ·cases h2:eK (op,wb)
    ·exact .inr (.inl ⟨rfl,rfl⟩)
    ·exact .inl ⟨rfl,rfl⟩
  have hv0:mn x (op,wb) r=(match mU op r with
    | some r'=>r'
    | none=>if 0<gJ r then r else match eK (op,wb) with
     | some b=>if rL (op,wb) then dA b r else ay 11 r
     | none=>oe x op r):=if_neg hA
  cases hb:mU op r with
  | some r1 =>
   have hv:mn x (op,wb) r=r1:=by rw [hv0,hb]
   rw [hv];rw [hb] at hbn;rcases hA' with ⟨hn,hp⟩ | ⟨hn,hp⟩ | ⟨hn,hp⟩
   ·simp [go_sem,hn,hp];refine aQ (Pp:=[(4,⟨42,2,[[.d (.int .u8 (op:Int)),.d (nb wb)]]⟩)]) hC hbn (by first | rfl | simp [bE,aH,bG,bF]) aq (hPB _ aq) (by simp [AV.renL,AV.ren]) ?_;rintro v s' ρ ⟨rfl,J2,rfl⟩ hρ;simp [go_sem,AV.ren];rw [bE];exact ⟨_,⟨J2,rfl⟩,aC rfl rfl rfl⟩
   ·simp [go_sem,hn,hp];refine aQ (Pp:=[(4,⟨42,2,[[.d (.int .u8 (op:Int)),.d (nb wb)]]⟩)]) hC hbn (by first | rfl | simp [bE,aH,bG,bF]) aq (hPB _ aq) (by simp [AV.renL,AV.ren]) ?_;rintro v s' ρ ⟨rfl,J2,rfl⟩ hρ;simp [go_sem,AV.ren];rw [bE];exact ⟨_,⟨J2,rfl⟩,aC rfl rfl rfl⟩
   ·simp [go_sem,hn,hp];refine aQ (Pp:=[(4,⟨42,2,[[.d (.int .u8 (op:Int)),.d (nb wb)]]⟩)]) hC hbn (by first | rfl | simp [bE,aH,bG,bF]) aq (hPB _ aq) (by simp [AV.renL,AV.ren]) ?_;rintro v s' ρ ⟨rfl,J2,rfl⟩ hρ;simp [go_sem,AV.ren];rw [bE];exact ⟨_,⟨J2,rfl⟩,aC rfl rfl rfl⟩
  | none =>
   rw [hb] at hv0 hbn;by_cases hid:0<gJ r
   ·have hv:mn x (op,wb) r=r:=by rw [hv0];exact if_pos hid
    rw [hv];have hidi:(0:Int)<(gJ r:Int):=aq;rcases hA' with ⟨hn,hp⟩ | ⟨hn,hp⟩ | ⟨hn,hp⟩
    ·simp [go_sem,hn,hp];refine aQ (Pp:=[(4,⟨42,2,[[.d (.int .u8 (op:Int)),.d (nb wb)]]⟩)]) hC hbn (by first | rfl | simp [bE,aH,bG,bF]) aq (hPB _ aq) (by simp [AV.renL,AV.ren]) ?_;rintro v s' ρ ⟨rfl,J2,rfl⟩ hρ;rw [bE];simp only [aH,bG,bF,id];simp [go_sem,AV.ren,hl,hid];exact ⟨_,⟨J2,rfl⟩,aC rfl rfl rfl⟩
    ·simp [go_sem,hn,hp];refine aQ (Pp:=[(4,⟨42,2,[[.d (.int .u8 (op:Int)),.d (nb wb)]]⟩)]) hC hbn (by first | rfl | simp [bE,aH,bG,bF]) aq (hPB _ aq) (by simp [AV.renL,AV.ren]) ?_;rintro v s' ρ ⟨rfl,J2,rfl⟩ hρ;rw [bE];simp only [aH,bG,bF,id];simp [go_sem,AV.ren,hl,hid];exact ⟨_,⟨J2,rfl⟩,aC rfl rfl rfl⟩
    ·simp [go_sem,hn,hp];refine aQ (Pp:=[(4,⟨42,2,[[.d (.int .u8 (op:Int)),.d (nb wb)]]⟩)]) hC hbn (by first | rfl | simp [bE,aH,bG,bF]) aq (hPB _ aq) (by simp [AV.renL,AV.ren]) ?_;rintro v s' ρ ⟨rfl,J2,rfl⟩ hρ;rw [bE];simp only [aH,bG,bF,id];simp [go_sem,AV.ren,hl,hid];exact ⟨_,⟨J2,rfl⟩,aC rfl rfl rfl⟩
   ·have hid0:gJ r=0:=aq;have hnI:lN op=true ∨ lN op=false:=by cases lN op;exact .inr rfl;exact .inl rfl
    cases hpw:eK (op,wb) with
    | none =>
     have hn:lN op=true:=by rcases hA' with ⟨hn,hp⟩ | ⟨hn,hp⟩ | ⟨hn,hp⟩ <;> first | exact hn | (rw [hpw] at hp;simp at hp)
     have hv:mn x (op,wb) r=oe x op r:=by rw [hv0,hpw];exact if_neg hid
     rw [hv];simp [go_sem,hn,hpw];refine aQ (Pp:=[(4,⟨42,2,[[.d (.int .u8 (op:Int)),.d (nb wb)]]⟩)]) hC hbn (by first | rfl | simp [bE,aH,bG,bF]) aq (hPB _ aq) (by simp [AV.renL,AV.ren]) ?_;rintro v s' ρ ⟨rfl,J2,rfl⟩ hρ;rw [bE];simp only [aH,bG,bF,id];simp [go_sem,AV.ren,hl,hid0];refine aQ (Pp:=[(4,⟨42,2,[[.d (.int .u8 (op:Int)),.d (nb wb)]]⟩)]) (s:=⟨r,J2,0⟩) hC (OE F x E op h8 r J2 hk.st aq hk.bd) (by simp [bE,aH,bG,bF,hid0]) aq (hPB _ aq) (by simp [AV.renL,AV.ren]) ?_;rintro v s' ρ rfl hρ;rw [bE];generalize oe x op r=r';simp only [aH,bG,bF,id];simp [go_sem,ah];exact ⟨_,⟨J2,rfl⟩,aC rfl rfl rfl⟩
    | some b =>
     have hble:=Eb hpw;simp only at hble;by_cases hs:rL (op,wb)=true
     ·have hv:mn x (op,wb) r=dA b r:=by rw [hv0,hpw];exact (if_neg hid).trans (if_pos hs)
      rw [hv];rw [hs] at hsh;rcases hnI with hn | hn
      ·simp [go_sem,hn,hpw];refine aQ (Pp:=[(4,⟨42,2,[[.d (.int .u8 (op:Int)),.d (nb wb)]]⟩)]) hC hbn (by first | rfl | simp [bE,aH,bG,bF]) aq (hPB _ aq) (by simp [AV.renL,AV.ren]) ?_;rintro v s' ρ ⟨rfl,J2,rfl⟩ hρ;rw [bE];simp only [aH,bG,bF,id];simp [go_sem,AV.ren,hl,hid0];refine ag hsh hdw ?_;simp [go_sem];refine aQ (Pp:=[(4,⟨42,2,[[.d (.int .u8 (op:Int)),.d (nb wb)]]⟩)]) (s:=⟨r,J2,0⟩) hC (oP hC r J2 0 hk.st b aq) (by simp [bE,aH,bG,bF,hid0]) aq (hPB _ aq) (by simp [AV.renL,AV.ren]) ?_;rintro v s' ρ rfl hρ;rw [bE];generalize dA b r=r';simp only [aH,bG,bF,id];simp [go_sem,ah];exact ⟨_,⟨J2,rfl⟩,aC rfl rfl rfl⟩
      ·simp [go_sem,hn,hpw];refine aQ (Pp:=[(4,⟨42,2,[[.d (.int .u8 (op:Int)),.d (nb wb)]]⟩)]) hC hbn (by first | rfl | simp [bE,aH,bG,bF]) aq (hPB _ aq) (by simp [AV.renL,AV.ren]) ?_;rintro v s' ρ ⟨rfl,J2,rfl⟩ hρ;rw [bE];simp only [aH,bG,bF,id];simp [go_sem,AV.ren,hl,hid0];refine ag hsh hdw ?_;simp [go_sem];refine aQ (Pp:=[(4,⟨42,2,[[.d (.int .u8 (op:Int)),.d (nb wb)]]⟩)]) (s:=⟨r,J2,0⟩) hC (oP hC r J2 0 hk.st b aq) (by simp [bE,aH,bG,bF,hid0]) aq (hPB _ aq) (by simp [AV.renL,AV.ren]) ?_;rintro v s' ρ rfl hρ;rw [bE];generalize dA b r=r';simp only [aH,bG,bF,id];simp [go_sem,ah];exact ⟨_,⟨J2,rfl⟩,aC rfl rfl rfl⟩
     ·have hs0:rL (op,wb)=false:=by simpa using hs
      have hv:mn x (op,wb) r=ay 11 r:=by rw [hv0,hpw];exact (if_neg hid).trans (if_neg hs)
      rw [hv];rw [hs0] at hsh;rcases hnI with hn | hn
      ·simp [go_sem,hn,hpw];refine aQ (Pp:=[(4,⟨42,2,[[.d (.int .u8 (op:Int)),.d (nb wb)]]⟩)]) hC hbn (by first | rfl | simp [bE,aH,bG,bF]) aq (hPB _ aq) (by simp [AV.renL,AV.ren]) ?_;rintro v s' ρ ⟨rfl,J2,rfl⟩ hρ;rw [bE];simp only [aH,bG,bF,id];simp [go_sem,AV.ren,hl,hid0];refine ag hsh hdw ?_;simp [go_sem];refine aQ (Pp:=[(4,⟨42,2,[[.d (.int .u8 (op:Int)),.d (nb wb)]]⟩)]) (s:=⟨r,J2,0⟩) hC (bA hC r J2 0 11) (by simp [bE,aH,bG,bF,hid0]) aq (hPB _ aq) (by simp [AV.renL,AV.ren]) ?_;rintro v s' ρ rfl hρ;rw [bE];generalize ay 11 r=r';simp only [aH,bG,bF,id];simp [go_sem,ah];exact ⟨_,⟨J2,rfl⟩,aC rfl rfl rfl⟩
      ·simp [go_sem,hn,hpw];refine aQ (Pp:=[(4,⟨42,2,[[.d (.int .u8 (op:Int)),.d (nb wb)]]⟩)]) hC hbn (by first | rfl | simp [bE,aH,bG,bF]) aq (hPB _ aq) (by simp [AV.renL,AV.ren]) ?_;rintro v s' ρ ⟨rfl,J2,rfl⟩ hρ;rw [bE];simp only [aH,bG,bF,id];simp [go_sem,AV.ren,hl,hid0];refine ag hsh hdw ?_;simp [go_sem];refine aQ (Pp:=[(4,⟨42,2,[[.d (.int .u8 (op:Int)),.d (nb wb)]]⟩)]) (s:=⟨r,J2,0⟩) hC (bA hC r J2 0 11) (by simp [bE,aH,bG,bF,hid0]) aq (hPB _ aq) (by simp [AV.renL,AV.ren]) ?_;rintro v s' ρ rfl hρ;rw [bE];generalize ay 11 r=r';simp only [aH,bG,bF,id];simp [go_sem,ah];exact ⟨_,⟨J2,rfl⟩,aC rfl rfl rfl⟩
theorem EV {s:be} {a b:Nat} {w:Wd} (hb:bytes s) (ha:a<s.length) (h:mT s a=some (w,b)):a<b∧b≤s.length∧w.1<256∧bytes w.2∧w.2.length≤s.length:=by
 obtain ⟨op,r,hd⟩:∃ op r,s.drop a=op :: r:=by
  rcases h:s.drop a with _ | ⟨op,r⟩
  ·have:=congrArg List.length h;simp at this;omega
  ·exact ⟨op,r,rfl⟩
 have hdb:bytes (op :: r):=fun x hx=>hb x (by rw [← hd] at hx;exact List.mem_of_mem_drop hx)
 have hrs:a+(r.length+1)=s.length:=by
  have:=congrArg List.length hd;simp at this;omega
 unfold mT at h;rw [hd] at h
 cases hw:io (op :: r) with
 | none=>rw [hw] at h;cases h
 | some p =>
  obtain ⟨n,hh⟩:=p;obtain ⟨t1,t2,t3⟩:=zQ hdb hw;rw [hw] at h;simp only [List.length_cons,List.headD_cons] at h
  split at h
  ·cases h
  ·rename_i hq;simp only [Option.some.injEq,Prod.mk.injEq] at h;obtain ⟨rfl,rfl⟩:=h;refine ⟨aq,aq,hdb op aw,fun y hy=>hdb y (List.mem_of_mem_drop (List.mem_of_mem_take hy)),?_⟩;simp;omega
theorem OH (F:RnF) (x:Rx) (E:RnE F x) (hsb:bytes F.script) (hsl:F.script.length≤1000) (hx:∀ s o0 o1 bk,(x.trg s o0 o1 bk).1.length≤2) (r:Rn) (J:List Bool) (hk:RnOk r 0) :
  cO Tryz.prog 3 (aH (gB F)) 98 ⟨r,J,0⟩ [.ptr 0 0 0 1] (fun v s'=>∃ J',s'=⟨j6 x F.script (F.script.length+1) 0 r,J',0⟩):=by
 refine al Tryz.func98 (by kernel_rfl) rfl Tryz.ntmps98 (rs:=[]) rfl (dT rfl) (by decide) ?_;have hC:=ej (F:=F) E.hi;have hl:=hC.2.2
 have h39:∀ l:List AV,(gB F ++ l)[39]?=some (.d (.ro 1 (F.script.map fun (b:Nat)=>[.int .u8 (b:Int)]))):=fun l=>by
  unfold gB aT;rw [cA,dn (by simp [eS])];simp only [eS,List.length_cons,List.length_nil,cA];rw [dn (by rw [am,E.hi];omega),am,E.hi];rfl
 generalize hW:j6 x F.script (F.script.length+1) 0 r=W;simp [go_sem]
 have hwk:∀ (fr:Fr) (hp:Hp) (nx a:Nat) (r':Rn) (J':List Bool),(fv 0 fr=.ptr 0 0 0 1∧fv 2 fr=.d (.int .i64 (a:Int)))→(∀ p,p ∈ ie 3 (aH (gB F)) ⟨r',J',0⟩ id→lk p.1 hp=some p.2) →
   aA ⟨fr,hp,nx⟩ ⟨[(0,.ptr 0 0 0 1),(2,.d (.int .i64 (a:Int)))],ie 3 (aH (gB F)) ⟨r',J',0⟩ id,9000⟩:=by
  rintro fr hp nx a r' J' ⟨q0,q1⟩ h2;refine ⟨?_,WP hC (dT rfl) h2,.inr (by show 64≤9000;omega)⟩;intro p hp';simp only [d_,List.mem_nil_iff,or_false] at hp';rcases hp' with rfl | rfl
  ·exact ⟨.inl q0.symm,by simp [AV.low,AV.low1]⟩
  ·exact ⟨.inl q1.symm,by simp [AV.low,AV.low1]⟩
 refine ar (fun u:Nat × Nat × Rn × List Bool=>⟨[(0,.ptr 0 0 0 1),(2,.d (.int .i64 (u.1:Int)))],ie 3 (aH (gB F)) ⟨u.2.2.1,u.2.2.2,0⟩ id,9000⟩)
  (fun u=>u.1≤F.script.length∧F.script.length+1≤u.2.1+u.1∧RnOk u.2.2.1 u.1∧j6 x F.script u.2.1 u.1 u.2.2.1=W) (fun u=>F.script.length - u.1) (0,F.script.length+1,r,J) ⟨aq,by show _≤F.script.length+1+0;omega,hk,hW⟩
  (hwk _ _ _ 0 r J (by simp [fv,lk]) (qd rfl rfl rfl)) ?_
 rintro ⟨a,f,r',J'⟩ ⟨ha,hf,hr,hw⟩;simp only at ha hf hr hw;obtain ⟨f,rfl⟩:∃ f',f=f'+1:=⟨f - 1,aq⟩;rw [j6] at hw;simp only;by_cases hlt:a<F.script.length
 ·have hlti:(a:Int)<(F.script.length:Int):=aq;rw [bE];simp only [aH,bG,bF,id];simp [go_sem,hlt,hlti,h39];refine aQ (Pp:=[]) (s:=⟨r',J',0⟩) hC (eE hC r' J' 0) (by simp [bE,aH,bG,bF]) aq aw (by simp [AV.renL,AV.ren]) ?_;rintro v s' ρ ⟨rfl,rfl⟩ hρ;by_cases he:r'.e=0
  ·rw [if_pos ⟨hlt,he⟩] at hw;have hnx:=Jn F.script a hsb aq hlt;rw [bE];simp only [aH,bG,bF,id];simp [go_sem,AV.ren,he,h39];refine ag hnx a9 ?_
   cases hq:mT F.script a with
   | none =>
    rw [hq] at hw;subst hw;simp [go_sem,Jm,uH];refine aQ (Pp:=[(9736,⟨42,2,[[.d (.int .u8 0),.d (nb [])]]⟩)]) (s:=⟨r',J',0⟩) hC (bA hC r' J' 0 2) (by simp [bE,aH,bG,bF,he]) aq (by intro p hp;simp at hp;subst hp;simp) (by simp [AV.renL,AV.ren]) ?_;rintro v s' ρ rfl hρ;rw [bE];generalize ay 2 r'=r2;simp only [aH,bG,bF,id];simp [go_sem,ah];exact ⟨_,⟨J',rfl⟩,aC rfl rfl rfl⟩
   | some p =>
    obtain ⟨w,b⟩:=p;rw [hq] at hw;obtain ⟨n1,n2,n3,n4,n5⟩:=EV hsb hlt hq;have hwm:=TA F x E w n3 n4 aq r' J' a hr aq;have hok:=ll (KR hr x E.hh.1 E.hh.2 hx w n3 n4) (show a+1≤b by omega);simp only [uH] at hwm;simp [go_sem,Jm,uH];refine aQ (Pp:=[(9736,⟨42,2,[[.d (.int .u8 (w.1:Int)),.d (nb w.2)]]⟩)]) (s:=⟨r',J',0⟩) hC hwm (by simp [bE,aH,bG,bF,he]) aq (by intro p hp;simp at hp;subst hp;simp) (fun ρ=>rfl) ?_;rintro v s' ρ ⟨J2,rfl⟩ hρ;simp [go_sem];refine ao (b,f,mn x w r',J2) ⟨n2,by show _≤f+b;omega,hok,hw⟩ (by show F.script.length - b<F.script.length - a;omega) (hwk _ _ _ b _ _ (by simp [fv,lk]) (qd rfl rfl rfl))
  ·rw [if_neg (fun h=>he h.2)] at hw;subst hw;simp [go_sem,AV.ren,he];rw [bE];exact ⟨_,⟨J',rfl⟩,aC rfl rfl rfl⟩
 ·rw [if_neg (fun h=>hlt h.1)] at hw;subst hw;have hlti:¬ (a:Int)<(F.script.length:Int):=aq;rw [bE];simp only [aH,bG,bF,id];simp [go_sem,hlt,hlti,h39];exact ⟨_,⟨J',rfl⟩,aC rfl rfl rfl⟩
def rW (r1:Rn):Rn:=if r1.main.length=1∧jX (r1.main.headD [])=true then r1 else ay 25 r1
theorem WY {C:List AV} (hC:iD C) (r:Rn) (J:List Bool) (H:Nat) (hk:StOk r.main r.alt):cO Tryz.prog 3 (aH C) 99 ⟨r,J,H⟩ [.ptr 0 0 0 1] (fun v s'=>s'=⟨lg r,J,H⟩):=by
 refine al Tryz.func99 (by kernel_rfl) rfl Tryz.ntmps99 (rs:=[]) rfl (dT rfl) (by decide) ?_;have hl:=hC.2.2;by_cases hb:0<r.br.length
 ·have hR:lg r=rW (ay 18 r):=by simp only [lg,if_pos hb,rW]
  rw [hR];have hkb:StOk (ay 18 r).main (ay 18 r).alt:=fZ hk;have hbi:(0:Int)<(r.br.length:Int):=aq;have hf:=bA hC r J H 18;generalize ay 18 r=r1 at *;rw [bE];simp only [aH,bG,bF,id];simp [go_sem,hl,hb,hbi];refine aQ (Pp:=[]) (s:=⟨r,J,H⟩) hC hf (by simp [bE,aH,bG,bF]) aq aw (by simp [AV.renL,AV.ren]) ?_;rintro v s' ρ rfl hρ;obtain ⟨main,alt,br,bud,cl,e⟩:=r1;simp only at hkb;rcases main with _ | ⟨y,_ | ⟨z,l⟩⟩
  ·have hv:rW ⟨[],alt,br,bud,cl,e⟩=ay 25 ⟨[],alt,br,bud,cl,e⟩:=rfl;rw [hv,bE];simp only [aH,bG,bF,id];simp [go_sem,hl];refine aQ (Pp:=[]) (s:=⟨⟨[],alt,br,bud,cl,e⟩,J,H⟩) hC (bA hC ⟨[],alt,br,bud,cl,e⟩ J H 25) (by simp [bE,aH,bG,bF,bD]) aq aw (by simp [AV.renL,AV.ren]) ?_;rintro v s' ρ rfl hρ;rw [bE];generalize ay 25 ⟨[],alt,br,bud,cl,e⟩=r';simp only [aH,bG,bF,id];simp [go_sem,ah];exact aC rfl rfl rfl
  ·obtain ⟨y1,y2⟩:=hkb.mb y aw;have htr:=mR y y2 aq;rw [bE];simp only [aH,bG,bF,id];by_cases ht:jX y=true
   ·have hv:rW ⟨[y],alt,br,bud,cl,e⟩=⟨[y],alt,br,bud,cl,e⟩:=if_pos ⟨rfl,ht⟩;rw [hv];rw [ht] at htr;simp [go_sem,hl,bD];refine ag htr a9 ?_;simp [go_sem,ah];exact aC rfl rfl rfl
   ·have hv:rW ⟨[y],alt,br,bud,cl,e⟩=ay 25 ⟨[y],alt,br,bud,cl,e⟩:=if_neg (fun h=>ht h.2);rw [hv];rw [show jX y=false by simpa using ht] at htr;simp [go_sem,hl,bD];refine ag htr a9 ?_;simp [go_sem];refine aQ (Pp:=[]) (s:=⟨⟨[y],alt,br,bud,cl,e⟩,J,H⟩) hC (bA hC ⟨[y],alt,br,bud,cl,e⟩ J H 25) (by simp [bE,aH,bG,bF,bD]) aq aw (by simp [AV.renL,AV.ren]) ?_;rintro v s' ρ rfl hρ;rw [bE];generalize ay 25 ⟨[y],alt,br,bud,cl,e⟩=r';simp only [aH,bG,bF,id];simp [go_sem,ah];exact aC rfl rfl rfl
  ·have hv:rW ⟨y :: z :: l,alt,br,bud,cl,e⟩=ay 25 ⟨y :: z :: l,alt,br,bud,cl,e⟩:=if_neg (fun h=>by simp at h);have hn2:¬ (l.length:Int)+1+1=1:=aq;rw [hv,bE];simp only [aH,bG,bF,id];simp [go_sem,hl,hn2];refine aQ (Pp:=[]) (s:=⟨⟨y :: z :: l,alt,br,bud,cl,e⟩,J,H⟩) hC (bA hC ⟨y :: z :: l,alt,br,bud,cl,e⟩ J H 25) (by simp [bE,aH,bG,bF,bD]) aq aw (by simp [AV.renL,AV.ren]) ?_;rintro v s' ρ rfl hρ;rw [bE];generalize ay 25 ⟨y :: z :: l,alt,br,bud,cl,e⟩=r';simp only [aH,bG,bF,id];simp [go_sem,ah];exact aC rfl rfl rfl
 ·have hR:lg r=rW r:=by simp only [lg,if_neg hb,rW]
  rw [hR];have hkb:=hk;have hbi:¬ (0:Int)<(r.br.length:Int):=aq;obtain ⟨r1,rfl⟩:∃ r1,r1=r:=⟨r,rfl⟩;obtain ⟨main,alt,br,bud,cl,e⟩:=r1;simp only at hkb hb hbi;rcases main with _ | ⟨y,_ | ⟨z,l⟩⟩
  ·have hv:rW ⟨[],alt,br,bud,cl,e⟩=ay 25 ⟨[],alt,br,bud,cl,e⟩:=rfl;rw [hv,bE];simp only [aH,bG,bF,id];simp [go_sem,hl,hb,hbi];refine aQ (Pp:=[]) (s:=⟨⟨[],alt,br,bud,cl,e⟩,J,H⟩) hC (bA hC ⟨[],alt,br,bud,cl,e⟩ J H 25) (by simp [bE,aH,bG,bF,bD]) aq aw (by simp [AV.renL,AV.ren]) ?_;rintro v s' ρ rfl hρ;rw [bE];generalize ay 25 ⟨[],alt,br,bud,cl,e⟩=r';simp only [aH,bG,bF,id];simp [go_sem,ah];exact aC rfl rfl rfl
  ·obtain ⟨y1,y2⟩:=hkb.mb y aw;have htr:=mR y y2 aq;rw [bE];simp only [aH,bG,bF,id];by_cases ht:jX y=true
   ·have hv:rW ⟨[y],alt,br,bud,cl,e⟩=⟨[y],alt,br,bud,cl,e⟩:=if_pos ⟨rfl,ht⟩;rw [hv];rw [ht] at htr;simp [go_sem,hl,bD,hb,hbi];refine ag htr a9 ?_;simp [go_sem,ah];exact aC rfl rfl rfl
   ·have hv:rW ⟨[y],alt,br,bud,cl,e⟩=ay 25 ⟨[y],alt,br,bud,cl,e⟩:=if_neg (fun h=>ht h.2);rw [hv];rw [show jX y=false by simpa using ht] at htr;simp [go_sem,hl,bD,hb,hbi];refine ag htr a9 ?_;simp [go_sem];refine aQ (Pp:=[]) (s:=⟨⟨[y],alt,br,bud,cl,e⟩,J,H⟩) hC (bA hC ⟨[y],alt,br,bud,cl,e⟩ J H 25) (by simp [bE,aH,bG,bF,bD]) aq aw (by simp [AV.renL,AV.ren]) ?_;rintro v s' ρ rfl hρ;rw [bE];generalize ay 25 ⟨[y],alt,br,bud,cl,e⟩=r';simp only [aH,bG,bF,id];simp [go_sem,ah];exact aC rfl rfl rfl
  ·have hv:rW ⟨y :: z :: l,alt,br,bud,cl,e⟩=ay 25 ⟨y :: z :: l,alt,br,bud,cl,e⟩:=if_neg (fun h=>by simp at h);have hn2:¬ (l.length:Int)+1+1=1:=aq;rw [hv,bE];simp only [aH,bG,bF,id];simp [go_sem,hl,hn2,hb,hbi];refine aQ (Pp:=[]) (s:=⟨⟨y :: z :: l,alt,br,bud,cl,e⟩,J,H⟩) hC (bA hC ⟨y :: z :: l,alt,br,bud,cl,e⟩ J H 25) (by simp [bE,aH,bG,bF,bD]) aq aw (by simp [AV.renL,AV.ren]) ?_;rintro v s' ρ rfl hρ;rw [bE];generalize ay 25 ⟨y :: z :: l,alt,br,bud,cl,e⟩=r';simp only [aH,bG,bF,id];simp [go_sem,ah];exact aC rfl rfl rfl
def GB (F:RnF) (x:Rx) (start:List be) (bud:Int):AV :=
 if bM F.t (F.n:Int) F.coins ≠ 0 ∨ 1000<F.script.length then .tup [.d (.ro 2 []),.d (.int .i64 1)]
 else .tup [.d (.ro 2 ((mo x F.script start bud).1.map fl)),.d (.int .i64 (mo x F.script start bud).2)]
theorem rm (t:Tn) (n:Int) (coins:List (Nat × List Nat)):bM t n coins=0 ∨ bM t n coins=1:=by
 rcases lJ t n coins with h | h
 ·exact .inr h
 ·exact .inl h.1
theorem uj (F:RnF) (start:List be) (bud:Int):∀ v,v ∈ [AV.agg (eS F.t (F.n:Int) F.coins),cQ F.inner F.path F.script,.d (.ro 1 (start.map bD)),.d (nb F.annex),.d (.int .i64 bud)]→v.deep:=by
 intro v hv;simp at hv;rcases hv with rfl | rfl | rfl | rfl | rfl
 ·simp [AV.deep,AV.deep1,eS]
 ·exact cX F.inner F.path F.script _ (List.mem_singleton.2 rfl)
 ·trivial
 ·trivial
 ·trivial
def KT:List AV:=[.d (.int .u32 0),.nil,.nil,.d (.int .u32 0),.d (.int .i64 0),.nil] ++ (cb z32 ++ [.nil,.nil,.nil,.nil,.nil,.nil,.d (.int .i64 0),.d (.int .i64 0),.nil,.d (.int .i64 0)])
theorem YW:eV Tryz.prog 158=some KT:=by kernel_rfl
theorem KU:KT.length=48:=rfl
theorem KV:List.drop 40 KT=[.nil,.nil,.nil,.nil,.d (.int .i64 0),.d (.int .i64 0),.nil,.d (.int .i64 0)]:=rfl
theorem WZ {L:List AV} (h:L.length=34) (k:Nat) (l:List AV):List.take (34+k) (L ++ l)=L ++ List.take k l:=by
 rw [List.take_append,cx aq,h,Nat.add_sub_cancel_left]
theorem TB {L:List AV} (h:L.length=34) (k:Nat) (l:List AV):List.drop (34+k) (L ++ l)=List.drop k l:=by
 rw [List.drop_append,c_ aq,h,Nat.add_sub_cancel_left,List.nil_append]
def fR (j:Nat):Nat:=640+1000*j
theorem TC:oI 3 fR:=by
 intro i j hi hj h;unfold fR at h;omega
theorem TD (C:List AV) (s:RnS):ie 3 (aH C) s fR=[(640,aH C s fR 0),(1640,aH C s fR 1),(2640,aH C s fR 2)]:=rfl
theorem EW {C:List AV} (hC:iD C) {N:Nat} {hp:Hp} {g:FuncId} {s:RnS} {ars:List AV} {R:AV→RnS→Prop} {K:AV→Hp→Prop} (h:cO Tryz.prog 3 (aH C) g s (.ptr 0 0 0 1 :: ars) R) (he:hp=ie 3 (aH C) s fR) (hN:2641≤N) (has:∀ ρ,AV.renL ρ ars=ars)
  (hK:∀ v s' ρ,R v s'→K (v.ren ρ) (ie 3 (aH C) s' fR)):rY Tryz.prog g (.ptr 640 0 0 1 :: ars) hp N K:=by
 subst he;refine sn (Pp:=[]) (qY hC) h TC (fun j hj=>by unfold fR;omega) aw ?_ fun v s' ρ hR _=>hK v s' ρ hR;rw [AV.renL,has,AV.ren];rfl
theorem KW (x:Rx) (h1:x.h1=bq) (h2:x.h2=dW) (hx:∀ s o0 o1 bk,(x.trg s o0 o1 bk).1.length≤2) {s:be} (hb:bytes s):∀ (f a:Nat) (r:Rn),RnOk r a→∃ k,RnOk (j6 x s f a r) k
 | 0,a,r,h=>⟨a,h⟩
 | f+1,a,r,h=>by
  rw [j6]
  split
  ·rename_i hc
   cases hq:mT s a with
   | none=>exact ⟨a,nc h (fQ h.st h.bd 2)⟩
   | some p =>
    obtain ⟨w,b⟩:=p;obtain ⟨n1,n2,n3,n4,n5⟩:=EV hb hc.1 hq;exact KW x h1 h2 hx hb f b _ (ll (KR h x h1 h2 hx w n3 n4) aq)
  ·exact ⟨a,h⟩
theorem TE (F:RnF) (x:Rx) (start:List be) (bud:Int) (ht:Sm F.t) (hc:F.coins.length≤1000) (hi:F.inner.length=32) (hsb:bytes F.script) (hst:StOk start []) (hbd:gh bud)
  (E:bM F.t (F.n:Int) F.coins=0→F.script.length≤1000→RnE F x) (hx:∀ s o0 o1 bk,(x.trg s o0 o1 bk).1.length≤2) :
  ax Tryz.prog 53 [.agg (eS F.t (F.n:Int) F.coins),cQ F.inner F.path F.script,.d (.ro 1 (start.map bD)),.d (nb F.annex),.d (.int .i64 bud)] (fun v=>v=GB F x start bud):=by
 have hck:=kY F.t (F.n:Int) F.coins ht hc;have hlf:(aT F.inner (AV.d (da F.path)) (AV.d (nb F.script))).length=34:=by simp [aT,am,hi]
 have hlt:List.take 34 (aT F.inner (AV.d (da F.path)) (AV.d (nb F.script)))=aT F.inner (AV.d (da F.path)) (AV.d (nb F.script)):=cx (by rw [hlf];omega)
 have h33:(aT F.inner (AV.d (da F.path)) (AV.d (nb F.script)))[33]?=some (.d (.ro 1 (F.script.map fun (b:Nat)=>[.int .u8 (b:Int)]))):=by
  unfold aT;rw [dn (by rw [am,hi];omega),am,hi];rfl
 have hdS:∀ v,v ∈ [AV.agg (eS F.t (F.n:Int) F.coins)]→v.deep:=by simp [AV.deep,AV.deep1,eS]
 simp only [eS] at hck hdS;by_cases hs:1000<F.script.length
 ·have hR:GB F x start bud=.tup [.d (.ro 2 []),.d (.int .i64 1)]:=if_pos (.inr hs);rw [hR];have hsi:(1000:Int)<(F.script.length:Int):=aq;refine bO Tryz.func53 Tryz.ntmps53 (rs:=[.tmp 10,.tmp 11]) (uj F start bud) ?_;simp [go_sem,cQ,eS,hlf,hlt];refine ag hck hdS ?_;rcases rm F.t (F.n:Int) F.coins with h | h
  ·simp [go_sem,h,h33,hs,hsi,ah];exact dD (cs':=[.d (.ro 2 []),.d (.int .i64 1)]) (ap (ak (.nil 2)) (ap (bc trivial) bB)) rfl a9 rfl
  ·simp [go_sem,h,ah];exact dD (cs':=[.d (.ro 2 []),.d (.int .i64 1)]) (ap (ak (.nil 2)) (ap (bc trivial) bB)) rfl a9 rfl
 ·rcases rm F.t (F.n:Int) F.coins with h | h
  ·have hR:GB F x start bud=.tup [.d (.ro 2 ((mo x F.script start bud).1.map fl)),.d (.int .i64 (mo x F.script start bud).2)]:=if_neg (by rw [h];simp;omega);rw [hR];have E:=E h aq;rw [h] at hck;have hsi:¬ (1000:Int)<(F.script.length:Int):=aq;refine FR Tryz.func53 (by kernel_rfl) rfl Tryz.ntmps53 (rs:=[.tmp 10,.tmp 11]) rfl (dT rfl) (uj F start bud) ?_;refine xi (lD ?_);simp [go_sem,cQ,eS,hlf,hlt];simp only [Ba];refine xi (lD ?_);simp [go_sem,hlf,hlt];refine ag hck hdS ?_;simp [go_sem,h33,hs,hsi];simp only [Ba];refine xi (lD ?_);have t35:∀ l,List.take 35 (aT F.inner (AV.d (da F.path)) (AV.d (nb F.script)) ++ l)=aT F.inner (AV.d (da F.path)) (AV.d (nb F.script)) ++ List.take 1 l:=WZ hlf 1;have t39:∀ l,List.take 39 (aT F.inner (AV.d (da F.path)) (AV.d (nb F.script)) ++ l)=aT F.inner (AV.d (da F.path)) (AV.d (nb F.script)) ++ List.take 5 l:=WZ hlf 5;have d35:∀ l,List.drop 35 (aT F.inner (AV.d (da F.path)) (AV.d (nb F.script)) ++ l)=List.drop 1 l:=TB hlf 1;have d37:∀ l,List.drop 37 (aT F.inner (AV.d (da F.path)) (AV.d (nb F.script)) ++ l)=List.drop 3 l:=TB hlf 3;have d40:∀ l,List.drop 40 (aT F.inner (AV.d (da F.path)) (AV.d (nb F.script)) ++ l)=List.drop 6 l:=TB hlf 6;simp [go_sem,hlf,hlt,YW,KU,KV,t35,t39,d35,d37,d40];simp only [Ba];have hC:=ej (F:=F) hi;refine IK (st':=⟨[(12,.ptr 640 0 0 1)],[(640,⟨158,48,[gB F ++ [.d (.ro 1 (start.map bD)),.nil,.nil,.d (.int .i64 0),.d (.int .i64 bud),.nil,.d (.int .i64 0)]]⟩),(1640,⟨4,1,[]⟩),(2640,⟨55,2,[]⟩)],9000⟩) (cz ⟨by simp [ai,fv,lk,AV.low,AV.low1],?_,aw⟩) ?_
   ·intro p hp;simp only [d_,List.mem_nil_iff,or_false] at hp;rcases hp with rfl | rfl | rfl
    ·refine ⟨.inl (by simp [lk,gB,eS]),by show 640<9000;omega,?_⟩;intro q hq v hv;simp only [d_,List.mem_nil_iff,or_false] at hq;subst hq;rcases cD.1 hv with h | h
     ·exact hC.2.1 v h _
     ·simp only [d_,List.mem_nil_iff,or_false] at h;rcases h with rfl | rfl | rfl | rfl | rfl | rfl | rfl <;> trivial
    ·exact ⟨.inr ⟨by show 704≤1640;omega,rfl⟩,by show 1640<9000;omega,by intro q hq;simp at hq⟩
    ·exact ⟨.inr ⟨by show 704≤2640;omega,rfl⟩,by show 2640<9000;omega,by intro q hq;simp at hq⟩
   refine IK (st':=⟨[(12,.ptr 640 0 0 1)],ie 3 (aH (gB F)) ⟨⟨start,[],[],bud,[],0⟩,[],0⟩ fR,9000⟩) ?_ ?_
   ·refine FSa (st:=⟨_,_,9000⟩) (L:=640) (b:=⟨158,48,[gB F ++ [.d (.ro 1 (start.map bD)),.nil,.nil,.d (.int .i64 0),.d (.int .i64 bud),.nil,.d (.int .i64 0)]]⟩) (es':=[bG (gB F) ⟨⟨start,[],[],bud,[],0⟩,[],0⟩ fR]) rfl aw rfl ?_;intro i y y' h1 h2
    match i with
    | 0 =>
     simp only [List.getElem?_cons_zero,Option.some.injEq] at h1 h2;subst h1 h2;refine ⟨by simp [bG,bF],fun j v v' a1 a2=>?_⟩;unfold bG bF at a2;by_cases hj:j<41
     ·rw [List.getElem?_append_left (by rw [hC.2.2];exact hj)] at a1 a2;rw [a1] at a2;exact .inl (Option.some.inj a2).symm
     ·rw [dn (by rw [hC.2.2];omega),hC.2.2] at a1 a2;generalize j - 41=k at a1 a2
      match k,a1,a2 with
      | 0,a1,a2=>cases a1;cases a2;exact .inl rfl
      | 1,a1,a2=>cases a1;cases a2;exact .inr (.inr ⟨rfl,1,rfl⟩)
      | 2,a1,a2=>cases a1;cases a2;exact .inr (.inl ⟨rfl,1640,by show 1640<9000;omega,rfl⟩)
      | 3,a1,a2=>cases a1;cases a2;exact .inl rfl
      | 4,a1,a2=>cases a1;cases a2;exact .inl rfl
      | 5,a1,a2=>cases a1;cases a2;exact .inr (.inl ⟨rfl,2640,by show 2640<9000;omega,rfl⟩)
      | 6,a1,a2=>cases a1;cases a2;exact .inl rfl
      | k+7,a1,a2=>cases a1
    | i+1=>simp at h1
   refine lD ?_;have hcs:=zK start [] (by have:=hst.m;omega) aw;have hfl:=bA hC ⟨start,[],[],bud,[],0⟩ [] 0 (fw start []);have hok0:RnOk ⟨start,[],[],bud,[],0⟩ 0:=⟨hst,hbd,aw,aw⟩;have hok1:=nc hok0 (fQ hok0.st hok0.bd (fw start []));rw [TD];simp only [aH,bG,bF,id,jD] at *;simp [go_sem,hC.2.2];refine ag hcs (by intro v hv;simp at hv;subst hv;exact eJ start []) ?_;simp [go_sem];have hRun:mo x F.script start bud=(if (lg (j6 x F.script (F.script.length+1) 0 (ay (fw start []) ⟨start,[],[],bud,[],0⟩))).e=0 then ((lg (j6 x F.script (F.script.length+1) 0 (ay (fw start []) ⟨start,[],[],bud,[],0⟩))).cl,0) else ([],(lg (j6 x F.script (F.script.length+1) 0 (ay (fw start []) ⟨start,[],[],bud,[],0⟩))).e)):=rfl;rw [hRun];clear hRun hR;refine EW hC hfl (by simp [TD,aH,bG,bF]) aq (by simp [AV.renL,AV.ren]) ?_;rintro v s' ρ rfl;clear hfl hcs;generalize ay (fw start []) ⟨start,[],[],bud,[],0⟩=r1 at *;simp [go_sem];refine EW hC (OH F x E hsb aq hx r1 [] hok1) rfl aq (fun ρ=>rfl) ?_;rintro v s' ρ ⟨J',rfl⟩;obtain ⟨k,hok2⟩:=KW x E.hh.1 E.hh.2 hx hsb (F.script.length+1) 0 r1 hok1;generalize j6 x F.script (F.script.length+1) 0 r1=r2 at *;simp [go_sem];refine EW hC (WY hC r2 J' 0 hok2.st) rfl aq (fun ρ=>rfl) ?_;rintro v s' ρ rfl;generalize lg r2=r3 at *;simp [go_sem];refine EW hC (eE hC r3 J' 0) rfl aq (fun ρ=>rfl) ?_;rintro v s' ρ ⟨rfl,rfl⟩;rw [TD];simp only [aH,bG,bF];by_cases he:r3.e=0
   ·rw [if_pos he];simp [go_sem,AV.ren,he,hC.2.2,ah];exact dD (cs':=[.d (.ro 2 (r3.cl.map fl)),.d (.int .i64 0)]) (ap (ak (EJ (id:=2640) (ty:=55) (by simp [lk,G6]) trivial)) (ap (bc trivial) bB)) rfl a9 rfl
   ·rw [if_neg he];simp [go_sem,AV.ren,he];refine cf [0,1,2,3,4,5] [] 0 (k:=6) ?_;intro G hG;simp [go_sem,AV.ren,he,hC.2.2];refine hG _ _ ?_;clear hG G;simp [go_sem,ah];exact dD (cs':=[.d (.ro 2 []),.d (.int .i64 r3.e)]) (ap (ak (.nil 2)) (ap (bc trivial) bB)) rfl a9 rfl
  ·have hR:GB F x start bud=.tup [.d (.ro 2 []),.d (.int .i64 1)]:=if_pos (.inl (by rw [h];omega));rw [hR];rw [h] at hck;refine bO Tryz.func53 Tryz.ntmps53 (rs:=[.tmp 10,.tmp 11]) (uj F start bud) ?_;simp [go_sem,cQ,eS,hlf,hlt];refine ag hck hdS ?_;simp [go_sem,ah];exact dD (cs':=[.d (.ro 2 []),.d (.int .i64 1)]) (ap (ak (.nil 2)) (ap (bc trivial) bB)) rfl a9 rfl
theorem EX {b:List Nat} (hb:b.length=32):(List.range 32).map (fun k=>((cb b).drop k).take 1)=rb b:=by
 rw [gW hb,cE]
theorem GF {Q:AV→Prop} {st:St} {id n:Nat} {e:Int} {L:List Nat} (hl:L.length=n) (hb:lk id st.hp=some ⟨5,1,rb L⟩) (hq:Q (.tup [.d (nb L),.d (.int .i64 e)])):dx Q (.tup [.own id 0 n n,.d (.int .i64 e)]) st :=
 dD (ap (ak (aM hl hb trivial)) (ap (bc trivial) bB)) rfl a9 hq
theorem GG {Q:AV→Prop} {st:St} {e:Int} (hq:Q (.tup [.d (nb []),.d (.int .i64 e)])):dx Q (.tup [.nil,.d (.int .i64 e)]) st :=
 dD (ap (ak (.nil 1)) (ap (bc trivial) bB)) rfl a9 hq
theorem GH {inner x k:List Nat} {ps:List (List Nat)} {o:Bool} (hi:inner.length=32) (hk:k.length=32) (f:ax Tryz.prog 92 [cQ inner ps x] (fun r=>r=.tup [.agg (cb k),.d (.bool o),.d (.int .i64 1)])) :
  ax Tryz.prog 46 [cQ inner ps x] (fun r=>r=.tup [.d (nb []),.d (.int .i64 1)]):=by
 refine bO Tryz.func46 Tryz.ntmps46 (rs:=[.tmp 2,.tmp 3]) (cX _ _ _) ?_;have zd:List.drop 32 (cb z32)=[]:=hJ rfl;simp [go_sem,cQ,aT,mL hi,mK hi,da,nb,hi,rk hi];refine ag f (cX _ _ _) ?_;simp [go_sem,am,hk,av hk,zd,ah];exact GG rfl
theorem GI {inner x k:List Nat} {ps:List (List Nat)} {o:Bool} (hi:inner.length=32) (hk:k.length=32) (f:ax Tryz.prog 92 [cQ inner ps x] (fun r=>r=.tup [.agg (cb k),.d (.bool o),.d (.int .i64 0)])) :
  ax Tryz.prog 46 [cQ inner ps x] (fun r=>r=.tup [.d (nb (81 :: 32 :: k)),.d (.int .i64 0)]):=by
 refine bO Tryz.func46 Tryz.ntmps46 (rs:=[.tmp 2,.tmp 3]) (cX _ _ _) ?_;have zd:List.drop 32 (cb z32)=[]:=hJ rfl;simp [go_sem,cQ,aT,mL hi,mK hi,da,nb,hi,rk hi];refine ag f (cX _ _ _) ?_;have hx1:=EX hk;simp [go_sem] at hx1;simp [go_sem,am,hk,av hk,zd,hx1,aG,ah];have e:rb (81 :: 32 :: k)=[AV.d (.int .u8 81)] :: [AV.d (.int .u8 32)] :: rb k:=by simp [rb]
 have h34:(81 :: 32 :: k).length=34:=by simp [hk]
 exact GF (L:=81 :: 32 :: k) h34 (by rw [e];rfl) (by simp [nb])
open Go.Am Go.Sha Go.Ec
theorem yn (a:List Int) (ha:Wn 4 a):∃ r:List Int,Wn 4 r∧ax Tryz.prog 124 [.agg (cI a)] (fun v=>v=.agg (cI r)):=by
 obtain ⟨s,c,hs,hc,vc,f1⟩:=pU a Om ha Kr;have hal:=ha.1;have hsl:=hs.1;have hz:List.drop 4 (cI zI)=[]:=aZ rfl;refine ⟨if c=0 then s else a,by split <;> assumption,?_⟩;refine bO Tryz.func124 Tryz.ntmps124 (rs:=[.cell 2 96]) (aR a) ?_;simp [go_sem,hal,ae hal];refine ek [0] [1,2,6,7] [0,3,4,5,8] (.alt (bt 1 (.alt (.step 2 [3,4,5] true (bt 6 (.step 7 [8] true .done))) (bt 6 (.step 2 [3,4,5] true (.step 7 [8] true .done))))) (bt 6 (bt 1 (.step 2 [3,4,5] true (.step 7 [8] true .done))))) ⟨[(1,.ptr 0 0 0 1),(2,.ptr 32 0 0 1),(3,.ptr 256 0 0 1),(4,.d (.int .u64 c))],[(256,⟨96,4,[cI s]⟩),(32,⟨96,4,[cI zI]⟩),(0,⟨96,4,[cI a]⟩)],9000⟩ (k:=9) ?h3 ?hq
 case h3 =>
  intro G hG
  have hW:∀ (fr:Fr) (hp:Hp),(fv 1 fr=.ptr 0 0 0 1∧fv 2 fr=.ptr 32 0 0 1∧fv 3 fr=.ptr 256 0 0 1∧fv 4 fr=.d (.int .u64 c)∧lk 256 hp=some ⟨96,4,[cI s]⟩∧lk 32 hp=some ⟨96,4,[cI zI]⟩∧lk 0 hp=some ⟨96,4,[cI a]⟩)→G fr hp:=by
   rintro fr hp ⟨q0,q1,q2,q3,q4,q5,q6⟩;refine hG _ _ (cz ?_);simp only [aA,ai];refine ⟨fun p hp=>?_,fun p hp=>?_,aw⟩
   ·simp only [d_,List.mem_nil_iff,or_false] at hp;rcases hp with rfl | rfl | rfl | rfl <;> exact ⟨.inl (Eq.symm (by assumption)),by simp [AV.low,AV.low1]⟩
   ·simp only [d_,List.mem_nil_iff,or_false] at hp;rcases hp with rfl | rfl | rfl <;> exact ⟨.inl (by assumption),aw,by intro r hr;simp only [d_,List.mem_nil_iff,or_false] at hr;subst hr;first | exact bV _ _ | exact aO _ _ | exact lS _ _ _ _⟩
  simp [go_sem,hal,hsl,ae hal,ae hsl,hz,dM]
  repeat' first | exact hW _ _ ⟨rfl,rfl,rfl,rfl,rfl,rfl,rfl⟩ | (refine hW _ _ ?_;simp [fv,lk];done) | refine ag qa aw ?_ | refine ag f1 (aK _ _) ?_ | apply And.intro | simp [go_sem,hal,hsl,ae hal,ae hsl,hz,dM]
 case hq =>
  by_cases h0:c=0
  ·rw [if_pos h0];simp [go_sem,h0,hsl,ae hsl,hz,ah];exact dH rfl
  ·rw [if_neg h0];simp [go_sem,h0,hal,ae hal,hz,ah];exact dH rfl
theorem OI (a:List Int) (ha:Wn 4 a):∃ r:List Int,Wn 4 r∧ax Tryz.prog 128 [.agg (cI a)] (fun v=>v=.agg (cI r)):=by
 obtain ⟨b,hb,f1⟩:=yn a ha;obtain ⟨s,c,hs,hc,vc,f2⟩:=pU Om b Kr hb;obtain ⟨r,hr,f3⟩:=yn s hs;have hal:=ha.1;have hbl:=hb.1;have hsl:=hs.1;have hrl:=hr.1;have hz:List.drop 4 (cI zI)=[]:=aZ rfl;refine ⟨r,hr,?_⟩;refine bO Tryz.func128 Tryz.ntmps128 (rs:=[.cell 2 96]) (aR a) ?_;simp [go_sem,hal,ae hal];refine ek [1] [0,2,3,7,8] [1,4,5,6,9] (.alt (bt 0 (.alt (bt 2 (.alt (.step 3 [4,5,6] true (bt 7 (.step 8 [9] true .done))) (bt 7 (.step 3 [4,5,6] true (.step 8 [9] true .done))))) (bt 7 (bt 2 (.step 3 [4,5,6] true (.step 8 [9] true .done)))))) (bt 7 (bt 0 (bt 2 (.step 3 [4,5,6] true (.step 8 [9] true .done)))))) ⟨[(2,.ptr 32 0 0 1),(3,.ptr 288 0 0 1)],[(288,⟨96,4,[cI s]⟩),(32,⟨96,4,[cI zI]⟩)],9000⟩ (k:=10) ?h3 ?hq
 case h3 =>
  intro G hG
  have hW:∀ (fr:Fr) (hp:Hp),(fv 2 fr=.ptr 32 0 0 1∧fv 3 fr=.ptr 288 0 0 1∧lk 288 hp=some ⟨96,4,[cI s]⟩∧lk 32 hp=some ⟨96,4,[cI zI]⟩)→G fr hp:=by
   rintro fr hp ⟨q0,q1,q2,q3⟩;refine hG _ _ (cz ?_);simp only [aA,ai];refine ⟨fun p hp=>?_,fun p hp=>?_,aw⟩
   ·simp only [d_,List.mem_nil_iff,or_false] at hp;rcases hp with rfl | rfl <;> exact ⟨.inl (Eq.symm (by assumption)),by simp [AV.low,AV.low1]⟩
   ·simp only [d_,List.mem_nil_iff,or_false] at hp;rcases hp with rfl | rfl <;> exact ⟨.inl (by assumption),aw,by intro r hr;simp only [d_,List.mem_nil_iff,or_false] at hr;subst hr;first | exact bV _ _ | exact aO _ _ | exact lS _ _ _ _⟩
  simp [go_sem,hal,hsl,ae hal,ae hsl,hz,dM]
  repeat' first | exact hW _ _ ⟨rfl,rfl,rfl,rfl⟩ | (refine hW _ _ ?_;simp [fv,lk];done) | refine ag qa aw ?_ | refine ag f1 (aR _) ?_ | refine ag f2 (aK _ _) ?_ | apply And.intro | simp [go_sem,hal,hsl,ae hal,ae hsl,hz,dM]
 case hq =>
  simp [go_sem,hsl,ae hsl];refine ag f3 (aR _) ?_;simp [go_sem,hrl,ae hrl,hz,ah];exact dH rfl
theorem KX (b:List Nat) (hb:b.length=32) (hby:bytes b):∃ r:List Int,Wn 4 r∧ax Tryz.prog 135 [.agg (cb b)] (fun v=>v=.agg (cI r)):=by
 obtain ⟨a,ha,va,f1⟩:=ua b hb hby;obtain ⟨r,hr,f2⟩:=yn a ha;have hal:=ha.1;have hrl:=hr.1;have hz:List.drop 4 (cI zI)=[]:=aZ rfl;have zd:List.drop 32 (cb b)=[]:=hJ hb;refine ⟨r,hr,?_⟩;refine bO Tryz.func135 Tryz.ntmps135 (rs:=[.cell 2 96]) (cB b) ?_;simp [go_sem,am,hb,av hb,zd];refine ag f1 (cB _) ?_;simp [go_sem];refine ag f2 (aR _) ?_;simp [go_sem,hrl,ae hrl,hz,ah];exact dH rfl
def TF (a b d:List Nat):Nat→AV
 | 0=>.nil
 | 1=>.own 1192 0 a.length a.length
 | 2=>.own 1192 0 (a ++ b).length (a ++ b).length
 | _=>.own 1192 0 d.length d.length
def TG (a b d:List Nat):Nat→Hp
 | 0=>[]
 | 1=>[(1192,⟨5,1,rb a⟩)]
 | 2=>[(1192,⟨5,1,rb (a ++ b)⟩)]
 | _=>[(1192,⟨5,1,rb d⟩)]
theorem CW (a b c d:List Nat) (hd:a ++ b ++ c=d) (ha:a.length=32) (hb:b.length=32) (hc:c.length≤1000000):ax Tryz.prog 89 [.d (.ro 1 [[nb a],[nb b],[nb c]])] (fun r=>r=.d (nb d)):=by
 refine bO Tryz.func89 Tryz.ntmps89 (rs:=[.tmp 2]) a9 ?_;simp [go_sem]
 refine ar (fun k:Nat=>⟨[(3,TF a b d k),(6,.d (.ro 1 [[nb a],[nb b],[nb c]])),(7,.d (.int .i64 3)),(8,.d (.int .i64 (k:Int)))],TG a b d k,Oq k⟩)
  (fun k=>k≤3) (fun k=>3 - k) 0 aq (by simp [aA,ai,fv,lk,AV.low,AV.low1,TF,TG,Oq]) ?_
 intro k hk;simp only [go_sem,Nat.reduceEqDiff,Nat.reduceAdd,Nat.reduceLT,↓reduceIte]
 match k,hk with
 | 0,_ =>
  refine ⟨fun _=>?_,fun h=>absurd (by decide) h⟩;simp [go_sem,TF,TG,Oq,nb,cE];refine ⟨by rw [aG];omega,?_⟩;have w1:IntKind.i64.wrap 1=1:=by decide
  refine ao 1 aq aq ?_;simp [aA,ai,fv,lk,AV.low,AV.low1,aG,w1];exact bg _ _
 | 1,_ =>
  refine ⟨fun _=>?_,fun h=>absurd (by decide) h⟩;simp [go_sem,TF,TG,Oq,nb,cE,aG];refine ⟨aq,?_⟩;have w1:IntKind.i64.wrap 2=2:=by decide
  have ra:rb (a ++ b)=rb a ++ rb b:=by simp [rb]
  refine ao 2 aq aq ?_;simp [aA,ai,fv,lk,AV.low,AV.low1,aG,w1,ra];intro r hr;exact hr.elim (bg _ _ r) (bg _ _ r)
 | 2,_ =>
  refine ⟨fun _=>?_,fun h=>absurd (by decide) h⟩;have ra:rb d=rb (a ++ b) ++ rb c:=by rw [← hd];simp [rb]
  have hln:d.length=(a ++ b).length+c.length:=by rw [← hd];exact b_
  have hab:(a ++ b).length=64:=by simp [ha,hb]
  simp only [TF,TG];generalize a ++ b=e at *;simp [go_sem,TF,TG,Oq,nb,cE,aG];refine ⟨aq,?_⟩;have w1:IntKind.i64.wrap 3=3:=by decide
  refine ao 3 aq aq ?_;simp [aA,ai,fv,lk,AV.low,AV.low1,aG,w1,ra,hln];intro r hr;exact hr.elim (bg _ _ r) (bg _ _ r)
 | 3,_ =>
  refine ⟨fun h=>absurd h (by decide),fun _=>?_⟩;simp only [TF,TG];simp [go_sem,ah];exact iL rfl (by simp [nb])
def yo:List Nat:=[66,73,80,48,51,52,48,47,99,104,97,108,108,101,110,103,101]
theorem OJ (a b c:List Nat) (ha:a.length=32) (hb:b.length=32) (hc:c.length≤1000):∃ r:List Int,Wn 4 r∧ax Tryz.prog 88 [.agg (cb a),.agg (cb b),.d (nb c)] (fun v=>v=.agg (cI r)):=by
 obtain ⟨r,hr,f1⟩:=KX (fh yo (a ++ b ++ c)) (ye _ _).1 (ye _ _).2;have hrl:=hr.1;have hz:List.drop 4 (cI zI)=[]:=aZ rfl;refine ⟨r,hr,?_⟩;refine bO Tryz.func88 Tryz.ntmps88 (rs:=[.cell 6 96]) (by intro v hv;simp at hv;rcases hv with rfl | rfl | rfl;exact dE _;exact dE _;trivial) ?_;have hl3:(a ++ b ++ c).length≤2000:=by simp;omega
 simp [go_sem,am,ha,hb,av ha,av hb];refine cf [0,1,2] [(3,[]),(4,[]),(5,[]),(6,[]),(7,[])] 0 (k:=8) ?_;intro G hG;simp [go_sem,am,ha,hb];refine bN [0,32,192] (CW a b c _ rfl ha hb aq) rfl (aj (.one (ak (iH (rows:=[[.sub 0 0 0 1 32 32 1],[.sub 32 0 0 1 32 32 1],[.d (nb c)]]) rfl aw rfl (RowsR.cons (.cons (ed rfl aw ha) .nil) (RowsR.cons (.cons (ed rfl aw hb) .nil) (RowsR.cons (.cons (.d _) .nil) .nil))) rfl (by intro r hr;simp at hr;rcases hr with rfl | rfl | rfl <;> rfl)))) aD) ?_;generalize a ++ b ++ c=d at *;simp [go_sem,aE];refine ag (gv yo (.str [66,73,80,48,51,52,48,47,99,104,97,108,108,101,110,103,101]) rfl d (by simp [yo]) aq) a9 ?_;simp [go_sem];refine ag f1 (cB _) ?_;simp [go_sem,hrl];refine hG _ _ ?_;clear hG G;simp [go_sem,hrl,ae hrl,ah];exact dH rfl
theorem As (l:List Nat):(l.map fun (b:Nat)=>[DV.int .u8 (b:Int)]).flatten=cd l:=by
 unfold cd
 induction l with
 | nil=>rfl
 | cons a l ih=>simp only [List.map_cons,List.flatten_cons,ih];rfl
theorem Au:∀ l:List Nat,b7 .u8 (cb l)=some (l.map fun (b:Nat)=>(b:Int))
 | []=>rfl
 | a :: l=>by
  have:=Au l;unfold cb at this ⊢;simp only [List.map_cons,b7,if_true,this];rfl
theorem qh (k m s:List Nat):∀ v,v ∈ [AV.agg (cb k),.d (nb m),.d (nb s)]→v.deep:=by
 intro v hv;simp at hv;rcases hv with rfl | rfl | rfl
 ·exact dE _
 ·trivial
 ·trivial
theorem GK (key msg sig:List Nat) (hk:key.length=32) (hkb:bytes key) (hsb:bytes sig) (hm:msg.length≤1000) (hs:sig.length≤1000):∃ o:Bool,ax Tryz.prog 156 [.agg (cb key),.d (nb msg),.d (nb sig)] (fun v=>v=.d (.bool o)):=by
 obtain ⟨x,y,c,ok,hx,hy,_,f1⟩:=Ai key hk hkb;have zd:List.drop 32 (cb key)=[]:=hJ hk;have hz32:z32.length=32:=rfl;have hzd:List.drop 32 (cb z32)=[]:=rfl;have hz:List.drop 4 (cI zI)=[]:=aZ rfl;have hxl:=hx.1;have hyl:=hy.1;have hpl:(cP x y c).length=9:=bZ hxl hyl c;have hpt:List.take 9 (cP x y c)=cP x y c:=cx (by rw [hpl];omega)
 cases ok with
 | false =>
  refine ⟨false,?_⟩;refine bO Tryz.func156 Tryz.ntmps156 (rs:=[.tmp 6]) (qh _ _ _) ?_;simp [go_sem,am,hk,av hk,zd];refine ag f1 (cB _) ?_;simp [go_sem,hpl,hpt,ah];exact aa trivial rfl
 | true =>
  by_cases h64:sig.length=64
  ·have hrl:(sig.take 32).length=32:=by simp [h64]
   have hsl:(sig.drop 32).length=32:=by simp [h64]
   have hsbd:bytes (sig.drop 32):=fun z hz=>hsb z (List.mem_of_mem_drop hz);obtain ⟨s,ok2,hsw,_,f2⟩:=Ah (sig.drop 32) hsl hsbd;have hswl:=hsw.1;have h64i:(sig.length:Int)=64:=aq;have e1:List.take 32 (sig.map fun (b:Nat)=>[DV.int .u8 (b:Int)])=(sig.take 32).map fun (b:Nat)=>[DV.int .u8 (b:Int)]:=List.map_take.symm;have e2:List.drop 32 (sig.map fun (b:Nat)=>[DV.int .u8 (b:Int)])=(sig.drop 32).map fun (b:Nat)=>[DV.int .u8 (b:Int)]:=List.map_drop.symm;have e3:List.take 64 (sig.map fun (b:Nat)=>[DV.int .u8 (b:Int)])=sig.map fun (b:Nat)=>[DV.int .u8 (b:Int)]:=cx (by simp [h64]);obtain ⟨ch,hch,f3⟩:=OJ (sig.take 32) key msg hrl hk hm;generalize sig.take 32=R at *;generalize sig.drop 32=S at *
   cases ok2 with
   | false =>
    refine ⟨false,?_⟩;refine bO Tryz.func156 Tryz.ntmps156 (rs:=[.tmp 6]) (qh _ _ _) ?_;simp [go_sem,am,hk,av hk,zd];refine ag f1 (cB _) ?_;simp [go_sem,hpl,hpt,nb,h64,h64i,e1,e2,e3,As,lB,av hrl,av hsl,am,hrl,hsl,hz32,hzd];refine ag f2 (cB _) ?_;simp [go_sem,hswl,ae hswl,hz,ah];exact aa trivial rfl
   | true =>
    obtain ⟨ng,hng,f4⟩:=OI ch hch;obtain ⟨u,v,q,hu,hv,_,f5⟩:=EF s ng gX gY x y false c hsw hng WF WG hx hy;obtain ⟨o,_,f6⟩:=EB u v q hu hv;obtain ⟨B,hB,hBb,_,f7⟩:=vY u v q hu hv;have hngl:=hng.1;have hql:(cP u v q).length=9:=bZ hu.1 hv.1 q;have hqt:List.take 9 (cP u v q)=cP u v q:=cx (by rw [hql];omega);refine ⟨o && decide ((B.map fun (b:Nat)=>(b:Int))=R.map fun (b:Nat)=>(b:Int)),?_⟩;refine bO Tryz.func156 Tryz.ntmps156 (rs:=[.tmp 6]) (qh _ _ _) ?_;simp [go_sem,am,hk,av hk,zd];refine ag f1 (cB _) ?_;simp [go_sem,hpl,hpt,nb,h64,h64i,e1,e2,e3,As,lB,av hrl,av hsl,am,hrl,hsl,hz32,hzd];refine ag f2 (cB _) ?_;simp [go_sem,hswl,ae hswl,hz,am,hk,hrl,av hk,av hrl];refine ag f3 (by intro v hv;simp at hv;rcases hv with rfl | rfl | rfl;exact dE _;exact dE _;trivial) ?_;simp [go_sem];refine ag f4 (aR _) ?_;simp [go_sem,hngl,ae hngl,hz];refine ek [0,2,3] [1,4,5,6] [0,2,3] (.alt (bt 1 (.alt (a_ [4,5,6]) (bt 5 (a_ [4,6])))) (bt 5 (bt 1 (a_ [4,6])))) ⟨[(9,.ptr 672 0 0 1),(12,.ptr 1536 0 0 1)],[(1536,⟨189,9,[cP u v q]⟩),(672,⟨29,32,[cb R]⟩)],9000⟩ (k:=7) ?h3 ?hq
    case h3 =>
     intro G hG
     have hW:∀ (fr:Fr) (hp:Hp),(fv 9 fr=.ptr 672 0 0 1∧fv 12 fr=.ptr 1536 0 0 1∧lk 1536 hp=some ⟨189,9,[cP u v q]⟩∧lk 672 hp=some ⟨29,32,[cb R]⟩)→G fr hp:=by
      rintro fr hp ⟨q0,q1,q2,q3⟩;refine hG _ _ (cz ?_);simp only [aA,ai];refine ⟨fun p hp=>?_,fun p hp=>?_,aw⟩
      ·simp only [d_,List.mem_nil_iff,or_false] at hp;rcases hp with rfl | rfl <;> exact ⟨.inl (Eq.symm (by assumption)),by simp [AV.low,AV.low1]⟩
      ·simp only [d_,List.mem_nil_iff,or_false] at hp;rcases hp with rfl | rfl <;> exact ⟨.inl (by assumption),aw,by intro r hr;simp only [d_,List.mem_nil_iff,or_false] at hr;subst hr;first | exact bV _ _ | exact aO _ _ | exact lS _ _ _ _⟩
     simp [go_sem,hswl,hngl,ae hswl,ae hngl,hpl,hpt,hql,hqt,dM]
     repeat' first | exact hW _ _ ⟨rfl,rfl,rfl,rfl⟩ | (refine hW _ _ ?_;simp [fv,lk];done) | refine ag yb aw ?_ | refine ag f5 (by intro v hv;simp at hv;rcases hv with rfl | rfl | rfl | rfl <;> first | exact eN _ | exact jH _ _ _) ?_ | apply And.intro | simp [go_sem,hswl,hngl,ae hswl,ae hngl,hpl,hpt,hql,hqt,dM]
    case hq =>
     cases o with
     | false =>
      simp [go_sem];refine cf [0] [(1,[2,3,5]),(4,[6,7,8])] 2 (k:=9) ?_;intro G hG;simp [go_sem,hql,hqt];refine ag f6 (by intro v hv;simp at hv;subst hv;exact jH _ _ _) ?_;simp [go_sem];refine hG _ _ ?_;clear hG G;simp [go_sem,ah];exact aa trivial rfl
     | true =>
      simp [go_sem];refine cf [0] [(1,[2,3,5]),(4,[6,7,8])] 2 (k:=9) ?_;intro G hG;simp [go_sem,hql,hqt];refine ag f6 (by intro v hv;simp at hv;subst hv;exact jH _ _ _) ?_;simp [go_sem,hql,hqt,am,hrl,av hrl];refine ag f7 (by intro v hv;simp at hv;subst hv;exact jH _ _ _) ?_;simp [go_sem,am,hrl,av hrl,hB,Au];refine hG _ _ ?_;clear hG G;simp [go_sem,ah];exact aa trivial rfl
  ·have h64i:¬ (sig.length:Int)=64:=aq;refine ⟨false,?_⟩;refine bO Tryz.func156 Tryz.ntmps156 (rs:=[.tmp 6]) (qh _ _ _) ?_;simp [go_sem,am,hk,av hk,zd];refine ag f1 (cB _) ?_;simp [go_sem,hpl,hpt,nb,h64,h64i,ah];exact aa trivial rfl
end Go.Proofs.YtmfnimjnneflnaaGreat
namespace Go.Sha
def qi (i:Ip):List Nat:=i.hash ++ le i.idx 4
def rp (i:Ip):List Nat:=le i.seq 4
def uk (o:Nat × List Nat):List Nat:=le o.1 8
def uJ (o:Nat × List Nat):List Nat:=bY o.2
end Go.Sha
namespace Go.Proofs.YtmfnimjnneflnaaGreat
open Go.Am Go.Sha
def yp (l:List Nat):List AV:=dc (E H0 l).1 ++ [.d (nb (E H0 l).2),.d (.int .u64 (l.length:Int))]
theorem bu (ρ:Nat→Nat) (l:List Nat):AV.renL ρ (yp l)=yp l:=by rw [yp,fW];rfl
theorem jK (n:Nat) (l:List Nat):∀ v,v ∈ yp l→v.low1 n:=by
 intro v hv;simp [yp,dc] at hv;rcases hv with rfl | rfl | rfl | rfl | rfl | rfl | rfl | rfl | rfl | rfl <;> trivial
theorem OK (n:Nat):IL n (dc H0 ++ [.nil,.d (.int .u64 0)]) (yp []):=FW (dc H0) [.d (.int .u64 0)] (.inr (.inr ⟨.inl rfl,.inr ⟨1,rfl⟩⟩))
theorem Av {st:St} (L:Nat) (h:lk L st.hp=some ⟨167,10,[dc H0 ++ [.nil,.d (.int .u64 0)]]⟩):Wk st ⟨st.fr,bX L ⟨167,10,[yp []]⟩ st.hp,st.nx⟩:=Rt h (by decide) (OK _)
theorem oh (l b:List Nat) (hl:l.length+b.length≤100000000000) :
  cj Tryz.prog 58 1 [(0,⟨167,10,[yp l]⟩)] [.ptr 0 0 0 1,.d (nb b)] (fun r hp'=>r=.tup []∧lk 0 hp'=some ⟨167,10,[yp (l ++ b)]⟩):=by
 have h:=zp _ H0 l (cL _);have:=M7 (E H0 l).1 (.d (nb (E H0 l).2)) (E H0 l).2 b l.length (.inl rfl) aq aq;rw [← zo b l.length H0 l (cL _),← b_] at this;exact this
theorem CX (ty:TypeId) (e:Nat) (row:List AV) (l b:List Nat) (hx0:(List.range 32).map (fun k=>(row.drop k).take 1)=List.map ((fun r=>List.map AV.d r) ∘ fun (x:Nat)=>[DV.int .u8 (x:Int)]) b) (hlow:∀ n v,v ∈ row→v.low1 n) (hb32:b.length=32) (hl:l.length+b.length≤100000000000) :
  cj Tryz.prog 58 2 [(0,⟨167,10,[yp l]⟩),(1,⟨ty,e,[row]⟩)] [.ptr 0 0 0 1,.sub 1 0 0 1 32 32 1] (fun r hp'=>r=.tup []∧lk 0 hp'=some ⟨167,10,[yp (l ++ b)]⟩∧lk 1 hp'=some ⟨ty,e,[row]⟩):=by
 have h:=zp _ H0 l (cL _);have:=ID ty e row (E H0 l).1 (.d (nb (E H0 l).2)) (E H0 l).2 b l.length hx0 hlow (.inl rfl) aq hb32 aq;rw [← zo b l.length H0 l (cL _),← b_] at this;exact this
theorem we (l:List Nat) (hl:l.length≤100000000000) :
  cj Tryz.prog 60 1 [(0,⟨167,10,[yp l]⟩)] [.ptr 0 0 0 1] (fun r hp'=>r=.agg (cb (bq l))∧lk 0 hp'=some ⟨167,10,[yp l]⟩):=by
 have h:=zp _ H0 l (cL _);exact Bo (E H0 l).1 (.d (nb (E H0 l).2)) (E H0 l).2 l.length (.inl rfl) aq
theorem lm {α:Type} {f:α→List Nat} {l:List α}:[] ++ d0 f l 0=(l.map f).flatten:=by simp [d0]
theorem EY (ρ:Nat→Nat) (i:Ip):AV.renL ρ (qS i)=qS i:=by
 unfold qS
 have:∀ (l m:List AV),AV.renL ρ (l ++ m)=AV.renL ρ l ++ AV.renL ρ m:=fun l m=>by
  induction l with
  | nil=>simp [AV.renL]
  | cons a l ih=>simp [AV.renL,ih]
 rw [this,df];rfl
theorem EZ (t:Tn) (ht:Sm t):ax Tryz.prog 55 [.agg (eT t)] (fun r=>r=.agg (cb (bq (t.ins.map rp).flatten))):=by
 obtain ⟨⟨hv,hlk,hi,ho⟩,h1,h2,h3,h4⟩:=ht;refine bO Tryz.func55 Tryz.ntmps55 (rs:=[.cell 2 29]) (by simp [AV.deep,AV.deep1,eT]) ?_;simp [go_sem,eT];refine aN [] mG rfl aw aw aw (by simp [AV.renL]) ?_;rintro r hp' ⟨rfl,h0⟩;refine ⟨[(97,0)],rfl,?_⟩;simp [go_sem,bP,bC,h0,Blk.ren,aL,fW,AV.ren,bR];clear h0 hp';generalize hR0:(t.ins.map rp).flatten=R
 refine mE (fun u:Nat × List Nat=>⟨[(2,.ptr 32 0 0 1),(3,.ptr 64 0 0 1),(8,.d (.ro 35 (t.ins.map eI))),(9,.d (.int .i64 (t.ins.length:Int))),(10,.d (.int .i64 (u.1:Int)))],[(64,⟨167,10,[yp u.2]⟩),(32,⟨29,32,[cb z32]⟩)],2000⟩)
  (fun u=>u.1≤t.ins.length∧u.2.length≤4*u.1∧u.2 ++ d0 rp t.ins u.1=R) (fun u=>t.ins.length - u.1) (0,[]) ⟨aw,aw,by rw [← hR0];exact lm⟩ ((Av 64 rfl).trans (cz (by
   simp [aA,ai,fv,lk,bX,AV.low,AV.low1]
   exact ⟨jK _ _,aO _ _⟩))) ?_
 rintro ⟨k,B⟩ ⟨hk,hBl,hR⟩;simp only at hk hBl hR;simp only [go_sem,Nat.reduceEqDiff,Nat.reduceAdd,Nat.reduceLT,↓reduceIte,Nat.reduceMul];refine ⟨fun h=>?_,fun h=>?_⟩
 ·obtain ⟨i,hi1,hd⟩:=bm (l:=t.ins) (k:=k) aq;obtain ⟨hi32,hidx,hseq⟩:=hi i (cr hi1);have w3:=az (k:=k) aq;have hel:=qQ hi32;have hcl:=nI hi32;simp [go_sem,hi1,hel,zG,hcl,mP hi32,mQ,Px hi32];refine bN [] (ii [] i.seq aw hseq) rfl (aj (.one (ak (.nil 1))) (aj (.deep a9) aD)) ?_;simp [go_sem,aE];refine aN [(0,64)] (oh B (le i.seq 4) (by rw [aJ];omega)) rfl aw (by simp [lk]) (by simp [lk,Blk.ren,aL,bu]) (by simp [AV.renL,AV.ren,bR,gu,lk,eA]) ?_;rintro r hp' ⟨rfl,h0⟩;refine ⟨[],rfl,?_⟩;simp [go_sem,bP,bC,h0,Blk.ren,aL,bu,AV.renL,AV.ren,bR,w3];refine ao (k+1,B ++ le i.seq 4) ⟨by simp only;omega,by simp only [b_,aJ];omega,dB hd hR⟩ (by simp only;omega) ?_;simp [aA,ai,fv,lk,AV.low,AV.low1];exact ⟨jK _ _,aO _ _⟩
 ·have hkl:k=t.ins.length:=aq;subst hkl;have:=dC hR;subst this;simp [go_sem];refine aN [(0,64)] (we B aq) rfl aw (by simp [lk]) (by simp [lk,Blk.ren,aL,bu]) (by simp [AV.renL,AV.ren,bR,gu,lk]) ?_;rintro r hp' ⟨rfl,h0⟩;refine ⟨[],rfl,?_⟩;have hL:=a8 B;simp [go_sem,bP,bC,h0,Blk.ren,aL,bu,df,AV.ren,bR,hL,av hL,cy,ah];exact aa (by simp [AV.deep];exact cg _) rfl
theorem OL (t:Tn) (ht:Sm t):ax Tryz.prog 130 [.agg (eT t)] (fun r=>r=.agg (cb (bq (t.ins.map qi).flatten))):=by
 obtain ⟨⟨hv,hlk,hi,ho⟩,h1,h2,h3,h4⟩:=ht;refine bO Tryz.func130 Tryz.ntmps130 (rs:=[.cell 2 29]) (by simp [AV.deep,AV.deep1,eT]) ?_;simp [go_sem,eT];refine aN [] mG rfl aw aw aw (by simp [AV.renL]) ?_;rintro r hp' ⟨rfl,h0⟩;refine ⟨[(97,0)],rfl,?_⟩;simp [go_sem,bP,bC,h0,Blk.ren,aL,fW,AV.ren,bR];clear h0 hp';generalize hR0:(t.ins.map qi).flatten=R
 refine mE (fun u:Nat × List Nat=>⟨[(2,.ptr 32 0 0 1),(3,.ptr 64 0 0 1),(8,.d (.ro 35 (t.ins.map eI))),(9,.d (.int .i64 (t.ins.length:Int))),(10,.d (.int .i64 (u.1:Int)))],[(64,⟨167,10,[yp u.2]⟩),(32,⟨29,32,[cb z32]⟩)],2000⟩)
  (fun u=>u.1≤t.ins.length∧u.2.length≤36*u.1∧u.2 ++ d0 qi t.ins u.1=R) (fun u=>t.ins.length - u.1) (0,[]) ⟨aw,aw,by rw [← hR0];exact lm⟩ ((Av 64 rfl).trans (cz (by
   simp [aA,ai,fv,lk,bX,AV.low,AV.low1]
   exact ⟨jK _ _,aO _ _⟩))) ?_
 rintro ⟨k,B⟩ ⟨hk,hBl,hR⟩;simp only at hk hBl hR;simp only [go_sem,Nat.reduceEqDiff,Nat.reduceAdd,Nat.reduceLT,↓reduceIte,Nat.reduceMul];refine ⟨fun h=>?_,fun h=>?_⟩
 ·obtain ⟨i,hi1,hd⟩:=bm (l:=t.ins) (k:=k) aq;obtain ⟨hi32,hidx,hseq⟩:=hi i (cr hi1);have w3:=az (k:=k) aq;have hel:=qQ hi32;have hcl:=nI hi32;have hx:(List.range 32).map (fun k=>((qS i).drop k).take 1)=List.map ((fun r=>List.map AV.d r) ∘ fun (x:Nat)=>[DV.int .u8 (x:Int)]) i.hash:=by rw [zH hi32];simp [rb,Function.comp_def]
  simp [go_sem,hi1,hel,zG,hcl,mP hi32,mQ];refine aN [(0,64),(1,2096)] (CX 68 35 (qS i) B i.hash hx (fun n=>Nv n i) hi32 aq) rfl aw (by simp [lk]) (by simp [lk,Blk.ren,aL,bu,EY]) (by simp [AV.renL,AV.ren,bR,gu,lk]) ?_;rintro r hp' ⟨rfl,h0,h1⟩;refine ⟨[],rfl,?_⟩;have hBl2:(B ++ i.hash).length=B.length+32:=by rw [b_,hi32]
  have hB3:B ++ qi i=B ++ i.hash ++ le i.idx 4:=by simp [qi]
  generalize B ++ i.hash=B1 at *;simp [go_sem,bP,bC,h0,h1,Blk.ren,aL,bu,EY,AV.renL,AV.ren,bR,hcl,Pq hi32];clear h0 h1 hp';refine bN [] (ii [] i.idx aw hidx) rfl (aj (.one (ak (.nil 1))) (aj (.deep a9) aD)) ?_;simp [go_sem,aE];refine aN [(0,64)] (oh B1 (le i.idx 4) (by rw [aJ];omega)) rfl aw (by simp [lk]) (by simp [lk,Blk.ren,aL,bu]) (by simp [AV.renL,AV.ren,bR,gu,lk,eA]) ?_;rintro r hp' ⟨rfl,h0⟩;refine ⟨[],rfl,?_⟩;rw [← hB3] at h0;have hB4:(B ++ qi i).length=B1.length+4:=by rw [hB3,b_,aJ]
  simp [go_sem,bP,bC,h0,Blk.ren,aL,bu,AV.renL,AV.ren,bR,w3];refine ao (k+1,B ++ qi i) ⟨by simp only;omega,by simp only;omega,dB hd hR⟩ (by simp only;omega) ?_;simp [aA,ai,fv,lk,AV.low,AV.low1];exact ⟨jK _ _,aO _ _⟩
 ·have hkl:k=t.ins.length:=aq;subst hkl;have:=dC hR;subst this;simp [go_sem];refine aN [(0,64)] (we B aq) rfl aw (by simp [lk]) (by simp [lk,Blk.ren,aL,bu]) (by simp [AV.renL,AV.ren,bR,gu,lk]) ?_;rintro r hp' ⟨rfl,h0⟩;refine ⟨[],rfl,?_⟩;have hL:=a8 B;simp [go_sem,bP,bC,h0,Blk.ren,aL,bu,df,AV.ren,bR,hL,av hL,cy,ah];exact aa (by simp [AV.deep];exact cg _) rfl
theorem Aw (os:List (Nat × List Nat)) (hn:os.length≤8) (ho:∀ o,o ∈ os→o.1<18446744073709551616∧o.2.length≤1100):ax Tryz.prog 56 [.d (.ro 2 (os.map eO))] (fun r=>r=.agg (cb (bq (os.map fA).flatten))):=by
 refine bO Tryz.func56 Tryz.ntmps56 (rs:=[.cell 2 29]) a9 ?_;simp [go_sem];refine aN [] mG rfl aw aw aw (by simp [AV.renL]) ?_;rintro r hp' ⟨rfl,h0⟩;refine ⟨[(97,0)],rfl,?_⟩;simp [go_sem,bP,bC,h0,Blk.ren,aL,fW,AV.ren,bR];clear h0 hp';generalize hR0:(os.map fA).flatten=R
 refine mE (fun u:Nat × List Nat=>⟨[(2,.ptr 0 0 0 1),(3,.ptr 32 0 0 1),(7,.d (.ro 2 (os.map eO))),(8,.d (.int .i64 (os.length:Int))),(9,.d (.int .i64 (u.1:Int)))],[(32,⟨167,10,[yp u.2]⟩),(0,⟨29,32,[cb z32]⟩)],2000⟩)
  (fun u=>u.1≤os.length∧u.2.length≤1200*u.1∧u.2 ++ d0 fA os u.1=R) (fun u=>os.length - u.1) (0,[]) ⟨aw,aw,by rw [← hR0];exact lm⟩ ((Av 32 rfl).trans (cz (by
   simp [aA,ai,fv,lk,bX,AV.low,AV.low1]
   exact ⟨jK _ _,aO _ _⟩))) ?_
 rintro ⟨k,B⟩ ⟨hk,hBl,hR⟩;simp only at hk hBl hR;simp only [go_sem,Nat.reduceEqDiff,Nat.reduceAdd,Nat.reduceLT,↓reduceIte,Nat.reduceMul];refine ⟨fun h=>?_,fun h=>?_⟩
 ·obtain ⟨o,ho1,hd⟩:=bm (l:=os) (k:=k) aq;obtain ⟨ho64,hol⟩:=ho o (cr ho1);have w3:=az (k:=k) aq;have hbl:=bU o.2.length;have hbb:(bY o.2).length=(au o.2.length).length+o.2.length:=by simp [bY]
  simp [go_sem,ho1,eO];refine bN [] (tu [] o.1 aw ho64) rfl (aj (.one (ak (.nil 1))) (aj (.deep a9) aD)) ?_;simp [go_sem,aE];refine aN [(0,32)] (oh B (le o.1 8) (by rw [aJ];omega)) rfl aw (by simp [lk]) (by simp [lk,Blk.ren,aL,bu]) (by simp [AV.renL,AV.ren,bR,gu,lk,eA]) ?_;rintro r hp' ⟨rfl,h0⟩;refine ⟨[],rfl,?_⟩;have hBl2:(B ++ le o.1 8).length=B.length+8:=by rw [b_,aJ]
  have hB3:B ++ fA o=B ++ le o.1 8 ++ bY o.2:=by simp [fA]
  generalize B ++ le o.1 8=B1 at *;simp [go_sem,bP,bC,h0,Blk.ren,aL,bu,AV.renL,AV.ren,bR];clear h0 hp';refine bN [] (fi [] o.2 aw aq) rfl (aj (.one (ak (.nil 1))) (aj (.deep a9) aD)) ?_;simp [go_sem,aE];refine aN [(0,32)] (oh B1 (bY o.2) aq) rfl aw (by simp [lk]) (by simp [lk,Blk.ren,aL,bu]) (by simp [AV.renL,AV.ren,bR,gu,lk,nb,bY]) ?_;rintro r hp' ⟨rfl,h0⟩;refine ⟨[],rfl,?_⟩;rw [← hB3] at h0;have hB4:(B ++ fA o).length=B1.length+(bY o.2).length:=by rw [hB3,b_]
  simp [go_sem,bP,bC,h0,Blk.ren,aL,bu,AV.renL,AV.ren,bR,w3];refine ao (k+1,B ++ fA o) ⟨by simp only;omega,by simp only;omega,dB hd hR⟩ (by simp only;omega) ?_;simp [aA,ai,fv,lk,AV.low,AV.low1];exact ⟨jK _ _,aO _ _⟩
 ·have hkl:k=os.length:=aq;subst hkl;have:=dC hR;subst this;simp [go_sem];refine aN [(0,32)] (we B aq) rfl aw (by simp [lk]) (by simp [lk,Blk.ren,aL,bu]) (by simp [AV.renL,AV.ren,bR,gu,lk]) ?_;rintro r hp' ⟨rfl,h0⟩;refine ⟨[],rfl,?_⟩;have hL:=a8 B;simp [go_sem,bP,bC,h0,Blk.ren,aL,bu,df,AV.ren,bR,hL,av hL,cy,ah];exact aa (by simp [AV.deep];exact cg _) rfl
end Go.Proofs.YtmfnimjnneflnaaGreat
namespace Go.Sha
def iR:List Nat:=[84,97,112,83,105,103,104,97,115,104]
end Go.Sha
namespace Go.Proofs.YtmfnimjnneflnaaGreat
open Go.Am Go.Sha
theorem KY (os:List (Nat × List Nat)) (hn:os.length≤8) (ho:∀ o,o ∈ os→o.1<18446744073709551616∧o.2.length≤1100):ax Tryz.prog 83 [.d (.ro 2 (os.map eO))] (fun r=>r=.tup [.agg (cb (bq (os.map uk).flatten)),.agg (cb (bq (os.map uJ).flatten))]):=by
 refine bO Tryz.func83 Tryz.ntmps83 (rs:=[.cell 2 29,.cell 3 29]) a9 ?_;simp [go_sem];refine aN [] mG rfl aw aw aw (by simp [AV.renL]) ?_;rintro r hp' ⟨rfl,h0⟩;refine ⟨[(97,0)],rfl,?_⟩;simp [go_sem,bP,bC,h0,Blk.ren,aL,fW,AV.ren,bR];clear h0 hp';refine aN [] mG rfl aw aw aw (by simp [AV.renL]) ?_;rintro r hp' ⟨rfl,h0⟩;refine ⟨[(97,0)],rfl,?_⟩;simp [go_sem,bP,bC,h0,Blk.ren,aL,fW,AV.ren,bR];clear h0 hp';generalize hV0:(os.map uk).flatten=V;generalize hS0:(os.map uJ).flatten=S
 refine mE (fun u:Nat × List Nat × List Nat=>⟨[(2,.ptr 0 0 0 1),(3,.ptr 32 0 0 1),(4,.ptr 64 0 0 1),(5,.ptr 96 0 0 1),(10,.d (.ro 2 (os.map eO))),(11,.d (.int .i64 (os.length:Int))),(12,.d (.int .i64 (u.1:Int)))],
   [(96,⟨167,10,[yp u.2.2]⟩),(64,⟨167,10,[yp u.2.1]⟩),(32,⟨29,32,[cb z32]⟩),(0,⟨29,32,[cb z32]⟩)],2000⟩)
  (fun u=>u.1≤os.length∧(u.2.1.length≤8*u.1∧u.2.2.length≤1200*u.1)∧u.2.1 ++ d0 uk os u.1=V∧u.2.2 ++ d0 uJ os u.1=S) (fun u=>os.length - u.1) (0,[],[]) ⟨aw,aw,by rw [← hV0];exact lm,by rw [← hS0];exact lm⟩
  ((Av 64 rfl).trans ((Av 96 rfl).trans (cz (by
   simp [aA,ai,fv,lk,bX,AV.low,AV.low1]
   exact ⟨jK _ _,aO _ _⟩)))) ?_
 rintro ⟨k,A,B⟩ ⟨hk,⟨hAl,hBl⟩,hV,hS⟩;simp only at hk hAl hBl hV hS;simp only [go_sem,Nat.reduceEqDiff,Nat.reduceAdd,Nat.reduceLT,↓reduceIte,Nat.reduceMul];refine ⟨fun h=>?_,fun h=>?_⟩
 ·obtain ⟨o,ho1,hd⟩:=bm (l:=os) (k:=k) aq;obtain ⟨ho64,hol⟩:=ho o (cr ho1);have w3:=az (k:=k) aq;have hbl:=bU o.2.length;have hbb:(bY o.2).length=(au o.2.length).length+o.2.length:=by simp [bY]
  simp [go_sem,ho1,eO];refine bN [] (tu [] o.1 aw ho64) rfl (aj (.one (ak (.nil 1))) (aj (.deep a9) aD)) ?_;simp [go_sem,aE];refine aN [(0,64)] (oh A (le o.1 8) (by rw [aJ];omega)) rfl aw (by simp [lk]) (by simp [lk,Blk.ren,aL,bu]) (by simp [AV.renL,AV.ren,bR,gu,lk,eA]) ?_;rintro r hp' ⟨rfl,h0⟩;refine ⟨[],rfl,?_⟩;have hA2:(A ++ uk o).length=A.length+8:=by rw [b_,uk,aJ]
  rw [show A ++ le o.1 8=A ++ uk o from rfl] at h0;simp [go_sem,bP,bC,h0,Blk.ren,aL,bu,AV.renL,AV.ren,bR];clear h0 hp';refine bN [] (fi [] o.2 aw aq) rfl (aj (.one (ak (.nil 1))) (aj (.deep a9) aD)) ?_;simp [go_sem,aE];refine aN [(0,96)] (oh B (bY o.2) aq) rfl aw (by simp [lk]) (by simp [lk,Blk.ren,aL,bu]) (by simp [AV.renL,AV.ren,bR,gu,lk,nb,bY]) ?_;rintro r hp' ⟨rfl,h0⟩;refine ⟨[],rfl,?_⟩;have hB4:(B ++ uJ o).length=B.length+(bY o.2).length:=by rw [b_];rfl
  rw [show B ++ bY o.2=B ++ uJ o from rfl] at h0;simp [go_sem,bP,bC,h0,Blk.ren,aL,bu,AV.renL,AV.ren,bR,w3];refine ao (k+1,A ++ uk o,B ++ uJ o) ⟨by simp only;omega,⟨by simp only;omega,by simp only;omega⟩,dB hd hV,dB hd hS⟩ (by simp only;omega) ?_;simp [aA,ai,fv,lk,AV.low,AV.low1];exact ⟨jK _ _,jK _ _,aO _ _⟩
 ·have hkl:k=os.length:=aq;subst hkl;have:=dC hV;subst this;have:=dC hS;subst this;have hLA:=a8 A;have hLB:=a8 B;simp [go_sem];refine aN [(0,64)] (we A aq) rfl aw (by simp [lk]) (by simp [lk,Blk.ren,aL,bu]) (by simp [AV.renL,AV.ren,bR,gu,lk]) ?_;rintro r hp' ⟨rfl,h0⟩;refine ⟨[],rfl,?_⟩;simp [go_sem,bP,bC,h0,Blk.ren,aL,bu,df,AV.ren,bR];clear h0 hp';refine aN [(0,96)] (we B aq) rfl aw (by simp [lk]) (by simp [lk,Blk.ren,aL,bu]) (by simp [AV.renL,AV.ren,bR,gu,lk]) ?_;rintro r hp' ⟨rfl,h0⟩;refine ⟨[],rfl,?_⟩;simp [go_sem,bP,bC,h0,Blk.ren,aL,bu,df,AV.ren,bR,hLA,hLB,av hLA,av hLB,cy,ah]
  exact aa (by
   intro c hc;simp at hc;rcases hc with rfl | rfl
   ·exact .inr ⟨_,rfl,cg _⟩
   ·exact .inr ⟨_,rfl,cg _⟩) rfl
theorem yq (t:Tn):∀ v,v ∈ [AV.agg (eT t)]→v.deep:=by simp [AV.deep,AV.deep1,eT]
def TJ:List Nat:=List.replicate 96 0
theorem TL:eV Tryz.prog 139=some (cb TJ):=by kernel_rfl
def E0:List Nat:=List.replicate 160 0
theorem OM:eV Tryz.prog 143=some (cb E0):=by kernel_rfl
attribute [go_sem] TL OM
theorem Ax:TJ.length=96:=rfl
theorem ru:List.drop 96 (cb TJ)=[]:=rfl
theorem wh:E0.length=160:=by simp [E0]
theorem CY:List.drop 160 (cb E0)=[]:=c_ (by rw [am,wh];exact cL _)
theorem CZ {A Z:List AV} {n m:Nat} (hA:A.length=n) (hm:n≤m):List.drop m (A ++ List.drop n Z)=List.drop m Z:=by
 rw [List.drop_append,c_ aq,List.nil_append,List.drop_drop,hA,show n+(m - n)=m by omega]
theorem qj {A B Z:List AV} {n m:Nat} (hA:A.length=n) (hm:n≤m):List.take n (A ++ List.drop n Z) ++ (B ++ List.drop m (A ++ List.drop n Z))=A ++ B ++ List.drop m Z:=by
 rw [CZ hA hm];subst hA;rw [List.take_left,cA]
theorem um (a b:List Nat):cb (a ++ b)=cb a ++ cb b:=by simp [cb]
theorem KZ (t:Tn) (ht:Sm t):ax Tryz.prog 82 [.agg (eT t)] (fun r=>r=.agg (cb (bq (t.ins.map qi).flatten ++ (bq (t.ins.map rp).flatten ++ bq (t.outs.map fA).flatten)))):=by
 refine bO Tryz.func82 Tryz.ntmps82 (rs:=[.cell 2 139]) (yq t) ?_;have p1:=OL t ht;have p2:=EZ t ht;have p3:=Aw t.outs (by have:=ht.2.2.1;omega) (fun o h=>⟨ht.1.2.2.2 o h,by have:=ht.2.2.2.1 o h;omega⟩);have l1:=a8 (t.ins.map qi).flatten;have l2:=a8 (t.ins.map rp).flatten;have l3:=a8 (t.outs.map fA).flatten;generalize bq (t.ins.map qi).flatten=a at *;generalize bq (t.ins.map rp).flatten=b at *;generalize bq (t.outs.map fA).flatten=c at *;have hT:eT t=[.d (.int .u32 (t.ver:Int)),.d (.ro 35 (t.ins.map eI)),.d (.ro 2 (t.outs.map eO)),.d (.int .u32 (t.lock:Int))]:=rfl;have hd:=yq t;rw [hT] at p1 p2 hd;simp [go_sem,eT];refine cf [0,2,4,5] [(1,[]),(3,[]),(6,[7]),(8,[])] 3 (k:=9) ?_;intro G hG;simp [go_sem];refine ag p1 hd ?_;simp [go_sem];refine ag p2 hd ?_;simp [go_sem];refine ag p3 a9 ?_;simp [go_sem,am,l1,l2,l3,Ax,ru];rw [CZ (A:=cb a) (n:=32) (by rw [am,l1]) aq,← cA (cb a),qj (A:=cb a ++ cb b) (n:=64) (by simp [am,l1,l2]) aq,ru,List.append_nil];refine hG _ _ ?_;clear hG G;have hL:(cb a ++ cb b ++ cb c).length=96:=by simp [am,l1,l2,l3]
 have hT2:List.take 96 (cb a ++ cb b ++ cb c)=cb a ++ cb b ++ cb c:=cx aq;have hE:cb (a ++ (b ++ c))=cb a ++ cb b ++ cb c:=by rw [um,um,cA]
 have hD:=cg (a ++ (b ++ c));rw [hE] at hD;rw [hE];generalize cb a ++ cb b ++ cb c=R at *;simp [go_sem,hL,hT2,ah];exact aa hD rfl
end Go.Proofs.YtmfnimjnneflnaaGreat
