/-
 Part 12 of what the claim rests on.
-/
import Derived.Test.YtmfnimjnneflnaaGreatX5
import Derived.Test.YtmfnimjnneflnaaGreatX6
import Derived.Test.YtmfnimjnneflnaaGreatX7
import Derived.Test.YtmfnimjnneflnaaGreatX10
set_option linter.unusedVariables false
set_option linter.unusedSimpArgs false
set_option maxRecDepth 100000
set_option maxHeartbeats 16000000
namespace Go.Proofs.YtmfnimjnneflnaaGreat
open Go.Am Go.Sha
theorem E5(r:Rn):(bq r).2.cl=r.cl:=by
 unfold bq;split;split;unfold aC;split<;>rfl;rfl;rfl
theorem Uz(most:Nat)(r:Rn):(fg most r).2.cl=r.cl:=by
 have h:=E5 r;unfold fg;generalize bq r=p at *;simp only;split;cases gv most p.1 with
 |none=>simp only;unfold aC;split<;>exact h
 |some n=>exact h
 ·exact h
theorem oc{most:Nat}{r:Rn}(h:StOk r.main r.alt):StOk (fg most r).2.main (fg most r).2.alt:=by
 have h:=(ew h).1;unfold fg;generalize bq r=p at *;simp only;split;cases gv most p.1 with
 |none=>exact iy h
 |some n=>exact h
 ·exact h
theorem Jl{hp:Hp}{I:Nat→Prop}{id:Nat}{ty:TypeId}{cs:List (Int×Int)}(a:lk id hp=some ⟨ty,2,cs.map ZL⟩)(c:I id):SnapD hp I (.own id 0 cs.length cs.length) (.ro 2 (cs.map dW)):=by
 refine kr a c aw ?_ aw (fun r b=>by
  obtain⟨x,_,rfl⟩:=List.mem_map.1 b
  rfl)
 rw[List.drop_zero,cx aw];have e:cs.map ZL=(cs.map dW).map fun r=>r.map AV.d:=by
  rw[List.map_map];rfl
 rw[e];exact lp _
theorem YR (F:RnF) (x:Rx) (hi:F.inner.length=32) (c:x.tpl.length=32) (i:bytes x.tpl) (z:Int) (o:au Tryz.prog 18 [.agg (eT F.t),.d (.int .i64 (F.n:Int))] (fun v=>v=.tup [.agg (cb x.tpl),.d (.int .i64 z)])) (r:Rn) (J:List Bool) (H:Nat) (q:StOk r.main r.alt) :
    dr Tryz.prog 3 (aI (ja F)) 201 ⟨r,J,H⟩ [.ptr 0 0 0 1] (fun v j=>j=⟨GX x r,J,H⟩):=by
  refine ap Tryz.func201 (by kernel_rfl) rfl Tryz.ntmps201 (rs:=[]) rfl (dJ rfl) (by decide) ?_;have f:=fq (F:=F) hi;have B:z32.length=32:=rfl;obtain⟨l,m,g⟩:=CB q;have e:=OU f r J H q;unfold GX;generalize oG r=p at *;obtain⟨b,h⟩:=p;simp only at e l m g⊢;simp[go_sem];refine eK (Pp:=[]) f e aq aw (by simp[AV.renL]) ?_;rintro v j ρ ⟨rfl,rfl⟩ A;rw[bH];simp only[aI,bJ,bI,id,ja,eS];simp only[eT]at o;simp[go_sem,AV.ren];refine dE [0,1,2,3,4,5,6,7,8,9] [10,14,15] [0,1,2,3,4,5,6,7,8,9,11,12,13,16] (.alt (.step 10 [11,12,13] true (bt 14 (.step 15 [16] true .done))) (bt 14 (.step 10 [11,12,13] true (.step 15 [16] true .done)))) ⟨[(0,.ptr 0 0 0 1),(2,.d (nb b)),(3,.ptr 548 0 0 1)],(548,⟨29,32,[cb x.tpl]⟩)::ju 3 (aI (ja F)) ⟨h,J,H⟩ id,9000⟩ (k:=17) ?h3 ?hq
  case h3 =>
    intro G w;simp (config := { maxSteps := 3000000 }) [go_sem]
    repeat' first
      |apply And.intro
      | (refine ag o a9 ?_
         simp (config := { maxSteps := 3000000 }) [go_sem,ak,c])
      | (refine w _ _ (b7 ⟨by simp [ai,fv,lk,AV.low,AV.low1],?_,aw⟩)
         intro p a;rcases et.1 a with rfl|a
         · refine ⟨.inl (by simp [lk,ak,B]),by show 548<9000;omega,?_⟩
           intro r s v u;simp only[et,List.mem_nil_iff,or_false]at s;subst s;obtain⟨y,_,rfl⟩:=List.mem_map.1 u;trivial
         · exact rnW f (dJ rfl) (tf (by simp[lk,aI,bJ,bI,ja,eS]) (by simp[lk,aI]) (by simp[lk,aI])) p a)
  case hq =>
    simp[go_sem];refine jh (jx b x.tpl g i) rfl (aj (.deep trivial) (aj (.one (ao (eU rfl trivial c))) aD)) trivial ?_;by_cases hq:b=x.tpl
    · simp [go_sem,hq]
      rw[bH];exact aF (by simp[lk,aI,bJ,bI,ja,eS]) rfl rfl
    · simp [go_sem,hq]
      refine aR (Pp:=[(548,⟨29,32,[cb x.tpl]⟩)]) f (bD f h J H 23) rfl (dJ rfl) (by intro p a;simp at a;subst a;simp) (by simp[AV.renL,AV.ren]) ?_;rintro v j ρ rfl A;rw[bH];generalize aC 23 h=r';simp only[aI,bJ,bI,id,ja,eS];simp[go_sem];exact aF (by simp[lk,aI,bJ,bI]) rfl rfl
theorem V6{C:List AV}(l:jG C)(a:List Nat)(Pp:Hp){N:Nat}{hp:Hp}{g:FuncId}{s:RnS}{b ars2:List AV}{R:AV→RnS→Prop}{K:AV→Hp→Prop}(h:dr Tryz.prog 3 (aI C) g s (.ptr 0 0 0 1::ars2) R)(t:3≤N)
  (m:∀p,p∈Pp++ju 3 (aI C) s id→lk p.1 (aE a hp)=some p.2) (q:b.length=ars2.length) (r:∀(i:Nat)(v c:AV),b[i]?=some v→ars2[i]?=some c→c=v∨Snap hp (fun id=>id∈a) v c) (k:∀p,p∈Pp→p.1<N∧3≤p.1) (e:∀ ρ,AV.renL ρ ars2=ars2)
  (o:∀v s' ρ,R v s'→(∀j,j<3→ρ j=j)→K (v.ren ρ) (Pp++ju 3 (aI C) s' id)):uK Tryz.prog g (.ptr 0 0 0 1::b) hp N K:=by
 refine c8 a Pp (args':=.ptr 0 0 0 1::ars2) (uu l) id h (aV 3) (fun j n=>by show j<N;omega) m (by simp[q]) ?_ (fun p hp=>⟨(k p hp).1,fun j n=>by have:=(k p hp).2;show j≠p.1;omega⟩) ?_ o
 ·intro i v c f d
  match i with
  |0=>simp at f d;subst f;subst d;exact .inl rfl
  |i+1=>exact r i v c f d
 ·rw[AV.renL,e,AV.ren];rfl
theorem Jm{hp:Hp}{I:Nat→Prop}{l:List AV}:∀(i:Nat)(v a:AV),([]:List AV)[i]?=some v→l[i]?=some a→a=v∨Snap hp I v a:=by intro i v a h;simp at h
theorem ti{hp:Hp}{I:Nat→Prop}{a a':AV}{args args':List AV}(h:a'=a∨Snap hp I a a')(t:∀(i:Nat)(v b:AV),args[i]?=some v→args'[i]?=some b→b=v∨Snap hp I v b):∀(i:Nat)(v b:AV),(a::args)[i]?=some v→(a'::args')[i]?=some b→b=v∨Snap hp I v b:=by
 intro i v b c d
 match i with
 |0=>simp at c d;subst c;subst d;exact h
 |i+1=>exact t i v b c d
theorem UA(F:RnF)(x:Rx)(hi:F.inner.length=32)(y:∀(h:bc)(o:Int),bytes h→h.length≤1000→au Tryz.prog 234 [.agg (eS F.t (F.n:Int) F.coins),.d (nb h),.d (.int .i64 o)] (fun v=>v=To (x.rcv h o)))(r:Rn)(J:List Bool)(B:StOk r.main r.alt)(hc:r.cl.length≤100000) :
  dr Tryz.prog 3 (aI (ja F)) 203 ⟨r,J,0⟩ [.ptr 0 0 0 1] (fun v u=>u=⟨BN x r,J,0⟩):=by
 refine ap Tryz.func203 (by kernel_rfl) rfl Tryz.ntmps203 (rs:=[]) rfl (dJ rfl) (by decide) ?_;have a:=fq (F:=F) hi;obtain⟨c,w,m⟩:=ew B;have l:(bq r).2.cl=r.cl:=E5 r;have g:=lN a r J 0 B;unfold BN;generalize bq r=p at *;obtain⟨h,i⟩:=p;simp only at g c w m l⊢;have j:=uW a i J 0 c 4 aq;have f:=oc (most:=4) c;have b:(fg 4 i).2.cl=i.cl:=Uz 4 i;generalize fg 4 i=p at *;obtain⟨o,k⟩:=p;simp only at j f b⊢;have y:=y h o m w;simp only[eS]at y;generalize x.rcv h o=q at *;obtain⟨z,c2,e⟩:=q;simp[go_sem];refine eK (Pp:=[]) a g aq aw (by simp[AV.renL]) ?_;rintro v u ρ ⟨rfl,rfl⟩ C;simp[go_sem,AV.ren];refine eK (Pp:=[]) a j aq aw (by simp[AV.renL,AV.ren]) ?_;rintro v u ρ ⟨rfl,rfl⟩ C;simp[go_sem,AV.ren];refine eK (Pp:=[]) a (fE a k J 0) aq aw (by simp[AV.renL]) ?_;rintro v u ρ' ⟨rfl,rfl⟩ D;by_cases A:k.e=0
 ·rw[bH];simp only[aI,bJ,bI,id,ja,eS];simp[go_sem,AV.ren,A];refine ag y a9 ?_;simp[go_sem,To];refine V6 a [772] [] (s:=⟨k,J,0⟩) (ars2:=[.d (.ro 2 ([(z,c2)].map dW)),.d (.int .i64 e)]) (Jh a k J f [(z,c2)] e (by rw[b,l];exact hc) aw) aq ?_ rfl (ti (.inr (.one (ao (Jl (cs:=[(z,c2)]) rfl aw)))) (ti (.inl rfl) Jm)) aw (by simp[AV.renL,AV.ren]) ?_
  exact tf (by simp[aE,lk,aI,bJ,bI,ja,eS,A]) (by simp[aE,lk,aI]) (by simp[aE,lk,aI]);rintro v u ρ rfl C;rw[bH];generalize BM [(z,c2)] e k=r';simp only[aI,bJ,bI,id,ja,eS];simp[go_sem];exact aF (by simp[lk,aI,bJ,bI]) rfl rfl
 ·simp[go_sem,AV.ren,A];rw[bH];exact aF rfl rfl rfl
theorem YS (F:RnF) (x:Rx) (hi:F.inner.length=32) (E:F.script.length≤100000) (m:x.msg.length=32) (w:Int)
    (q:au Tryz.prog 43 [.agg (eS F.t (F.n:Int) F.coins),.d (nb (eo F.script)),.d (nb F.annex)] (fun v=>v=.tup [.agg (cb x.msg),.d (.int .i64 w)])) (r:Rn) (J:List Bool) (H:Nat) :
    cX Tryz.prog 226 3 (ju 3 (aI (ja F)) ⟨r,J,H⟩ id) [.ptr 0 0 0 1] (fun v e=>v=.sub 708 0 0 1 32 32 1∧lk 708 e=some ⟨29,32,[cb x.msg]⟩∧vA 3 (aI (ja F)) ⟨r,J,H⟩ id e):=by
  refine ap Tryz.func226 (by kernel_rfl) rfl Tryz.ntmps226 (rs:=[.tmp 2]) rfl (dJ rfl) (by decide) ?_;have D:=fq (F:=F) hi;have u:z32.length=32:=rfl;have h:=oV F.script E;have a:(fJ [84,97,112,76,101,97,102] (192::(aA F.script.length++F.script))).length=32:=mW F.script;rw[bH];simp only[aI,bJ,bI,id,ja,eS,ar];have i:∀l:List AV,(cb F.inner++(AV.d (bW F.path)::AV.d (nb F.script)::l))[33]?=some (.d (nb F.script)):=fun l=>by
    rw[dz (by rw[ak,hi];omega),ak,hi];rfl
  have o:∀l:List AV,(cb F.inner++(AV.d (bW F.path)::AV.d (nb F.script)::AV.d (nb F.annex)::l))[34]?=some (.d (nb F.annex)):=fun l=>by
    rw[dz (by rw[ak,hi];omega),ak,hi];rfl
  simp[go_sem,i];refine ag h a9 ?_;have b:List.drop 32 (cb z32)=[]:=rfl;have f:fJ [84,97,112,76,101,97,102] (192::(aA F.script.length++F.script))=eo F.script:=rfl;rw[f]at a⊢;generalize eo F.script=lb at *;simp only[eS]at q;simp[go_sem,ak,u,a,b]
  have g:(AV.tup [.agg (cb x.msg),.d (.int .i64 w)]).flat:=by
    intro c hc;simp at hc;rcases hc with rfl|rfl
    · refine .inr ⟨_,rfl,fun y C=>?_⟩
      obtain⟨z,_,rfl⟩:=List.mem_map.1 C;trivial
    · exact .inl trivial
  refine dE [0,1,2,3,4,5,6,7,8] [9,13,14] [0,1,2,3,4,5,6,7,8,10,11,12,15] (.alt (.step 9 [10,11,12] true (bt 13 (.step 14 [15] true .done))) (bt 13 (.step 9 [10,11,12] true (.step 14 [15] true .done)))) ⟨[(4,.ptr 708 0 0 1)],(708,⟨29,32,[cb x.msg]⟩)::ju 3 (aI (ja F)) ⟨r,J,H⟩ id,9000⟩ (k:=16) ?h3 ?hq
  case h3 =>
    intro G B;simp (config := { maxSteps := 3000000 }) [go_sem,o,ak]
    repeat' first
      |apply And.intro
      | (refine jh q rfl (aj (.deep a9) (aj (.one (ao (eU rfl trivial a))) (aj (.deep trivial) aD))) g ?_
         simp (config := { maxSteps := 3000000 }) [go_sem,ak,m,u])
      | (refine B _ _ (b7 ⟨by simp [ai,fv,lk,AV.low,AV.low1],?_,aw⟩)
         intro p j;rcases et.1 j with rfl|j
         · refine ⟨.inl (by simp [lk,b]),by show 708<9000;omega,?_⟩
           intro r s v A;simp only[et,List.mem_nil_iff,or_false]at s;subst s;obtain⟨y,_,rfl⟩:=List.mem_map.1 A;trivial
         · exact rnW D (dJ rfl) (tf (by simp[lk,aI,bJ,bI,ja,eS,ar]) (by simp[lk,aI]) (by simp[lk,aI])) p j)
  case hq =>
    simp[go_sem,ah];rw[bH];exact aF (by simp[lk,aI,bJ,bI,ja,eS,ar]) rfl rfl
theorem YT(F:RnF)(x:Rx)(hi:F.inner.length=32)(E:F.script.length≤100000)(p:x.msg.length=32)(u:Int)
  (C:au Tryz.prog 43 [.agg (eS F.t (F.n:Int) F.coins),.d (nb (eo F.script)),.d (nb F.annex)] (fun v=>v=.tup [.agg (cb x.msg),.d (.int .i64 u)])) {s:RnS} {N:Nat} {K:AV→Hp→Prop} (I:3≤N)
  (D:K (.sub N 0 0 1 32 32 1) ((N,⟨29,32,[cb x.msg]⟩)::ju 3 (aI (ja F)) s id)):uK Tryz.prog 226 [.ptr 0 0 0 1] (ju 3 (aI (ja F)) s id) N K:=by
 have A:=fq (F:=F) hi;have o:=uu A;have l:∀j,j<3→b8 (lI 3 id id) 3 (id j)=j:=fun j a=>vV id 3 (aV 3) a;have f:db (lI 3 id id) [(708,0)]=true:=GA aq;have k:zT 3 id [(708,0)] N 708=N:=Bt (c:=708) (j:=0) f aw;refine .inl (pV (n:=3) (b0:=aI (ja F) s id) id (YS F x hi E p u C s.r s.J s.H) (fun i x hi=>IB i x hi) (aV 3) (fun j a=>by show j<N;omega)
  (fun j a=>⟨_,Bq _ (aV 3) a,o.2 _ _ _ a,(o.1 s id _ id j a l).symm⟩) ?_ [(708,0)] f ?_)
 rw[AV.renL,AV.renL,AV.ren];rfl;rintro L B⟨rfl,w,q⟩G y z M;have m:∀j,j<3→zT 3 id [(708,0)] N (id j)=id j:=fun j a=>Br f a;refine⟨(N,⟨29,32,[cb x.msg]⟩)::ju 3 (aI (ja F)) s id,fun i b h=>?_,?_⟩;simp only[lk]at h;split at h;rename_i e;subst e;cases h;have g:=z 708 0 aw _ w;have e:Blk.ren (zT 3 id [(708,0)] N) ⟨29,32,[cb x.msg]⟩=⟨29,32,[cb x.msg]⟩:=by
  simp only[Blk.ren,aO,List.map_cons,List.map_nil,kn,cb,List.map_map];rfl
 rw[e]at g;exact g;obtain⟨j,a,e⟩:=nM.1 (bK h);cases e;have g:=y j a _ (q j a);rw[o.1 s id _ id j a m]at g;exact g;rw[AV.ren,k];exact D
theorem Jn(m:bc):au Tryz.prog 228 [.rop [nb m]] (fun v=>v=.d (nb m)):=by
 refine bF Tryz.func228 Tryz.ntmps228 (rs:=[.tmp 1]) a9 ?_;simp[go_sem,ah];exact aa trivial rfl
def YU(e:bc→bc→bc→Bool):Prop:=∀a c b:bc,a.length=32→bytes a→bytes c→bytes b→c.length≤1000→b.length≤1000→au Tryz.prog 156 [.agg (cb a),.d (nb c),.d (nb b)] (fun v=>v=.d (.bool (e a b c)))
theorem tj(key:bc):(key.map fun(b:Nat)=>[DV.int .u8 (b:Int)]).flatten=cd key:=by
 unfold cd
 induction key with
 |nil=>rfl
 |cons a l ih=>simp only[List.map_cons,List.flatten_cons,ih];rfl
theorem Jo{hp:Hp}{key:bc}:Snap hp (fun _=>True) (.agg (cb key)) (.agg (cb key)):=.deep (dV _)
theorem P5{C:List AV}(t:jG C)(b:bc)(I:bytes b)(E:b.length≤1000)(n:bc→bc→bc→Bool)(R:YU n)(r:Rn)(J:List Bool)(H:Nat)(key a:bc)(K:bytes key)(F:bytes a)(S:key.length≤1000)(y:a.length≤1000)(L:-9223372036854775808≤r.bud)(z:r.bud<9223372036854775808) :
  dr Tryz.prog 3 (aI C) 225 ⟨r,J,H⟩ [.ptr 0 0 0 1,.d (nb key),.d (nb a),.fn 228 [.rop [nb b]]] (fun v D=>v=.d (.bool (gy n key a b r).1)∧D=⟨(gy n key a b r).2,J,H⟩):=by
 refine ap Tryz.func225 (by kernel_rfl) rfl Tryz.ntmps225 (rs:=[.tmp 8]) rfl (dJ rfl) (by decide) ?_;have P:=t.2.2;simp[go_sem];refine eK (Pp:=[]) t (fE t r J H) aq aw (by simp[AV.renL]) ?_;rintro v D ρ ⟨rfl,rfl⟩ M;by_cases m:r.e=0
 ·by_cases i:a.length=0
  ·have g:gy n key a b r=(false,r):=by simp[gy,i]
   rw[g];have B:(a.length:Int)=0:=aq;simp[go_sem,AV.ren,m,nb,i,ah];rw[bH];exact aF rfl rfl rfl
  ·have B:¬(a.length:Int)=0:=aq;by_cases j:r.bud<50
   ·have g:gy n key a b r=(false,aC 21 r):=(by simp[gy,i,m,j]);rw[g];simp[go_sem,AV.ren,m,nb,i];rw[bH];simp only[aI,bJ,bI,id];simp[go_sem,P,j];refine aR (Pp:=[]) (s:=⟨r,J,H⟩) t (bD t r J H 21) (by simp[bH,aI,bJ,bI,m]) aq aw (by simp[AV.renL,AV.ren]) ?_;rintro v D ρ rfl M;rw[bH];generalize aC 21 r=r';simp only[aI,bJ,bI,id];simp[go_sem,ah];exact aF rfl rfl rfl
   ·have g:gy n key a b r=if key.length=32∧n key a b=true then(true,{ r with bud:=r.bud-50 })else(false,aC 20 { r with bud:=r.bud-50 }):=by
     simp only[gy,i,m,j,if_false,ne_eq,not_false_eq_true,and_self,if_true]
    rw[g];have O:IntKind.i64.wrap (r.bud-50)=r.bud-50:=IntWalk.i64_in _ aq;simp[go_sem,AV.ren,m,nb,i];rw[bH];simp only[aI,bJ,bI,id];simp[go_sem,P,j,O];have Q:∀l:List AV,l=l:=fun _=>rfl;obtain⟨c,alt,u,bud,w,e⟩:=r;simp only at m j O L z⊢;subst m;have A:je ⟨c,alt,u,bud,w,0⟩=je ⟨c,alt,u,bud-50,w,0⟩:=rfl;rw[A];have x:=bD t ⟨c,alt,u,bud-50,w,0⟩ J H 20;by_cases f:key.length=32
    ·have o:=R key b a f K I F;have q:(key.length:Int)=32:=aq;cases N:n key a b with
     |true =>
      rw[N]at o;rw[if_pos ⟨f,rfl⟩];simp[go_sem];refine cz [0,1,2,3,4,5,6,7,9] [(8,[]),(10,[11,12])] 2 (k:=13) ?_;intro G p;simp[go_sem,f,tj,da,al f,ak];refine ag (Jn b) a9 ?_;simp[go_sem];refine ag (o E y) (by intro v g;simp at g;rcases g with rfl|rfl|rfl;exact dV _;trivial;trivial) ?_;simp[go_sem];refine p _ _ ?_;clear p G;simp[go_sem,ah];exact aF rfl rfl rfl
     |false =>
      rw[N]at o;rw[if_neg (fun h=>by cases h.2)];simp[go_sem];refine cz [0,1,2,3,4,5,6,7,9] [(8,[]),(10,[11,12])] 2 (k:=13) ?_;intro G p;simp[go_sem,f,tj,da,al f,ak];refine ag (Jn b) a9 ?_;simp[go_sem];refine ag (o E y) (by intro v g;simp at g;rcases g with rfl|rfl|rfl;exact dV _;trivial;trivial) ?_;simp[go_sem];refine p _ _ ?_;clear p G;simp[go_sem];refine aR (Pp:=[]) (s:=⟨⟨c,alt,u,bud-50,w,0⟩,J,H⟩) t x (by simp[bH,aI,bJ,bI]) aq aw (by simp[AV.renL,AV.ren]) ?_;rintro v D ρ rfl M;rw[bH];generalize aC 20 ⟨c,alt,u,bud-50,w,0⟩=r';simp only[aI,bJ,bI,id];simp[go_sem,ah];exact aF rfl rfl rfl
    ·have q:¬(key.length:Int)=32:=aq;rw[if_neg (fun h=>f h.1)];simp[go_sem];refine cz [0,1,2,3,4,5,6,7,9] [(8,[]),(10,[11,12])] 2 (k:=13) ?_;intro G p;simp[go_sem,q];refine p _ _ ?_;clear p G;simp[go_sem];refine aR (Pp:=[]) (s:=⟨⟨c,alt,u,bud-50,w,0⟩,J,H⟩) t x (by simp[bH,aI,bJ,bI]) aq aw (by simp[AV.renL,AV.ren]) ?_;rintro v D ρ rfl M;rw[bH];generalize aC 20 ⟨c,alt,u,bud-50,w,0⟩=r';simp only[aI,bJ,bI,id];simp[go_sem,ah];exact aF rfl rfl rfl
 ·have g:gy n key a b r=(false,r):=by simp[gy,m]
  rw[g];simp[go_sem,AV.ren,m,ah];rw[bH];exact aF rfl rfl rfl
theorem Jp(F:RnF)(x:Rx)(hi:F.inner.length=32)(e:F.script.length≤100000)(a:x.msg.length=32)(b:Int)
  (g:au Tryz.prog 43 [.agg (eS F.t (F.n:Int) F.coins),.d (nb (eo F.script)),.d (nb F.annex)] (fun v=>v=.tup [.agg (cb x.msg),.d (.int .i64 b)])) {s:RnS} {N:Nat} {hp:Hp} {K:AV→Hp→Prop} (h:hp=ju 3 (aI (ja F)) s id) (c:3≤N)
  (f:K (.sub N 0 0 1 32 32 1) ((N,⟨29,32,[cb x.msg]⟩)::ju 3 (aI (ja F)) s id)):uK Tryz.prog 226 [.ptr 0 0 0 1] hp N K:=h▸YT F x hi e a b g c f
theorem yj(F:RnF)(x:Rx)(hi:F.inner.length=32)(W:F.script.length≤100000)(u:x.msg.length=32)(N:bytes x.msg)(R:Int)(U:au Tryz.prog 43 [.agg (eS F.t (F.n:Int) F.coins),.d (nb (eo F.script)),.d (nb F.annex)] (fun v=>v=.tup [.agg (cb x.msg),.d (.int .i64 R)]))(p:bc→bc→bc→Bool)(Y:YU p)(r:Rn)(J:List Bool)(H:Nat)(key a:bc)(O:bytes key)(M:bytes a)(Z:key.length≤1000)(E:a.length≤1000)(P:-9223372036854775808≤r.bud)(D:r.bud<9223372036854775808) :
  dr Tryz.prog 3 (aI (ja F)) 225 ⟨r,J,H⟩ [.ptr 0 0 0 1,.d (nb key),.d (nb a),.mth 226 [.ptr 0 0 0 1]] (fun v L=>v=.d (.bool (gy p key a x.msg r).1)∧L=⟨(gy p key a x.msg r).2,J,H⟩):=by
 have z:=fq (F:=F) hi;generalize o:ja F=C at *;refine ap Tryz.func225 (by kernel_rfl) rfl Tryz.ntmps225 (rs:=[.tmp 8]) rfl (dJ rfl) (by decide) ?_;have V:=z.2.2;simp[go_sem];refine eK (Pp:=[]) z (fE z r J H) aq aw (by simp[AV.renL]) ?_;rintro v L ρ ⟨rfl,rfl⟩ Q;by_cases i:r.e=0
 ·by_cases f:a.length=0
  ·have A:gy p key a x.msg r=(false,r):=by simp[gy,f]
   rw[A];have K:(a.length:Int)=0:=aq;simp[go_sem,AV.ren,i,nb,f,ah];rw[bH];exact aF rfl rfl rfl
  ·have K:¬(a.length:Int)=0:=aq;by_cases g:r.bud<50
   ·have A:gy p key a x.msg r=(false,aC 21 r):=(by simp[gy,f,i,g]);rw[A];simp[go_sem,AV.ren,i,nb,f];rw[bH];simp only[aI,bJ,bI,id];simp[go_sem,V,g];refine aR (Pp:=[]) (s:=⟨r,J,H⟩) z (bD z r J H 21) (by simp[bH,aI,bJ,bI,i]) aq aw (by simp[AV.renL,AV.ren]) ?_;rintro v L ρ rfl Q;rw[bH];generalize aC 21 r=r';simp only[aI,bJ,bI,id];simp[go_sem,ah];exact aF rfl rfl rfl
   ·have A:gy p key a x.msg r=if key.length=32∧p key a x.msg=true then(true,{ r with bud:=r.bud-50 })else(false,aC 20 { r with bud:=r.bud-50 }):=by
     simp only[gy,f,i,g,if_false,ne_eq,not_false_eq_true,and_self,if_true]
    rw[A];have T:IntKind.i64.wrap (r.bud-50)=r.bud-50:=IntWalk.i64_in _ aq;simp[go_sem,AV.ren,i,nb,f];rw[bH];simp only[aI,bJ,bI,id];simp[go_sem,V,g,T];have X:∀l:List AV,l=l:=fun _=>rfl;obtain⟨b,alt,j,bud,m,e⟩:=r;simp only at i g T P D⊢;subst i;have I:je ⟨b,alt,j,bud,m,0⟩=je ⟨b,alt,j,bud-50,m,0⟩:=rfl;rw[I];have B:=bD z ⟨b,alt,j,bud-50,m,0⟩ J H 20;by_cases c:key.length=32
    ·have q:=Y key x.msg a c O N M;have y:(key.length:Int)=32:=aq;cases S:p key a x.msg with
     |true =>
      rw[S]at q;rw[if_pos ⟨c,rfl⟩];simp[go_sem];refine cz [0,1,2,3,4,5,6,7,9] [(8,[]),(10,[11,12])] 2 (k:=13) ?_;intro G w;simp[go_sem,c,tj,da,al c,ak];refine Jp F x hi W u R U (s:=⟨⟨b,alt,j,bud-50,m,0⟩,J,H⟩) (by simp[o,bH,aI,bJ,bI]) aq ?_;rw[bH,o];simp only[aI,bJ,bI,id];simp[go_sem];refine jh (q aq E) rfl (aj Jo (aj (.one (ao (eU rfl trivial u))) (aj (.deep trivial) aD))) trivial ?_;simp[go_sem];refine w _ _ ?_;clear w G;simp[go_sem,ah];exact aF rfl rfl rfl
     |false =>
      rw[S]at q;rw[if_neg (fun h=>by cases h.2)];simp[go_sem];refine cz [0,1,2,3,4,5,6,7,9] [(8,[]),(10,[11,12])] 2 (k:=13) ?_;intro G w;simp[go_sem,c,tj,da,al c,ak];refine Jp F x hi W u R U (s:=⟨⟨b,alt,j,bud-50,m,0⟩,J,H⟩) (by simp[o,bH,aI,bJ,bI]) aq ?_;rw[bH,o];simp only[aI,bJ,bI,id];simp[go_sem];refine jh (q aq E) rfl (aj Jo (aj (.one (ao (eU rfl trivial u))) (aj (.deep trivial) aD))) trivial ?_;simp[go_sem];refine w _ _ ?_;clear w G;simp[go_sem];refine aR (Pp:=[(964,⟨29,32,[cb x.msg]⟩)]) (s:=⟨⟨b,alt,j,bud-50,m,0⟩,J,H⟩) z B (by simp[bH,aI,bJ,bI]) aq aw (by simp[AV.renL,AV.ren]) ?_;rintro v L ρ rfl Q;rw[bH];generalize aC 20 ⟨b,alt,j,bud-50,m,0⟩=r';simp only[aI,bJ,bI,id];simp[go_sem,ah];exact aF rfl rfl rfl
    ·have y:¬(key.length:Int)=32:=aq;rw[if_neg (fun h=>c h.1)];simp[go_sem];refine cz [0,1,2,3,4,5,6,7,9] [(8,[]),(10,[11,12])] 2 (k:=13) ?_;intro G w;simp[go_sem,y];refine w _ _ ?_;clear w G;simp[go_sem];refine aR (Pp:=[]) (s:=⟨⟨b,alt,j,bud-50,m,0⟩,J,H⟩) z B (by simp[bH,aI,bJ,bI]) aq aw (by simp[AV.renL,AV.ren]) ?_;rintro v L ρ rfl Q;rw[bH];generalize aC 20 ⟨b,alt,j,bud-50,m,0⟩=r';simp only[aI,bJ,bI,id];simp[go_sem,ah];exact aF rfl rfl rfl
 ·have A:gy p key a x.msg r=(false,r):=by simp[gy,i]
  rw[A];simp[go_sem,AV.ren,i,ah];rw[bH];exact aF rfl rfl rfl
structure RnL(r r':Rn):Prop where
 br:r'.br=r.br
 cl:r'.cl=r.cl
 bud:r'.bud=r.bud
theorem pp(x:Int)(r:Rn):RnL r (aC x r):=by unfold aC;split<;>exact⟨rfl,rfl,rfl⟩
theorem RnL.trans{a b c:Rn}(h:RnL a b)(d:RnL b c):RnL a c:=⟨d.br.trans h.br,d.cl.trans h.cl,d.bud.trans h.bud⟩
theorem mM(r:Rn):RnL r (bq r).2:=by
 unfold bq;split;split;exact pp _ _;exact⟨rfl,rfl,rfl⟩;exact⟨rfl,rfl,rfl⟩
theorem Ai(most:Nat)(r:Rn):RnL r (fg most r).2:=by
 have h:=mM r;unfold fg;generalize bq r=p at *;simp only;split;cases gv most p.1 with
 |none=>exact h.trans (pp _ _)
 |some n=>exact h
 ·exact h
theorem ab9(b:bc)(r:Rn):RnL r (eu b r):=by
 unfold eu;split;split;exact⟨rfl,rfl,rfl⟩;exact pp _ _;exact⟨rfl,rfl,rfl⟩
def iP(b:Int):Prop:=-9223372036854775808≤b∧b<9223372036854775808
theorem yk(c:bc→bc→bc→Bool)(key a b:bc)(r:Rn)(h:iP r.bud)(d:StOk r.main r.alt):(gy c key a b r).2.br=r.br∧(gy c key a b r).2.cl=r.cl∧iP (gy c key a b r).2.bud∧StOk (gy c key a b r).2.main (gy c key a b r).2.alt:=by
 have e:¬r.bud<50→iP (r.bud-50):=fun f=>⟨by have:=h.2;omega,by have:=h.2;omega⟩;unfold gy;split;split;have:=pp 21 r;exact⟨this.br,this.cl,by rw[this.bud];exact h,iy d⟩;split;exact⟨rfl,rfl,e ‹_›,d⟩;have:=pp 20 { r with bud:=r.bud-50 };exact⟨this.br,this.cl,by rw[this.bud];exact e ‹_›,iy d⟩;exact⟨rfl,rfl,h,d⟩
theorem Jq{r:Rn}(h:StOk r.main r.alt):-2147483648<(fg 4 r).1∧(fg 4 r).1<2147483648:=by
 obtain⟨_,_,a⟩:=ew h;unfold fg;generalize bq r=p at *;simp only;split;cases b:gv 4 p.1 with
 |none=>simp only;omega
 |some n=>exact IP a b
 ·simp only;omega
structure RnE(F:RnF)(x:Rx):Prop where
 hi:F.inner.length=32
 hs:F.script.length≤100000
 ml:x.msg.length=32
 mb:bytes x.msg
 mg:∃me:Int,au Tryz.prog 43 [.agg (eS F.t (F.n:Int) F.coins),.d (nb (eo F.script)),.d (nb F.annex)] (fun v=>v=.tup [.agg (cb x.msg),.d (.int .i64 me)])
 vf:YU x.sg
 tl:x.tpl.length=32
 tb:bytes x.tpl
 tg:∃te:Int,au Tryz.prog 18 [.agg (eT F.t),.d (.int .i64 (F.n:Int))] (fun v=>v=.tup [.agg (cb x.tpl),.d (.int .i64 te)])
 rc:∀(h:bc)(o:Int),bytes h→h.length≤1000→au Tryz.prog 234 [.agg (eS F.t (F.n:Int) F.coins),.d (nb h),.d (.int .i64 o)] (fun v=>v=To (x.rcv h o))
 tr:∀(s:bc)(o0 o1 back:Int),bytes s→s.length≤100000→-9223372036854775808≤back→back<9223372036854775808→au Tryz.prog 27 [.agg (eS F.t (F.n:Int) F.coins),bT F.inner F.path F.script,.d (nb s),.agg [.d (.int .i64 o0),.d (.int .i64 o1)],.d (.int .i64 back)]
  (fun v=>v=.tup [.d (.ro 2 ((x.trg s o0 o1 back).1.map dW)),.d (.int .i64 (x.trg s o0 o1 back).2)])∧(x.trg s o0 o1 back).1.length≤2
 sq:∃i:Ip,F.t.ins[F.n]?=some i∧i.ok∧x.seq=(i.seq:Int)
 lk:F.t.lock<4294967296∧x.lock=(F.t.lock:Int)
 vr:F.t.ver<4294967296∧x.ver=(F.t.ver:Int)
 hh:x.h1=aW∧x.h2=eW
theorem P6{C:List AV}(c:jG C){N:Nat}{g:FuncId}{s:RnS}{a:List AV}{R:AV→RnS→Prop}{K:AV→Hp→Prop}(h:dr Tryz.prog 3 (aI C) g s (.ptr 0 0 0 1::a) R)(e:3≤N)(b:AV.renL (b8 (lI 3 id id) 3) a=a)
  (d:∀v s' ρ,R v s'→(∀j,j<3→ρ j=j)→K (v.ren ρ) (ju 3 (aI C) s' id)):uK Tryz.prog g (.ptr 0 0 0 1::a) (ju 3 (aI C) s id) N K:=by
 refine vW (Pp:=[]) (uu c) h (aV 3) (fun j f=>by show j<N;omega) aw ?_ d;rw[AV.renL,b,AV.ren];rfl
theorem wm(F:RnF)(x:Rx)(E:RnE F x)(O:Nat)(Y:O=172∨O=173∨O=186∨O=204)(r:Rn)(J:List Bool)(H:Nat)(V:StOk r.main r.alt)(S:iP r.bud) :
  dr Tryz.prog 3 (aI (ja F)) 198 ⟨r,J,H⟩ [.ptr 0 0 0 1,.d (.int .u8 (O:Int))] (fun v t=>t=⟨uo x O r,J,H⟩):=by
 refine ap Tryz.func198 (by kernel_rfl) rfl Tryz.ntmps198 (rs:=[]) rfl (dJ rfl) (by decide) ?_;have e:=fq (F:=F) E.hi;have Z:=e.2.2;obtain⟨U,T⟩:=E.mg;have I:=lN e r J H V;obtain⟨q,M,L⟩:=ew V;have y:iP (bq r).2.bud:=by rw[(mM r).bud];exact S
 unfold uo;generalize bq r=p at *;obtain⟨h,B⟩:=p;simp only at I q M L y⊢;rcases Y with rfl|rfl|rfl|rfl
 ·have R:=True.intro;have l:=lN e B J H q;obtain⟨g,i,j⟩:=ew q;have a:iP (bq B).2.bud:=by rw[(mM B).bud];exact y
  generalize bq B=p at *;obtain⟨c,A⟩:=p;simp only at l g i j a⊢;have k:=yj F x E.hi E.hs E.ml E.mb U T x.sg E.vf A J H h c L j M i a.1 a.2;obtain⟨_,_,_,m⟩:=yk x.sg h c x.msg A a g;generalize gy x.sg h c x.msg A=p at *;obtain⟨b,G⟩:=p;simp only at k m⊢;have D:=rH e G J H m (js b) (by cases b<;>simp[js]);simp[go_sem];refine eK (Pp:=[]) e I aq aw (by simp[AV.renL]) ?_;rintro v t ρ ⟨rfl,rfl⟩ u;simp[go_sem,AV.ren];refine eK (Pp:=[]) e l aq aw (by simp[AV.renL]) ?_;rintro v t ρ ⟨rfl,rfl⟩ u;simp[go_sem,AV.ren,sx];refine P6 e k aq rfl ?_;rintro v t ρ ⟨rfl,rfl⟩ u;simp[go_sem,AV.ren];refine ag (nQ b) a9 ?_;simp[go_sem];refine aR (Pp:=[]) e D (List.nil_append _).symm aq aw (by simp[AV.renL,AV.ren]) ?_;rintro v t ρ rfl u;rw[bH];generalize eu (js b) G=r';simp only[aI,bJ,bI,id];simp[go_sem];exact aF rfl rfl rfl
 ·have R:=True.intro;have l:=lN e B J H q;obtain⟨g,i,j⟩:=ew q;have a:iP (bq B).2.bud:=by rw[(mM B).bud];exact y
  generalize bq B=p at *;obtain⟨c,A⟩:=p;simp only at l g i j a⊢;have k:=yj F x E.hi E.hs E.ml E.mb U T x.sg E.vf A J H h c L j M i a.1 a.2;obtain⟨_,_,_,m⟩:=yk x.sg h c x.msg A a g;generalize gy x.sg h c x.msg A=p at *;obtain⟨b,G⟩:=p;simp only at k m⊢;simp[go_sem];refine eK (Pp:=[]) e I aq aw (by simp[AV.renL]) ?_;rintro v t ρ ⟨rfl,rfl⟩ u;simp[go_sem,AV.ren];refine eK (Pp:=[]) e l aq aw (by simp[AV.renL]) ?_;rintro v t ρ ⟨rfl,rfl⟩ u;simp[go_sem,AV.ren,sx];refine P6 e k aq rfl ?_;rintro v t ρ ⟨rfl,rfl⟩ u
  cases b with
  |true =>
   simp[go_sem,AV.ren];rw[bH];exact aF rfl rfl rfl
  |false =>
   simp[go_sem,AV.ren];refine aR (Pp:=[]) e (bD e G J H 16) (List.nil_append _).symm aq aw (by simp[AV.renL,AV.ren]) ?_;rintro v t ρ rfl u;rw[bH];generalize aC 16 G=r';simp only[aI,bJ,bI,id];simp[go_sem];exact aF rfl rfl rfl
 ·have R:=True.intro;have P:=uW e B J H q 4 aq;have g:=oc (most:=4) q;have a:iP (fg 4 B).2.bud:=by rw[(Ai 4 B).bud];exact y
  have o:=Jq q;generalize fg 4 B=p at *;obtain⟨n,A⟩:=p;simp only at P g a o⊢;have l:=lN e A J H g;obtain⟨K,w,z⟩:=ew g;have f:iP (bq A).2.bud:=by rw[(mM A).bud];exact a
  generalize bq A=p at *;obtain⟨c,N⟩:=p;simp only at l K w z f⊢;have k:=yj F x E.hi E.hs E.ml E.mb U T x.sg E.vf N J H h c L z M w f.1 f.2;obtain⟨_,_,_,m⟩:=yk x.sg h c x.msg N f K;generalize gy x.sg h c x.msg N=p at *;obtain⟨b,G⟩:=p;simp only at k m⊢;have X:IntKind.i64.wrap (n+1)=n+1:=IntWalk.i64_in _ (by have:=o.1;have:=o.2;omega);simp[go_sem];refine eK (Pp:=[]) e I aq aw (by simp[AV.renL]) ?_;rintro v t ρ ⟨rfl,rfl⟩ u;simp[go_sem,AV.ren];refine eK (Pp:=[]) e P aq aw (by simp[AV.renL,AV.ren]) ?_;rintro v t ρ ⟨rfl,rfl⟩ u;simp[go_sem,AV.ren];refine eK (Pp:=[]) e l aq aw (by simp[AV.renL]) ?_;rintro v t ρ ⟨rfl,rfl⟩ u;simp[go_sem,AV.ren,sx];refine P6 e k aq rfl ?_;rintro v t ρ ⟨rfl,rfl⟩ u
  cases b with
  |true =>
   have D:=rH e G J H m (cQ (n+1)) (by have:=gq (n+1);omega);simp[go_sem,AV.ren,X];refine ag (lD (n+1) (by have:=o.1;omega) (by have:=o.2;omega)) a9 ?_;simp[go_sem];refine aR (Pp:=[]) e D (List.nil_append _).symm aq aw (by simp[AV.renL,AV.ren]) ?_;rintro v t ρ rfl u;rw[bH];generalize eu (cQ (n+1)) G=r';simp only[aI,bJ,bI,id];simp[go_sem];exact aF rfl rfl rfl
  |false =>
   have D:=rH e G J H m (cQ (n)) (by have:=gq (n);omega);simp[go_sem,AV.ren];refine ag (lD (n) (by have:=o.1;omega) (by have:=o.2;omega)) a9 ?_;simp[go_sem];refine aR (Pp:=[]) e D (List.nil_append _).symm aq aw (by simp[AV.renL,AV.ren]) ?_;rintro v t ρ rfl u;rw[bH];generalize eu (cQ (n)) G=r';simp only[aI,bJ,bI,id];simp[go_sem];exact aF rfl rfl rfl
 ·have R:=True.intro;have Q:=lN e B J H q;obtain⟨g,i,j⟩:=ew q;have a:iP (bq B).2.bud:=by rw[(mM B).bud];exact y
  generalize bq B=p at *;obtain⟨C,A⟩:=p;simp only at Q g i j a⊢;have l:=lN e A J H g;obtain⟨K,w,z⟩:=ew g;have f:iP (bq A).2.bud:=by rw[(mM A).bud];exact a
  generalize bq A=p at *;obtain⟨c,N⟩:=p;simp only at l K w z f⊢;have k:=P5 e C j i x.sg E.vf N J H h c L z M w f.1 f.2;obtain⟨_,_,_,m⟩:=yk x.sg h c C N f K;generalize gy x.sg h c C N=p at *;obtain⟨b,G⟩:=p;simp only at k m⊢;have D:=rH e G J H m (js b) (by cases b<;>simp[js]);simp[go_sem];refine eK (Pp:=[]) e I aq aw (by simp[AV.renL]) ?_;rintro v t ρ ⟨rfl,rfl⟩ u;simp[go_sem,AV.ren];refine eK (Pp:=[]) e Q aq aw (by simp[AV.renL]) ?_;rintro v t ρ ⟨rfl,rfl⟩ u;simp[go_sem,AV.ren];refine aR (Pp:=[(452,⟨31,1,[[.d (nb C)]]⟩)]) e l rfl aq (by intro p W;simp at W;subst W;simp) (by simp[AV.renL]) ?_;rintro v t ρ ⟨rfl,rfl⟩ u;simp[go_sem,AV.ren,aak]
  refine V6 e [452] [] (s:=⟨N,J,H⟩) (ars2:=[.d (nb h),.d (nb c),.fn 228 [.rop [nb C]]]) k aq (tf rfl rfl rfl) rfl
   (ti (.inl rfl) (ti (.inl rfl) (ti (.inr (.fnp (b:=⟨31,1,[[.d (nb C)]]⟩) aw rfl rfl rfl (kW [nb C]))) Jm))) aw (fun ρ=>rfl) ?_
  rintro v t ρ ⟨rfl,rfl⟩ u;simp[go_sem,AV.ren];refine ag (nQ b) a9 ?_;simp[go_sem];refine aR (Pp:=[]) e D (List.nil_append _).symm aq aw (by simp[AV.renL,AV.ren]) ?_;rintro v t ρ rfl u;rw[bH];generalize eu (js b) G=r';simp only[aI,bJ,bI,id];simp[go_sem];exact aF rfl rfl rfl
theorem lR:∀(j:Nat)(r:Rn),dh (j+1) r=((bq (dh j r).2).1::(dh j r).1,(bq (dh j r).2).2)
 |0,r=>rfl
 |j+1,r=>by
  have h:=lR j (bq r).2;rw[dh,h];rfl
theorem qp:∀(j:Nat)(r:Rn),(dh j r).1.length=j
 |0,r=>rfl
 |j+1,r=>by rw[lR,List.length_cons,qp j r]
theorem yl{r:Rn}(h:StOk r.main r.alt):∀j,StOk (dh j r).2.main (dh j r).2.alt∧∀x,x∈(dh j r).1→x.length≤1000∧bytes x
 |0=>⟨h,fun x a=>by cases a⟩
 |j+1=>by
  obtain⟨e,f⟩:=yl h j;obtain⟨d,b,c⟩:=ew e;rw[lR];refine⟨d,fun x a=>?_⟩;rcases et.1 a with rfl|a;exact⟨b,c⟩;exact f x a
theorem Jr:∀(j:Nat)(r:Rn),RnL r (dh j r).2
 |0,r=>⟨rfl,rfl,rfl⟩
 |j+1,r=>by rw[lR];exact(Jr j r).trans (mM _)
def CC(k:Nat)(l:List bc):List (List AV):=List.replicate k [AV.nil]++l.map pW
theorem UB(k:Nat)(x:bc)(l:List bc):(CC (k+1) l).set k [.d (nb x)]=CC k (x::l):=by
 unfold CC;rw[List.set_append_left _ _ aw];rw[List.replicate_succ',List.set_append_right _ _ aw];simp[pW]
theorem UC(l:List bc):CC 0 l=dm l []:=by simp[CC,dm]
theorem P7{C:List AV}(b:jG C)(r:Rn)(J:List Bool)(H:Nat)(Q:StOk r.main r.alt)(n:Int)(W:-2147483648<n)(Z:n<2147483648) :
  cX Tryz.prog 232 3 (ju 3 (aI C) ⟨r,J,H⟩ id) [.ptr 0 0 0 1,.d (.int .i64 n)] (fun v a=>vA 3 (aI C) ⟨(jC n r).2,J,H⟩ id a ∧
   ((v=.nil∧(jC n r).2.e≠0)∨(v=.own 548 0 (jC n r).1.length (jC n r).1.length∧lk 548 a=some ⟨31,1,dm (jC n r).1 []⟩))):=by
 refine ap Tryz.func232 (by kernel_rfl) rfl Tryz.ntmps232 (rs:=[.tmp 4]) rfl (dJ rfl) (by decide) ?_;have U:=b.2.2;by_cases o:n<0∨(r.main.length:Int)<n
 ·have c:jC n r=([],aC 12 r):=by
   unfold jC;rw[if_pos o];exact if_neg (BQ aq)
  have t:(aC 12 r).e≠0:=BQ aq;have V:=bD b r J H 12;rw[c];generalize aC 12 r=r2 at *;rw[bH];simp only[aI,bJ,bI,id];have S:True:=trivial;by_cases f:n<0
  ·simp[go_sem,f];refine aR (Pp:=[]) (s:=⟨r,J,H⟩) b V (by simp[bH,aI,bJ,bI]) aq aw (by simp[AV.renL,AV.ren]) ?_;rintro v z ρ rfl D;simp[go_sem];refine eK (Pp:=[]) b (fE b r2 J H) aq aw (by simp[AV.renL]) ?_;rintro v z ρ ⟨rfl,rfl⟩ D;simp[go_sem,AV.ren,t,ah];rw[bH];exact aF rfl rfl rfl
  ·have i:(r.main.length:Int)<n:=o.resolve_left f;simp[go_sem,U,f,i];refine aR (Pp:=[]) (s:=⟨r,J,H⟩) b V (by simp[bH,aI,bJ,bI]) aq aw (by simp[AV.renL,AV.ren]) ?_;rintro v z ρ rfl D;simp[go_sem];refine eK (Pp:=[]) b (fE b r2 J H) aq aw (by simp[AV.renL]) ?_;rintro v z ρ ⟨rfl,rfl⟩ D;simp[go_sem,AV.ren,t,ah];rw[bH];exact aF rfl rfl rfl
 ·have f:¬n<0:=fun h=>o (.inl h);have i:¬(r.main.length:Int)<n:=fun h=>o (.inr h);obtain⟨m,rfl⟩:∃m:Nat,n=(m:Int):=⟨n.toNat,aq⟩;have hm:m≤1000:=by have:=Q.m;omega
  have aa:¬r.main.length<m:=aq;rw[bH];simp only[aI,bJ,bI,id];simp[go_sem,U,f,i];refine aR (Pp:=[]) (s:=⟨r,J,H⟩) b (fE b r J H) (by simp[bH,aI,bJ,bI]) aq aw (by simp[AV.renL]) ?_;rintro v z ρ ⟨rfl,rfl⟩ D;by_cases F:r.e=0
  ·have c:jC (m:Int) r=dh m r:=by
    unfold jC;rw[if_neg o];exact if_pos F
   rw[c];have w1:IntKind.i64.wrap ((m:Int)-1)=(m:Int)-1:=IntWalk.i64_in _ aq;simp[go_sem,AV.ren,F,w1];refine⟨aq,aq,aq,?_⟩
   have P:∀k l,∀q,q∈CC k l→∀v,v∈q→v.low1 9000:=by
    intro k l q M v c;rcases cL.1 M with h|h;rw[List.eq_of_mem_replicate h]at c;simp only[et,List.mem_nil_iff,or_false]at c;subst c;trivial;obtain⟨x,_,rfl⟩:=List.mem_map.1 h;simp only[pW,et,List.mem_nil_iff,or_false]at c;subst c;trivial
   have E:∀(w:Fr)(g:Hp)(T j:Nat),(fv 0 w=.ptr 0 0 0 1∧fv 5 w=.own 548 0 m m∧fv 6 w=.d (.int .i64 ((m:Int)-1-(j:Int))))→lk 548 g=some ⟨31,1,CC (m-j) (dh j r).1⟩→(∀p,p∈ju 3 (aI C) ⟨(dh j r).2,J,H⟩ id→lk p.1 g=some p.2) →
     az ⟨w,g,T⟩ ⟨[(0,.ptr 0 0 0 1),(5,.own 548 0 m m),(6,.d (.int .i64 ((m:Int)-1-(j:Int))))],(548,⟨31,1,CC (m-j) (dh j r).1⟩)::ju 3 (aI C) ⟨(dh j r).2,J,H⟩ id,9000⟩:=by
    rintro w g T j⟨q0,q1,q2⟩h1 Y;refine⟨?_,fun p a=>?_,.inr (by show 64≤9000;omega)⟩;intro p a;simp only[et,List.mem_nil_iff,or_false]at a;rcases a with rfl|rfl|rfl;exact⟨.inl q0.symm,by simp[AV.low,AV.low1]⟩;exact⟨.inl q1.symm,by simp[AV.low,AV.low1]⟩;exact⟨.inl q2.symm,by simp[AV.low,AV.low1]⟩;rcases et.1 a with rfl|a;exact⟨.inl h1,by show 548<9000;omega,P _ _⟩;exact rnW b (dJ rfl) Y p a
   refine av (fun j:Nat=>⟨[(0,.ptr 0 0 0 1),(5,.own 548 0 m m),(6,.d (.int .i64 ((m:Int)-1-(j:Int))))],(548,⟨31,1,CC (m-j) (dh j r).1⟩)::ju 3 (aI C) ⟨(dh j r).2,J,H⟩ id,9000⟩)
    (fun j=>j≤m) (fun j=>m-j) 0 aq (E _ _ _ 0 (by simp[fv,lk]) (by simp[lk,CC,dh]) (tf rfl rfl rfl)) ?_
   intro j hj;by_cases L:j=m
   ·subst L;have c0:¬(0:Int)≤(j:Int)-1-(j:Int):=aq;have c1:((j:Int)-1-(j:Int))<0:=aq;simp[go_sem,ah];refine⟨fun h=>aq,fun _=>⟨?_,(qp _ _).symm,UC _⟩⟩;rw[bH];exact aF rfl rfl rfl
   ·have R:j<m:=aq;have e1:(m:Int)-1-(j:Int)=((m-(j+1):Nat):Int):=aq;obtain⟨O,X⟩:=yl Q j;have A:=lR j r;have B:(CC (m-j) (dh j r).1).length=m:=by simp[CC,qp];omega
    have y:(CC (m-j) (dh j r).1).set (m-(j+1)) [.d (nb (bq (dh j r).2).1)]=CC (m-(j+1)) (dh (j+1) r).1:=by
     rw[A,show m-j=(m-(j+1))+1 by omega];exact UB _ _ _
    have G:(CC (m-j) (dh j r).1)[m-(j+1)]?=some [.nil]:=by
     unfold CC;rw[List.getElem?_append_left (by simp;omega),List.getElem?_replicate,if_pos aq]
    have I:∀h:m-(j+1)<(CC (m-j) (dh j r).1).length,(CC (m-j) (dh j r).1)[m-(j+1)]=[.nil]:=fun h=>Option.some.inj ((cm h).symm.trans G);have K:=lN b (dh j r).2 J H O;have w2:IntKind.i64.wrap (((m-(j+1):Nat):Int)-1)=(m:Int)-1-((j+1:Nat):Int):=by rw[IntWalk.i64_in _ aq];omega
    have N:m-(j+1)<m:=aq;have u:((m-(j+1):Nat):Int)<(m:Int):=aq;rw[e1];generalize M:m-(j+1)=q at *;simp[go_sem];refine aR (Pp:=[(548,⟨31,1,CC (m-j) (dh j r).1⟩)]) b K rfl aq (by intro p g;simp at g;subst g;simp) (by simp[AV.renL]) ?_;rintro v z ρ ⟨rfl,rfl⟩ D;simp[go_sem,AV.ren,B,N,u,w2,I,y];refine am (j+1) aq aq (E _ _ _ (j+1) (by simp[fv,lk]) ?_ ?_)
    rw[M];simp[lk];rw[A];exact tf rfl rfl rfl
  ·have c:jC (m:Int) r=([],r):=by
    unfold jC;rw[if_neg o];exact if_neg F
   rw[c];simp[go_sem,AV.ren,F,ah];rw[bH];exact aF rfl rfl rfl
theorem YV{C:List AV}(v:jG C)(r:Rn)(J:List Bool)(H:Nat)(A:StOk r.main r.alt)(n:Int)(l:-2147483648<n)(o:n<2147483648){N:Nat}{K:AV→Hp→Prop}(L:3≤N)
  (I:(jC n r).2.e≠0→K .nil (ju 3 (aI C) ⟨(jC n r).2,J,H⟩ id))
  (k:K (.own N 0 (jC n r).1.length (jC n r).1.length) ((N,⟨31,1,dm (jC n r).1 []⟩)::ju 3 (aI C) ⟨(jC n r).2,J,H⟩ id)):uK Tryz.prog 232 [.ptr 0 0 0 1,.d (.int .i64 n)] (ju 3 (aI C) ⟨r,J,H⟩ id) N K:=by
 have q:=uu v;have m:∀j,j<3→b8 (lI 3 id id) 3 (id j)=j:=fun j a=>vV id 3 (aV 3) a;have f:db (lI 3 id id) [(548,0)]=true:=GA aq;have g:zT 3 id [(548,0)] N 548=N:=Bt (c:=548) (j:=0) f aw;refine .inl (pV (n:=3) (b0:=aI C ⟨r,J,H⟩ id) id (P7 v r J H A n l o) (fun i x F=>IB i x F) (aV 3) (fun j a=>by show j<N;omega)
  (fun j a=>⟨_,Bq _ (aV 3) a,q.2 _ _ _ a,(q.1 _ id _ id j a m).symm⟩) ?_ [(548,0)] f ?_)
 rw[AV.renL,AV.renL,AV.renL,AV.ren];rfl;rintro M G⟨s,y⟩t B D O;have p:∀j,j<3→zT 3 id [(548,0)] N (id j)=id j:=fun j a=>Br f a;have u:∀i b,lk i (ju 3 (aI C) ⟨(jC n r).2,J,H⟩ id)=some b→lk i t=some b:=by
  intro i b h;obtain⟨j,a,e⟩:=nM.1 (bK h);cases e;have k:=B j a _ (s j a);rw[q.1 _ id _ id j a p]at k;exact k
 rcases y with ⟨rfl,E⟩|⟨rfl,z⟩;exact⟨_,u,I E⟩;refine⟨_,fun i b h=>?_,by rw[AV.ren,g];exact k⟩;simp only[lk]at h;split at h;rename_i e;subst e;cases h;have w:=D 548 0 aw _ z;have e:Blk.ren (zT 3 id [(548,0)] N) ⟨31,1,dm (jC n r).1 []⟩=⟨31,1,dm (jC n r).1 []⟩:=by
  simp only[Blk.ren,mj]
 rw[e]at w;exact w;exact u i b h
theorem aca{b:bc}{n:Int}(c:bytes b)(h:gv 8 b=some n):-9223372036854775808≤n∧n<9223372036854775808:=by
 unfold gv at h;split at h;rename_i i;obtain rfl:=Option.some.inj h;have f:b.length≤8:=aq;rcases fe b with rfl|⟨a,x,rfl⟩;decide;have j:x<256:=c x aw;have d:=ug (b:=a) (fun y g=>c y (List.mem_append_left _ g));simp at f;rw[iW];have hc:a.length=0∨a.length=1∨a.length=2∨a.length=3∨a.length=4∨a.length=5∨a.length=6∨a.length=7:=aq;rcases hc with e|e|e|e|e|e|e|e<;>rw[e]at d⊢<;>simp at d⊢<;>split<;>omega;cases h
theorem P8{r:Rn}(h:StOk r.main r.alt):-9223372036854775808≤(fg 8 r).1∧(fg 8 r).1<9223372036854775808:=by
 obtain⟨_,_,a⟩:=ew h;unfold fg;generalize bq r=p at *;simp only;split;cases b:gv 8 p.1 with
 |none=>simp only;omega
 |some n=>exact aca a b
 ·simp only;omega
theorem P9{most:Nat}{r:Rn}(h:r.e≠0):fg most r=(0,r):=by
 have a:bq r=([],r):=if_neg h;unfold fg;rw[a];exact if_neg h
theorem Qa{r:Rn}(h:StOk r.main r.alt)(n:Int):StOk (jC n r).2.main (jC n r).2.alt∧(∀x,x∈(jC n r).1→x.length≤1000∧bytes x)∧(jC n r).1.length≤1000∧RnL r (jC n r).2:=by
 unfold jC;simp only;split;rename_i b;split;rename_i c;exact absurd c (BQ aq);exact⟨iy h,fun x a=>(by cases a),aw,pp _ _⟩;rename_i b;split;obtain⟨d,e⟩:=yl h n.toNat
 exact⟨d,e,by rw[qp];have:=h.m;omega,Jr _ _⟩;exact⟨h,fun x a=>(by cases a),aw,⟨rfl,rfl,rfl⟩⟩
theorem Hu{l:List bc}{b:bc}(h:(qZ l b).2=0):(qZ l b).1.length≤1000:=by
 unfold qZ at h⊢;cases a:sK [] l with
 |none=>rw[a]at h;simp at h
 |some out =>
  rw[a]at h;simp only at h⊢;split at h;simp at h;rename_i c;rw[if_neg c];simp only;omega
theorem UD(F:RnF)(x:Rx)(E:RnE F x)(r:Rn)(J:List Bool)(H:StOk r.main r.alt)(hc:r.cl.length≤100000) :
  dr Tryz.prog 3 (aI (ja F)) 202 ⟨r,J,0⟩ [.ptr 0 0 0 1] (fun v c=>c=⟨GY x r,J,0⟩):=by
 refine ap Tryz.func202 (by kernel_rfl) rfl Tryz.ntmps202 (rs:=[]) rfl (dJ rfl) (by decide) ?_;have a:=fq (F:=F) E.hi;have hl:=a.2.2;unfold GY;have h1:=uW a r J 0 H 4 aq;have T:=oc (most:=4) H;have C:=Jq H;have l1:=Ai 4 r;generalize fg 4 r=p1 at *;obtain⟨n,M⟩:=p1;simp only at h1 T C l1⊢;have h2:=lN a M J 0 T;obtain⟨k2,b1,b2⟩:=ew T;have l2:=mM M;generalize bq M=p2 at *;obtain⟨b,Z⟩:=p2;simp only at h2 k2 b1 b2 l2⊢;obtain⟨k3,m,t2,l3⟩:=Qa k2 n;have h3:=fun{N:Nat}{K:AV→Hp→Prop}(hN:3≤N)=>YV a Z J 0 k2 n C.1 C.2 (K:=K) hN;generalize jC n Z=p3 at *;obtain⟨l,g⟩:=p3;simp only at h3 k3 m t2 l3⊢;simp[go_sem];refine eK (Pp:=[]) a h1 aq aw (by simp[AV.renL,AV.ren]) ?_;rintro v c ρ ⟨rfl,rfl⟩ f;simp[go_sem,AV.ren];refine eK (Pp:=[]) a h2 aq aw (by simp[AV.renL]) ?_;rintro v c ρ ⟨rfl,rfl⟩ f;simp[go_sem,AV.ren];refine h3 aq (fun h=>?_) ?_
 ·have e1:fg 4 g=(0,g):=P9 h;have e2:fg 8 g=(0,g):=P9 h;have S:=uW a g J 0 k3 4 aq;have m2:=uW a g J 0 k3 8 aq;rw[e1]at S;rw[e2]at m2;simp only[e1,e2];rw[if_neg h];simp[go_sem];refine aR (Pp:=[]) a S (List.nil_append _).symm aq aw (by simp[AV.renL,AV.ren]) ?_;rintro v c ρ ⟨rfl,rfl⟩ f;simp[go_sem,AV.ren];refine aR (Pp:=[]) a S (List.nil_append _).symm aq aw (by simp[AV.renL,AV.ren]) ?_;rintro v c ρ ⟨rfl,rfl⟩ f;simp[go_sem,AV.ren];refine aR (Pp:=[]) a m2 (List.nil_append _).symm aq aw (by simp[AV.renL,AV.ren]) ?_;rintro v c ρ ⟨rfl,rfl⟩ f;simp[go_sem,AV.ren];refine aR (Pp:=[]) a (fE a g J 0) (List.nil_append _).symm aq aw (by simp[AV.renL]) ?_;rintro v c ρ ⟨rfl,rfl⟩ f;simp[go_sem,AV.ren,h];rw[bH];exact aF rfl rfl rfl
 ·have h4:=uW a g J 0 k3 4 aq;have k4:=oc (most:=4) k3;have l4:=Ai 4 g;generalize fg 4 g=p4 at *;obtain⟨o,Y⟩:=p4;simp only at h4 k4 l4⊢;have h5:=uW a Y J 0 k4 4 aq;have k5:=oc (most:=4) k4;have l5:=Ai 4 Y;generalize fg 4 Y=p5 at *;obtain⟨t,R⟩:=p5;simp only at h5 k5 l5⊢;have h6:=uW a R J 0 k5 8 aq;have k6:=oc (most:=8) k5;have l6:=Ai 8 R;have W:=P8 k5;generalize fg 8 R=p6 at *;obtain⟨bk,i⟩:=p6;simp only at h6 k6 l6 W⊢;have X:i.cl.length≤100000:=by rw[l6.cl,l5.cl,l4.cl,l3.cl,l2.cl,l1.cl];exact hc
  have j:∀(N:Nat),261≤N→∀p,p∈[((260:Nat),(⟨31,1,dm l []⟩:Blk))]→p.1<N∧3≤p.1:=by
   intro N hN p hp;simp at hp;subst hp;exact⟨by show 260<N;omega,by show 3≤260;omega⟩
  simp[go_sem];refine aR (Pp:=[(260,⟨31,1,dm l []⟩)]) a h4 rfl aq (j _ aq) (by simp[AV.renL,AV.ren]) ?_;rintro v c ρ ⟨rfl,rfl⟩ f;simp[go_sem,AV.ren];refine aR (Pp:=[(260,⟨31,1,dm l []⟩)]) a h5 rfl aq (j _ aq) (by simp[AV.renL,AV.ren]) ?_;rintro v c ρ ⟨rfl,rfl⟩ f;simp[go_sem,AV.ren];refine aR (Pp:=[(260,⟨31,1,dm l []⟩)]) a h6 rfl aq (j _ aq) (by simp[AV.renL,AV.ren]) ?_;rintro v c ρ ⟨rfl,rfl⟩ f;simp[go_sem,AV.ren];refine aR (Pp:=[(260,⟨31,1,dm l []⟩)]) a (fE a i J 0) rfl aq (j _ aq) (by simp[AV.renL]) ?_;rintro v c ρ ⟨rfl,rfl⟩ f;by_cases h:i.e=0
  ·rw[if_pos h];have V:=xk l b t2 (fun y A=>⟨by have:=(m y A).1;omega,(m y A).2⟩) aq;have w:=Gs (things:=l) b2 (fun y A=>⟨by have:=(m y A).1;omega,(m y A).2⟩);have B:=@Hu l b;simp[go_sem,AV.ren,h];refine bA [260] V rfl (aj (.one (ao (jz (J:=[]) rfl aw))) (aj (.deep trivial) aD)) ?_;have U:aE [260] ((260,(⟨31,1,dm l []⟩:Blk))::ju 3 (aI (ja F)) ⟨i,J,0⟩ id)=ju 3 (aI (ja F)) ⟨i,J,0⟩ id:=rfl;rw[U];generalize qZ l b=u at *;obtain⟨s,P⟩:=u;simp only at w B⊢;by_cases D:P=0
   ·subst D;obtain⟨Q,L⟩:=E.tr s o t bk w (by have:=B rfl;omega) W.1 W.2;generalize x.trg s o t bk=q at *;obtain⟨cs,ce⟩:=q;simp only at Q L⊢;simp only[if_true];have O:=Jh a i J k6 cs ce X aq;simp only[eS,bT]at Q;rw[bH];simp only[aI,bJ,bI,id,ja,eS];simp[go_sem];refine cz [0,1,2,3,4,5,6,7,8,9,10,11,12,13] [(14,[15,16]),(17,[])] 1 (k:=18) ?_;intro G hG;have z:(ar F.inner (AV.d (bW F.path)) (AV.d (nb F.script))).length=34:=(by simp[ar,ak,E.hi])
    have I:∀l:List AV,List.take 34 (ar F.inner (AV.d (bW F.path)) (AV.d (nb F.script))++l)=ar F.inner (AV.d (bW F.path)) (AV.d (nb F.script)):=fun l=>by rw[←z,List.take_left]
    simp[go_sem,z,I];refine ag Q (by intro v hv;simp at hv;rcases hv with rfl|rfl|rfl|rfl|rfl;simp[AV.deep,AV.deep1];exact cT F.inner F.path F.script _ (List.mem_singleton.2 rfl);trivial;simp[AV.deep,AV.deep1];trivial) ?_;simp[go_sem];refine aR (Pp:=[]) (s:=⟨i,J,0⟩) a O (by simp[bH,aI,bJ,bI,ja,eS]) aq aw (by simp[AV.renL,AV.ren]) ?_;rintro v c ρ rfl f;simp[go_sem];refine hG _ _ ?_;clear hG G;simp[go_sem];rw[bH];exact aF (by simp[lk,aI,bJ,bI,ja,eS]) rfl rfl
   ·rw[if_neg D];simp[go_sem,D];refine aR (Pp:=[]) a (bD a i J 0 P) (List.nil_append _).symm aq aw (by simp[AV.renL,AV.ren]) ?_;rintro v c ρ rfl f;rw[bH];generalize aC P i=r';simp only[aI,bJ,bI,id];simp[go_sem];exact aF rfl rfl rfl
  ·rw[if_neg h];simp[go_sem,AV.ren,h];rw[bH];exact aF rfl rfl rfl
theorem UE(F:RnF)(x:Rx)(E:RnE F x)(b:Nat)(h8:b<256)(r:Rn)(J:List Bool)(e:StOk r.main r.alt)(hc:r.cl.length≤100000)(j:iP r.bud) :
  dr Tryz.prog 3 (aI (ja F)) 172 ⟨r,J,0⟩ [.ptr 0 0 0 1,.d (.int .u8 (b:Int))] (fun v g=>g=⟨Ab x b r,J,0⟩):=by
 refine ap Tryz.func172 (by kernel_rfl) rfl Tryz.ntmps172 (rs:=[]) rfl (dJ rfl) (by decide) ?_;have f:=fq (F:=F) E.hi;have Z:=f.2.2;obtain⟨i,V,w,D⟩:=E.sq;obtain⟨te,S⟩:=E.tg;by_cases o:b=106
 ·subst o;have c:Ab x 106 r=aC 17 r:=rfl;rw[c];simp[go_sem];refine aR (Pp:=[]) f (bD f r J 0 17) (List.nil_append _).symm aq aw (by simp[AV.renL,AV.ren]) ?_;rintro v g ρ rfl h;rw[bH];generalize aC 17 r=r';simp only[aI,bJ,bI,id];simp[go_sem];exact aF rfl rfl rfl
 by_cases I:b=172
 ·subst I;have c:Ab x 172 r=uo x 172 r:=rfl;rw[c];simp[go_sem];refine aR (Pp:=[]) f (wm F x E 172 aq r J 0 e j) (List.nil_append _).symm aq aw (by simp[AV.renL,AV.ren]) ?_;rintro v g ρ rfl h;rw[bH];generalize uo x 172 r=r';simp only[aI,bJ,bI,id];simp[go_sem];exact aF rfl rfl rfl
 by_cases G:b=173
 ·subst G;have c:Ab x 173 r=uo x 173 r:=rfl;rw[c];simp[go_sem];refine aR (Pp:=[]) f (wm F x E 173 aq r J 0 e j) (List.nil_append _).symm aq aw (by simp[AV.renL,AV.ren]) ?_;rintro v g ρ rfl h;rw[bH];generalize uo x 173 r=r';simp only[aI,bJ,bI,id];simp[go_sem];exact aF rfl rfl rfl
 by_cases C:b=186
 ·subst C;have c:Ab x 186 r=uo x 186 r:=rfl;rw[c];simp[go_sem];refine aR (Pp:=[]) f (wm F x E 186 aq r J 0 e j) (List.nil_append _).symm aq aw (by simp[AV.renL,AV.ren]) ?_;rintro v g ρ rfl h;rw[bH];generalize uo x 186 r=r';simp only[aI,bJ,bI,id];simp[go_sem];exact aF rfl rfl rfl
 by_cases N:b=204
 ·subst N;have c:Ab x 204 r=uo x 204 r:=rfl;rw[c];simp[go_sem];refine aR (Pp:=[]) f (wm F x E 204 aq r J 0 e j) (List.nil_append _).symm aq aw (by simp[AV.renL,AV.ren]) ?_;rintro v g ρ rfl h;rw[bH];generalize uo x 204 r=r';simp only[aI,bJ,bI,id];simp[go_sem];exact aF rfl rfl rfl
 by_cases k:b=177
 ·subst k;have c:Ab x 177 r=xZ x r:=rfl;rw[c];simp[go_sem];refine aR (Pp:=[]) f (P0 F x E.hi i V w E.lk.1 E.lk.2 D r J 0 e) (List.nil_append _).symm aq aw (by simp[AV.renL]) ?_;rintro v g ρ rfl h;rw[bH];generalize xZ x r=r';simp only[aI,bJ,bI,id];simp[go_sem];exact aF rfl rfl rfl
 by_cases n:b=178
 ·subst n;have c:Ab x 178 r=GW x r:=rfl;rw[c];simp[go_sem];refine aR (Pp:=[]) f (Uy F x E.hi i V w E.vr.1 E.vr.2 D r J 0 e) (List.nil_append _).symm aq aw (by simp[AV.renL]) ?_;rintro v g ρ rfl h;rw[bH];generalize GW x r=r';simp only[aI,bJ,bI,id];simp[go_sem];exact aF rfl rfl rfl
 by_cases l:b=179
 ·subst l;have c:Ab x 179 r=GX x r:=rfl;rw[c];simp[go_sem];refine aR (Pp:=[]) f (YR F x E.hi E.tl E.tb te S r J 0 e) (List.nil_append _).symm aq aw (by simp[AV.renL]) ?_;rintro v g ρ rfl h;rw[bH];generalize GX x r=r';simp only[aI,bJ,bI,id];simp[go_sem];exact aF rfl rfl rfl
 by_cases q:b=187
 ·subst q;have c:Ab x 187 r=GY x r:=rfl;rw[c];simp[go_sem];refine aR (Pp:=[]) f (UD F x E r J e hc) (List.nil_append _).symm aq aw (by simp[AV.renL]) ?_;rintro v g ρ rfl h;rw[bH];generalize GY x r=r';simp only[aI,bJ,bI,id];simp[go_sem];exact aF rfl rfl rfl
 by_cases t:b=188
 ·subst t;have c:Ab x 188 r=BN x r:=rfl;rw[c];simp[go_sem];refine aR (Pp:=[]) f (UA F x E.hi E.rc r J e hc) (List.nil_append _).symm aq aw (by simp[AV.renL]) ?_;rintro v g ρ rfl h;rw[bH];generalize BN x r=r';simp only[aI,bJ,bI,id];simp[go_sem];exact aF rfl rfl rfl
 have L:¬(b:Int)=106:=aq;have P:¬(b:Int)=172:=aq;have B:¬(b:Int)=173:=aq;have z:¬(b:Int)=186:=aq;have Q:¬(b:Int)=204:=aq;have M:¬(b:Int)=177:=aq;have K:¬(b:Int)=178:=aq;have O:¬(b:Int)=179:=aq;have R:¬(b:Int)=187:=aq;have A:¬(b:Int)=188:=aq;have c:Ab x b r={ aC (zS aW eW b r.main r.alt).2.2 r with main:=(zS aW eW b r.main r.alt).1,alt:=(zS aW eW b r.main r.alt).2.1 }:=by
  unfold Ab;rw[E.hh.1,E.hh.2,if_neg o,if_neg aq,if_neg k,if_neg n,if_neg l,if_neg q,if_neg t]
 rw[c];have u:=TE b h8 r.main r.alt e.m e.a (fun y H=>by have:=(e.mb y H).1;omega) (fun y H=>by have:=(e.ab y H).1;omega) (fun y H=>(e.mb y H).2);unfold C4 at u
 generalize zS aW eW b r.main r.alt=d at *;obtain⟨Y,T,U⟩:=d;simp only at u⊢;have hf:=bD f r J 0 U;rw[bH];simp only[aI,bJ,bI,id,kP]at *;simp[go_sem,L,P,B,z,Q,M,K,O,R,A,Z];refine ag u (by intro v c;simp at c;rcases c with rfl|rfl;trivial;exact fM r.main r.alt) ?_;simp[go_sem];refine aR (Pp:=[(964,⟨155,2,[[.d (.ro 1 (Y.map bL)),.d (.ro 1 (T.map bL))]]⟩)]) (s:=⟨r,J,0⟩) f hf (by simp[bH,aI,bJ,bI]) aq (by intro p X;simp at X;subst X;simp) (by simp[AV.renL,AV.ren]) ?_;rintro v g ρ rfl h;rw[bH];generalize aC U r=r';have W:je r'=je { r' with main:=Y,alt:=T }:=rfl;simp only[aI,bJ,bI,id];simp[go_sem,Z,GZ];exact aF rfl rfl rfl
def V7(l:List bc):Prop:=∀x,x∈l→bytes x
def nl(m:Mc):Prop:=V7 m.main∧V7 m.alt
theorem CE:bytes []:=fun x a=>(by cases a)
theorem wo{l:List bc}(h:V7 l):bytes (l.getLastD []):=by
 rcases l.eq_nil_or_concat with rfl|⟨a,x,rfl⟩;exact CE;rw[List.concat_eq_append]at h⊢;rw[List.getLastD_concat];exact h x aw
theorem CG{l:List bc}(h:V7 l)(i:Nat):bytes (l.getD i []):=by
 rw[cS];cases a:l[i]? with
 |none=>exact CE
 |some x=>exact h x (cr a)
theorem ym{m:Mc}(x:Int)(h:nl m):nl (jc x m):=by unfold jc;split<;>exact h
theorem mC{m:Mc}(n:Nat)(h:nl m):nl (aQ n m):=by unfold aQ;split;exact ym 12 h;exact h
theorem yn{m:Mc}(h:nl m):nl (dR m).2∧bytes (dR m).1:=by
 unfold dR;split;exact⟨⟨fun x a=>h.1 x ((List.dropLast_sublist _).mem a),h.2⟩,wo h.1⟩;exact⟨mC 1 h,CE⟩
theorem mN{m:Mc}{l:List bc}(a:V7 l)(h:nl m):nl (eV l m):=⟨fun x b=>(cL.1 b).elim (h.1 x) (a x),h.2⟩
theorem Js{m:Mc}(most:Nat)(x:bc)(h:nl m):nl (gw most x m).2:=by
 unfold gw;split;cases gv most x with
 |none=>exact ym 15 h
 |some n=>exact h
 ·exact h
theorem CH{m:Mc}(k:Nat)(put:List Nat)(h:nl m):nl (c6 k put m):=by
 unfold c6;split;refine⟨fun x b=>?_,h.2⟩;rcases cL.1 b with q|q;exact h.1 x (List.mem_of_mem_take q);obtain⟨i,_,rfl⟩:=List.mem_map.1 q;exact CG (fun y a=>h.1 y (List.mem_of_mem_drop a)) i;exact mC k h
theorem jO{x:bc}(h:bytes x):V7 [x]:=fun y a=>by simp at a;subst a;exact h
theorem Qb{m:Mc}(h:nl m):nl (nL m):=by
 obtain⟨a,c⟩:=yn h;exact⟨a.1,fun x b=>(cL.1 b).elim (a.2 x) (jO c x)⟩
theorem UF{m:Mc}(h:nl m):nl (qL m):=by
 unfold qL;split;exact ym 12 h;exact⟨fun x a=>(cL.1 a).elim (h.1 x) (jO (wo h.2) x),fun x a=>h.2 x ((List.dropLast_sublist _).mem a)⟩
theorem CJ{m:Mc}(c:Bool)(h:nl m):nl (kJ c m):=by unfold kJ;split;exact h;exact ym 16 h
theorem Jt{m:Mc}(h:nl m):nl (iq m).2:=by
 unfold iq;split;exact CH 2 [] h;exact mC 2 h
theorem UG{m:Mc}(h:nl m):nl (qM m):=by
 unfold qM;split;exact mN (jO (t7 (CG h.1 _) (wo h.1))) (CH 2 [] h);exact mC 2 h
theorem Ju{m:Mc}(f:bc→bc)(a:∀x,bytes (f x))(h:nl m):nl (mi f m):=by
 unfold mi;split;exact mN (jO (a _)) (yn h).1;exact mC 1 h
theorem Jv{m:Mc}(r:Bool)(h:nl m):nl (kH r m):=by
 have a:=Js 4 (dR m).1 (yn h).1;unfold kH;simp only;split;split;exact ym 12 a;refine mN (jO (CG a.1 _)) ⟨fun x b=>?_,a.2⟩;cases r;exact a.1 x b;exact a.1 x (List.mem_of_mem_eraseIdx b);exact a
theorem Qc:∀(k:Nat)(m:Mc),nl m→nl (oC k m).2
 |0,m,h=>h
 |k+1,m,h=>Qc k _ (Js 4 _ (yn h).1)
theorem wy{m:Mc}(n:Nat)(h:nl m):nl (d6 n m).2:=by
 unfold d6;split;exact Qc n m h;exact mC n h
theorem yo(b:Bool):bytes (js b):=by cases b;exact CE;intro x a;simp[js]at a;omega
theorem fG{c:Prop}[Decidable c]{x y:Mc}{r:Option Mc}(h:(if c then some x else r)=some y)(b:nl x)(a:r=some y→nl y):nl y:=by
 split at h;cases h;exact b;exact a h
theorem YW{c:Nat}{m b:Mc}(h:jN c m=some b)(a:nl m):nl b:=by
 unfold jN at h;refine fG h a fun h=>?_;refine fG h (Qb a) fun h=>?_;refine fG h (UF a) fun h=>?_
 iterate 13 refine fG h (CH _ _ a) fun h=>?_
 cases h
theorem acb{c:Nat}{m b:Mc}(h:yF aW eW c m=some b)(a:nl m):nl b:=by
 unfold yF at h;refine fG h (Jv _ a) fun h=>?_;refine fG h (Jv _ a) fun h=>?_;refine fG h (CJ _ (yn a).1) fun h=>?_;refine fG h ?_ fun h=>?_;split;split;exact mN (jO (wo a.1)) a;exact a;exact mC 1 a;refine fG h (mN (jO (ep _)) a) fun h=>?_;refine fG h (UG a) fun h=>?_;refine fG h ?_ fun h=>?_;split;exact mN (jO (ep _)) a;exact mC 1 a;refine fG h (mN (jO (yo _)) (Jt a)) fun h=>?_;refine fG h (CJ _ (Jt a)) fun h=>?_;refine fG h (Ju _ fA a) fun h=>?_;refine fG h (Ju _ (fun _=>fA _) a) fun h=>?_;cases h
theorem YX{c:Nat}{m b:Mc}(h:qE c m=some b)(a:nl m):nl b:=by
 unfold qE at h;split at h;obtain rfl:=Option.some.inj h;exact mN (jO (yo _)) (wy 3 a);split at h;obtain rfl:=Option.some.inj h;exact mN (jO (ep _)) (wy 1 a);split at h;cases h;obtain rfl:=Option.some.inj h;simp only;split;exact CJ _ (wy 2 a);exact mN (jO (ep _)) (wy 2 a)
theorem gA{main alt:List bc}(h:fZ main alt=0):(∀x,x∈main→x.length≤520)∧(∀x,x∈alt→x.length≤520)∧main.length+alt.length≤100:=by
 unfold fZ at h;split at h;rename_i hc;simp only[Bool.and_eq_true,d9,decide_eq_true_eq]at hc;split at h;exact⟨hc.1,hc.2,‹_›⟩;simp at h;simp at h
theorem Qd{main alt:List bc}(h:fZ main alt=0)(f:V7 main)(e:V7 alt):StOk main alt:=by
 obtain⟨a,b,c⟩:=gA h;exact⟨aq,aq,fun x d=>⟨by have:=a x d;omega,f x d⟩,fun x d=>⟨by have:=b x d;omega,e x d⟩⟩
theorem Hv:StOk [] []:=⟨aw,aw,fun x a=>(by cases a),fun x a=>(by cases a)⟩
theorem CL{m:Mc}(h:nl m):StOk (dY m).1 (dY m).2.1:=by
 unfold dY;split;split;exact Qd ‹_› h.1 h.2;exact Hv;exact Hv
theorem acd{main alt:List bc}(h:StOk main alt)(a:Nat):StOk (zS aW eW a main alt).1 (zS aW eW a main alt).2.1:=by
 have b:nl ⟨main,alt,0⟩:=⟨fun x c=>(h.mb x c).2,fun x c=>(h.ab x c).2⟩;unfold zS;cases e:jN a ⟨main,alt,0⟩with
 |some m=>exact CL (YW e b)
 | none =>
  cases f:yF aW eW a ⟨main,alt,0⟩with
  |some m=>exact CL (acb f b)
  |none =>
   cases d:qE a ⟨main,alt,0⟩with
   |some m=>exact CL (YX d b)
   |none=>exact Hv
structure RnG(r r':Rn):Prop where
 st:StOk r'.main r'.alt
 bd:iP r'.bud
 br:r'.br=r.br
 cl:r'.cl=r.cl
theorem RnG.trans{a b c:Rn}(h:RnG a b)(d:RnG b c):RnG a c:=⟨d.st,d.bd,d.br.trans h.br,d.cl.trans h.cl⟩
theorem Qe{r a:Rn}(h:iP r.bud)(l:RnL r a)(s:StOk a.main a.alt):RnG r a:=⟨s,by rw[l.bud];exact h,l.br,l.cl⟩
theorem YY{r:Rn}(h:StOk r.main r.alt)(a:iP r.bud):RnG r r:=⟨h,a,rfl,rfl⟩
theorem ig{r:Rn}(h:StOk r.main r.alt)(a:iP r.bud)(x:Int):RnG r (aC x r):=Qe a (pp x r) (iy h)
theorem rO{r:Rn}(h:StOk r.main r.alt)(a:iP r.bud):RnG r (bq r).2:=Qe a (mM r) (ew h).1
theorem Aj{r:Rn}(h:StOk r.main r.alt)(a:iP r.bud)(most:Nat):RnG r (fg most r).2:=Qe a (Ai most r) (oc h)
theorem E6{r:Rn}(h:StOk r.main r.alt)(d:iP r.bud){b:bc}(a:bytes b):RnG r (eu b r):=by
 refine Qe d (ab9 b r) ?_;unfold eu;split;split;exact Qd ‹_› (fun x c=>(cL.1 c).elim (fun q=>(h.mb x q).2) (jO a x)) (fun x c=>(h.ab x c).2);exact iy h;exact h
theorem Jw{r:Rn}(h:StOk r.main r.alt)(d:iP r.bud)(c:bc→bc→bc→Bool)(key a b:bc):RnG r (gy c key a b r).2:=by
 obtain⟨g,i,f,e⟩:=yk c key a b r d h;exact⟨e,f,g,i⟩
theorem V9{r:Rn}(h:StOk r.main r.alt)(a:iP r.bud):RnG r (oG r).2:=by
 unfold oG;split;exact ig h a 12;exact YY h a
theorem Qf{r:Rn}(h:StOk r.main r.alt)(a:iP r.bud):RnG r (ow r).2:=by
 have g:=V9 h a;unfold ow;generalize oG r=p at *;simp only;split;cases gv 5 p.1 with
 |none=>exact g.trans (ig g.st g.bd 15)
 |some n =>
  simp only;split;exact g.trans (ig g.st g.bd 22);exact g
 ·exact g
theorem YZ{r:Rn}(h:StOk r.main r.alt)(a:iP r.bud):RnG r (ou r).2:=by
 have g:=rO h a;unfold ou;simp only;split;exact g.trans (ig g.st g.bd 19);exact g
theorem ace{r:Rn}(h:StOk r.main r.alt)(e:iP r.bud)(x:Rx)(f:Nat):RnG r (uo x f r):=by
 have c:=rO h e;unfold uo;simp only;generalize bq r=k at *;have b:=rO c.st c.bd;split;generalize bq k.2=s at *;have a:=Jw b.st b.bd x.sg k.1 s.1 x.msg;exact c.trans (b.trans (a.trans (E6 a.st a.bd (yo _))));split;generalize bq k.2=s at *;have a:=Jw b.st b.bd x.sg k.1 s.1 x.msg;split;exact c.trans (b.trans a);exact c.trans (b.trans (a.trans (ig a.st a.bd 16)));split;have b:=Aj c.st c.bd 4;generalize fg 4 k.2=n at *;have a:=rO b.st b.bd;generalize bq n.2=s at *;have d:=Jw a.st a.bd x.sg k.1 s.1 x.msg;exact c.trans (b.trans (a.trans (d.trans (E6 d.st d.bd (ep _)))));split;generalize bq k.2=m at *;have a:=rO b.st b.bd;generalize bq m.2=s at *;have d:=Jw a.st a.bd x.sg k.1 s.1 m.1;exact c.trans (b.trans (a.trans (d.trans (E6 d.st d.bd (yo _)))));exact c
theorem Y0{r:Rn}(h:StOk r.main r.alt)(a:iP r.bud)(x:Rx):RnG r (xZ x r):=by
 have g:=Qf h a;unfold xZ;simp only;split;exact g.trans (ig g.st g.bd 22);exact g
theorem acf{r:Rn}(h:StOk r.main r.alt)(a:iP r.bud)(x:Rx):RnG r (GW x r):=by
 have g:=Qf h a;unfold GW;simp only;split;exact g;split;exact g.trans (ig g.st g.bd 22);exact g
theorem acg{r:Rn}(h:StOk r.main r.alt)(a:iP r.bud)(x:Rx):RnG r (GX x r):=by
 have g:=V9 h a;unfold GX;simp only;split;exact g;exact g.trans (ig g.st g.bd 23)
structure RnOk(r:Rn)(k:Nat):Prop where
 st:StOk r.main r.alt
 bd:iP r.bud
 br:r.br.length≤k
 cl:r.cl.length≤2*k
theorem pq{r a:Rn}{k:Nat}(h:RnOk r k)(g:RnG r a):RnOk a k:=⟨g.st,g.bd,by rw[g.br];exact h.br,by rw[g.cl];exact h.cl⟩
theorem nn{r:Rn}{k m:Nat}(h:RnOk r k)(a:k≤m):RnOk r m:=⟨h.st,h.bd,by have:=h.br;omega,by have:=h.cl;omega⟩
theorem Qg{r:Rn}{k:Nat}(h:RnOk r k)(l:List (Int×Int))(b:l.length≤2)(e:Int):RnOk (BM l e r) (k+1):=by
 unfold BM;split;have g:=ig h.st h.bd e;have a:RnG { aC e r with cl:=r.cl++l } (eu (js true) { aC e r with cl:=r.cl++l }):=E6 (r:={ aC e r with cl:=r.cl++l }) g.st g.bd (yo true);refine⟨a.st,a.bd,?_,?_⟩;rw[a.br];show(aC e r).br.length≤k+1;rw[g.br];have:=h.br;omega;rw[a.cl];show(r.cl++l).length≤2*(k+1);have:=h.cl;simp;omega;exact nn h aq
theorem Y4{r:Rn}{k:Nat}(h:RnOk r k)(x:Rx):RnOk (BN x r) (k+1):=by
 have a:=pq h (rO h.st h.bd);unfold BN;simp only;generalize bq r=p at *;have b:=pq a (Aj a.st a.bd 4);split;exact Qg b _ aw _;exact nn b aq
theorem Y5{r:Rn}{k:Nat}(h:RnOk r k)(x:Rx)(j:∀s o0 o1 bk,(x.trg s o0 o1 bk).1.length≤2):RnOk (GY x r) (k+1):=by
 have e:=pq h (Aj h.st h.bd 4);unfold GY;simp only;generalize fg 4 r=p1 at *;have f:=pq e (rO e.st e.bd);generalize bq p1.2=p2 at *;obtain⟨i,_,_,g⟩:=Qa f.st p1.1;have d:=pq f (Qe f.bd g i);generalize jC p1.1 p2.2=p3 at *;have c:=pq d (Aj d.st d.bd 4);generalize fg 4 p3.2=p4 at *;have b:=pq c (Aj c.st c.bd 4);generalize fg 4 p4.2=p5 at *;have a:=pq b (Aj b.st b.bd 8);generalize fg 8 p5.2=p6 at *;split;split;exact Qg a _ (j _ _ _ _) _;exact nn (pq a (ig a.st a.bd _)) aq;exact nn a aq
theorem ach{r:Rn}{k:Nat}(h:RnOk r k)(x:Rx)(e:x.h1=aW)(i:x.h2=eW)(f:∀s o0 o1 bk,(x.trg s o0 o1 bk).1.length≤2)(a:Nat):RnOk (Ab x a r) (k+1):=by
 have le:∀{c:Rn},RnG r c→RnOk c (k+1):=fun g=>nn (pq h g) aq;unfold Ab;rw[e,i];split;exact le (ig h.st h.bd 17);split;exact le (ace h.st h.bd x a);split;exact le (Y0 h.st h.bd x);split;exact le (acf h.st h.bd x);split;exact le (acg h.st h.bd x);split;exact Y5 h x f;split;exact Y4 h x;have d:=acd h.st a;have b:=pp (zS aW eW a r.main r.alt).2.2 r;exact le ⟨d,by show iP (aC _ r).bud;rw[b.bud];exact h.bd,b.br,b.cl⟩
theorem Hw{r:Rn}{k:Nat}(h:RnOk r k)(b:Bool):RnOk (nh b r) (k+1):=⟨h.st,h.bd,by have:=h.br;simp[nh];omega,by have:=h.cl;show r.cl.length≤_;omega⟩
theorem Qh{r:Rn}{k:Nat}(h:RnOk r k):RnOk (nT r).2 k∧((nT r).1≠none→(nT r).2.br.length+1≤k):=by
 unfold nT;split;exact⟨pq h (ig h.st h.bd 18),fun q=>absurd rfl q⟩;rename_i a;have:=h.br;exact⟨⟨h.st,h.bd,by simp;omega,h.cl⟩,fun _=>by simp;omega⟩
theorem Y6{r c:Rn}{k e:Nat}(h:RnOk r k)(a:pe e r=some c):RnOk c (k+1):=by
 unfold pe at a;split at a;obtain rfl:=Option.some.inj a;split;exact Hw (pq h (YZ h.st h.bd)) _;exact Hw h false;split at a;obtain rfl:=Option.some.inj a;obtain⟨d,g⟩:=Qh h;generalize nT r=p at *;obtain⟨o,f⟩:=p;cases o with
 |none=>exact nn d aq
 |some b=>exact Hw d _
 ·split at a;obtain rfl:=Option.some.inj a;exact nn (Qh h).1 aq;cases a
theorem Qi{r:Rn}{k:Nat}(h:RnOk r k)(x:Rx)(f:x.h1=aW)(i:x.h2=eW)(g:∀s o0 o1 bk,(x.trg s o0 o1 bk).1.length≤2)(w:Wd)(d:w.1<256)(c:bytes w.2):RnOk (nU x w r) (k+1):=by
 unfold nU;split;exact nn (pq h (ig h.st h.bd 10)) aq;cases a:pe w.1 r with
 |some r'=>exact Y6 h a
 | none =>
  simp only;split;exact nn h aq;cases e:fN w with
  |none=>exact ach h x f i g w.1
  |some b =>
   simp only;split;exact nn (pq h (E6 h.st h.bd (x5 c d e))) aq;exact nn (pq h (ig h.st h.bd 11)) aq
theorem Y7(F:RnF)(x:Rx)(E:RnE F x)(w:Wd)(G:w.1<256)(S:bytes w.2)(L:w.2.length≤50000)(r:Rn)(J:List Bool)(k:Nat)(D:RnOk r k)(Z:k≤10000) :
  dr Tryz.prog 3 (aI (ja F)) 140 ⟨r,J,0⟩ [.ptr 0 0 0 1,.agg (yO w)] (fun v m=>∃J',m=⟨nU x w r,J',0⟩):=by
 refine ap Tryz.func140 (by kernel_rfl) rfl Tryz.ntmps140 (rs:=[]) rfl (dJ rfl) (by decide) ?_;have j:=fq (F:=F) E.hi;have B:=j.2.2;have aa:=D.br;have X:=D.cl;have Q:=x4 w G aq;have O:=TG w.1 G;have u:=KY w G S L;have h:=OW j w.1 G r J 0 D.st aq;have z:∀v,v∈[AV.agg (yO w)]→v.deep:=by
  intro v q;simp at q;subst q;exact lL w
 obtain⟨a,c⟩:=w;simp only[yO]at *;have e:∀(N:Nat),5≤N→∀p,p∈[((4:Nat),(⟨42,2,[[.d (.int .u8 (a:Int)),.d (nb c)]]⟩:Blk))]→p.1<N∧3≤p.1:=by
  intro N hN p l;simp at l;subst l;exact⟨by show 4<N;omega,by show 3≤4;omega⟩
 simp[go_sem];refine ag Q z ?_;have U:OR (fN (a,c))=.tup [.d (nb ((fN (a,c)).getD [])),.d (.bool (fN (a,c)).isSome)]:=by cases fN (a,c)<;>rfl
 rw[U];simp[go_sem];refine ag O a9 ?_;by_cases A:(!qF a&&(fN (a,c)).isNone)=true
 ·have q:nU x (a,c) r=aC 10 r:=if_pos A;rw[q];have M:qF a=false:=by simp at A;exact A.1
  have T:fN (a,c)=none:=by simp at A;exact A.2
  simp[go_sem,M,T];refine aR (Pp:=[(4,⟨42,2,[[.d (.int .u8 (a:Int)),.d (nb c)]]⟩)]) j (bD j r J 0 10) rfl aq (e _ aq) (by simp[AV.renL,AV.ren]) ?_;rintro v m ρ rfl n;rw[bH];generalize aC 10 r=r';simp only[aI,bJ,bI,id];simp[go_sem];exact⟨_,⟨J,rfl⟩,aF rfl rfl rfl⟩
 ·have C:(qF a=true∧(fN (a,c)).isSome=true)∨(qF a=true∧fN (a,c)=none)∨(qF a=false∧(fN (a,c)).isSome=true):=by
   cases Y:qF a;cases V:fN (a,c);rw[Y,V]at A;simp at A;exact .inr (.inr ⟨rfl,rfl⟩);cases V:fN (a,c);exact .inr (.inl ⟨rfl,rfl⟩);exact .inl ⟨rfl,rfl⟩
  have t:nU x (a,c) r=(match pe a r with
    |some r'=>r'
    |none=>if 0<je r then r else match fN (a,c)with
     |some b=>if uU (a,c)then eu b r else aC 11 r
     |none=>Ab x a r):=if_neg A
  cases P:pe a r with
  |some r1 =>
   have q:nU x (a,c) r=r1:=by rw[t,P]
   rw[q];rw[P]at h;rcases C with ⟨i,l⟩|⟨i,l⟩|⟨i,l⟩
   ·simp[go_sem,i,l];refine aR (Pp:=[(4,⟨42,2,[[.d (.int .u8 (a:Int)),.d (nb c)]]⟩)]) j h (by first|rfl|simp[bH,aI,bJ,bI]) aq (e _ aq) (by simp[AV.renL,AV.ren]) ?_;rintro v m ρ ⟨rfl,g,rfl⟩ n;simp[go_sem,AV.ren];rw[bH];exact⟨_,⟨g,rfl⟩,aF rfl rfl rfl⟩
   ·simp[go_sem,i,l];refine aR (Pp:=[(4,⟨42,2,[[.d (.int .u8 (a:Int)),.d (nb c)]]⟩)]) j h (by first|rfl|simp[bH,aI,bJ,bI]) aq (e _ aq) (by simp[AV.renL,AV.ren]) ?_;rintro v m ρ ⟨rfl,g,rfl⟩ n;simp[go_sem,AV.ren];rw[bH];exact⟨_,⟨g,rfl⟩,aF rfl rfl rfl⟩
   ·simp[go_sem,i,l];refine aR (Pp:=[(4,⟨42,2,[[.d (.int .u8 (a:Int)),.d (nb c)]]⟩)]) j h (by first|rfl|simp[bH,aI,bJ,bI]) aq (e _ aq) (by simp[AV.renL,AV.ren]) ?_;rintro v m ρ ⟨rfl,g,rfl⟩ n;simp[go_sem,AV.ren];rw[bH];exact⟨_,⟨g,rfl⟩,aF rfl rfl rfl⟩
  | none =>
   rw[P]at t h;by_cases o:0<je r
   ·have q:nU x (a,c) r=r:=by rw[t];exact if_pos o
    rw[q];have W:(0:Int)<(je r:Int):=aq;rcases C with ⟨i,l⟩|⟨i,l⟩|⟨i,l⟩
    ·simp[go_sem,i,l];refine aR (Pp:=[(4,⟨42,2,[[.d (.int .u8 (a:Int)),.d (nb c)]]⟩)]) j h (by first|rfl|simp[bH,aI,bJ,bI]) aq (e _ aq) (by simp[AV.renL,AV.ren]) ?_;rintro v m ρ ⟨rfl,g,rfl⟩ n;rw[bH];simp only[aI,bJ,bI,id];simp[go_sem,AV.ren,B,o];exact⟨_,⟨g,rfl⟩,aF rfl rfl rfl⟩
    ·simp[go_sem,i,l];refine aR (Pp:=[(4,⟨42,2,[[.d (.int .u8 (a:Int)),.d (nb c)]]⟩)]) j h (by first|rfl|simp[bH,aI,bJ,bI]) aq (e _ aq) (by simp[AV.renL,AV.ren]) ?_;rintro v m ρ ⟨rfl,g,rfl⟩ n;rw[bH];simp only[aI,bJ,bI,id];simp[go_sem,AV.ren,B,o];exact⟨_,⟨g,rfl⟩,aF rfl rfl rfl⟩
    ·simp[go_sem,i,l];refine aR (Pp:=[(4,⟨42,2,[[.d (.int .u8 (a:Int)),.d (nb c)]]⟩)]) j h (by first|rfl|simp[bH,aI,bJ,bI]) aq (e _ aq) (by simp[AV.renL,AV.ren]) ?_;rintro v m ρ ⟨rfl,g,rfl⟩ n;rw[bH];simp only[aI,bJ,bI,id];simp[go_sem,AV.ren,B,o];exact⟨_,⟨g,rfl⟩,aF rfl rfl rfl⟩
   ·have f:je r=0:=aq;have H:qF a=true∨qF a=false:=by cases qF a;exact .inr rfl;exact .inl rfl
    cases y:fN (a,c)with
    |none =>
     have i:qF a=true:=by rcases C with ⟨i,l⟩|⟨i,l⟩|⟨i,l⟩<;>first|exact i|(rw[y]at l;simp at l)
     have q:nU x (a,c) r=Ab x a r:=by rw[t,y];exact if_neg o
     rw[q];simp[go_sem,i];refine aR (Pp:=[(4,⟨42,2,[[.d (.int .u8 (a:Int)),.d (nb c)]]⟩)]) j h (by first|rfl|simp[bH,aI,bJ,bI]) aq (e _ aq) (by simp[AV.renL,AV.ren]) ?_;rintro v m ρ ⟨rfl,g,rfl⟩ n;rw[bH];simp only[aI,bJ,bI,id];simp[go_sem,AV.ren,B,f];refine aR (Pp:=[(4,⟨42,2,[[.d (.int .u8 (a:Int)),.d (nb c)]]⟩)]) (s:=⟨r,g,0⟩) j (UE F x E a G r g D.st aq D.bd) (by simp[bH,aI,bJ,bI,f]) aq (e _ aq) (by simp[AV.renL,AV.ren]) ?_;rintro v m ρ rfl n;rw[bH];generalize Ab x a r=r';simp only[aI,bJ,bI,id];simp[go_sem];exact⟨_,⟨g,rfl⟩,aF rfl rfl rfl⟩
    | some b =>
     have I:=IV y;simp only at I;by_cases K:uU (a,c)=true
     ·have q:nU x (a,c) r=eu b r:=by rw[t,y];exact(if_neg o).trans (if_pos K)
      rw[q];rw[K]at u;rcases H with i|i
      ·simp[go_sem,i];refine aR (Pp:=[(4,⟨42,2,[[.d (.int .u8 (a:Int)),.d (nb c)]]⟩)]) j h (by first|rfl|simp[bH,aI,bJ,bI]) aq (e _ aq) (by simp[AV.renL,AV.ren]) ?_;rintro v m ρ ⟨rfl,g,rfl⟩ n;rw[bH];simp only[aI,bJ,bI,id];simp[go_sem,AV.ren,B,f];refine ag u z ?_;simp[go_sem];refine aR (Pp:=[(4,⟨42,2,[[.d (.int .u8 (a:Int)),.d (nb c)]]⟩)]) (s:=⟨r,g,0⟩) j (rH j r g 0 D.st b aq) (by simp[bH,aI,bJ,bI,f]) aq (e _ aq) (by simp[AV.renL,AV.ren]) ?_;rintro v m ρ rfl n;rw[bH];generalize eu b r=r';simp only[aI,bJ,bI,id];simp[go_sem];exact⟨_,⟨g,rfl⟩,aF rfl rfl rfl⟩
      ·simp[go_sem,i];refine aR (Pp:=[(4,⟨42,2,[[.d (.int .u8 (a:Int)),.d (nb c)]]⟩)]) j h (by first|rfl|simp[bH,aI,bJ,bI]) aq (e _ aq) (by simp[AV.renL,AV.ren]) ?_;rintro v m ρ ⟨rfl,g,rfl⟩ n;rw[bH];simp only[aI,bJ,bI,id];simp[go_sem,AV.ren,B,f];refine ag u z ?_;simp[go_sem];refine aR (Pp:=[(4,⟨42,2,[[.d (.int .u8 (a:Int)),.d (nb c)]]⟩)]) (s:=⟨r,g,0⟩) j (rH j r g 0 D.st b aq) (by simp[bH,aI,bJ,bI,f]) aq (e _ aq) (by simp[AV.renL,AV.ren]) ?_;rintro v m ρ rfl n;rw[bH];generalize eu b r=r';simp only[aI,bJ,bI,id];simp[go_sem];exact⟨_,⟨g,rfl⟩,aF rfl rfl rfl⟩
     ·have R:uU (a,c)=false:=(by simpa using K);have q:nU x (a,c) r=aC 11 r:=by rw[t,y];exact(if_neg o).trans (if_neg K)
      rw[q];rw[R]at u;rcases H with i|i
      ·simp[go_sem,i];refine aR (Pp:=[(4,⟨42,2,[[.d (.int .u8 (a:Int)),.d (nb c)]]⟩)]) j h (by first|rfl|simp[bH,aI,bJ,bI]) aq (e _ aq) (by simp[AV.renL,AV.ren]) ?_;rintro v m ρ ⟨rfl,g,rfl⟩ n;rw[bH];simp only[aI,bJ,bI,id];simp[go_sem,AV.ren,B,f];refine ag u z ?_;simp[go_sem];refine aR (Pp:=[(4,⟨42,2,[[.d (.int .u8 (a:Int)),.d (nb c)]]⟩)]) (s:=⟨r,g,0⟩) j (bD j r g 0 11) (by simp[bH,aI,bJ,bI,f]) aq (e _ aq) (by simp[AV.renL,AV.ren]) ?_;rintro v m ρ rfl n;rw[bH];generalize aC 11 r=r';simp only[aI,bJ,bI,id];simp[go_sem];exact⟨_,⟨g,rfl⟩,aF rfl rfl rfl⟩
      ·simp[go_sem,i];refine aR (Pp:=[(4,⟨42,2,[[.d (.int .u8 (a:Int)),.d (nb c)]]⟩)]) j h (by first|rfl|simp[bH,aI,bJ,bI]) aq (e _ aq) (by simp[AV.renL,AV.ren]) ?_;rintro v m ρ ⟨rfl,g,rfl⟩ n;rw[bH];simp only[aI,bJ,bI,id];simp[go_sem,AV.ren,B,f];refine ag u z ?_;simp[go_sem];refine aR (Pp:=[(4,⟨42,2,[[.d (.int .u8 (a:Int)),.d (nb c)]]⟩)]) (s:=⟨r,g,0⟩) j (bD j r g 0 11) (by simp[bH,aI,bJ,bI,f]) aq (e _ aq) (by simp[AV.renL,AV.ren]) ?_;rintro v m ρ rfl n;rw[bH];generalize aC 11 r=r';simp only[aI,bJ,bI,id];simp[go_sem];exact⟨_,⟨g,rfl⟩,aF rfl rfl rfl⟩
theorem Jx{s:bc}{a b:Nat}{w:Wd}(i:bytes s)(u:a<s.length)(h:pa s a=some (w,b)):a<b∧b≤s.length∧w.1<256∧bytes w.2∧w.2.length≤s.length:=by
 obtain⟨c,r,e⟩:∃c r,s.drop a=c::r:=by
  rcases h:s.drop a with _|⟨c,r⟩;have:=congrArg List.length h;simp at this;omega;exact⟨c,r,rfl⟩
 have d:bytes (c::r):=fun x g=>i x (by rw[←e]at g;exact List.mem_of_mem_drop g);have k:a+(r.length+1)=s.length:=by
  have:=congrArg List.length e;simp at this;omega
 unfold pa at h;rw[e]at h;cases f:jB (c::r)with
 |none=>rw[f]at h;cases h
 |some p =>
  obtain⟨n,t⟩:=p;obtain⟨m,o,l⟩:=EE d f;rw[f]at h;simp only[List.length_cons,List.headD_cons]at h;split at h;cases h;rename_i q;simp only[Option.some.injEq,Prod.mk.injEq]at h;obtain⟨rfl,rfl⟩:=h;refine⟨aq,aq,d c aw,fun y j=>d y (List.mem_of_mem_drop (List.mem_of_mem_take j)),?_⟩;simp;omega
theorem UH(F:RnF)(x:Rx)(E:RnE F x)(t:bytes F.script)(S:F.script.length≤1000)(X:∀s o0 o1 bk,(x.trg s o0 o1 bk).1.length≤2)(r:Rn)(J:List Bool)(Q:RnOk r 0) :
  dr Tryz.prog 3 (aI (ja F)) 98 ⟨r,J,0⟩ [.ptr 0 0 0 1] (fun v C=>∃c,C=⟨oH x F.script (F.script.length+1) 0 r,c,0⟩):=by
 refine ap Tryz.func98 (by kernel_rfl) rfl Tryz.ntmps98 (rs:=[]) rfl (dJ rfl) (by decide) ?_;have o:=fq (F:=F) E.hi;have hl:=o.2.2;have n:∀l:List AV,(ja F++l)[39]?=some (.d (.ro 1 (F.script.map fun(b:Nat)=>[.int .u8 (b:Int)]))):=fun l=>by
  unfold ja ar;rw[cD,dz (by simp[eS])];simp only[eS,List.length_cons,List.length_nil,cD];rw[dz (by rw[ak,E.hi];omega),ak,E.hi];rfl
 generalize P:oH x F.script (F.script.length+1) 0 r=W;simp[go_sem]
 have A:∀(B:Fr)(m:Hp)(M a:Nat)(g:Rn)(c:List Bool),(fv 0 B=.ptr 0 0 0 1∧fv 2 B=.d (.int .i64 (a:Int)))→(∀p,p∈ju 3 (aI (ja F)) ⟨g,c,0⟩ id→lk p.1 m=some p.2) →
   az ⟨B,m,M⟩ ⟨[(0,.ptr 0 0 0 1),(2,.d (.int .i64 (a:Int)))],ju 3 (aI (ja F)) ⟨g,c,0⟩ id,9000⟩:=by
  rintro B m M a g c⟨Y,R⟩O;refine⟨?_,rnW o (dJ rfl) O,.inr (by show 64≤9000;omega)⟩;intro p y;simp only[et,List.mem_nil_iff,or_false]at y;rcases y with rfl|rfl;exact⟨.inl Y.symm,by simp[AV.low,AV.low1]⟩;exact⟨.inl R.symm,by simp[AV.low,AV.low1]⟩
 refine av (fun u:Nat×Nat×Rn×List Bool=>⟨[(0,.ptr 0 0 0 1),(2,.d (.int .i64 (u.1:Int)))],ju 3 (aI (ja F)) ⟨u.2.2.1,u.2.2.2,0⟩ id,9000⟩)
  (fun u=>u.1≤F.script.length∧F.script.length+1≤u.2.1+u.1∧RnOk u.2.2.1 u.1∧oH x F.script u.2.1 u.1 u.2.2.1=W) (fun u=>F.script.length-u.1) (0,F.script.length+1,r,J) ⟨aq,by show _≤F.script.length+1+0;omega,Q,P⟩
  (A _ _ _ 0 r J (by simp[fv,lk]) (tf rfl rfl rfl)) ?_
 rintro⟨a,f,g,c⟩⟨V,hf,I,j⟩;simp only at V hf I j;obtain⟨f,rfl⟩:∃U,f=U+1:=⟨f-1,aq⟩;rw[oH]at j;simp only;by_cases k:a<F.script.length
 ·have i:(a:Int)<(F.script.length:Int):=aq;rw[bH];simp only[aI,bJ,bI,id];simp[go_sem,i,n];refine aR (Pp:=[]) (s:=⟨g,c,0⟩) o (fE o g c 0) (by simp[bH,aI,bJ,bI]) aq aw (by simp[AV.renL]) ?_;rintro v C ρ ⟨rfl,rfl⟩ N;by_cases q:g.e=0
  ·rw[if_pos ⟨k,q⟩]at j;have D:=OQ F.script a t aq k;rw[bH];simp only[aI,bJ,bI,id];simp[go_sem,AV.ren,q,n];refine ag D a9 ?_
   cases G:pa F.script a with
   |none =>
    rw[G]at j;subst j;simp[go_sem,OP,yO];refine aR (Pp:=[(9736,⟨42,2,[[.d (.int .u8 0),.d (nb [])]]⟩)]) (s:=⟨g,c,0⟩) o (bD o g c 0 2) (by simp[bH,aI,bJ,bI,q]) aq (by intro p m;simp at m;subst m;simp) (by simp[AV.renL,AV.ren]) ?_;rintro v C ρ rfl N;rw[bH];generalize aC 2 g=r2;simp only[aI,bJ,bI,id];simp[go_sem];exact⟨_,⟨c,rfl⟩,aF rfl rfl rfl⟩
   |some p =>
    obtain⟨w,b⟩:=p;rw[G]at j;obtain⟨n1,Z,K,L,n5⟩:=Jx t k G;have z:=Y7 F x E w K L aq g c a I aq;have H:=nn (Qi I x E.hh.1 E.hh.2 X w K L) (show a+1≤b by omega);simp only[yO]at z;simp[go_sem,OP,yO];refine aR (Pp:=[(9736,⟨42,2,[[.d (.int .u8 (w.1:Int)),.d (nb w.2)]]⟩)]) (s:=⟨g,c,0⟩) o z (by simp[bH,aI,bJ,bI,q]) aq (by intro p m;simp at m;subst m;simp) (fun ρ=>rfl) ?_;rintro v C ρ ⟨T,rfl⟩ N;simp[go_sem];refine am (b,f,nU x w g,T) ⟨Z,by show _≤f+b;omega,H,j⟩ (by show F.script.length-b<F.script.length-a;omega) (A _ _ _ b _ _ (by simp[fv,lk]) (tf rfl rfl rfl))
  ·rw[if_neg (fun h=>q h.2)]at j;subst j;simp[go_sem,AV.ren,q];rw[bH];exact⟨_,⟨c,rfl⟩,aF rfl rfl rfl⟩
 ·rw[if_neg (fun h=>k h.1)]at j;subst j;have i:¬(a:Int)<(F.script.length:Int):=aq;rw[bH];simp only[aI,bJ,bI,id];simp[go_sem,i,n];exact⟨_,⟨c,rfl⟩,aF rfl rfl rfl⟩
def vD(r1:Rn):Rn:=if r1.main.length=1∧lH (r1.main.headD [])=true then r1 else aC 25 r1
theorem aci{C:List AV}(g:jG C)(r:Rn)(J:List Bool)(H:Nat)(A:StOk r.main r.alt):dr Tryz.prog 3 (aI C) 99 ⟨r,J,H⟩ [.ptr 0 0 0 1] (fun v o=>o=⟨rE r,J,H⟩):=by
 refine ap Tryz.func99 (by kernel_rfl) rfl Tryz.ntmps99 (rs:=[]) rfl (dJ rfl) (by decide) ?_;have m:=g.2.2;by_cases n:0<r.br.length
 ·have x:rE r=vD (aC 18 r):=by simp only[rE,if_pos n,vD]
  rw[x];have j:StOk (aC 18 r).main (aC 18 r).alt:=iy A;have u:(0:Int)<(r.br.length:Int):=aq;have D:=bD g r J H 18;generalize aC 18 r=t at *;rw[bH];simp only[aI,bJ,bI,id];simp[go_sem,m,n];refine aR (Pp:=[]) (s:=⟨r,J,H⟩) g D (by simp[bH,aI,bJ,bI]) aq aw (by simp[AV.renL,AV.ren]) ?_;rintro v o ρ rfl q;obtain⟨i,alt,b,a,c,e⟩:=t;simp only at j;rcases i with _|⟨y,_|⟨z,l⟩⟩
  ·have f:vD ⟨[],alt,b,a,c,e⟩=aC 25 ⟨[],alt,b,a,c,e⟩:=rfl;rw[f,bH];simp only[aI,bJ,bI,id];simp[go_sem,m];refine aR (Pp:=[]) (s:=⟨⟨[],alt,b,a,c,e⟩,J,H⟩) g (bD g ⟨[],alt,b,a,c,e⟩ J H 25) (by simp[bH,aI,bJ,bI]) aq aw (by simp[AV.renL,AV.ren]) ?_;rintro v o ρ rfl q;rw[bH];generalize aC 25 ⟨[],alt,b,a,c,e⟩=r';simp only[aI,bJ,bI,id];simp[go_sem];exact aF rfl rfl rfl
  ·obtain⟨B,w⟩:=j.mb y aw;have d:=o8 y w aq;rw[bH];simp only[aI,bJ,bI,id];by_cases k:lH y=true
   ·have f:vD ⟨[y],alt,b,a,c,e⟩=⟨[y],alt,b,a,c,e⟩:=if_pos ⟨rfl,k⟩;rw[f];rw[k]at d;simp[go_sem,m,bL];refine ag d a9 ?_;simp[go_sem];exact aF rfl rfl rfl
   ·have f:vD ⟨[y],alt,b,a,c,e⟩=aC 25 ⟨[y],alt,b,a,c,e⟩:=if_neg (fun h=>k h.2);rw[f];rw[show lH y=false by simpa using k]at d;simp[go_sem,m,bL];refine ag d a9 ?_;simp[go_sem];refine aR (Pp:=[]) (s:=⟨⟨[y],alt,b,a,c,e⟩,J,H⟩) g (bD g ⟨[y],alt,b,a,c,e⟩ J H 25) (by simp[bH,aI,bJ,bI,bL]) aq aw (by simp[AV.renL,AV.ren]) ?_;rintro v o ρ rfl q;rw[bH];generalize aC 25 ⟨[y],alt,b,a,c,e⟩=r';simp only[aI,bJ,bI,id];simp[go_sem];exact aF rfl rfl rfl
  ·have f:vD ⟨y::z::l,alt,b,a,c,e⟩=aC 25 ⟨y::z::l,alt,b,a,c,e⟩:=if_neg (fun h=>by simp at h);have p:¬(l.length:Int)+1+1=1:=aq;rw[f,bH];simp only[aI,bJ,bI,id];simp[go_sem,m,p];refine aR (Pp:=[]) (s:=⟨⟨y::z::l,alt,b,a,c,e⟩,J,H⟩) g (bD g ⟨y::z::l,alt,b,a,c,e⟩ J H 25) (by simp[bH,aI,bJ,bI,bL]) aq aw (by simp[AV.renL,AV.ren]) ?_;rintro v o ρ rfl q;rw[bH];generalize aC 25 ⟨y::z::l,alt,b,a,c,e⟩=r';simp only[aI,bJ,bI,id];simp[go_sem];exact aF rfl rfl rfl
 ·have x:rE r=vD r:=by simp only[rE,if_neg n,vD]
  rw[x];have j:=A;have u:¬(0:Int)<(r.br.length:Int):=aq;obtain⟨t,rfl⟩:∃t,t=r:=⟨r,rfl⟩;obtain⟨i,alt,b,a,c,e⟩:=t;simp only at j n u;rcases i with _|⟨y,_|⟨z,l⟩⟩
  ·have f:vD ⟨[],alt,b,a,c,e⟩=aC 25 ⟨[],alt,b,a,c,e⟩:=rfl;rw[f,bH];simp only[aI,bJ,bI,id];simp[go_sem,m,n];refine aR (Pp:=[]) (s:=⟨⟨[],alt,b,a,c,e⟩,J,H⟩) g (bD g ⟨[],alt,b,a,c,e⟩ J H 25) (by simp[bH,aI,bJ,bI]) aq aw (by simp[AV.renL,AV.ren]) ?_;rintro v o ρ rfl q;rw[bH];generalize aC 25 ⟨[],alt,b,a,c,e⟩=r';simp only[aI,bJ,bI,id];simp[go_sem];exact aF rfl rfl rfl
  ·obtain⟨B,w⟩:=j.mb y aw;have d:=o8 y w aq;rw[bH];simp only[aI,bJ,bI,id];by_cases k:lH y=true
   ·have f:vD ⟨[y],alt,b,a,c,e⟩=⟨[y],alt,b,a,c,e⟩:=if_pos ⟨rfl,k⟩;rw[f];rw[k]at d;simp[go_sem,m,bL,n];refine ag d a9 ?_;simp[go_sem];exact aF rfl rfl rfl
   ·have f:vD ⟨[y],alt,b,a,c,e⟩=aC 25 ⟨[y],alt,b,a,c,e⟩:=if_neg (fun h=>k h.2);rw[f];rw[show lH y=false by simpa using k]at d;simp[go_sem,m,bL,n];refine ag d a9 ?_;simp[go_sem];refine aR (Pp:=[]) (s:=⟨⟨[y],alt,b,a,c,e⟩,J,H⟩) g (bD g ⟨[y],alt,b,a,c,e⟩ J H 25) (by simp[bH,aI,bJ,bI,bL]) aq aw (by simp[AV.renL,AV.ren]) ?_;rintro v o ρ rfl q;rw[bH];generalize aC 25 ⟨[y],alt,b,a,c,e⟩=r';simp only[aI,bJ,bI,id];simp[go_sem];exact aF rfl rfl rfl
  ·have f:vD ⟨y::z::l,alt,b,a,c,e⟩=aC 25 ⟨y::z::l,alt,b,a,c,e⟩:=if_neg (fun h=>by simp at h);have p:¬(l.length:Int)+1+1=1:=aq;rw[f,bH];simp only[aI,bJ,bI,id];simp[go_sem,m,p,n];refine aR (Pp:=[]) (s:=⟨⟨y::z::l,alt,b,a,c,e⟩,J,H⟩) g (bD g ⟨y::z::l,alt,b,a,c,e⟩ J H 25) (by simp[bH,aI,bJ,bI,bL]) aq aw (by simp[AV.renL,AV.ren]) ?_;rintro v o ρ rfl q;rw[bH];generalize aC 25 ⟨y::z::l,alt,b,a,c,e⟩=r';simp only[aI,bJ,bI,id];simp[go_sem];exact aF rfl rfl rfl
def Lc(F:RnF)(x:Rx)(a:List bc)(bud:Int):AV :=
 if bR F.t (F.n:Int) F.coins≠0∨1000<F.script.length then .tup [.d (.ro 2 []),.d (.int .i64 1)]
 else .tup [.d (.ro 2 ((BO x F.script a bud).1.map dW)),.d (.int .i64 (BO x F.script a bud).2)]
theorem uA(t:Tn)(n:Int)(coins:List (Nat×List Nat)):bR t n coins=0∨bR t n coins=1:=by
 rcases nP t n coins with h|h;exact .inr h;exact .inl h.1
theorem yp(F:RnF)(a:List bc)(bud:Int):∀v,v∈[AV.agg (eS F.t (F.n:Int) F.coins),bT F.inner F.path F.script,.d (.ro 1 (a.map bL)),.d (nb F.annex),.d (.int .i64 bud)]→v.deep:=by
 intro v b;simp at b;rcases b with rfl|rfl|rfl|rfl|rfl;simp[AV.deep,AV.deep1,eS];exact cT F.inner F.path F.script _ (List.mem_singleton.2 rfl);trivial;trivial;trivial
def Qj:List AV:=[.d (.int .u32 0),.nil,.nil,.d (.int .u32 0),.d (.int .i64 0),.nil]++(cb z32++[.nil,.nil,.nil,.nil,.nil,.nil,.d (.int .i64 0),.d (.int .i64 0),.nil,.d (.int .i64 0)])
theorem aet:fQ Tryz.prog 158=some Qj:=by kernel_rfl
theorem Qk:Qj.length=48:=rfl
theorem Ql:List.drop 40 Qj=[.nil,.nil,.nil,.nil,.d (.int .i64 0),.d (.int .i64 0),.nil,.d (.int .i64 0)]:=rfl
theorem acj{L:List AV}(h:L.length=34)(k:Nat)(l:List AV):List.take (34+k) (L++l)=L++List.take k l:=by
 rw[List.take_append,cx aq,h,Nat.add_sub_cancel_left]
theorem Y8{L:List AV}(h:L.length=34)(k:Nat)(l:List AV):List.drop (34+k) (L++l)=List.drop k l:=by
 rw[List.drop_append,dg aq,h,Nat.add_sub_cancel_left,List.nil_append]
def fR(j:Nat):Nat:=640+1000*j
theorem Y9:ru 3 fR:=by
 intro i j a b h;unfold fR at h;omega
theorem Za(C:List AV)(s:RnS):ju 3 (aI C) s fR=[(640,aI C s fR 0),(1640,aI C s fR 1),(2640,aI C s fR 2)]:=rfl
theorem Jy{C:List AV}(d:jG C){N:Nat}{hp:Hp}{g:FuncId}{s:RnS}{a:List AV}{R:AV→RnS→Prop}{K:AV→Hp→Prop}(h:dr Tryz.prog 3 (aI C) g s (.ptr 0 0 0 1::a) R)(e:hp=ju 3 (aI C) s fR)(i:2641≤N)(c:∀ ρ,AV.renL ρ a=a)
  (f:∀v b ρ,R v b→K (v.ren ρ) (ju 3 (aI C) b fR)):uK Tryz.prog g (.ptr 640 0 0 1::a) hp N K:=by
 subst e;refine vW (Pp:=[]) (uu d) h Y9 (fun j k=>by unfold fR;omega) aw ?_ fun v b ρ hR _=>f v b ρ hR;rw[AV.renL,c,AV.ren];rfl
theorem Qm(x:Rx)(d:x.h1=aW)(g:x.h2=eW)(e:∀s o0 o1 bk,(x.trg s o0 o1 bk).1.length≤2){s:bc}(c:bytes s):∀(f a:Nat)(r:Rn),RnOk r a→∃k,RnOk (oH x s f a r) k
 |0,a,r,h=>⟨a,h⟩
 | f+1,a,r,h=>by
  rw[oH];split;rename_i hc;cases i:pa s a with
  |none=>exact⟨a,pq h (ig h.st h.bd 2)⟩
  |some p =>
   obtain⟨w,b⟩:=p;obtain⟨m,n,l,j,o⟩:=Jx c hc.1 i;exact Qm x d g e c f b _ (nn (Qi h x d g e w l j) aq)
  ·exact⟨a,h⟩
theorem Zb(F:RnF)(x:Rx)(a:List bc)(bud:Int)(ht:Sm F.t)(hc:F.coins.length≤1000)(hi:F.inner.length=32)(J:bytes F.script)(K:StOk a [])(U:iP bud)
  (E:bR F.t (F.n:Int) F.coins=0→F.script.length≤1000→RnE F x) (hx:∀s o0 o1 bk,(x.trg s o0 o1 bk).1.length≤2) :
  au Tryz.prog 53 [.agg (eS F.t (F.n:Int) F.coins),bT F.inner F.path F.script,.d (.ro 1 (a.map bL)),.d (nb F.annex),.d (.int .i64 bud)] (fun v=>v=Lc F x a bud):=by
 have r:=nf F.t (F.n:Int) F.coins ht hc;have g:(ar F.inner (AV.d (bW F.path)) (AV.d (nb F.script))).length=34:=by simp[ar,ak,hi]
 have R:List.take 34 (ar F.inner (AV.d (bW F.path)) (AV.d (nb F.script)))=ar F.inner (AV.d (bW F.path)) (AV.d (nb F.script)):=cx (by rw[g];omega);have M:(ar F.inner (AV.d (bW F.path)) (AV.d (nb F.script)))[33]?=some (.d (.ro 1 (F.script.map fun(b:Nat)=>[.int .u8 (b:Int)]))):=by
  unfold ar;rw[dz (by rw[ak,hi];omega),ak,hi];rfl
 have w:∀v,v∈[AV.agg (eS F.t (F.n:Int) F.coins)]→v.deep:=by simp[AV.deep,AV.deep1,eS]
 simp only[eS]at r w;by_cases hs:1000<F.script.length
 ·have C:Lc F x a bud=.tup [.d (.ro 2 []),.d (.int .i64 1)]:=if_pos (.inr hs);rw[C];have B:(1000:Int)<(F.script.length:Int):=aq;refine bF Tryz.func53 Tryz.ntmps53 (rs:=[.tmp 10,.tmp 11]) (yp F a bud) ?_;simp[go_sem,bT,eS,g];refine ag r w ?_;rcases uA F.t (F.n:Int) F.coins with h|h
  ·simp[go_sem,h,M,B,ah];exact ek (cs':=[.d (.ro 2 []),.d (.int .i64 1)]) (ax (ao (.nil 2)) (ax (aL trivial) bV)) rfl a9 rfl
  ·simp[go_sem,h,ah];exact ek (cs':=[.d (.ro 2 []),.d (.int .i64 1)]) (ax (ao (.nil 2)) (ax (aL trivial) bV)) rfl a9 rfl
 ·rcases uA F.t (F.n:Int) F.coins with h|h
  ·have C:Lc F x a bud=.tup [.d (.ro 2 ((BO x F.script a bud).1.map dW)),.d (.int .i64 (BO x F.script a bud).2)]:=if_neg (by rw[h];simp;omega);rw[C];have E:=E h aq;rw[h]at r;have B:¬(1000:Int)<(F.script.length:Int):=aq;refine ua Tryz.func53 (by kernel_rfl) rfl Tryz.ntmps53 (rs:=[.tmp 10,.tmp 11]) rfl (dJ rfl) (yp F a bud) ?_;refine sL (gr ?_);simp[go_sem,bT,eS,g];simp only[AO];refine sL (gr ?_);simp[go_sem];refine ag r w ?_;simp[go_sem,M,B];simp only[AO];refine sL (gr ?_);have Y:∀l,List.take 35 (ar F.inner (AV.d (bW F.path)) (AV.d (nb F.script))++l)=ar F.inner (AV.d (bW F.path)) (AV.d (nb F.script))++List.take 1 l:=acj g 1;have S:∀l,List.take 39 (ar F.inner (AV.d (bW F.path)) (AV.d (nb F.script))++l)=ar F.inner (AV.d (bW F.path)) (AV.d (nb F.script))++List.take 5 l:=acj g 5;have Q:∀l,List.drop 35 (ar F.inner (AV.d (bW F.path)) (AV.d (nb F.script))++l)=List.drop 1 l:=Y8 g 1;have T:∀l,List.drop 37 (ar F.inner (AV.d (bW F.path)) (AV.d (nb F.script))++l)=List.drop 3 l:=Y8 g 3;have X:∀l,List.drop 40 (ar F.inner (AV.d (bW F.path)) (AV.d (nb F.script))++l)=List.drop 6 l:=Y8 g 6;simp[go_sem,g,R,aet,Qk,Ql,Y,S,Q,T,X];simp only[AO];have o:=fq (F:=F) hi;refine Bd (st':=⟨[(12,.ptr 640 0 0 1)],[(640,⟨158,48,[ja F++[.d (.ro 1 (a.map bL)),.nil,.nil,.d (.int .i64 0),.d (.int .i64 bud),.nil,.d (.int .i64 0)]]⟩),(1640,⟨4,1,[]⟩),(2640,⟨55,2,[]⟩)],9000⟩) (b7 ⟨by simp[ai,fv,lk,AV.low,AV.low1],?_,aw⟩) ?_
   intro p hp;simp only[et,List.mem_nil_iff,or_false]at hp;rcases hp with rfl|rfl|rfl;refine⟨.inl (by simp[lk,ja,eS]),by show 640<9000;omega,?_⟩;intro q D v O;simp only[et,List.mem_nil_iff,or_false]at D;subst D;rcases cL.1 O with h|h;exact o.2.1 v h _;simp only[et,List.mem_nil_iff,or_false]at h;rcases h with rfl|rfl|rfl|rfl|rfl|rfl|rfl<;>trivial;exact⟨.inr ⟨by show 704≤1640;omega,rfl⟩,by show 1640<9000;omega,by intro q D;simp at D⟩;exact⟨.inr ⟨by show 704≤2640;omega,rfl⟩,by show 2640<9000;omega,by intro q D;simp at D⟩;refine Bd (st':=⟨[(12,.ptr 640 0 0 1)],ju 3 (aI (ja F)) ⟨⟨a,[],[],bud,[],0⟩,[],0⟩ fR,9000⟩) ?_ ?_
   ·refine zP (st:=⟨_,_,9000⟩) (L:=640) (b:=⟨158,48,[ja F++[.d (.ro 1 (a.map bL)),.nil,.nil,.d (.int .i64 0),.d (.int .i64 bud),.nil,.d (.int .i64 0)]]⟩) (es':=[bJ (ja F) ⟨⟨a,[],[],bud,[],0⟩,[],0⟩ fR]) rfl aw rfl ?_;intro i y y' W Z
    match i with
    | 0 =>
     simp only[List.getElem?_cons_zero,Option.some.injEq]at W Z;subst W Z;refine⟨by simp[bJ,bI],fun j v v' f c=>?_⟩;unfold bJ bI at c;by_cases hj:j<41;rw[List.getElem?_append_left (by rw[o.2.2];exact hj)]at f c;rw[f]at c;exact .inl (Option.some.inj c).symm
     ·rw[dz (by rw[o.2.2];omega),o.2.2]at f c;generalize j-41=k at f c
      match k,f,c with
      |0,f,c=>cases f;cases c;exact .inl rfl
      |1,f,c=>cases f;cases c;exact .inr (.inr ⟨rfl,1,rfl⟩)
      |2,f,c=>cases f;cases c;exact .inr (.inl ⟨rfl,1640,by show 1640<9000;omega,rfl⟩)
      |3,f,c=>cases f;cases c;exact .inl rfl
      |4,f,c=>cases f;cases c;exact .inl rfl
      |5,f,c=>cases f;cases c;exact .inr (.inl ⟨rfl,2640,by show 2640<9000;omega,rfl⟩)
      |6,f,c=>cases f;cases c;exact .inl rfl
      |k+7,f,c=>cases f
    |i+1=>simp at W
   refine gr ?_;have N:=Ez a [] (by have:=K.m;omega) aw;have I:=bD o ⟨a,[],[],bud,[],0⟩ [] 0 (fZ a []);have u:RnOk ⟨a,[],[],bud,[],0⟩ 0:=⟨K,U,aw,aw⟩;have z:=pq u (ig u.st u.bd (fZ a []));rw[Za];simp only[aI,bJ,bI,kP]at *;simp[go_sem,o.2.2];refine ag N (by intro v O;simp at O;subst O;exact fM a []) ?_;simp[go_sem];have A:BO x F.script a bud=(if(rE (oH x F.script (F.script.length+1) 0 (aC (fZ a []) ⟨a,[],[],bud,[],0⟩))).e=0 then((rE (oH x F.script (F.script.length+1) 0 (aC (fZ a []) ⟨a,[],[],bud,[],0⟩))).cl,0)else([],(rE (oH x F.script (F.script.length+1) 0 (aC (fZ a []) ⟨a,[],[],bud,[],0⟩))).e)):=rfl;rw[A];clear A C;refine Jy o I (by simp[Za,aI,bJ,bI]) aq (by simp[AV.renL,AV.ren]) ?_;rintro v V ρ rfl;clear I N;generalize aC (fZ a []) ⟨a,[],[],bud,[],0⟩=r1 at *;simp[go_sem];refine Jy o (UH F x E J aq hx r1 [] z) rfl aq (fun ρ=>rfl) ?_;rintro v V ρ ⟨J',rfl⟩;obtain⟨k,H⟩:=Qm x E.hh.1 E.hh.2 hx J (F.script.length+1) 0 r1 z;generalize oH x F.script (F.script.length+1) 0 r1=r2 at *;simp[go_sem];refine Jy o (aci o r2 J' 0 H.st) rfl aq (fun ρ=>rfl) ?_;rintro v V ρ rfl;generalize rE r2=r3 at *;simp[go_sem];refine Jy o (fE o r3 J' 0) rfl aq (fun ρ=>rfl) ?_;rintro v V ρ ⟨rfl,rfl⟩;rw[Za];simp only[aI,bJ,bI];by_cases P:r3.e=0
   ·rw[if_pos P];simp[go_sem,AV.ren,P,o.2.2,ah];exact ek (cs':=[.d (.ro 2 (r3.cl.map dW)),.d (.int .i64 0)]) (ax (ao (Jl (id:=2640) (ty:=55) (by simp[lk,LM]) trivial)) (ax (aL trivial) bV)) rfl a9 rfl
   ·rw[if_neg P];simp[go_sem,AV.ren,P];refine cz [0,1,2,3,4,5] [] 0 (k:=6) ?_;intro G hG;simp[go_sem,o.2.2];refine hG _ _ ?_;clear hG G;simp[go_sem,ah];exact ek (cs':=[.d (.ro 2 []),.d (.int .i64 r3.e)]) (ax (ao (.nil 2)) (ax (aL trivial) bV)) rfl a9 rfl
  ·have C:Lc F x a bud=.tup [.d (.ro 2 []),.d (.int .i64 1)]:=if_pos (.inl (by rw[h];omega));rw[C];rw[h]at r;refine bF Tryz.func53 Tryz.ntmps53 (rs:=[.tmp 10,.tmp 11]) (yp F a bud) ?_;simp[go_sem,bT,eS,g];refine ag r w ?_;simp[go_sem,ah];exact ek (cs':=[.d (.ro 2 []),.d (.int .i64 1)]) (ax (ao (.nil 2)) (ax (aL trivial) bV)) rfl a9 rfl
theorem tm{b:List Nat}(a:b.length=32):(List.range 32).map (fun k=>((cb b).drop k).take 1)=rb b:=by
 rw[jm a,dk]
theorem Ld{b:List Nat}(a:b.length=32)(r:List AV):(List.range 32).map (fun k=>((cb b++r).drop k).take 1)=rb b:=by
 rw[←tm a];refine List.map_congr_left fun k c=>?_;have d:k<32:=List.mem_range.1 c;have e:=ak b;rw[List.drop_append_of_le_length aq,List.take_append_of_le_length (by rw[e_];omega)]
theorem uB{Q:AV→Prop}{st:St}{id n:Nat}{e:Int}{L:List Nat}(b:L.length=n)(a:lk id st.hp=some ⟨5,1,rb L⟩)(hq:Q (.tup [.d (nb L),.d (.int .i64 e)])):dC Q (.tup [.own id 0 n n,.d (.int .i64 e)]) st :=
 ek (ax (ao (bo b a trivial)) (ax (aL trivial) bV)) rfl a9 hq
theorem Le{Q:AV→Prop}{st:St}{e:Int}(hq:Q (.tup [.d (nb []),.d (.int .i64 e)])):dC Q (.tup [.nil,.d (.int .i64 e)]) st :=
 ek (ax (ao (.nil 1)) (ax (aL trivial) bV)) rfl a9 hq
theorem uC{inner x k:List Nat}{a:List (List Nat)}{o:Bool}(hi:inner.length=32)(b:k.length=32)(f:au Tryz.prog 92 [bT inner a x] (fun r=>r=.tup [.agg (cb k),.d (.bool o),.d (.int .i64 1)])) :
  au Tryz.prog 46 [bT inner a x] (fun r=>r=.tup [.d (nb []),.d (.int .i64 1)]):=by
 refine bF Tryz.func46 Tryz.ntmps46 (rs:=[.tmp 2,.tmp 3]) (cT _ _ _) ?_;have c:List.drop 32 (cb z32)=[]:=gK rfl;simp[go_sem,bT,ar,bW,nb,hi,qn hi];refine ag f (cT _ _ _) ?_;simp[go_sem,ak,b,c,ah];exact Le rfl
theorem np{inner x k:List Nat}{g:List (List Nat)}{o:Bool}(hi:inner.length=32)(b:k.length=32)(f:au Tryz.prog 92 [bT inner g x] (fun r=>r=.tup [.agg (cb k),.d (.bool o),.d (.int .i64 0)])) :
  au Tryz.prog 46 [bT inner g x] (fun r=>r=.tup [.d (nb (81::32::k)),.d (.int .i64 0)]):=by
 refine bF Tryz.func46 Tryz.ntmps46 (rs:=[.tmp 2,.tmp 3]) (cT _ _ _) ?_;have h:List.drop 32 (cb z32)=[]:=gK rfl;simp[go_sem,bT,ar,bW,nb,hi,qn hi];refine ag f (cT _ _ _) ?_;have a:=tm b;simp[go_sem]at a;simp[go_sem,ak,b,h,a,aH,ah];have e:rb (81::32::k)=[AV.d (.int .u8 81)]::[AV.d (.int .u8 32)]::rb k:=by simp[rb]
 have c:(81::32::k).length=34:=by simp[b]
 exact uB (L:=81::32::k) c (by rw[e];rfl) (by simp[nb])
def ii(o:Bool)(inner:List Nat)(a:List (List Nat)):List Nat:=(if o then 193 else 192)::(inner++a.flatten)
theorem Hy{inner x k:List Nat}{c:List (List Nat)}{o:Bool}(hi:inner.length=32)(m:∀p,p∈c→p.length=32)(G:c.length≤1000)(v:k.length=32)(f:au Tryz.prog 92 [bT inner c x] (fun r=>r=.tup [.agg (cb k),.d (.bool o),.d (.int .i64 0)])) :
  au Tryz.prog 118 [bT inner c x] (fun r=>r=.tup [.d (nb (ii o inner c)),.d (.int .i64 0)]):=by
 refine bF Tryz.func118 Tryz.ntmps118 (rs:=[.tmp 2,.tmp 3]) (cT _ _ _) ?_;have F:List.drop 32 (cb z32)=[]:=gK rfl;have H:IntKind.u8.wrap 193=193:=by decide
 simp[go_sem,bT,ar,bW,nb,hi,qn hi];refine ag f (cT _ _ _) ?_;have t:=Ld hi [AV.d (DV.ro 32 (List.map cd c)),AV.d (DV.ro 1 (List.map (fun(b:Nat)=>[DV.int .u8 (b:Int)]) x))];simp[go_sem]at t
 cases o
 ·simp[go_sem,t,aH,ak,v,hi,F];have u:(ii false inner (c.take 0)).length=33:=by simp[ii,hi]
  have E:rb (ii false inner (c.take 0))=[AV.d (.int .u8 192)]::rb inner:=by simp[ii,rb]
  refine av (fun k:Nat=>⟨[(7,.own 480 0 (ii false inner (c.take k)).length (ii false inner (c.take k)).length),(31,.d (bW c)),(32,.d (.int .i64 (c.length:Int))),(33,.d (.int .i64 (k:Int)))],[(480,⟨5,1,rb (ii false inner (c.take k))⟩)],9000⟩)
   (fun k=>k≤c.length) (fun k=>c.length-k) 0 aq (by
    rw[u,E];simp[az,ai,fv,lk,AV.low,AV.low1,bW]
    exact aU _ _) ?_
  intro k v;have w:=ay (k:=k) aq;simp only[go_sem,Nat.reduceEqDiff,Nat.reduceAdd,Nat.reduceLT,↓reduceIte];refine⟨fun y=>?_,fun z=>?_⟩
  ·have g:k<c.length:=aq;have j:=cm g;have i:c.take (k+1)=c.take k++[c[k]]:=List.take_succ_eq_append_getElem g;generalize c[k]=q at j i;have e:q.length=32:=m q (cr j);have n:=tm e;simp[go_sem]at n;have hc:ii false inner (c.take (k+1))=ii false inner (c.take k)++q:=by rw[i];simp[ii]
   have A:(ii false inner (c.take k)).length≤33+32*k:=by
    clear hc i w;have:(c.take k).flatten.length≤32*k:=by
     have B:∀l:List (List Nat),(∀p,p∈l→p.length=32)→l.flatten.length=32*l.length:=by
      intro l
      induction l with
      |nil=>intro _;rfl
      |cons a r ih=>intro h;rw[List.flatten_cons,b_,ih (fun p j=>h p (by simp[j])),h a aw,List.length_cons];omega
     rw[B _ (fun p j=>m p (List.mem_of_mem_take j)),List.length_take];omega
    unfold ii;rw[List.length_cons,b_,hi];omega
   generalize ii false inner (c.take k)=L at *;simp[go_sem,bW,j,cj,e,da,al e,ak,cp,n,aH]
   first|refine⟨aq,?_⟩|skip
   refine am (k+1) aq aq ?_;rw[hc];have D:rb (L++q)=rb L++rb q:=by simp[rb]
   simp[az,ai,fv,lk,AV.low,AV.low1,w,e,D];intro r C;exact C.elim (aU _ _ r) (aU _ _ r)
  ·have s:k=c.length:=aq;subst s;simp only[List.take_length];simp[go_sem];exact uB (L:=ii false inner c) rfl rfl (by simp[nb])
 ·simp[go_sem,t,aH,ak,v,hi,F,H];have u:(ii true inner (c.take 0)).length=33:=by simp[ii,hi]
  have E:rb (ii true inner (c.take 0))=[AV.d (.int .u8 193)]::rb inner:=by simp[ii,rb]
  refine av (fun k:Nat=>⟨[(7,.own 480 0 (ii true inner (c.take k)).length (ii true inner (c.take k)).length),(31,.d (bW c)),(32,.d (.int .i64 (c.length:Int))),(33,.d (.int .i64 (k:Int)))],[(480,⟨5,1,rb (ii true inner (c.take k))⟩)],9000⟩)
   (fun k=>k≤c.length) (fun k=>c.length-k) 0 aq (by
    rw[u,E];simp[az,ai,fv,lk,AV.low,AV.low1,bW]
    exact aU _ _) ?_
  intro k v;have w:=ay (k:=k) aq;simp only[go_sem,Nat.reduceEqDiff,Nat.reduceAdd,Nat.reduceLT,↓reduceIte];refine⟨fun y=>?_,fun z=>?_⟩
  ·have g:k<c.length:=aq;have j:=cm g;have i:c.take (k+1)=c.take k++[c[k]]:=List.take_succ_eq_append_getElem g;generalize c[k]=q at j i;have e:q.length=32:=m q (cr j);have n:=tm e;simp[go_sem]at n;have hc:ii true inner (c.take (k+1))=ii true inner (c.take k)++q:=by rw[i];simp[ii]
   have A:(ii true inner (c.take k)).length≤33+32*k:=by
    clear hc i w;have:(c.take k).flatten.length≤32*k:=by
     have B:∀l:List (List Nat),(∀p,p∈l→p.length=32)→l.flatten.length=32*l.length:=by
      intro l
      induction l with
      |nil=>intro _;rfl
      |cons a r ih=>intro h;rw[List.flatten_cons,b_,ih (fun p j=>h p (by simp[j])),h a aw,List.length_cons];omega
     rw[B _ (fun p j=>m p (List.mem_of_mem_take j)),List.length_take];omega
    unfold ii;rw[List.length_cons,b_,hi];omega
   generalize ii true inner (c.take k)=L at *;simp[go_sem,bW,j,cj,e,da,al e,ak,cp,n,aH]
   first|refine⟨aq,?_⟩|skip
   refine am (k+1) aq aq ?_;rw[hc];have D:rb (L++q)=rb L++rb q:=by simp[rb]
   simp[az,ai,fv,lk,AV.low,AV.low1,w,e,D];intro r C;exact C.elim (aU _ _ r) (aU _ _ r)
  ·have s:k=c.length:=aq;subst s;simp only[List.take_length];simp[go_sem];exact uB (L:=ii true inner c) rfl rfl (by simp[nb])
open Go.Am Go.Sha Go.Ec
theorem CM(a:List Int)(j:Wn 4 a):∃r:List Int,Wn 4 r∧au Tryz.prog 124 [.agg (cI a)] (fun v=>v=.agg (cI r)):=by
 obtain⟨s,c,q,hc,u,n⟩:=sX a Uo j PU;have e:=j.1;have f:=q.1;have m:List.drop 4 (cI zI)=[]:=be rfl;refine⟨if c=0 then s else a,by split<;>assumption,?_⟩;refine bF Tryz.func124 Tryz.ntmps124 (rs:=[.cell 2 96]) (aS a) ?_;simp[go_sem,e];refine dE [0] [1,2,6,7] [0,3,4,5,8] (.alt (bt 1 (.alt (.step 2 [3,4,5] true (bt 6 (.step 7 [8] true .done))) (bt 6 (.step 2 [3,4,5] true (.step 7 [8] true .done))))) (bt 6 (bt 1 (.step 2 [3,4,5] true (.step 7 [8] true .done))))) ⟨[(1,.ptr 0 0 0 1),(2,.ptr 32 0 0 1),(3,.ptr 256 0 0 1),(4,.d (.int .u64 c))],[(256,⟨96,4,[cI s]⟩),(32,⟨96,4,[cI zI]⟩),(0,⟨96,4,[cI a]⟩)],9000⟩ (k:=9) ?h3 ?hq
 case h3 =>
  intro G o;have i:∀(g:Fr)(b:Hp),(fv 1 g=.ptr 0 0 0 1∧fv 2 g=.ptr 32 0 0 1∧fv 3 g=.ptr 256 0 0 1∧fv 4 g=.d (.int .u64 c)∧lk 256 b=some ⟨96,4,[cI s]⟩∧lk 32 b=some ⟨96,4,[cI zI]⟩∧lk 0 b=some ⟨96,4,[cI a]⟩)→G g b:=by
   rintro g b⟨A,x,y,z,t,B,w⟩;refine o _ _ (b7 ?_);simp only[az,ai];refine⟨fun p b=>?_,fun p b=>?_,aw⟩;simp only[et,List.mem_nil_iff,or_false]at b;rcases b with rfl|rfl|rfl|rfl<;>exact⟨.inl (Eq.symm (by assumption)),by simp[AV.low,AV.low1]⟩
   ·simp only[et,List.mem_nil_iff,or_false]at b;rcases b with rfl|rfl|rfl<;>exact⟨.inl (by assumption),aw,by intro r l;simp only[et,List.mem_nil_iff,or_false]at l;subst l;first|exact cE _ _|exact aJ _ _|exact nX _ _ _ _⟩
  simp[go_sem,e,ae e,dI]
  repeat' first|exact i _ _ ⟨rfl,rfl,rfl,rfl,rfl,rfl,rfl⟩|(refine i _ _ ?_;simp[fv];done)|refine ag s9 aw ?_|refine ag n (aN _ _) ?_|apply And.intro|simp[go_sem,f,dI]
 case hq =>
  by_cases h:c=0
  ·rw[if_pos h];simp[go_sem,h,f,ae f,m,ah];exact eC rfl
  ·rw[if_neg h];simp[go_sem,h,e,ae e,m,ah];exact eC rfl
theorem UI(a:List Int)(m:Wn 4 a):∃r:List Int,Wn 4 r∧au Tryz.prog 128 [.agg (cI a)] (fun v=>v=.agg (cI r)):=by
 obtain⟨b,j,o⟩:=CM a m;obtain⟨s,c,n,hc,y,t⟩:=sX Uo b PU j;obtain⟨r,h,u⟩:=CM s n;have f:=m.1;have x:=j.1;have e:=n.1;have g:=h.1;have w:List.drop 4 (cI zI)=[]:=be rfl;refine⟨r,h,?_⟩;refine bF Tryz.func128 Tryz.ntmps128 (rs:=[.cell 2 96]) (aS a) ?_;simp[go_sem,f];refine dE [1] [0,2,3,7,8] [1,4,5,6,9] (.alt (bt 0 (.alt (bt 2 (.alt (.step 3 [4,5,6] true (bt 7 (.step 8 [9] true .done))) (bt 7 (.step 3 [4,5,6] true (.step 8 [9] true .done))))) (bt 7 (bt 2 (.step 3 [4,5,6] true (.step 8 [9] true .done)))))) (bt 7 (bt 0 (bt 2 (.step 3 [4,5,6] true (.step 8 [9] true .done)))))) ⟨[(2,.ptr 32 0 0 1),(3,.ptr 288 0 0 1)],[(288,⟨96,4,[cI s]⟩),(32,⟨96,4,[cI zI]⟩)],9000⟩ (k:=10) ?h3 ?hq
 case h3 =>
  intro G q;have l:∀(i:Fr)(d:Hp),(fv 2 i=.ptr 32 0 0 1∧fv 3 i=.ptr 288 0 0 1∧lk 288 d=some ⟨96,4,[cI s]⟩∧lk 32 d=some ⟨96,4,[cI zI]⟩)→G i d:=by
   rintro i d⟨C,z,A,B⟩;refine q _ _ (b7 ?_);simp only[az,ai];refine⟨fun p d=>?_,fun p d=>?_,aw⟩;simp only[et,List.mem_nil_iff,or_false]at d;rcases d with rfl|rfl<;>exact⟨.inl (Eq.symm (by assumption)),by simp[AV.low,AV.low1]⟩
   ·simp only[et,List.mem_nil_iff,or_false]at d;rcases d with rfl|rfl<;>exact⟨.inl (by assumption),aw,by intro r h;simp only[et,List.mem_nil_iff,or_false]at h;subst h;first|exact cE _ _|exact aJ _ _|exact nX _ _ _ _⟩
  simp[go_sem,f,ae f,dI]
  repeat' first|exact l _ _ ⟨rfl,rfl,rfl,rfl⟩|(refine l _ _ ?_;simp[fv];done)|refine ag s9 aw ?_|refine ag o (aS _) ?_|refine ag t (aN _ _) ?_|apply And.intro|simp[go_sem,e,dI]
 case hq =>
  simp[go_sem,e,ae e];refine ag u (aS _) ?_;simp[go_sem,g,ae g,w,ah];exact eC rfl
theorem Qn(b:List Nat)(d:b.length=32)(e:bytes b):∃r:List Int,Wn 4 r∧au Tryz.prog 135 [.agg (cb b)] (fun v=>v=.agg (cI r)):=by
 obtain⟨a,f,l,h⟩:=yg b d e;obtain⟨r,g,i⟩:=CM a f;have j:=f.1;have c:=g.1;have m:List.drop 4 (cI zI)=[]:=be rfl;have k:List.drop 32 (cb b)=[]:=gK d;refine⟨r,g,?_⟩;refine bF Tryz.func135 Tryz.ntmps135 (rs:=[.cell 2 96]) (dc b) ?_;simp[go_sem,ak,d,al d];refine ag h (dc _) ?_;simp[go_sem];refine ag i (aS _) ?_;simp[go_sem,c,ae c,ah];exact eC rfl
def Zc(a b d:List Nat):Nat→AV
 |0=>.nil
 |1=>.own 1192 0 a.length a.length
 |2=>.own 1192 0 (a++b).length (a++b).length
 |_=>.own 1192 0 d.length d.length
def Zd(a b d:List Nat):Nat→Hp
 |0=>[]
 |1=>[(1192,⟨5,1,rb a⟩)]
 |2=>[(1192,⟨5,1,rb (a++b)⟩)]
 |_=>[(1192,⟨5,1,rb d⟩)]
theorem Hz(a b c d:List Nat)(l:a++b++c=d)(p:a.length=32)(m:b.length=32)(hc:c.length≤1000000):au Tryz.prog 89 [.d (.ro 1 [[nb a],[nb b],[nb c]])] (fun r=>r=.d (nb d)):=by
 refine bF Tryz.func89 Tryz.ntmps89 (rs:=[.tmp 2]) a9 ?_;simp[go_sem]
 refine av (fun k:Nat=>⟨[(3,Zc a b d k),(6,.d (.ro 1 [[nb a],[nb b],[nb c]])),(7,.d (.int .i64 3)),(8,.d (.int .i64 (k:Int)))],Zd a b d k,Ur k⟩)
  (fun k=>k≤3) (fun k=>3-k) 0 aq (by simp[az,ai,fv,lk,AV.low,AV.low1,Zc,Zd,Ur]) ?_
 intro k n;simp only[go_sem,Nat.reduceEqDiff,Nat.reduceLT,↓reduceIte]
 match k,n with
 |0,_ =>
  refine⟨fun _=>?_,fun h=>absurd (by decide) h⟩;simp[go_sem,Zc,Zd,Ur,nb,dk];refine⟨by rw[aH];omega,?_⟩;have f:IntKind.i64.wrap 1=1:=by decide
  refine am 1 aq aq ?_;simp[az,ai,fv,lk,AV.low,AV.low1,aH,f];exact aU _ _
 |1,_ =>
  refine⟨fun _=>?_,fun h=>absurd (by decide) h⟩;simp[go_sem,Zc,Zd,Ur,nb,dk,aH];refine⟨aq,?_⟩;have f:IntKind.i64.wrap 2=2:=by decide
  have j:rb (a++b)=rb a++rb b:=by simp[rb]
  refine am 2 aq aq ?_;simp[az,ai,fv,lk,AV.low,AV.low1,f,j];intro r i;exact i.elim (aU _ _ r) (aU _ _ r)
 |2,_ =>
  refine⟨fun _=>?_,fun h=>absurd (by decide) h⟩;have j:rb d=rb (a++b)++rb c:=by rw[←l];simp[rb]
  have g:d.length=(a++b).length+c.length:=by rw[←l];exact b_
  have o:(a++b).length=64:=by simp[p,m]
  simp only[Zc,Zd];generalize a++b=e at *;simp[go_sem,Ur,nb,dk,aH];refine⟨aq,?_⟩;have f:IntKind.i64.wrap 3=3:=by decide
  refine am 3 aq aq ?_;simp[az,ai,fv,lk,AV.low,AV.low1,f,j,g];intro r i;exact i.elim (aU _ _ r) (aU _ _ r)
 |3,_ =>
  refine⟨fun h=>absurd h (by decide),fun _=>?_⟩;simp only[Zc,Zd];simp[go_sem];exact jM rfl (by simp[nb])
def CN:List Nat:=[66,73,80,48,51,52,48,47,99,104,97,108,108,101,110,103,101]
theorem UJ(a b c:List Nat)(h:a.length=32)(g:b.length=32)(hc:c.length≤1000):∃r:List Int,Wn 4 r∧au Tryz.prog 88 [.agg (cb a),.agg (cb b),.d (nb c)] (fun v=>v=.agg (cI r)):=by
 obtain⟨r,f,l⟩:=Qn (fJ CN (a++b++c)) (Cm _ _).1 (Cm _ _).2;have e:=f.1;have n:List.drop 4 (cI zI)=[]:=be rfl;refine⟨r,f,?_⟩;refine bF Tryz.func88 Tryz.ntmps88 (rs:=[.cell 6 96]) (by intro v i;simp at i;rcases i with rfl|rfl|rfl;exact dV _;exact dV _;trivial) ?_;have m:(a++b++c).length≤2000:=by simp;omega
 simp[go_sem,ak,h,g];refine cz [0,1,2] [(3,[]),(4,[]),(5,[]),(6,[]),(7,[])] 0 (k:=8) ?_;intro G j;simp[go_sem];refine bA [0,32,192] (Hz a b c _ rfl h g aq) rfl (aj (.one (ao (kr (rows:=[[.sub 0 0 0 1 32 32 1],[.sub 32 0 0 1 32 32 1],[.d (nb c)]]) rfl aw rfl (RowsR.cons (.cons (eU rfl aw h) .nil) (RowsR.cons (.cons (eU rfl aw g) .nil) (RowsR.cons (.cons (.d _) .nil) .nil))) rfl (by intro r f;simp at f;rcases f with rfl|rfl|rfl<;>rfl)))) aD) ?_;generalize a++b++c=d at *;simp[go_sem,aE];refine ag (iR CN (.str [66,73,80,48,51,52,48,47,99,104,97,108,108,101,110,103,101]) rfl d (by simp[CN]) aq) a9 ?_;simp[go_sem];refine ag l (dc _) ?_;simp[go_sem,e];refine j _ _ ?_;clear j G;simp[go_sem,e,ae e,ah];exact eC rfl
theorem E7(l:List Nat):(l.map fun(b:Nat)=>[DV.int .u8 (b:Int)]).flatten=cd l:=by
 unfold cd
 induction l with
 |nil=>rfl
 |cons a l ih=>simp only[List.map_cons,List.flatten_cons,ih];rfl
theorem E8:∀l:List Nat,cy .u8 (cb l)=some (l.map fun(b:Nat)=>(b:Int))
 |[]=>rfl
 |a::l=>by
  have:=E8 l;unfold cb at this⊢;simp only[List.map_cons,cy,if_true,this];rfl
theorem tn(k m s:List Nat):∀v,v∈[AV.agg (cb k),.d (nb m),.d (nb s)]→v.deep:=by
 intro v a;simp at a;rcases a with rfl|rfl|rfl;exact dV _;trivial;trivial
theorem Lh(key C a:List Nat)(h:key.length=32)(U:bytes key)(N:bytes a)(hm:C.length≤1000)(hs:a.length≤1000):∃o:Bool,au Tryz.prog 156 [.agg (cb key),.d (nb C),.d (nb a)] (fun v=>v=.d (.bool o)):=by
 obtain⟨x,y,c,ok,hx,Z,_,K⟩:=EX key h U;have zd:List.drop 32 (cb key)=[]:=gK h;have A:z32.length=32:=rfl;have F:List.drop 32 (cb z32)=[]:=rfl;have hz:List.drop 4 (cI zI)=[]:=be rfl;have Q:=hx.1;have P:=Z.1;have i:(cP x y c).length=9:=cK Q P c;have T:List.take 9 (cP x y c)=cP x y c:=cx (by rw[i];omega);cases ok with
 |false =>
  refine⟨false,?_⟩;refine bF Tryz.func156 Tryz.ntmps156 (rs:=[.tmp 6]) (tn _ _ _) ?_;simp[go_sem,ak,h,al h];refine ag K (dc _) ?_;simp[go_sem,i,ah];exact aa trivial rfl
 | true =>
  by_cases n:a.length=64
  ·have e:(a.take 32).length=32:=by simp[n]
   have j:(a.drop 32).length=32:=by simp[n]
   have H:bytes (a.drop 32):=fun z hz=>N z (List.mem_of_mem_drop hz);obtain⟨s,V,I,_,f2⟩:=EW (a.drop 32) j H;have g:=I.1;have w:(a.length:Int)=64:=aq;have e1:List.take 32 (a.map fun(b:Nat)=>[DV.int .u8 (b:Int)])=(a.take 32).map fun(b:Nat)=>[DV.int .u8 (b:Int)]:=List.map_take.symm;have Y:List.drop 32 (a.map fun(b:Nat)=>[DV.int .u8 (b:Int)])=(a.drop 32).map fun(b:Nat)=>[DV.int .u8 (b:Int)]:=List.map_drop.symm;have W:List.take 64 (a.map fun(b:Nat)=>[DV.int .u8 (b:Int)])=a.map fun(b:Nat)=>[DV.int .u8 (b:Int)]:=cx (by simp[n]);obtain⟨ch,O,f3⟩:=UJ (a.take 32) key C e h hm;generalize a.take 32=R at *;generalize a.drop 32=S at *;cases V with
   |false =>
    refine⟨false,?_⟩;refine bF Tryz.func156 Tryz.ntmps156 (rs:=[.tmp 6]) (tn _ _ _) ?_;simp[go_sem,ak,h,al h];refine ag K (dc _) ?_;simp[go_sem,i,nb,n,e1,Y,W,E7,da,al e,al j,ak,e,j,A,F];refine ag f2 (dc _) ?_;simp[go_sem,g,ah];exact aa trivial rfl
   | true =>
    obtain⟨ng,J,f4⟩:=UI ch O;obtain⟨u,v,q,M,f,_,f5⟩:=Jg s ng gX gY x y false c I J abZ ab0 hx Z;obtain⟨o,_,f6⟩:=Jd u v q M f;obtain⟨B,hB,ab,_,f7⟩:=Ag u v q M f;have m:=J.1;have l:(cP u v q).length=9:=cK M.1 f.1 q;have E:List.take 9 (cP u v q)=cP u v q:=cx (by rw[l];omega);refine⟨o&&decide ((B.map fun(b:Nat)=>(b:Int))=R.map fun(b:Nat)=>(b:Int)),?_⟩;refine bF Tryz.func156 Tryz.ntmps156 (rs:=[.tmp 6]) (tn _ _ _) ?_;simp[go_sem,ak,h,al h];refine ag K (dc _) ?_;simp[go_sem,i,nb,n,e1,Y,W,E7,da,al e,al j,ak,e,j,A,F];refine ag f2 (dc _) ?_;simp[go_sem,g,ak,h,e,al h,al e];refine ag f3 (by intro v f;simp at f;rcases f with rfl|rfl|rfl;exact dV _;exact dV _;trivial) ?_;simp[go_sem];refine ag f4 (aS _) ?_;simp[go_sem,m];refine dE [0,2,3] [1,4,5,6] [0,2,3] (.alt (bt 1 (.alt (a_ [4,5,6]) (bt 5 (a_ [4,6])))) (bt 5 (bt 1 (a_ [4,6])))) ⟨[(9,.ptr 672 0 0 1),(12,.ptr 1536 0 0 1)],[(1536,⟨189,9,[cP u v q]⟩),(672,⟨29,32,[cb R]⟩)],9000⟩ (k:=7) ?h3 ?hq
    case h3 =>
     intro G D;have X:∀(L:Fr)(t:Hp),(fv 9 L=.ptr 672 0 0 1∧fv 12 L=.ptr 1536 0 0 1∧lk 1536 t=some ⟨189,9,[cP u v q]⟩∧lk 672 t=some ⟨29,32,[cb R]⟩)→G L t:=by
      rintro L t⟨q0,q1,q2,q3⟩;refine D _ _ (b7 ?_);simp only[az,ai];refine⟨fun p t=>?_,fun p t=>?_,aw⟩;simp only[et,List.mem_nil_iff,or_false]at t;rcases t with rfl|rfl<;>exact⟨.inl (Eq.symm (by assumption)),by simp[AV.low,AV.low1]⟩
      ·simp only[et,List.mem_nil_iff,or_false]at t;rcases t with rfl|rfl<;>exact⟨.inl (by assumption),aw,by intro r hr;simp only[et,List.mem_nil_iff,or_false]at hr;subst hr;first|exact cE _ _|exact aJ _ _|exact nX _ _ _ _⟩
     simp[go_sem,g,m,ae g,ae m,i,T,dI]
     repeat' first|exact X _ _ ⟨rfl,rfl,rfl,rfl⟩|(refine X _ _ ?_;simp[fv];done)|refine ag Cf aw ?_|refine ag f5 (by intro v f;simp at f;rcases f with rfl|rfl|rfl|rfl<;>first|exact fO _|exact kT _ _ _) ?_|apply And.intro|simp[go_sem,l,dI]
    case hq =>
     cases o with
     |false =>
      simp[go_sem];refine cz [0] [(1,[2,3,5]),(4,[6,7,8])] 2 (k:=9) ?_;intro G D;simp[go_sem,l,E];refine ag f6 (by intro v f;simp at f;subst f;exact kT _ _ _) ?_;simp[go_sem];refine D _ _ ?_;clear D G;simp[go_sem,ah];exact aa trivial rfl
     |true =>
      simp[go_sem];refine cz [0] [(1,[2,3,5]),(4,[6,7,8])] 2 (k:=9) ?_;intro G D;simp[go_sem,l,E];refine ag f6 (by intro v f;simp at f;subst f;exact kT _ _ _) ?_;simp[go_sem,l,E,ak,e,al e];refine ag f7 (by intro v f;simp at f;subst f;exact kT _ _ _) ?_;simp[go_sem,e,hB,E8];refine D _ _ ?_;clear D G;simp[go_sem,ah];exact aa trivial rfl
  ·have w:¬(a.length:Int)=64:=aq;refine⟨false,?_⟩;refine bF Tryz.func156 Tryz.ntmps156 (rs:=[.tmp 6]) (tn _ _ _) ?_;simp[go_sem,ak,h,al h];refine ag K (dc _) ?_;simp[go_sem,i,nb,w,ah];exact aa trivial rfl
end Go.Proofs.YtmfnimjnneflnaaGreat
namespace Go.Sha
def tp(i:Ip):List Nat:=i.hash++le i.idx 4
def uD(i:Ip):List Nat:=le i.seq 4
def yq(o:Nat×List Nat):List Nat:=le o.1 8
def yQ(o:Nat×List Nat):List Nat:=cJ o.2
end Go.Sha
namespace Go.Proofs.YtmfnimjnneflnaaGreat
open Go.Am Go.Sha
def CO(l:List Nat):List AV:=dL (E H0 l).1++[.d (nb (E H0 l).2),.d (.int .u64 (l.length:Int))]
theorem bw(ρ:Nat→Nat)(l:List Nat):AV.renL ρ (CO l)=CO l:=by rw[CO,im];rfl
theorem kV(n:Nat)(l:List Nat):∀v,v∈CO l→v.low1 n:=by
 intro v a;simp[CO,dL]at a;rcases a with rfl|rfl|rfl|rfl|rfl|rfl|rfl|rfl|rfl|rfl<;>trivial
theorem UK(n:Nat):N8 n (dL H0++[.nil,.d (.int .u64 0)]) (CO []):=KC (dL H0) [.d (.int .u64 0)] (.inr (.inr ⟨.inl rfl,.inr ⟨1,rfl⟩⟩))
theorem E9{st:St}(L:Nat)(h:lk L st.hp=some ⟨167,10,[dL H0++[.nil,.d (.int .u64 0)]]⟩):Wk st ⟨st.fr,bX L ⟨167,10,[CO []]⟩ st.hp,st.nx⟩:=XQ h (by decide) (UK _)
theorem qO(l b:List Nat)(c:l.length+b.length≤100000000000) :
  cX Tryz.prog 58 1 [(0,⟨167,10,[CO l]⟩)] [.ptr 0 0 0 1,.d (nb b)] (fun r a=>r=.tup []∧lk 0 a=some ⟨167,10,[CO (l++b)]⟩):=by
 have h:=DR _ H0 l (cR _);have:=SN (E H0 l).1 (.d (nb (E H0 l).2)) (E H0 l).2 b l.length (.inl rfl) aq aq;rw[←DO b l.length H0 l (cR _),←b_]at this;exact this
theorem HA(ty:TypeId)(e:Nat)(a:List AV)(l b:List Nat)(i:(List.range 32).map (fun k=>(a.drop k).take 1)=List.map ((fun r=>List.map AV.d r)∘fun(x:Nat)=>[DV.int .u8 (x:Int)]) b)(c:∀n v,v∈a→v.low1 n)(f:b.length=32)(j:l.length+b.length≤100000000000) :
  cX Tryz.prog 58 2 [(0,⟨167,10,[CO l]⟩),(1,⟨ty,e,[a]⟩)] [.ptr 0 0 0 1,.sub 1 0 0 1 32 32 1] (fun r g=>r=.tup []∧lk 0 g=some ⟨167,10,[CO (l++b)]⟩∧lk 1 g=some ⟨ty,e,[a]⟩):=by
 have h:=DR _ H0 l (cR _);have:=NL ty e a (E H0 l).1 (.d (nb (E H0 l).2)) (E H0 l).2 b l.length i c (.inl rfl) aq f aq;rw[←DO b l.length H0 l (cR _),←b_]at this;exact this
theorem Ak(l:List Nat)(b:l.length≤100000000000) :
  cX Tryz.prog 60 1 [(0,⟨167,10,[CO l]⟩)] [.ptr 0 0 0 1] (fun r a=>r=.agg (cb (aW l))∧lk 0 a=some ⟨167,10,[CO l]⟩):=by
 have h:=DR _ H0 l (cR _);exact Gk (E H0 l).1 (.d (nb (E H0 l).2)) (E H0 l).2 l.length (.inl rfl) aq
theorem nq{α:Type}{f:α→List Nat}{l:List α}:[]++ff f l 0=(l.map f).flatten:=by simp[ff]
theorem Jz(ρ:Nat→Nat)(i:Ip):AV.renL ρ (uj i)=uj i:=by
 unfold uj;have:∀(l m:List AV),AV.renL ρ (l++m)=AV.renL ρ l++AV.renL ρ m:=fun l m=>by
  induction l with
  |nil=>simp[AV.renL]
  |cons a l ih=>simp[AV.renL,ih]
 rw[this,dP];rfl
theorem JA(t:Tn)(v:Sm t):au Tryz.prog 55 [.agg (eT t)] (fun r=>r=.agg (cb (aW (t.ins.map uD).flatten))):=by
 obtain⟨⟨C,x,z,G⟩,H,E,F,D⟩:=v;refine bF Tryz.func55 Tryz.ntmps55 (rs:=[.cell 2 29]) (by simp[AV.deep,AV.deep1,eT]) ?_;simp[go_sem,eT];refine aP [] oS rfl aw aw aw (by simp[AV.renL]) ?_;rintro r b⟨rfl,c⟩;refine⟨[(97,0)],rfl,?_⟩;simp[go_sem,bZ,bB,c,Blk.ren,aO,im,AV.ren,b8];clear c b;generalize n:(t.ins.map uD).flatten=R
 refine mT (fun u:Nat×List Nat=>⟨[(2,.ptr 32 0 0 1),(3,.ptr 64 0 0 1),(8,.d (.ro 35 (t.ins.map eI))),(9,.d (.int .i64 (t.ins.length:Int))),(10,.d (.int .i64 (u.1:Int)))],[(64,⟨167,10,[CO u.2]⟩),(32,⟨29,32,[cb z32]⟩)],2000⟩)
  (fun u=>u.1≤t.ins.length∧u.2.length≤4*u.1∧u.2++ff uD t.ins u.1=R) (fun u=>t.ins.length-u.1) (0,[]) ⟨aw,aw,by rw[←n];exact nq⟩ ((E9 64 rfl).trans (b7 (by
   simp[az,ai,fv,lk,bX,AV.low,AV.low1]
   exact⟨kV _ _,aJ _ _⟩))) ?_
 rintro⟨k,B⟩⟨w,j,g⟩;simp only at w j g;simp only[go_sem,Nat.reduceEqDiff,Nat.reduceAdd,Nat.reduceLT,↓reduceIte];refine⟨fun h=>?_,fun h=>?_⟩
 ·obtain⟨i,e,A⟩:=bg (l:=t.ins) (k:=k) aq;obtain⟨a,q,f⟩:=z i (cr e);have y:=ay (k:=k) aq;have o:=uh a;have m:=pX a;simp[go_sem,e,o,Eu,m,o6 a,o7,VL a];refine bA [] (jw [] i.seq aw f) rfl (aj (.one (ao (.nil 1))) (aj (.deep a9) aD)) ?_;simp[go_sem,aE];refine aP [(0,64)] (qO B (le i.seq 4) (by rw[aM];omega)) rfl aw (by simp[lk]) (by simp[lk,Blk.ren,aO,bw]) (by simp[AV.renL,AV.ren,b8,iJ,lk]) ?_;rintro r b⟨rfl,c⟩;refine⟨[],rfl,?_⟩;simp[go_sem,bZ,bB,c,Blk.ren,aO,bw,AV.renL,AV.ren,y];refine am (k+1,B++le i.seq 4) ⟨by simp only;omega,by simp only[b_,aM];omega,ee A g⟩ (by simp only;omega) ?_;simp[az,ai,fv,lk,AV.low,AV.low1];exact⟨kV _ _,aJ _ _⟩
 ·have p:k=t.ins.length:=aq;subst p;have:=ef g;subst this;simp[go_sem];refine aP [(0,64)] (Ak B aq) rfl aw (by simp[lk]) (by simp[lk,Blk.ren,aO,bw]) (by simp[AV.renL,AV.ren,b8,iJ,lk]) ?_;rintro r b⟨rfl,c⟩;refine⟨[],rfl,?_⟩;have s:=bf B;simp[go_sem,bZ,bB,c,Blk.ren,aO,bw,dP,AV.ren,s,al s,cp,ah];exact aa (by simp[AV.deep];exact bn _) rfl
theorem UL(t:Tn)(A:Sm t):au Tryz.prog 130 [.agg (eT t)] (fun r=>r=.agg (cb (aW (t.ins.map tp).flatten))):=by
 obtain⟨⟨J,D,G,N⟩,p,L,M,K⟩:=A;refine bF Tryz.func130 Tryz.ntmps130 (rs:=[.cell 2 29]) (by simp[AV.deep,AV.deep1,eT]) ?_;simp[go_sem,eT];refine aP [] oS rfl aw aw aw (by simp[AV.renL]) ?_;rintro r b⟨rfl,c⟩;refine⟨[(97,0)],rfl,?_⟩;simp[go_sem,bZ,bB,c,Blk.ren,aO,im,AV.ren,b8];clear c b;generalize q:(t.ins.map tp).flatten=R
 refine mT (fun u:Nat×List Nat=>⟨[(2,.ptr 32 0 0 1),(3,.ptr 64 0 0 1),(8,.d (.ro 35 (t.ins.map eI))),(9,.d (.int .i64 (t.ins.length:Int))),(10,.d (.int .i64 (u.1:Int)))],[(64,⟨167,10,[CO u.2]⟩),(32,⟨29,32,[cb z32]⟩)],2000⟩)
  (fun u=>u.1≤t.ins.length∧u.2.length≤36*u.1∧u.2++ff tp t.ins u.1=R) (fun u=>t.ins.length-u.1) (0,[]) ⟨aw,aw,by rw[←q];exact nq⟩ ((E9 64 rfl).trans (b7 (by
   simp[az,ai,fv,lk,bX,AV.low,AV.low1]
   exact⟨kV _ _,aJ _ _⟩))) ?_
 rintro⟨k,B⟩⟨C,o,m⟩;simp only at C o m;simp only[go_sem,Nat.reduceEqDiff,Nat.reduceAdd,Nat.reduceLT,↓reduceIte,Nat.reduceMul];refine⟨fun h=>?_,fun h=>?_⟩
 ·obtain⟨i,e,H⟩:=bg (l:=t.ins) (k:=k) aq;obtain⟨a,g,y⟩:=G i (cr e);have F:=ay (k:=k) aq;have s:=uh a;have f:=pX a;have I:(List.range 32).map (fun k=>((uj i).drop k).take 1)=List.map ((fun r=>List.map AV.d r)∘fun(x:Nat)=>[DV.int .u8 (x:Int)]) i.hash:=by rw[Ew a];simp[rb,Function.comp_def]
  simp[go_sem,e,s,Eu,f,o6 a,o7];refine aP [(0,64),(1,2096)] (HA 68 35 (uj i) B i.hash I (fun n=>Ti n i) a aq) rfl aw (by simp[lk]) (by simp[lk,Blk.ren,aO,bw,Jz]) (by simp[AV.renL,AV.ren,b8,iJ,lk]) ?_;rintro r b⟨rfl,c,p⟩;refine⟨[],rfl,?_⟩;have w:(B++i.hash).length=B.length+32:=by rw[b_,a]
  have j:B++tp i=B++i.hash++le i.idx 4:=by simp[tp]
  generalize B++i.hash=B1 at *;simp[go_sem,bZ,bB,c,p,Blk.ren,aO,bw,Jz,AV.renL,AV.ren,f,VK a];clear c p b;refine bA [] (jw [] i.idx aw g) rfl (aj (.one (ao (.nil 1))) (aj (.deep a9) aD)) ?_;simp[go_sem,aE];refine aP [(0,64)] (qO B1 (le i.idx 4) (by rw[aM];omega)) rfl aw (by simp[lk]) (by simp[lk,Blk.ren,aO,bw]) (by simp[AV.renL,AV.ren,b8,iJ,lk]) ?_;rintro r b⟨rfl,c⟩;refine⟨[],rfl,?_⟩;rw[←j]at c;have E:(B++tp i).length=B1.length+4:=by rw[j,b_,aM]
  simp[go_sem,bZ,bB,c,Blk.ren,aO,bw,AV.renL,AV.ren,F];refine am (k+1,B++tp i) ⟨by simp only;omega,by simp only;omega,ee H m⟩ (by simp only;omega) ?_;simp[az,ai,fv,lk,AV.low,AV.low1];exact⟨kV _ _,aJ _ _⟩
 ·have v:k=t.ins.length:=aq;subst v;have:=ef m;subst this;simp[go_sem];refine aP [(0,64)] (Ak B aq) rfl aw (by simp[lk]) (by simp[lk,Blk.ren,aO,bw]) (by simp[AV.renL,AV.ren,b8,iJ,lk]) ?_;rintro r b⟨rfl,c⟩;refine⟨[],rfl,?_⟩;have z:=bf B;simp[go_sem,bZ,bB,c,Blk.ren,aO,bw,dP,AV.ren,z,al z,cp,ah];exact aa (by simp[AV.deep];exact bn _) rfl
theorem Fa(os:List (Nat×List Nat))(A:os.length≤8)(y:∀o,o∈os→o.1<18446744073709551616∧o.2.length≤1100):au Tryz.prog 56 [.d (.ro 2 (os.map eO))] (fun r=>r=.agg (cb (aW (os.map gx).flatten))):=by
 refine bF Tryz.func56 Tryz.ntmps56 (rs:=[.cell 2 29]) a9 ?_;simp[go_sem];refine aP [] oS rfl aw aw aw (by simp[AV.renL]) ?_;rintro r a⟨rfl,b⟩;refine⟨[(97,0)],rfl,?_⟩;simp[go_sem,bZ,bB,b,Blk.ren,aO,im,AV.ren,b8];clear b a;generalize j:(os.map gx).flatten=R
 refine mT (fun u:Nat×List Nat=>⟨[(2,.ptr 0 0 0 1),(3,.ptr 32 0 0 1),(7,.d (.ro 2 (os.map eO))),(8,.d (.int .i64 (os.length:Int))),(9,.d (.int .i64 (u.1:Int)))],[(32,⟨167,10,[CO u.2]⟩),(0,⟨29,32,[cb z32]⟩)],2000⟩)
  (fun u=>u.1≤os.length∧u.2.length≤1200*u.1∧u.2++ff gx os u.1=R) (fun u=>os.length-u.1) (0,[]) ⟨aw,aw,by rw[←j];exact nq⟩ ((E9 32 rfl).trans (b7 (by
   simp[az,ai,fv,lk,bX,AV.low,AV.low1]
   exact⟨kV _ _,aJ _ _⟩))) ?_
 rintro⟨k,B⟩⟨s,i,g⟩;simp only at s i g;simp only[go_sem,Nat.reduceEqDiff,Nat.reduceAdd,Nat.reduceLT,↓reduceIte];refine⟨fun h=>?_,fun h=>?_⟩
 ·obtain⟨o,e,x⟩:=bg (l:=os) (k:=k) aq;obtain⟨f,w⟩:=y o (cr e);have v:=ay (k:=k) aq;have z:=cv o.2.length;have q:(cJ o.2).length=(aA o.2.length).length+o.2.length:=by simp[cJ]
  simp[go_sem,e,eO];refine bA [] (xO [] o.1 aw f) rfl (aj (.one (ao (.nil 1))) (aj (.deep a9) aD)) ?_;simp[go_sem,aE];refine aP [(0,32)] (qO B (le o.1 8) (by rw[aM];omega)) rfl aw (by simp[lk]) (by simp[lk,Blk.ren,aO,bw]) (by simp[AV.renL,AV.ren,b8,iJ,lk]) ?_;rintro r a⟨rfl,b⟩;refine⟨[],rfl,?_⟩;have n:(B++le o.1 8).length=B.length+8:=by rw[b_,aM]
  have c:B++gx o=B++le o.1 8++cJ o.2:=by simp[gx]
  generalize B++le o.1 8=B1 at *;simp[go_sem,bZ,bB,b,Blk.ren,aO,bw,AV.renL,AV.ren];clear b a;refine bA [] (gp [] o.2 aw aq) rfl (aj (.one (ao (.nil 1))) (aj (.deep a9) aD)) ?_;simp[go_sem,aE];refine aP [(0,32)] (qO B1 (cJ o.2) aq) rfl aw (by simp[lk]) (by simp[lk,Blk.ren,aO,bw]) (by simp[AV.renL,AV.ren,b8,iJ,lk,nb,cJ]) ?_;rintro r a⟨rfl,b⟩;refine⟨[],rfl,?_⟩;rw[←c]at b;have t:(B++gx o).length=B1.length+(cJ o.2).length:=by rw[c,b_]
  simp[go_sem,bZ,bB,b,Blk.ren,aO,bw,AV.renL,AV.ren,v];refine am (k+1,B++gx o) ⟨by simp only;omega,by simp only;omega,ee x g⟩ (by simp only;omega) ?_;simp[az,ai,fv,lk,AV.low,AV.low1];exact⟨kV _ _,aJ _ _⟩
 ·have m:k=os.length:=aq;subst m;have:=ef g;subst this;simp[go_sem];refine aP [(0,32)] (Ak B aq) rfl aw (by simp[lk]) (by simp[lk,Blk.ren,aO,bw]) (by simp[AV.renL,AV.ren,b8,iJ,lk]) ?_;rintro r a⟨rfl,b⟩;refine⟨[],rfl,?_⟩;have p:=bf B;simp[go_sem,bZ,bB,b,Blk.ren,aO,bw,dP,AV.ren,p,al p,cp,ah];exact aa (by simp[AV.deep];exact bn _) rfl
end Go.Proofs.YtmfnimjnneflnaaGreat
namespace Go.Sha
def jP:List Nat:=[84,97,112,83,105,103,104,97,115,104]
end Go.Sha
namespace Go.Proofs.YtmfnimjnneflnaaGreat
open Go.Am Go.Sha
theorem Qo(os:List (Nat×List Nat))(G:os.length≤8)(E:∀o,o∈os→o.1<18446744073709551616∧o.2.length≤1100):au Tryz.prog 83 [.d (.ro 2 (os.map eO))] (fun r=>r=.tup [.agg (cb (aW (os.map yq).flatten)),.agg (cb (aW (os.map yQ).flatten))]):=by
 refine bF Tryz.func83 Tryz.ntmps83 (rs:=[.cell 2 29,.cell 3 29]) a9 ?_;simp[go_sem];refine aP [] oS rfl aw aw aw (by simp[AV.renL]) ?_;rintro r a⟨rfl,b⟩;refine⟨[(97,0)],rfl,?_⟩;simp[go_sem,bZ,bB,b,Blk.ren,aO,im,AV.ren,b8];clear b a;refine aP [] oS rfl aw aw aw (by simp[AV.renL]) ?_;rintro r a⟨rfl,b⟩;refine⟨[(97,0)],rfl,?_⟩;simp[go_sem,bZ,bB,b,Blk.ren,aO,im,AV.ren,b8];clear b a;generalize m:(os.map yq).flatten=V;generalize q:(os.map yQ).flatten=S
 refine mT (fun u:Nat×List Nat×List Nat=>⟨[(2,.ptr 0 0 0 1),(3,.ptr 32 0 0 1),(4,.ptr 64 0 0 1),(5,.ptr 96 0 0 1),(10,.d (.ro 2 (os.map eO))),(11,.d (.int .i64 (os.length:Int))),(12,.d (.int .i64 (u.1:Int)))],
   [(96,⟨167,10,[CO u.2.2]⟩),(64,⟨167,10,[CO u.2.1]⟩),(32,⟨29,32,[cb z32]⟩),(0,⟨29,32,[cb z32]⟩)],2000⟩)
  (fun u=>u.1≤os.length∧(u.2.1.length≤8*u.1∧u.2.2.length≤1200*u.1)∧u.2.1++ff yq os u.1=V∧u.2.2++ff yQ os u.1=S) (fun u=>os.length-u.1) (0,[],[]) ⟨aw,aw,by rw[←m];exact nq,by rw[←q];exact nq⟩
  ((E9 64 rfl).trans ((E9 96 rfl).trans (b7 (by
   simp[az,ai,fv,lk,bX,AV.low,AV.low1]
   exact⟨kV _ _,aJ _ _⟩)))) ?_
 rintro⟨k,A,B⟩⟨x,⟨p,j⟩,s,n⟩;simp only at x p j s n;simp only[go_sem,Nat.reduceEqDiff,Nat.reduceAdd,Nat.reduceLT,↓reduceIte];refine⟨fun h=>?_,fun h=>?_⟩
 ·obtain⟨o,f,v⟩:=bg (l:=os) (k:=k) aq;obtain⟨i,C⟩:=E o (cr f);have z:=ay (k:=k) aq;have F:=cv o.2.length;have w:(cJ o.2).length=(aA o.2.length).length+o.2.length:=by simp[cJ]
  simp[go_sem,f,eO];refine bA [] (xO [] o.1 aw i) rfl (aj (.one (ao (.nil 1))) (aj (.deep a9) aD)) ?_;simp[go_sem,aE];refine aP [(0,64)] (qO A (le o.1 8) (by rw[aM];omega)) rfl aw (by simp[lk]) (by simp[lk,Blk.ren,aO,bw]) (by simp[AV.renL,AV.ren,b8,iJ,lk]) ?_;rintro r a⟨rfl,b⟩;refine⟨[],rfl,?_⟩;have D:(A++yq o).length=A.length+8:=by rw[b_,yq,aM]
  rw[show A++le o.1 8=A++yq o from rfl]at b;simp[go_sem,bZ,bB,b,Blk.ren,aO,bw,AV.renL,AV.ren];clear b a;refine bA [] (gp [] o.2 aw aq) rfl (aj (.one (ao (.nil 1))) (aj (.deep a9) aD)) ?_;simp[go_sem,aE];refine aP [(0,96)] (qO B (cJ o.2) aq) rfl aw (by simp[lk]) (by simp[lk,Blk.ren,aO,bw]) (by simp[AV.renL,AV.ren,b8,iJ,lk,nb,cJ]) ?_;rintro r a⟨rfl,b⟩;refine⟨[],rfl,?_⟩;have y:(B++yQ o).length=B.length+(cJ o.2).length:=by rw[b_];rfl
  rw[show B++cJ o.2=B++yQ o from rfl]at b;simp[go_sem,bZ,bB,b,Blk.ren,aO,bw,AV.renL,AV.ren,z];refine am (k+1,A++yq o,B++yQ o) ⟨by simp only;omega,⟨by simp only;omega,by simp only;omega⟩,ee v s,ee v n⟩ (by simp only;omega) ?_;simp[az,ai,fv,lk,AV.low,AV.low1];exact⟨kV _ _,kV _ _,aJ _ _⟩
 ·have t:k=os.length:=aq;subst t;have:=ef s;subst this;have:=ef n;subst this;have g:=bf A;have e:=bf B;simp[go_sem];refine aP [(0,64)] (Ak A aq) rfl aw (by simp[lk]) (by simp[lk,Blk.ren,aO,bw]) (by simp[AV.renL,AV.ren,b8,iJ,lk]) ?_;rintro r a⟨rfl,b⟩;refine⟨[],rfl,?_⟩;simp[go_sem,bZ,bB,b,Blk.ren,aO,bw,dP,AV.ren];clear b a;refine aP [(0,96)] (Ak B aq) rfl aw (by simp[lk]) (by simp[lk,Blk.ren,aO,bw]) (by simp[AV.renL,AV.ren,b8,iJ,lk]) ?_;rintro r a⟨rfl,b⟩;refine⟨[],rfl,?_⟩;simp[go_sem,bZ,bB,b,Blk.ren,aO,bw,dP,AV.ren,g,e,al g,al e,cp,ah]
  exact aa (by
   intro c hc;simp at hc;rcases hc with rfl|rfl;exact .inr ⟨_,rfl,bn _⟩
   exact .inr ⟨_,rfl,bn _⟩) rfl
theorem CP(t:Tn):∀v,v∈[AV.agg (eT t)]→v.deep:=by simp[AV.deep,AV.deep1,eT]
def Ze:List Nat:=List.replicate 96 0
theorem Zf:fQ Tryz.prog 139=some (cb Ze):=by kernel_rfl
def JB:List Nat:=List.replicate 160 0
theorem UM:fQ Tryz.prog 143=some (cb JB):=by kernel_rfl
attribute [go_sem] Zf UM
theorem Fb:Ze.length=96:=rfl
theorem uE:List.drop 96 (cb Ze)=[]:=rfl
theorem An:JB.length=160:=by simp[JB]
theorem HB:List.drop 160 (cb JB)=[]:=dg (by rw[ak,An];exact cR _)
theorem HC{A Z:List AV}{n m:Nat}(a:A.length=n)(b:n≤m):List.drop m (A++List.drop n Z)=List.drop m Z:=by
 rw[List.drop_append,dg aq,List.nil_append,List.drop_drop,a,show n+(m-n)=m by omega]
theorem tq{A B Z:List AV}{n m:Nat}(a:A.length=n)(b:n≤m):List.take n (A++List.drop n Z)++(B++List.drop m (A++List.drop n Z))=A++B++List.drop m Z:=by
 rw[HC a b];subst a;rw[List.take_left,cD]
theorem yr(a b:List Nat):cb (a++b)=cb a++cb b:=by simp[cb]
theorem Qp(t:Tn)(e:Sm t):au Tryz.prog 82 [.agg (eT t)] (fun r=>r=.agg (cb (aW (t.ins.map tp).flatten++(aW (t.ins.map uD).flatten++aW (t.outs.map gx).flatten)))):=by
 refine bF Tryz.func82 Tryz.ntmps82 (rs:=[.cell 2 139]) (CP t) ?_;have p:=UL t e;have u:=JA t e;have w:=Fa t.outs (by have:=e.2.2.1;omega) (fun o h=>⟨e.1.2.2.2 o h,by have:=e.2.2.2.1 o h;omega⟩);have f:=bf (t.ins.map tp).flatten;have g:=bf (t.ins.map uD).flatten;have l:=bf (t.outs.map gx).flatten;generalize aW (t.ins.map tp).flatten=a at *;generalize aW (t.ins.map uD).flatten=b at *;generalize aW (t.outs.map gx).flatten=c at *;have v:eT t=[.d (.int .u32 (t.ver:Int)),.d (.ro 35 (t.ins.map eI)),.d (.ro 2 (t.outs.map eO)),.d (.int .u32 (t.lock:Int))]:=rfl;have i:=CP t;rw[v]at p u i;simp[go_sem,eT];refine cz [0,2,4,5] [(1,[]),(3,[]),(6,[7]),(8,[])] 3 (k:=9) ?_;intro G q;simp[go_sem];refine ag p i ?_;simp[go_sem];refine ag u i ?_;simp[go_sem];refine ag w a9 ?_;simp[go_sem,ak,f,g,l,Fb,uE];rw[HC (A:=cb a) (n:=32) (by rw[ak,f]) aq,←cD (cb a),tq (A:=cb a++cb b) (n:=64) (by simp[ak,f,g]) aq,uE,List.append_nil];refine q _ _ ?_;clear q G;have x:(cb a++cb b++cb c).length=96:=by simp[ak,f,g,l]
 have j:List.take 96 (cb a++cb b++cb c)=cb a++cb b++cb c:=cx aq;have m:cb (a++(b++c))=cb a++cb b++cb c:=by rw[yr,yr,cD]
 have s:=bn (a++(b++c));rw[m]at s;rw[m];generalize cb a++cb b++cb c=R at *;simp[go_sem,x,j,ah];exact aa s rfl
end Go.Proofs.YtmfnimjnneflnaaGreat
