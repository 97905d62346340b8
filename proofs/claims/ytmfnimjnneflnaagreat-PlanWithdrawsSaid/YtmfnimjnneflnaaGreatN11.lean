/-
 Part 12.
-/
import Derived.Test.YtmfnimjnneflnaaGreatN10
set_option linter.unusedVariables false
set_option linter.unusedSimpArgs false
set_option maxRecDepth 100000
set_option maxHeartbeats 16000000
open Go.Proofs.Tryz
namespace Go.Proofs.YtmfnimjnneflnaaGreat
theorem FB(r:Rn):(bB r).2.cl=r.cl:=by
 unfold bB;split;split;unfold aB;split<;>rfl;rfl;rfl
theorem U8(most:Nat)(r:Rn):(fD most r).2.cl=r.cl:=by
 have h:=FB r;unfold fD;generalize bB r=p at *;simp only;split;cases gK most p.1 with
 |none=>simp only;unfold aB;split<;>exact h
 |some n=>exact h
 ·exact h
theorem oy{most:Nat}{r:Rn}(h:StOk r.main r.alt):StOk (fD most r).2.main (fD most r).2.alt:=by
 have h:=(eH h).1;unfold fD;generalize bB r=p at *;simp only;split;cases gK most p.1 with
 |none=>exact iM h
 |some n=>exact h
 ·exact h
theorem JM{hp:Hp}{I:Nat→Prop}{id:Nat}{ty:TypeId}{cs:List (Int×Int)}(b:lk id hp=some ⟨ty,2,cs.map clC⟩)(a:I id):SnapD hp I (.own id 0 cs.length cs.length) (.ro 2 (cs.map fi)):=by
 refine kJ b a aw ?_ aw (fun r c=>by
  obtain⟨x,_,rfl⟩:=List.mem_map.1 c
  rfl)
 rw[List.drop_zero,cx aw];have e:cs.map clC=(cs.map fi).map fun r=>r.map AV.d:=by
  rw[List.map_map];rfl
 rw[e];exact lG _
theorem Zn (F:RnF) (x:Rx) (hi:F.inner.length=32) (g:x.tpl.length=32) (i:bytes x.tpl) (A:Int) (q:fm prog 18 [.agg (eT F.t),.d (.int .i64 (F.n:Int))] (.tup [.agg (cb x.tpl),.d (.int .i64 A)])) (r:Rn) (J:List Bool) (H:Nat) (s:StOk r.main r.alt) :
    dB prog 3 (aK (jk F)) 201 ⟨r,J,H⟩ [.ptr 0 0 0 1] (fun v h=>h=⟨Cf x r,J,H⟩):=by
  refine ap func201 (by kernel_rfl) rfl ntmps201 (rs:=[]) rfl (dN rfl) (by decide) ?_;have e:=fC (F:=F) hi;have w:z32.length=32:=rfl;obtain⟨l,j,f⟩:=C0 s;have c:=PG e r J H s;unfold Cf;generalize nu r=p at *;obtain⟨b,m⟩:=p;simp only at c l j f⊢;simp[go_sem];refine eV (Pp:=[]) e c aq aw (by simp[AV.R]) ?_;rintro v h ρ ⟨rfl,rfl⟩ u;rw[bN];simp only[aK,bP,bO,id,jk,eS];simp only[eT]at q;simp[go_sem,AV.r];refine dI [0,1,2,3,4,5,6,7,8,9] [10,14,15] [0,1,2,3,4,5,6,7,8,9,11,12,13,16] (.alt (.step 10 [11,12,13] true (bt 14 (.step 15 [16] true .done))) (bt 14 (.step 10 [11,12,13] true (.step 15 [16] true .done)))) ⟨[(0,.ptr 0 0 0 1),(2,.d (nb b)),(3,.ptr 548 0 0 1)],(548,⟨29,32,[cb x.tpl]⟩)::jD 3 (aK (jk F)) ⟨m,J,H⟩ id,9000⟩ (k:=17) ?h3 ?hq
  case h3 =>
    intro G B;simp (config := { maxSteps := 3000000 }) [go_sem]
    repeat' first
      |apply And.intro
      | (refine ag q a9 ?_
         simp (config := { maxSteps := 3000000 }) [go_sem,aj,g])
      | (refine B _ _ (b8 ⟨by simp [ai,fv,lk,AV.low,AV.l],?_,aw⟩)
         intro p a;rcases d_.1 a with rfl|a
         · refine ⟨.inl (by simp [lk,aj,w]),by show 548<9000;omega,?_⟩
           intro r o v z;simp only[d_,List.mem_nil_iff,or_false]at o;subst o;obtain⟨y,_,rfl⟩:=List.mem_map.1 z;trivial
         · exact rnW e (dN rfl) (tw (by simp[lk,aK,bP,bO,jk,eS]) (by simp[lk,aK]) (by simp[lk,aK])) p a)
  case hq =>
    simp[go_sem];refine ju (jG b x.tpl f i) rfl (ak (.deep trivial) (ak (.one (am (fh rfl trivial g))) aF)) trivial ?_;by_cases hq:b=x.tpl
    · simp [go_sem,hq]
      rw[bN];exact aG (by simp[lk,aK,bP,bO,jk,eS]) rfl rfl
    · simp [go_sem,hq]
      refine aU (Pp:=[(548,⟨29,32,[cb x.tpl]⟩)]) e (bM e m J H 23) rfl (dN rfl) (by intro p a;simp at a;subst a;simp) (by simp[AV.R,AV.r]) ?_;rintro v h ρ rfl u;rw[bN];generalize aB 23 m=r';simp only[aK,bP,bO,id,jk,eS];simp[go_sem];exact aG (by simp[lk,aK,bP,bO]) rfl rfl
theorem WH{C:List AV}(q:jQ C)(a:List Nat)(Pp:Hp){N:Nat}{hp:Hp}{g:FuncId}{s:RnS}{b ars2:List AV}{R:AV→RnS→Prop}{K:AV→Hp→Prop}(h:dB prog 3 (aK C) g s (.ptr 0 0 0 1::ars2) R)(t:3≤N)
  (n:∀p,p∈Pp++jD 3 (aK C) s id→lk p.1 (aC a hp)=some p.2) (m:b.length=ars2.length) (o:∀(i:Nat)(v c:AV),b[i]?=some v→ars2[i]?=some c→c=v∨Snap hp (fun id=>id∈a) v c) (k:∀p,p∈Pp→p.1<N∧3≤p.1) (d:∀ ρ,AV.R ρ ars2=ars2)
  (r:∀v s' ρ,R v s'→(∀j,j<3→ρ j=j)→K (v.r ρ) (Pp++jD 3 (aK C) s' id)):uX prog g (.ptr 0 0 0 1::b) hp N K:=by
 refine db a Pp (args':=.ptr 0 0 0 1::ars2) (uH q) id h (a8 3) (fun j l=>by show j<N;omega) n (by simp[m]) ?_ (fun p hp=>⟨(k p hp).1,fun j l=>by have:=(k p hp).2;show j≠p.1;omega⟩) ?_ r
 ·intro i v c f e
  match i with
  |0=>simp at f e;subst f;subst e;exact .inl rfl
  |i+1=>exact o i v c f e
 ·rw[AV.R,d,AV.r];rfl
theorem JO{hp:Hp}{I:Nat→Prop}{l:List AV}:∀(i:Nat)(v a:AV),([]:List AV)[i]?=some v→l[i]?=some a→a=v∨Snap hp I v a:=by intro i v a h;simp at h
theorem tA{hp:Hp}{I:Nat→Prop}{a a':AV}{args args':List AV}(h:a'=a∨Snap hp I a a')(t:∀(i:Nat)(v b:AV),args[i]?=some v→args'[i]?=some b→b=v∨Snap hp I v b):∀(i:Nat)(v b:AV),(a::args)[i]?=some v→(a'::args')[i]?=some b→b=v∨Snap hp I v b:=by
 intro i v b d c
 match i with
 |0=>simp at d c;subst d;subst c;exact h
 |i+1=>exact t i v b d c
theorem U9(F:RnF)(x:Rx)(hi:F.inner.length=32)(y:∀(h:bm)(o:Int),bytes h→h.length≤1000→fm prog 234 [.agg (eS F.t (F.n:Int) F.coins),.d (nb h),.d (.int .i64 o)] (Uc (x.rcv h o)))(r:Rn)(J:List Bool)(C:StOk r.main r.alt)(hc:r.cl.length≤100000) :
  dB prog 3 (aK (jk F)) 203 ⟨r,J,0⟩ [.ptr 0 0 0 1] (fun v f=>f=⟨Hn x r,J,0⟩):=by
 refine ap func203 (by kernel_rfl) rfl ntmps203 (rs:=[]) rfl (dN rfl) (by decide) ?_;have a:=fC (F:=F) hi;obtain⟨c,j,i⟩:=eH C;have m:(bB r).2.cl=r.cl:=FB r;have k:=lY a r J 0 C;unfold Hn;generalize bB r=p at *;obtain⟨h,w⟩:=p;simp only at k c j i m⊢;have l:=vB a w J 0 c 4 aq;have g:=oy (most:=4) c;have b:(fD 4 w).2.cl=w.cl:=U8 4 w;generalize fD 4 w=p at *;obtain⟨o,u⟩:=p;simp only at l g b⊢;have y:=y h o i j;simp only[eS]at y;generalize x.rcv h o=q at *;obtain⟨z,c2,e⟩:=q;simp[go_sem];refine eV (Pp:=[]) a k aq aw (by simp[AV.R]) ?_;rintro v f ρ ⟨rfl,rfl⟩ B;simp[go_sem,AV.r];refine eV (Pp:=[]) a l aq aw (by simp[AV.R,AV.r]) ?_;rintro v f ρ ⟨rfl,rfl⟩ B;simp[go_sem,AV.r];refine eV (Pp:=[]) a (fM a u J 0) aq aw (by simp[AV.R]) ?_;rintro v f ρ' ⟨rfl,rfl⟩ D;by_cases A:u.e=0
 ·rw[bN];simp only[aK,bP,bO,id,jk,eS];simp[go_sem,AV.r,A];refine ag y a9 ?_;simp[go_sem,Uc];refine WH a [772] [] (s:=⟨u,J,0⟩) (ars2:=[.d (.ro 2 ([(z,c2)].map fi)),.d (.int .i64 e)]) (JJ a u J g [(z,c2)] e (by rw[b,m];exact hc) aw) aq ?_ rfl (tA (.inr (.one (am (JM (cs:=[(z,c2)]) rfl aw)))) (tA (.inl rfl) JO)) aw (by simp[AV.R,AV.r]) ?_
  exact tw (by simp[aC,lk,aK,bP,bO,jk,eS,A]) (by simp[aC,lk,aK]) (by simp[aC,lk,aK]);rintro v f ρ rfl B;rw[bN];generalize EX [(z,c2)] e u=r';simp only[aK,bP,bO,id,jk,eS];simp[go_sem];exact aG (by simp[lk,aK,bP,bO]) rfl rfl
 ·simp[go_sem,AV.r,A];rw[bN];exact aG rfl rfl rfl
theorem Zo (F:RnF) (x:Rx) (hi:F.inner.length=32) (B:F.script.length≤100000) (j:x.msg.length=32) (w:Int)
    (s:fm prog 43 [.agg (eS F.t (F.n:Int) F.coins),.d (nb (eD F.script)),.d (nb F.annex)] (.tup [.agg (cb x.msg),.d (.int .i64 w)])) (r:Rn) (J:List Bool) (H:Nat) :
    cZ prog 226 3 (jD 3 (aK (jk F)) ⟨r,J,H⟩ id) [.ptr 0 0 0 1] (fun v b=>v=.sub 708 0 0 1 32 32 1∧lk 708 b=some ⟨29,32,[cb x.msg]⟩∧vS 3 (aK (jk F)) ⟨r,J,H⟩ id b):=by
  refine ap func226 (by kernel_rfl) rfl ntmps226 (rs:=[.tmp 2]) rfl (dN rfl) (by decide) ?_;have C:=fC (F:=F) hi;have u:z32.length=32:=rfl;have h:=o8 F.script B;have a:(fQ [84,97,112,76,101,97,102] (192::(az F.script.length++F.script))).length=32:=nh F.script;rw[bN];simp only[aK,bP,bO,id,jk,eS,au];have o:∀l:List AV,(cb F.inner++(AV.d (cz F.path)::AV.d (nb F.script)::l))[33]?=some (.d (nb F.script)):=fun l=>by
    rw[dn (by rw[aj,hi];omega),aj,hi];rfl
  have f:∀l:List AV,(cb F.inner++(AV.d (cz F.path)::AV.d (nb F.script)::AV.d (nb F.annex)::l))[34]?=some (.d (nb F.annex)):=fun l=>by
    rw[dn (by rw[aj,hi];omega),aj,hi];rfl
  simp[go_sem,o];refine ag h a9 ?_;have e:List.drop 32 (cb z32)=[]:=rfl;have i:fQ [84,97,112,76,101,97,102] (192::(az F.script.length++F.script))=eD F.script:=rfl;rw[i]at a⊢;generalize eD F.script=lb at *;simp only[eS]at s;simp[go_sem,aj,u,a,e]
  have g:(AV.tup [.agg (cb x.msg),.d (.int .i64 w)]).flat:=by
    intro c hc;simp at hc;rcases hc with rfl|rfl
    · refine .inr ⟨_,rfl,fun y A=>?_⟩
      obtain⟨z,_,rfl⟩:=List.mem_map.1 A;trivial
    · exact .inl trivial
  refine dI [0,1,2,3,4,5,6,7,8] [9,13,14] [0,1,2,3,4,5,6,7,8,10,11,12,15] (.alt (.step 9 [10,11,12] true (bt 13 (.step 14 [15] true .done))) (bt 13 (.step 9 [10,11,12] true (.step 14 [15] true .done)))) ⟨[(4,.ptr 708 0 0 1)],(708,⟨29,32,[cb x.msg]⟩)::jD 3 (aK (jk F)) ⟨r,J,H⟩ id,9000⟩ (k:=16) ?h3 ?hq
  case h3 =>
    intro G E;simp (config := { maxSteps := 3000000 }) [go_sem,f,aj,a]
    repeat' first
      |apply And.intro
      | (refine ju s rfl (ak (.deep a9) (ak (.one (am (fh rfl trivial a))) (ak (.deep trivial) aF))) g ?_
         simp (config := { maxSteps := 3000000 }) [go_sem,aj,j,u])
      | (refine E _ _ (b8 ⟨by simp [ai,fv,lk,AV.low,AV.l],?_,aw⟩)
         intro p m;rcases d_.1 m with rfl|m
         · refine ⟨.inl (by simp [lk,e]),by show 708<9000;omega,?_⟩
           intro r q v D;simp only[d_,List.mem_nil_iff,or_false]at q;subst q;obtain⟨y,_,rfl⟩:=List.mem_map.1 D;trivial
         · exact rnW C (dN rfl) (tw (by simp[lk,aK,bP,bO,jk,eS,au]) (by simp[lk,aK]) (by simp[lk,aK])) p m)
  case hq =>
    simp[go_sem,ah];rw[bN];exact aG (by simp[lk,aK,bP,bO,jk,eS,au]) rfl rfl
theorem Zp(F:RnF)(x:Rx)(hi:F.inner.length=32)(A:F.script.length≤100000)(p:x.msg.length=32)(u:Int)
  (z:fm prog 43 [.agg (eS F.t (F.n:Int) F.coins),.d (nb (eD F.script)),.d (nb F.annex)] (.tup [.agg (cb x.msg),.d (.int .i64 u)])) {s:RnS} {N:Nat} {K:AV→Hp→Prop} (L:3≤N)
  (G:K (.sub N 0 0 1 32 32 1) ((N,⟨29,32,[cb x.msg]⟩)::jD 3 (aK (jk F)) s id)):uX prog 226 [.ptr 0 0 0 1] (jD 3 (aK (jk F)) s id) N K:=by
 have B:=fC (F:=F) hi;have l:=uH B;have m:∀j,j<3→cn (lR 3 id id) 3 (id j)=j:=fun j a=>wG id 3 (a8 3) a;have f:de (lR 3 id id) [(708,0)]=true:=G4 aq;have k:Ar 3 id [(708,0)] N 708=N:=BR (c:=708) (j:=0) f aw;refine .inl (qf (n:=3) (b0:=aK (jk F) s id) id (Zo F x hi A p u z s.r s.J s.H) (fun i x hi=>I3 i x hi) (a8 3) (fun j a=>by show j<N;omega)
  (fun j a=>⟨_,BP _ (a8 3) a,l.2 _ _ _ a,(l.1 s id _ id j a m).symm⟩) ?_ [(708,0)] f ?_)
 rw[AV.R,AV.R,AV.r];rfl;rintro I y⟨rfl,D,o⟩w E C M;have q:∀j,j<3→Ar 3 id [(708,0)] N (id j)=id j:=fun j a=>BQ f a;refine⟨(N,⟨29,32,[cb x.msg]⟩)::jD 3 (aK (jk F)) s id,fun i b h=>?_,?_⟩;simp only[lk]at h;split at h;rename_i e;subst e;cases h;have g:=C 708 0 aw _ D;have e:Blk.r (Ar 3 id [(708,0)] N) ⟨29,32,[cb x.msg]⟩=⟨29,32,[cb x.msg]⟩:=by
  simp only[Blk.r,aQ,List.map_cons,List.map_nil,kE,cb,List.map_map];rfl
 rw[e]at g;exact g;obtain⟨j,a,e⟩:=nX.1 (bR h);cases e;have g:=E j a _ (o j a);rw[l.1 s id _ id j a q]at g;exact g;rw[AV.r,k];exact G
theorem JP(m:bm):fm prog 228 [.rop [nb m]] (.d (nb m)):=by
 refine bL func228 ntmps228 (rs:=[.tmp 1]) a9 ?_;simp[go_sem,ah];exact aa trivial rfl
def Zq(sg:bm→bm→bm→Bool):Prop:=∀b a c:bm,b.length=32→bytes b→bytes a→bytes c→a.length≤1000→c.length≤1000→fm prog 156 [.agg (cb b),.d (nb a),.d (nb c)] (.d (.bool (sg b c a)))
theorem tB(key:bm):(key.map fun(b:Nat)=>[DV.int .u8 (b:Int)]).flatten=cd key:=by
 unfold cd
 induction key with
 |nil=>rfl
 |cons a l ih=>simp only[List.map_cons,List.flatten_cons,ih];rfl
theorem JQ{hp:Hp}{key:bm}:Snap hp (fun _=>True) (.agg (cb key)) (.agg (cb key)):=.deep (d6 _)
theorem Qy{C:List AV}(n:jQ C)(msg:bm)(F:bytes msg)(z:msg.length≤1000)(sg:bm→bm→bm→Bool)(O:Zq sg)(r:Rn)(J:List Bool)(H:Nat)(key a:bm)(E:bytes key)(K:bytes a)(Q:key.length≤1000)(x:a.length≤1000)(I:-9223372036854775808≤r.bud)(y:r.bud<9223372036854775808) :
  dB prog 3 (aK C) 225 ⟨r,J,H⟩ [.ptr 0 0 0 1,.d (nb key),.d (nb a),.fn 228 [.rop [nb msg]]] (fun v u=>v=.d (.bool (gR sg key a msg r).1)∧u=⟨(gR sg key a msg r).2,J,H⟩):=by
 refine ap func225 (by kernel_rfl) rfl ntmps225 (rs:=[.tmp 8]) rfl (dN rfl) (by decide) ?_;have M:=n.2.2;simp[go_sem];refine eV (Pp:=[]) n (fM n r J H) aq aw (by simp[AV.R]) ?_;rintro v u ρ ⟨rfl,rfl⟩ D;by_cases j:r.e=0
 ·by_cases f:a.length=0
  ·have g:gR sg key a msg r=(false,r):=(by simp[gR,f]);rw[g];have A:(a.length:Int)=0:=aq;simp[go_sem,AV.r,j,nb,f,ah];rw[bN];exact aG rfl rfl rfl
  ·have A:¬(a.length:Int)=0:=aq;by_cases i:r.bud<50
   ·have g:gR sg key a msg r=(false,aB 21 r):=(by simp[gR,f,j,i]);rw[g];simp[go_sem,AV.r,j,nb,f];rw[bN];simp only[aK,bP,bO,id];simp[go_sem,M,i];refine aU (Pp:=[]) (s:=⟨r,J,H⟩) n (bM n r J H 21) (by simp[bN,aK,bP,bO,j]) aq aw (by simp[AV.R,AV.r]) ?_;rintro v u ρ rfl D;rw[bN];generalize aB 21 r=r';simp only[aK,bP,bO,id];simp[go_sem,ah];exact aG rfl rfl rfl
   ·have g:gR sg key a msg r=if key.length=32∧sg key a msg=true then(true,{ r with bud:=r.bud-50 })else(false,aB 20 { r with bud:=r.bud-50 }):=by
     simp only[gR,f,j,i,if_false,ne_eq,not_false_eq_true,and_self,if_true]
    rw[g];have L:IntKind.i64.wrap (r.bud-50)=r.bud-50:=IntWalk.i64_in _ aq;simp[go_sem,AV.r,j,nb,f];rw[bN];simp only[aK,bP,bO,id];simp[go_sem,M,i,L];have P:∀l:List AV,l=l:=fun _=>rfl;obtain⟨b,alt,q,bud,t,e⟩:=r;simp only at j i L I y⊢;subst j;have B:jq ⟨b,alt,q,bud,t,0⟩=jq ⟨b,alt,q,bud-50,t,0⟩:=rfl;rw[B];have w:=bM n ⟨b,alt,q,bud-50,t,0⟩ J H 20;by_cases c:key.length=32
    ·have m:=O key msg a c E F K;have o:(key.length:Int)=32:=aq;cases N:sg key a msg with
     |true =>
      rw[N]at m;rw[if_pos ⟨c,rfl⟩];simp[go_sem];refine cK [0,1,2,3,4,5,6,7,9] [(8,[]),(10,[11,12])] 2 (k:=13) ?_;intro G p;simp[go_sem,c,tB,dc,al c,aj];refine ag (JP msg) a9 ?_;simp[go_sem];refine ag (m z x) (by intro v g;simp at g;rcases g with rfl|rfl|rfl;exact d6 _;trivial;trivial) ?_;simp[go_sem];refine p _ _ ?_;clear p G;simp[go_sem,ah];exact aG rfl rfl rfl
     |false =>
      rw[N]at m;rw[if_neg (fun h=>by cases h.2)];simp[go_sem];refine cK [0,1,2,3,4,5,6,7,9] [(8,[]),(10,[11,12])] 2 (k:=13) ?_;intro G p;simp[go_sem,c,tB,dc,al c,aj];refine ag (JP msg) a9 ?_;simp[go_sem];refine ag (m z x) (by intro v g;simp at g;rcases g with rfl|rfl|rfl;exact d6 _;trivial;trivial) ?_;simp[go_sem];refine p _ _ ?_;clear p G;simp[go_sem];refine aU (Pp:=[]) (s:=⟨⟨b,alt,q,bud-50,t,0⟩,J,H⟩) n w (by simp[bN,aK,bP,bO]) aq aw (by simp[AV.R,AV.r]) ?_;rintro v u ρ rfl D;rw[bN];generalize aB 20 ⟨b,alt,q,bud-50,t,0⟩=r';simp only[aK,bP,bO,id];simp[go_sem,ah];exact aG rfl rfl rfl
    ·have o:¬(key.length:Int)=32:=aq;rw[if_neg (fun h=>c h.1)];simp[go_sem];refine cK [0,1,2,3,4,5,6,7,9] [(8,[]),(10,[11,12])] 2 (k:=13) ?_;intro G p;simp[go_sem,o];refine p _ _ ?_;clear p G;simp[go_sem];refine aU (Pp:=[]) (s:=⟨⟨b,alt,q,bud-50,t,0⟩,J,H⟩) n w (by simp[bN,aK,bP,bO]) aq aw (by simp[AV.R,AV.r]) ?_;rintro v u ρ rfl D;rw[bN];generalize aB 20 ⟨b,alt,q,bud-50,t,0⟩=r';simp only[aK,bP,bO,id];simp[go_sem,ah];exact aG rfl rfl rfl
 ·have g:gR sg key a msg r=(false,r):=by simp[gR,j]
  rw[g];simp[go_sem,AV.r,j,ah];rw[bN];exact aG rfl rfl rfl
theorem JR(F:RnF)(x:Rx)(hi:F.inner.length=32)(f:F.script.length≤100000)(a:x.msg.length=32)(b:Int)
  (h:fm prog 43 [.agg (eS F.t (F.n:Int) F.coins),.d (nb (eD F.script)),.d (nb F.annex)] (.tup [.agg (cb x.msg),.d (.int .i64 b)])) {s:RnS} {N:Nat} {hp:Hp} {K:AV→Hp→Prop} (e:hp=jD 3 (aK (jk F)) s id) (g:3≤N)
  (c:K (.sub N 0 0 1 32 32 1) ((N,⟨29,32,[cb x.msg]⟩)::jD 3 (aK (jk F)) s id)):uX prog 226 [.ptr 0 0 0 1] hp N K:=e▸Zp F x hi f a b h g c
theorem yE(F:RnF)(x:Rx)(hi:F.inner.length=32)(U:F.script.length≤100000)(p:x.msg.length=32)(N:bytes x.msg)(P:Int)(T:fm prog 43 [.agg (eS F.t (F.n:Int) F.coins),.d (nb (eD F.script)),.d (nb F.annex)] (.tup [.agg (cb x.msg),.d (.int .i64 P)]))(sg:bm→bm→bm→Bool)(W:Zq sg)(r:Rn)(J:List Bool)(H:Nat)(key a:bm)(M:bytes key)(Q:bytes a)(Y:key.length≤1000)(D:a.length≤1000)(O:-9223372036854775808≤r.bud)(E:r.bud<9223372036854775808) :
  dB prog 3 (aK (jk F)) 225 ⟨r,J,H⟩ [.ptr 0 0 0 1,.d (nb key),.d (nb a),.mth 226 [.ptr 0 0 0 1]] (fun v A=>v=.d (.bool (gR sg key a x.msg r).1)∧A=⟨(gR sg key a x.msg r).2,J,H⟩):=by
 have u:=fC (F:=F) hi;generalize m:jk F=C at *;refine ap func225 (by kernel_rfl) rfl ntmps225 (rs:=[.tmp 8]) rfl (dN rfl) (by decide) ?_;have S:=u.2.2;simp[go_sem];refine eV (Pp:=[]) u (fM u r J H) aq aw (by simp[AV.R]) ?_;rintro v A ρ ⟨rfl,rfl⟩ L;by_cases i:r.e=0
 ·by_cases f:a.length=0
  ·have z:gR sg key a x.msg r=(false,r):=(by simp[gR,f]);rw[z];have I:(a.length:Int)=0:=aq;simp[go_sem,AV.r,i,nb,f,ah];rw[bN];exact aG rfl rfl rfl
  ·have I:¬(a.length:Int)=0:=aq;by_cases g:r.bud<50
   ·have z:gR sg key a x.msg r=(false,aB 21 r):=(by simp[gR,f,i,g]);rw[z];simp[go_sem,AV.r,i,nb,f];rw[bN];simp only[aK,bP,bO,id];simp[go_sem,S,g];refine aU (Pp:=[]) (s:=⟨r,J,H⟩) u (bM u r J H 21) (by simp[bN,aK,bP,bO,i]) aq aw (by simp[AV.R,AV.r]) ?_;rintro v A ρ rfl L;rw[bN];generalize aB 21 r=r';simp only[aK,bP,bO,id];simp[go_sem,ah];exact aG rfl rfl rfl
   ·have z:gR sg key a x.msg r=if key.length=32∧sg key a x.msg=true then(true,{ r with bud:=r.bud-50 })else(false,aB 20 { r with bud:=r.bud-50 }):=by
     simp only[gR,f,i,g,if_false,ne_eq,not_false_eq_true,and_self,if_true]
    rw[z];have R:IntKind.i64.wrap (r.bud-50)=r.bud-50:=IntWalk.i64_in _ aq;simp[go_sem,AV.r,i,nb,f];rw[bN];simp only[aK,bP,bO,id];simp[go_sem,S,g,R];have X:∀l:List AV,l=l:=fun _=>rfl;obtain⟨b,alt,j,bud,q,e⟩:=r;simp only at i g R O E⊢;subst i;have K:jq ⟨b,alt,j,bud,q,0⟩=jq ⟨b,alt,j,bud-50,q,0⟩:=rfl;rw[K];have B:=bM u ⟨b,alt,j,bud-50,q,0⟩ J H 20;by_cases c:key.length=32
    ·have o:=W key x.msg a c M N Q;have w:(key.length:Int)=32:=aq;cases V:sg key a x.msg with
     |true =>
      rw[V]at o;rw[if_pos ⟨c,rfl⟩];simp[go_sem];refine cK [0,1,2,3,4,5,6,7,9] [(8,[]),(10,[11,12])] 2 (k:=13) ?_;intro G y;simp[go_sem,c,tB,dc,al c,aj];refine JR F x hi U p P T (s:=⟨⟨b,alt,j,bud-50,q,0⟩,J,H⟩) (by simp[m,bN,aK,bP,bO]) aq ?_;rw[bN,m];simp only[aK,bP,bO,id];simp[go_sem];refine ju (o aq D) rfl (ak JQ (ak (.one (am (fh rfl trivial p))) (ak (.deep trivial) aF))) trivial ?_;simp[go_sem];refine y _ _ ?_;clear y G;simp[go_sem,ah];exact aG rfl rfl rfl
     |false =>
      rw[V]at o;rw[if_neg (fun h=>by cases h.2)];simp[go_sem];refine cK [0,1,2,3,4,5,6,7,9] [(8,[]),(10,[11,12])] 2 (k:=13) ?_;intro G y;simp[go_sem,c,tB,dc,al c,aj];refine JR F x hi U p P T (s:=⟨⟨b,alt,j,bud-50,q,0⟩,J,H⟩) (by simp[m,bN,aK,bP,bO]) aq ?_;rw[bN,m];simp only[aK,bP,bO,id];simp[go_sem];refine ju (o aq D) rfl (ak JQ (ak (.one (am (fh rfl trivial p))) (ak (.deep trivial) aF))) trivial ?_;simp[go_sem];refine y _ _ ?_;clear y G;simp[go_sem];refine aU (Pp:=[(964,⟨29,32,[cb x.msg]⟩)]) (s:=⟨⟨b,alt,j,bud-50,q,0⟩,J,H⟩) u B (by simp[bN,aK,bP,bO]) aq aw (by simp[AV.R,AV.r]) ?_;rintro v A ρ rfl L;rw[bN];generalize aB 20 ⟨b,alt,j,bud-50,q,0⟩=r';simp only[aK,bP,bO,id];simp[go_sem,ah];exact aG rfl rfl rfl
    ·have w:¬(key.length:Int)=32:=aq;rw[if_neg (fun h=>c h.1)];simp[go_sem];refine cK [0,1,2,3,4,5,6,7,9] [(8,[]),(10,[11,12])] 2 (k:=13) ?_;intro G y;simp[go_sem,w];refine y _ _ ?_;clear y G;simp[go_sem];refine aU (Pp:=[]) (s:=⟨⟨b,alt,j,bud-50,q,0⟩,J,H⟩) u B (by simp[bN,aK,bP,bO]) aq aw (by simp[AV.R,AV.r]) ?_;rintro v A ρ rfl L;rw[bN];generalize aB 20 ⟨b,alt,j,bud-50,q,0⟩=r';simp only[aK,bP,bO,id];simp[go_sem,ah];exact aG rfl rfl rfl
 ·have z:gR sg key a x.msg r=(false,r):=by simp[gR,i]
  rw[z];simp[go_sem,AV.r,i,ah];rw[bN];exact aG rfl rfl rfl
structure RnL(r r':Rn):Prop where
 br:r'.br=r.br
 cl:r'.cl=r.cl
 bud:r'.bud=r.bud
theorem pD(x:Int)(r:Rn):RnL r (aB x r):=by unfold aB;split<;>exact⟨rfl,rfl,rfl⟩
theorem RnL.trans{a b c:Rn}(h:RnL a b)(d:RnL b c):RnL a c:=⟨d.br.trans h.br,d.cl.trans h.cl,d.bud.trans h.bud⟩
theorem mU(r:Rn):RnL r (bB r).2:=by
 unfold bB;split;split;exact pD _ _;exact⟨rfl,rfl,rfl⟩;exact⟨rfl,rfl,rfl⟩
theorem AH(most:Nat)(r:Rn):RnL r (fD most r).2:=by
 have h:=mU r;unfold fD;generalize bB r=p at *;simp only;split;cases gK most p.1 with
 |none=>exact h.trans (pD _ _)
 |some n=>exact h
 ·exact h
theorem acF(b:bm)(r:Rn):RnL r (eQ b r):=by
 unfold eQ;split;split;exact⟨rfl,rfl,rfl⟩;exact pD _ _;exact⟨rfl,rfl,rfl⟩
def i7(b:Int):Prop:=-9223372036854775808≤b∧b<9223372036854775808
theorem yF(sg:bm→bm→bm→Bool)(key a msg:bm)(r:Rn)(h:i7 r.bud)(b:StOk r.main r.alt):(gR sg key a msg r).2.br=r.br∧(gR sg key a msg r).2.cl=r.cl∧i7 (gR sg key a msg r).2.bud∧StOk (gR sg key a msg r).2.main (gR sg key a msg r).2.alt:=by
 have c:¬r.bud<50→i7 (r.bud-50):=fun d=>⟨by have:=h.2;omega,by have:=h.2;omega⟩;unfold gR;split;split;have:=pD 21 r;exact⟨this.br,this.cl,by rw[this.bud];exact h,iM b⟩;split;exact⟨rfl,rfl,c ‹_›,b⟩;have:=pD 20 { r with bud:=r.bud-50 };exact⟨this.br,this.cl,by rw[this.bud];exact c ‹_›,iM b⟩;exact⟨rfl,rfl,h,b⟩
theorem JS{r:Rn}(h:StOk r.main r.alt):-2147483648<(fD 4 r).1∧(fD 4 r).1<2147483648:=by
 obtain⟨_,_,a⟩:=eH h;unfold fD;generalize bB r=p at *;simp only;split;cases b:gK 4 p.1 with
 |none=>simp only;omega
 |some n=>exact Jg a b
 ·simp only;omega
structure RnE(F:RnF)(x:Rx):Prop where
 hi:F.inner.length=32
 hs:F.script.length≤100000
 ml:x.msg.length=32
 mb:bytes x.msg
 mg:∃me:Int,fm prog 43 [.agg (eS F.t (F.n:Int) F.coins),.d (nb (eD F.script)),.d (nb F.annex)] (.tup [.agg (cb x.msg),.d (.int .i64 me)])
 vf:Zq x.sg
 tl:x.tpl.length=32
 tb:bytes x.tpl
 tg:∃te:Int,fm prog 18 [.agg (eT F.t),.d (.int .i64 (F.n:Int))] (.tup [.agg (cb x.tpl),.d (.int .i64 te)])
 rc:∀(h:bm)(o:Int),bytes h→h.length≤1000→fm prog 234 [.agg (eS F.t (F.n:Int) F.coins),.d (nb h),.d (.int .i64 o)] (Uc (x.rcv h o))
 tr:∀(s:bm)(o0 o1 back:Int),bytes s→s.length≤100000→-9223372036854775808≤back→back<9223372036854775808→ar prog 27 [.agg (eS F.t (F.n:Int) F.coins),cE F.inner F.path F.script,.d (nb s),.agg [.d (.int .i64 o0),.d (.int .i64 o1)],.d (.int .i64 back)]
  (fun v=>v=.tup [.d (.ro 2 ((x.trg s o0 o1 back).1.map fi)),.d (.int .i64 (x.trg s o0 o1 back).2)])∧(x.trg s o0 o1 back).1.length≤2
 sq:∃i:Ip,F.t.ins[F.n]?=some i∧i.ok∧x.seq=(i.seq:Int)
 lk:F.t.lock<4294967296∧x.lock=(F.t.lock:Int)
 vr:F.t.ver<4294967296∧x.ver=(F.t.ver:Int)
 hh:x.h1=bc∧x.h2=fl
theorem Qz{C:List AV}(d:jQ C){N:Nat}{g:FuncId}{s:RnS}{a:List AV}{R:AV→RnS→Prop}{K:AV→Hp→Prop}(h:dB prog 3 (aK C) g s (.ptr 0 0 0 1::a) R)(f:3≤N)(b:AV.R (cn (lR 3 id id) 3) a=a)
  (c:∀v s' ρ,R v s'→(∀j,j<3→ρ j=j)→K (v.r ρ) (jD 3 (aK C) s' id)):uX prog g (.ptr 0 0 0 1::a) (jD 3 (aK C) s id) N K:=by
 refine wH (Pp:=[]) (uH d) h (a8 3) (fun j e=>by show j<N;omega) aw ?_ c;rw[AV.R,b,AV.r];rfl
theorem wQ(F:RnF)(x:Rx)(E:RnE F x)(O:Nat)(X:O=172∨O=173∨O=186∨O=204)(r:Rn)(J:List Bool)(H:Nat)(V:StOk r.main r.alt)(T:i7 r.bud) :
  dB prog 3 (aK (jk F)) 198 ⟨r,J,H⟩ [.ptr 0 0 0 1,.d (.int .u8 (O:Int))] (fun v t=>t=⟨uF x O r,J,H⟩):=by
 refine ap func198 (by kernel_rfl) rfl ntmps198 (rs:=[]) rfl (dN rfl) (by decide) ?_;have e:=fC (F:=F) E.hi;have Z:=e.2.2;obtain⟨U,R⟩:=E.mg;have M:=lY e r J H V;obtain⟨q,L,K⟩:=eH V;have z:i7 (bB r).2.bud:=by rw[(mU r).bud];exact T
 unfold uF;generalize bB r=p at *;obtain⟨h,B⟩:=p;simp only at M q L K z⊢;rcases X with rfl|rfl|rfl|rfl
 ·have S:=True.intro;have k:=lY e B J H q;obtain⟨g,j,i⟩:=eH q;have a:i7 (bB B).2.bud:=by rw[(mU B).bud];exact z
  generalize bB B=p at *;obtain⟨c,A⟩:=p;simp only at k g j i a⊢;have o:=yE F x E.hi E.hs E.ml E.mb U R x.sg E.vf A J H h c K i L j a.1 a.2;obtain⟨_,_,_,l⟩:=yF x.sg h c x.msg A a g;generalize gR x.sg h c x.msg A=p at *;obtain⟨b,G⟩:=p;simp only at o l⊢;have D:=rL e G J H l (jX b) (by cases b<;>simp[jX]);simp[go_sem];refine eV (Pp:=[]) e M aq aw (by simp[AV.R]) ?_;rintro v t ρ ⟨rfl,rfl⟩ u;simp[go_sem,AV.r];refine eV (Pp:=[]) e k aq aw (by simp[AV.R]) ?_;rintro v t ρ ⟨rfl,rfl⟩ u;simp[go_sem,AV.r,sE];refine Qz e o aq rfl ?_;rintro v t ρ ⟨rfl,rfl⟩ u;simp[go_sem,AV.r];refine ag (oa b) a9 ?_;simp[go_sem];refine aU (Pp:=[]) e D (List.nil_append _).symm aq aw (by simp[AV.R,AV.r]) ?_;rintro v t ρ rfl u;rw[bN];generalize eQ (jX b) G=r';simp only[aK,bP,bO,id];simp[go_sem];exact aG rfl rfl rfl
 ·have S:=True.intro;have k:=lY e B J H q;obtain⟨g,j,i⟩:=eH q;have a:i7 (bB B).2.bud:=by rw[(mU B).bud];exact z
  generalize bB B=p at *;obtain⟨c,A⟩:=p;simp only at k g j i a⊢;have o:=yE F x E.hi E.hs E.ml E.mb U R x.sg E.vf A J H h c K i L j a.1 a.2;obtain⟨_,_,_,l⟩:=yF x.sg h c x.msg A a g;generalize gR x.sg h c x.msg A=p at *;obtain⟨b,G⟩:=p;simp only at o l⊢;simp[go_sem];refine eV (Pp:=[]) e M aq aw (by simp[AV.R]) ?_;rintro v t ρ ⟨rfl,rfl⟩ u;simp[go_sem,AV.r];refine eV (Pp:=[]) e k aq aw (by simp[AV.R]) ?_;rintro v t ρ ⟨rfl,rfl⟩ u;simp[go_sem,AV.r,sE];refine Qz e o aq rfl ?_;rintro v t ρ ⟨rfl,rfl⟩ u
  cases b with
  |true =>
   simp[go_sem,AV.r];rw[bN];exact aG rfl rfl rfl
  |false =>
   simp[go_sem,AV.r];refine aU (Pp:=[]) e (bM e G J H 16) (List.nil_append _).symm aq aw (by simp[AV.R,AV.r]) ?_;rintro v t ρ rfl u;rw[bN];generalize aB 16 G=r';simp only[aK,bP,bO,id];simp[go_sem];exact aG rfl rfl rfl
 ·have S:=True.intro;have Q:=vB e B J H q 4 aq;have g:=oy (most:=4) q;have a:i7 (fD 4 B).2.bud:=by rw[(AH 4 B).bud];exact z
  have m:=JS q;generalize fD 4 B=p at *;obtain⟨n,A⟩:=p;simp only at Q g a m⊢;have k:=lY e A J H g;obtain⟨I,y,w⟩:=eH g;have f:i7 (bB A).2.bud:=by rw[(mU A).bud];exact a
  generalize bB A=p at *;obtain⟨c,N⟩:=p;simp only at k I y w f⊢;have o:=yE F x E.hi E.hs E.ml E.mb U R x.sg E.vf N J H h c K w L y f.1 f.2;obtain⟨_,_,_,l⟩:=yF x.sg h c x.msg N f I;generalize gR x.sg h c x.msg N=p at *;obtain⟨b,G⟩:=p;simp only at o l⊢;have Y:IntKind.i64.wrap (n+1)=n+1:=IntWalk.i64_in _ (by have:=m.1;have:=m.2;omega);simp[go_sem];refine eV (Pp:=[]) e M aq aw (by simp[AV.R]) ?_;rintro v t ρ ⟨rfl,rfl⟩ u;simp[go_sem,AV.r];refine eV (Pp:=[]) e Q aq aw (by simp[AV.R,AV.r]) ?_;rintro v t ρ ⟨rfl,rfl⟩ u;simp[go_sem,AV.r];refine eV (Pp:=[]) e k aq aw (by simp[AV.R]) ?_;rintro v t ρ ⟨rfl,rfl⟩ u;simp[go_sem,AV.r,sE];refine Qz e o aq rfl ?_;rintro v t ρ ⟨rfl,rfl⟩ u
  cases b with
  |true =>
   have D:=rL e G J H l (dk (n+1)) (by have:=iH (n+1);omega);simp[go_sem,AV.r,Y];refine ag (mO (n+1) (by have:=m.1;omega) (by have:=m.2;omega)) a9 ?_;simp[go_sem];refine aU (Pp:=[]) e D (List.nil_append _).symm aq aw (by simp[AV.R,AV.r]) ?_;rintro v t ρ rfl u;rw[bN];generalize eQ (dk (n+1)) G=r';simp only[aK,bP,bO,id];simp[go_sem];exact aG rfl rfl rfl
  |false =>
   have D:=rL e G J H l (dk (n)) (by have:=iH (n);omega);simp[go_sem,AV.r];refine ag (mO (n) (by have:=m.1;omega) (by have:=m.2;omega)) a9 ?_;simp[go_sem];refine aU (Pp:=[]) e D (List.nil_append _).symm aq aw (by simp[AV.R,AV.r]) ?_;rintro v t ρ rfl u;rw[bN];generalize eQ (dk (n)) G=r';simp only[aK,bP,bO,id];simp[go_sem];exact aG rfl rfl rfl
 ·have S:=True.intro;have P:=lY e B J H q;obtain⟨g,j,i⟩:=eH q;have a:i7 (bB B).2.bud:=by rw[(mU B).bud];exact z
  generalize bB B=p at *;obtain⟨C,A⟩:=p;simp only at P g j i a⊢;have k:=lY e A J H g;obtain⟨I,y,w⟩:=eH g;have f:i7 (bB A).2.bud:=by rw[(mU A).bud];exact a
  generalize bB A=p at *;obtain⟨c,N⟩:=p;simp only at k I y w f⊢;have o:=Qy e C i j x.sg E.vf N J H h c K w L y f.1 f.2;obtain⟨_,_,_,l⟩:=yF x.sg h c C N f I;generalize gR x.sg h c C N=p at *;obtain⟨b,G⟩:=p;simp only at o l⊢;have D:=rL e G J H l (jX b) (by cases b<;>simp[jX]);simp[go_sem];refine eV (Pp:=[]) e M aq aw (by simp[AV.R]) ?_;rintro v t ρ ⟨rfl,rfl⟩ u;simp[go_sem,AV.r];refine eV (Pp:=[]) e P aq aw (by simp[AV.R]) ?_;rintro v t ρ ⟨rfl,rfl⟩ u;simp[go_sem,AV.r];refine aU (Pp:=[(452,⟨31,1,[[.d (nb C)]]⟩)]) e k rfl aq (by intro p W;simp at W;subst W;simp) (by simp[AV.R]) ?_;rintro v t ρ ⟨rfl,rfl⟩ u;simp[go_sem,AV.r,aaO]
  refine WH e [452] [] (s:=⟨N,J,H⟩) (ars2:=[.d (nb h),.d (nb c),.fn 228 [.rop [nb C]]]) o aq (tw rfl rfl rfl) rfl
   (tA (.inl rfl) (tA (.inl rfl) (tA (.inr (.fnp (b:=⟨31,1,[[.d (nb C)]]⟩) aw rfl rfl rfl (lp [nb C]))) JO))) aw (fun ρ=>rfl) ?_
  rintro v t ρ ⟨rfl,rfl⟩ u;simp[go_sem,AV.r];refine ag (oa b) a9 ?_;simp[go_sem];refine aU (Pp:=[]) e D (List.nil_append _).symm aq aw (by simp[AV.R,AV.r]) ?_;rintro v t ρ rfl u;rw[bN];generalize eQ (jX b) G=r';simp only[aK,bP,bO,id];simp[go_sem];exact aG rfl rfl rfl
theorem mh:∀(j:Nat)(r:Rn),dp (j+1) r=((bB (dp j r).2).1::(dp j r).1,(bB (dp j r).2).2)
 |0,r=>rfl
 |j+1,r=>by
  have h:=mh j (bB r).2;rw[dp,h];rfl
theorem qD:∀(j:Nat)(r:Rn),(dp j r).1.length=j
 |0,r=>rfl
 |j+1,r=>by rw[mh,List.length_cons,qD j r]
theorem yG{r:Rn}(h:StOk r.main r.alt):∀j,StOk (dp j r).2.main (dp j r).2.alt∧∀x,x∈(dp j r).1→x.length≤1000∧bytes x
 |0=>⟨h,fun x a=>by cases a⟩
 |j+1=>by
  obtain⟨f,c⟩:=yG h j;obtain⟨b,d,e⟩:=eH f;rw[mh];refine⟨b,fun x a=>?_⟩;rcases d_.1 a with rfl|a;exact⟨d,e⟩;exact c x a
theorem JU:∀(j:Nat)(r:Rn),RnL r (dp j r).2
 |0,r=>⟨rfl,rfl,rfl⟩
 |j+1,r=>by rw[mh];exact(JU j r).trans (mU _)
def C2(k:Nat)(l:List bm):List (List AV):=List.replicate k [AV.nil]++l.map qh
theorem Vb(k:Nat)(x:bm)(l:List bm):(C2 (k+1) l).set k [.d (nb x)]=C2 k (x::l):=by
 unfold C2;rw[List.set_append_left _ _ aw];rw[List.replicate_succ',List.set_append_right _ _ aw];simp[qh]
theorem Vd(l:List bm):C2 0 l=dy l []:=by simp[C2,dy]
theorem QA{C:List AV}(b:jQ C)(r:Rn)(J:List Bool)(H:Nat)(U:StOk r.main r.alt)(n:Int)(Z:-2147483648<n)(aa:n<2147483648) :
  cZ prog 232 3 (jD 3 (aK C) ⟨r,J,H⟩ id) [.ptr 0 0 0 1,.d (.int .i64 n)] (fun v a=>vS 3 (aK C) ⟨(jL n r).2,J,H⟩ id a ∧
   ((v=.nil∧(jL n r).2.e≠0)∨(v=.own 548 0 (jL n r).1.length (jL n r).1.length∧lk 548 a=some ⟨31,1,dy (jL n r).1 []⟩))):=by
 refine ap func232 (by kernel_rfl) rfl ntmps232 (rs:=[.tmp 4]) rfl (dN rfl) (by decide) ?_;have Q:=b.2.2;by_cases o:n<0∨(r.main.length:Int)<n
 ·have f:jL n r=([],aB 12 r):=by
   unfold jL;rw[if_pos o];exact if_neg (Cj aq)
  have w:(aB 12 r).e≠0:=Cj aq;have R:=bM b r J H 12;rw[f];generalize aB 12 r=r2 at *;rw[bN];simp only[aK,bP,bO,id];have T:True:=trivial;by_cases c:n<0
  ·simp[go_sem,c];refine aU (Pp:=[]) (s:=⟨r,J,H⟩) b R (by simp[bN,aK,bP,bO]) aq aw (by simp[AV.R,AV.r]) ?_;rintro v t ρ rfl u;simp[go_sem];refine eV (Pp:=[]) b (fM b r2 J H) aq aw (by simp[AV.R]) ?_;rintro v t ρ ⟨rfl,rfl⟩ u;simp[go_sem,AV.r,w,ah];rw[bN];exact aG rfl rfl rfl
  ·have g:(r.main.length:Int)<n:=o.resolve_left c;simp[go_sem,Q,c,g];refine aU (Pp:=[]) (s:=⟨r,J,H⟩) b R (by simp[bN,aK,bP,bO]) aq aw (by simp[AV.R,AV.r]) ?_;rintro v t ρ rfl u;simp[go_sem];refine eV (Pp:=[]) b (fM b r2 J H) aq aw (by simp[AV.R]) ?_;rintro v t ρ ⟨rfl,rfl⟩ u;simp[go_sem,AV.r,w,ah];rw[bN];exact aG rfl rfl rfl
 ·have c:¬n<0:=fun h=>o (.inl h);have g:¬(r.main.length:Int)<n:=fun h=>o (.inr h);obtain⟨m,rfl⟩:∃m:Nat,n=(m:Int):=⟨n.toNat,aq⟩;have hm:m≤1000:=by have:=U.m;omega
  have ab:¬r.main.length<m:=aq;rw[bN];simp only[aK,bP,bO,id];simp[go_sem,Q,c,g];refine aU (Pp:=[]) (s:=⟨r,J,H⟩) b (fM b r J H) (by simp[bN,aK,bP,bO]) aq aw (by simp[AV.R]) ?_;rintro v t ρ ⟨rfl,rfl⟩ u;by_cases F:r.e=0
  ·have f:jL (m:Int) r=dp m r:=by
    unfold jL;rw[if_neg o];exact if_pos F
   rw[f];have W:IntKind.i64.wrap ((m:Int)-1)=(m:Int)-1:=IntWalk.i64_in _ aq;simp[go_sem,AV.r,F,W];refine⟨aq,aq,aq,?_⟩
   have O:∀k l,∀q,q∈C2 k l→∀v,v∈q→v.l 9000:=by
    intro k l q L v f;rcases cD.1 L with h|h;rw[List.eq_of_mem_replicate h]at f;simp only[d_,List.mem_nil_iff,or_false]at f;subst f;trivial;obtain⟨x,_,rfl⟩:=List.mem_map.1 h;simp only[qh,d_,List.mem_nil_iff,or_false]at f;subst f;trivial
   have B:∀(E:Fr)(i:Hp)(S j:Nat),(fv 0 E=.ptr 0 0 0 1∧fv 5 E=.own 548 0 m m∧fv 6 E=.d (.int .i64 ((m:Int)-1-(j:Int))))→lk 548 i=some ⟨31,1,C2 (m-j) (dp j r).1⟩→(∀p,p∈jD 3 (aK C) ⟨(dp j r).2,J,H⟩ id→lk p.1 i=some p.2) →
     aA ⟨E,i,S⟩ ⟨[(0,.ptr 0 0 0 1),(5,.own 548 0 m m),(6,.d (.int .i64 ((m:Int)-1-(j:Int))))],(548,⟨31,1,C2 (m-j) (dp j r).1⟩)::jD 3 (aK C) ⟨(dp j r).2,J,H⟩ id,9000⟩:=by
    rintro E i S j⟨q0,q1,q2⟩h1 h2;refine⟨?_,fun p a=>?_,.inr (by show 64≤9000;omega)⟩;intro p a;simp only[d_,List.mem_nil_iff,or_false]at a;rcases a with rfl|rfl|rfl;exact⟨.inl q0.symm,by simp[AV.low,AV.l]⟩;exact⟨.inl q1.symm,by simp[AV.low,AV.l]⟩;exact⟨.inl q2.symm,by simp[AV.low,AV.l]⟩;rcases d_.1 a with rfl|a;exact⟨.inl h1,by show 548<9000;omega,O _ _⟩;exact rnW b (dN rfl) h2 p a
   refine av (fun j:Nat=>⟨[(0,.ptr 0 0 0 1),(5,.own 548 0 m m),(6,.d (.int .i64 ((m:Int)-1-(j:Int))))],(548,⟨31,1,C2 (m-j) (dp j r).1⟩)::jD 3 (aK C) ⟨(dp j r).2,J,H⟩ id,9000⟩)
    (fun j=>j≤m) (fun j=>m-j) 0 aq (B _ _ _ 0 (by simp[fv,lk]) (by simp[lk,C2,dp]) (tw rfl rfl rfl)) ?_
   intro j hj;by_cases G:j=m
   ·subst G;have c0:¬(0:Int)≤(j:Int)-1-(j:Int):=aq;have c1:((j:Int)-1-(j:Int))<0:=aq;simp[go_sem,ah];refine⟨fun h=>aq,fun _=>⟨?_,(qD _ _).symm,Vd _⟩⟩;rw[bN];exact aG rfl rfl rfl
   ·have V:j<m:=aq;have Y:(m:Int)-1-(j:Int)=((m-(j+1):Nat):Int):=aq;obtain⟨N,X⟩:=yG U j;have D:=mh j r;have A:(C2 (m-j) (dp j r).1).length=m:=by simp[C2,qD];omega
    have z:(C2 (m-j) (dp j r).1).set (m-(j+1)) [.d (nb (bB (dp j r).2).1)]=C2 (m-(j+1)) (dp (j+1) r).1:=by
     rw[D,show m-j=(m-(j+1))+1 by omega];exact Vb _ _ _
    have K:(C2 (m-j) (dp j r).1)[m-(j+1)]?=some [.nil]:=by
     unfold C2;rw[List.getElem?_append_left (by simp;omega),List.getElem?_replicate,if_pos aq]
    have P:∀h:m-(j+1)<(C2 (m-j) (dp j r).1).length,(C2 (m-j) (dp j r).1)[m-(j+1)]=[.nil]:=fun h=>Option.some.inj ((cm h).symm.trans K);have M:=lY b (dp j r).2 J H N;have w2:IntKind.i64.wrap (((m-(j+1):Nat):Int)-1)=(m:Int)-1-((j+1:Nat):Int):=by rw[IntWalk.i64_in _ aq];omega
    have I:m-(j+1)<m:=aq;have y:((m-(j+1):Nat):Int)<(m:Int):=aq;rw[Y];generalize L:m-(j+1)=q at *;simp[go_sem];refine aU (Pp:=[(548,⟨31,1,C2 (m-j) (dp j r).1⟩)]) b M rfl aq (by intro p i;simp at i;subst i;simp) (by simp[AV.R]) ?_;rintro v t ρ ⟨rfl,rfl⟩ u;simp[go_sem,AV.r,A,I,y,w2,P,z];refine ao (j+1) aq aq (B _ _ _ (j+1) (by simp[fv,lk]) ?_ ?_)
    rw[L];simp[lk];rw[D];exact tw rfl rfl rfl
  ·have f:jL (m:Int) r=([],r):=by
    unfold jL;rw[if_neg o];exact if_neg F
   rw[f];simp[go_sem,AV.r,F,ah];rw[bN];exact aG rfl rfl rfl
theorem Zr{C:List AV}(v:jQ C)(r:Rn)(J:List Bool)(H:Nat)(F:StOk r.main r.alt)(n:Int)(p:-2147483648<n)(q:n<2147483648){N:Nat}{K:AV→Hp→Prop}(M:3≤N)
  (G:(jL n r).2.e≠0→K .nil (jD 3 (aK C) ⟨(jL n r).2,J,H⟩ id))
  (k:K (.own N 0 (jL n r).1.length (jL n r).1.length) ((N,⟨31,1,dy (jL n r).1 []⟩)::jD 3 (aK C) ⟨(jL n r).2,J,H⟩ id)):uX prog 232 [.ptr 0 0 0 1,.d (.int .i64 n)] (jD 3 (aK C) ⟨r,J,H⟩ id) N K:=by
 have l:=uH v;have o:∀j,j<3→cn (lR 3 id id) 3 (id j)=j:=fun j a=>wG id 3 (a8 3) a;have f:de (lR 3 id id) [(548,0)]=true:=G4 aq;have g:Ar 3 id [(548,0)] N 548=N:=BR (c:=548) (j:=0) f aw;refine .inl (qf (n:=3) (b0:=aK C ⟨r,J,H⟩ id) id (QA v r J H F n p q) (fun i x E=>I3 i x E) (a8 3) (fun j a=>by show j<N;omega)
  (fun j a=>⟨_,BP _ (a8 3) a,l.2 _ _ _ a,(l.1 _ id _ id j a o).symm⟩) ?_ [(548,0)] f ?_)
 rw[AV.R,AV.R,AV.R,AV.r];rfl;rintro L y⟨s,z⟩m D A O;have t:∀j,j<3→Ar 3 id [(548,0)] N (id j)=id j:=fun j a=>BQ f a;have w:∀i b,lk i (jD 3 (aK C) ⟨(jL n r).2,J,H⟩ id)=some b→lk i m=some b:=by
  intro i b h;obtain⟨j,a,e⟩:=nX.1 (bR h);cases e;have k:=D j a _ (s j a);rw[l.1 _ id _ id j a t]at k;exact k
 rcases z with ⟨rfl,I⟩|⟨rfl,B⟩;exact⟨_,w,G I⟩;refine⟨_,fun i b h=>?_,by rw[AV.r,g];exact k⟩;simp only[lk]at h;split at h;rename_i e;subst e;cases h;have u:=A 548 0 aw _ B;have e:Blk.r (Ar 3 id [(548,0)] N) ⟨31,1,dy (jL n r).1 []⟩=⟨31,1,dy (jL n r).1 []⟩:=by
  simp only[Blk.r,mA]
 rw[e]at u;exact u;exact w i b h
theorem acG{b:bm}{n:Int}(c:bytes b)(h:gK 8 b=some n):-9223372036854775808≤n∧n<9223372036854775808:=by
 unfold gK at h;split at h;rename_i j;obtain rfl:=Option.some.inj h;have g:b.length≤8:=aq;rcases eF b with rfl|⟨a,x,rfl⟩;decide;have i:x<256:=c x aw;have d:=uA (b:=a) (fun y f=>c y (List.mem_append_left _ f));simp at g;rw[jf];have hc:a.length=0∨a.length=1∨a.length=2∨a.length=3∨a.length=4∨a.length=5∨a.length=6∨a.length=7:=aq;rcases hc with e|e|e|e|e|e|e|e<;>rw[e]at d⊢<;>simp at d⊢<;>split<;>omega;cases h
theorem QB{r:Rn}(h:StOk r.main r.alt):-9223372036854775808≤(fD 8 r).1∧(fD 8 r).1<9223372036854775808:=by
 obtain⟨_,_,a⟩:=eH h;unfold fD;generalize bB r=p at *;simp only;split;cases b:gK 8 p.1 with
 |none=>simp only;omega
 |some n=>exact acG a b
 ·simp only;omega
theorem QC{most:Nat}{r:Rn}(h:r.e≠0):fD most r=(0,r):=by
 have a:bB r=([],r):=if_neg h;unfold fD;rw[a];exact if_neg h
theorem QD{r:Rn}(h:StOk r.main r.alt)(n:Int):StOk (jL n r).2.main (jL n r).2.alt∧(∀x,x∈(jL n r).1→x.length≤1000∧bytes x)∧(jL n r).1.length≤1000∧RnL r (jL n r).2:=by
 unfold jL;simp only;split;rename_i b;split;rename_i c;exact absurd c (Cj aq);exact⟨iM h,fun x a=>(by cases a),aw,pD _ _⟩;rename_i b;split;obtain⟨e,d⟩:=yG h n.toNat
 exact⟨e,d,by rw[qD];have:=h.m;omega,JU _ _⟩;exact⟨h,fun x a=>(by cases a),aw,⟨rfl,rfl,rfl⟩⟩
theorem HV{l:List bm}{b:bm}(h:(rp l b).2=0):(rp l b).1.length≤1000:=by
 unfold rp at h⊢;cases a:sQ [] l with
 |none=>rw[a]at h;simp at h
 |some out =>
  rw[a]at h;simp only at h⊢;split at h;simp at h;rename_i c;rw[if_neg c];simp only;omega
theorem Ve(F:RnF)(x:Rx)(E:RnE F x)(r:Rn)(J:List Bool)(W:StOk r.main r.alt)(hc:r.cl.length≤100000) :
  dB prog 3 (aK (jk F)) 202 ⟨r,J,0⟩ [.ptr 0 0 0 1] (fun v c=>c=⟨Ho x r,J,0⟩):=by
 refine ap func202 (by kernel_rfl) rfl ntmps202 (rs:=[]) rfl (dN rfl) (by decide) ?_;have a:=fC (F:=F) E.hi;have hl:=a.2.2;unfold Ho;have h1:=vB a r J 0 W 4 aq;have Y:=oy (most:=4) W;have D:=JS W;have l1:=AH 4 r;generalize fD 4 r=p1 at *;obtain⟨n,X⟩:=p1;simp only at h1 Y D l1⊢;have h2:=lY a X J 0 Y;obtain⟨k2,b1,b2⟩:=eH Y;have l2:=mU X;generalize bB X=p2 at *;obtain⟨b,r2⟩:=p2;simp only at h2 k2 b1 b2 l2⊢;obtain⟨k3,z,t2,Z⟩:=QD k2 n;have h3:=fun{N:Nat}{K:AV→Hp→Prop}(hN:3≤N)=>Zr a r2 J 0 k2 n D.1 D.2 (K:=K) hN;generalize jL n r2=p3 at *;obtain⟨l,g⟩:=p3;simp only at h3 k3 z t2 Z⊢;simp[go_sem];refine eV (Pp:=[]) a h1 aq aw (by simp[AV.R,AV.r]) ?_;rintro v c ρ ⟨rfl,rfl⟩ f;simp[go_sem,AV.r];refine eV (Pp:=[]) a h2 aq aw (by simp[AV.R]) ?_;rintro v c ρ ⟨rfl,rfl⟩ f;simp[go_sem,AV.r];refine h3 aq (fun h=>?_) ?_
 ·have e1:fD 4 g=(0,g):=QC h;have e2:fD 8 g=(0,g):=QC h;have P:=vB a g J 0 k3 4 aq;have m2:=vB a g J 0 k3 8 aq;rw[e1]at P;rw[e2]at m2;simp only[e1,e2];rw[if_neg h];simp[go_sem];refine aU (Pp:=[]) a P (List.nil_append _).symm aq aw (by simp[AV.R,AV.r]) ?_;rintro v c ρ ⟨rfl,rfl⟩ f;simp[go_sem,AV.r];refine aU (Pp:=[]) a P (List.nil_append _).symm aq aw (by simp[AV.R,AV.r]) ?_;rintro v c ρ ⟨rfl,rfl⟩ f;simp[go_sem,AV.r];refine aU (Pp:=[]) a m2 (List.nil_append _).symm aq aw (by simp[AV.R,AV.r]) ?_;rintro v c ρ ⟨rfl,rfl⟩ f;simp[go_sem,AV.r];refine aU (Pp:=[]) a (fM a g J 0) (List.nil_append _).symm aq aw (by simp[AV.R]) ?_;rintro v c ρ ⟨rfl,rfl⟩ f;simp[go_sem,AV.r,h];rw[bN];exact aG rfl rfl rfl
 ·have h4:=vB a g J 0 k3 4 aq;have k4:=oy (most:=4) k3;have l4:=AH 4 g;generalize fD 4 g=p4 at *;obtain⟨o,Q⟩:=p4;simp only at h4 k4 l4⊢;have h5:=vB a Q J 0 k4 4 aq;have k5:=oy (most:=4) k4;have l5:=AH 4 Q;generalize fD 4 Q=p5 at *;obtain⟨t,L⟩:=p5;simp only at h5 k5 l5⊢;have h6:=vB a L J 0 k5 8 aq;have k6:=oy (most:=8) k5;have l6:=AH 8 L;have I:=QB k5;generalize fD 8 L=p6 at *;obtain⟨bk,i⟩:=p6;simp only at h6 k6 l6 I⊢;have U:i.cl.length≤100000:=by rw[l6.cl,l5.cl,l4.cl,Z.cl,l2.cl,l1.cl];exact hc
  have j:∀(N:Nat),261≤N→∀p,p∈[((260:Nat),(⟨31,1,dy l []⟩:Blk))]→p.1<N∧3≤p.1:=by
   intro N hN p hp;simp at hp;subst hp;exact⟨by show 260<N;omega,by show 3≤260;omega⟩
  simp[go_sem];refine aU (Pp:=[(260,⟨31,1,dy l []⟩)]) a h4 rfl aq (j _ aq) (by simp[AV.R,AV.r]) ?_;rintro v c ρ ⟨rfl,rfl⟩ f;simp[go_sem,AV.r];refine aU (Pp:=[(260,⟨31,1,dy l []⟩)]) a h5 rfl aq (j _ aq) (by simp[AV.R,AV.r]) ?_;rintro v c ρ ⟨rfl,rfl⟩ f;simp[go_sem,AV.r];refine aU (Pp:=[(260,⟨31,1,dy l []⟩)]) a h6 rfl aq (j _ aq) (by simp[AV.R,AV.r]) ?_;rintro v c ρ ⟨rfl,rfl⟩ f;simp[go_sem,AV.r];refine aU (Pp:=[(260,⟨31,1,dy l []⟩)]) a (fM a i J 0) rfl aq (j _ aq) (by simp[AV.R]) ?_;rintro v c ρ ⟨rfl,rfl⟩ f;by_cases h:i.e=0
  ·rw[if_pos h];have V:=xI l b t2 (fun y m=>⟨by have:=(z y m).1;omega,(z y m).2⟩) aq;have A:=GV (things:=l) b2 (fun y m=>⟨by have:=(z y m).1;omega,(z y m).2⟩);have B:=@HV l b;simp[go_sem,AV.r,h];refine bJ [260] V rfl (ak (.one (am (jI (J:=[]) rfl aw))) (ak (.deep trivial) aF)) ?_;have R:aC [260] ((260,(⟨31,1,dy l []⟩:Blk))::jD 3 (aK (jk F)) ⟨i,J,0⟩ id)=jD 3 (aK (jk F)) ⟨i,J,0⟩ id:=rfl;rw[R];generalize rp l b=u at *;obtain⟨s,M⟩:=u;simp only at A B⊢;by_cases H:M=0
   ·subst H;obtain⟨S,T⟩:=E.tr s o t bk A (by have:=B rfl;omega) I.1 I.2;generalize x.trg s o t bk=q at *;obtain⟨cs,ce⟩:=q;simp only at S T⊢;simp only[if_true];have C:=JJ a i J k6 cs ce U aq;simp only[eS,cE]at S;rw[bN];simp only[aK,bP,bO,id,jk,eS];simp[go_sem];refine cK [0,1,2,3,4,5,6,7,8,9,10,11,12,13] [(14,[15,16]),(17,[])] 1 (k:=18) ?_;intro G hG;have w:(au F.inner (AV.d (cz F.path)) (AV.d (nb F.script))).length=34:=(by simp[au,aj,E.hi])
    have O:∀l:List AV,List.take 34 (au F.inner (AV.d (cz F.path)) (AV.d (nb F.script))++l)=au F.inner (AV.d (cz F.path)) (AV.d (nb F.script)):=fun l=>by rw[←w,List.take_left]
    simp[go_sem,w,O];refine ag S (by intro v hv;simp at hv;rcases hv with rfl|rfl|rfl|rfl|rfl;simp[AV.deep,AV.deep1];exact cY F.inner F.path F.script _ (List.mem_singleton.2 rfl);trivial;simp[AV.deep,AV.deep1];trivial) ?_;simp[go_sem];refine aU (Pp:=[]) (s:=⟨i,J,0⟩) a C (by simp[bN,aK,bP,bO,jk,eS]) aq aw (by simp[AV.R,AV.r]) ?_;rintro v c ρ rfl f;simp[go_sem];refine hG _ _ ?_;clear hG G;simp[go_sem];rw[bN];exact aG (by simp[lk,aK,bP,bO,jk,eS]) rfl rfl
   ·rw[if_neg H];simp[go_sem,H];refine aU (Pp:=[]) a (bM a i J 0 M) (List.nil_append _).symm aq aw (by simp[AV.R,AV.r]) ?_;rintro v c ρ rfl f;rw[bN];generalize aB M i=r';simp only[aK,bP,bO,id];simp[go_sem];exact aG rfl rfl rfl
  ·rw[if_neg h];simp[go_sem,AV.r,h];rw[bN];exact aG rfl rfl rfl
theorem Vf(F:RnF)(x:Rx)(E:RnE F x)(b:Nat)(h8:b<256)(r:Rn)(J:List Bool)(f:StOk r.main r.alt)(hc:r.cl.length≤100000)(j:i7 r.bud) :
  dB prog 3 (aK (jk F)) 172 ⟨r,J,0⟩ [.ptr 0 0 0 1,.d (.int .u8 (b:Int))] (fun v g=>g=⟨yl x b r,J,0⟩):=by
 refine ap func172 (by kernel_rfl) rfl ntmps172 (rs:=[]) rfl (dN rfl) (by decide) ?_;have e:=fC (F:=F) E.hi;have U:=e.2.2;obtain⟨i,T,H,A⟩:=E.sq;obtain⟨te,S⟩:=E.tg;by_cases k:b=106
 ·subst k;have c:yl x 106 r=aB 17 r:=rfl;rw[c];simp[go_sem];refine aU (Pp:=[]) e (bM e r J 0 17) (List.nil_append _).symm aq aw (by simp[AV.R,AV.r]) ?_;rintro v g ρ rfl h;rw[bN];generalize aB 17 r=r';simp only[aK,bP,bO,id];simp[go_sem];exact aG rfl rfl rfl
 by_cases Q:b=172
 ·subst Q;have c:yl x 172 r=uF x 172 r:=rfl;rw[c];simp[go_sem];refine aU (Pp:=[]) e (wQ F x E 172 aq r J 0 f j) (List.nil_append _).symm aq aw (by simp[AV.R,AV.r]) ?_;rintro v g ρ rfl h;rw[bN];generalize uF x 172 r=r';simp only[aK,bP,bO,id];simp[go_sem];exact aG rfl rfl rfl
 by_cases D:b=173
 ·subst D;have c:yl x 173 r=uF x 173 r:=rfl;rw[c];simp[go_sem];refine aU (Pp:=[]) e (wQ F x E 173 aq r J 0 f j) (List.nil_append _).symm aq aw (by simp[AV.R,AV.r]) ?_;rintro v g ρ rfl h;rw[bN];generalize uF x 173 r=r';simp only[aK,bP,bO,id];simp[go_sem];exact aG rfl rfl rfl
 by_cases G:b=186
 ·subst G;have c:yl x 186 r=uF x 186 r:=rfl;rw[c];simp[go_sem];refine aU (Pp:=[]) e (wQ F x E 186 aq r J 0 f j) (List.nil_append _).symm aq aw (by simp[AV.R,AV.r]) ?_;rintro v g ρ rfl h;rw[bN];generalize uF x 186 r=r';simp only[aK,bP,bO,id];simp[go_sem];exact aG rfl rfl rfl
 by_cases B:b=204
 ·subst B;have c:yl x 204 r=uF x 204 r:=rfl;rw[c];simp[go_sem];refine aU (Pp:=[]) e (wQ F x E 204 aq r J 0 f j) (List.nil_append _).symm aq aw (by simp[AV.R,AV.r]) ?_;rintro v g ρ rfl h;rw[bN];generalize uF x 204 r=r';simp only[aK,bP,bO,id];simp[go_sem];exact aG rfl rfl rfl
 by_cases n:b=177
 ·subst n;have c:yl x 177 r=yk x r:=rfl;rw[c];simp[go_sem];refine aU (Pp:=[]) e (Qs F x E.hi i T H E.lk.1 E.lk.2 A r J 0 f) (List.nil_append _).symm aq aw (by simp[AV.R]) ?_;rintro v g ρ rfl h;rw[bN];generalize yk x r=r';simp only[aK,bP,bO,id];simp[go_sem];exact aG rfl rfl rfl
 by_cases o:b=178
 ·subst o;have c:yl x 178 r=Ce x r:=rfl;rw[c];simp[go_sem];refine aU (Pp:=[]) e (U7 F x E.hi i T H E.vr.1 E.vr.2 A r J 0 f) (List.nil_append _).symm aq aw (by simp[AV.R]) ?_;rintro v g ρ rfl h;rw[bN];generalize Ce x r=r';simp only[aK,bP,bO,id];simp[go_sem];exact aG rfl rfl rfl
 by_cases q:b=179
 ·subst q;have c:yl x 179 r=Cf x r:=rfl;rw[c];simp[go_sem];refine aU (Pp:=[]) e (Zn F x E.hi E.tl E.tb te S r J 0 f) (List.nil_append _).symm aq aw (by simp[AV.R]) ?_;rintro v g ρ rfl h;rw[bN];generalize Cf x r=r';simp only[aK,bP,bO,id];simp[go_sem];exact aG rfl rfl rfl
 by_cases t:b=187
 ·subst t;have c:yl x 187 r=Ho x r:=rfl;rw[c];simp[go_sem];refine aU (Pp:=[]) e (Ve F x E r J f hc) (List.nil_append _).symm aq aw (by simp[AV.R]) ?_;rintro v g ρ rfl h;rw[bN];generalize Ho x r=r';simp only[aK,bP,bO,id];simp[go_sem];exact aG rfl rfl rfl
 by_cases l:b=188
 ·subst l;have c:yl x 188 r=Hn x r:=rfl;rw[c];simp[go_sem];refine aU (Pp:=[]) e (U9 F x E.hi E.rc r J f hc) (List.nil_append _).symm aq aw (by simp[AV.R]) ?_;rintro v g ρ rfl h;rw[bN];generalize Hn x r=r';simp only[aK,bP,bO,id];simp[go_sem];exact aG rfl rfl rfl
 have R:¬(b:Int)=106:=aq;have P:¬(b:Int)=172:=aq;have K:¬(b:Int)=173:=aq;have O:¬(b:Int)=186:=aq;have z:¬(b:Int)=204:=aq;have L:¬(b:Int)=177:=aq;have I:¬(b:Int)=178:=aq;have N:¬(b:Int)=179:=aq;have C:¬(b:Int)=187:=aq;have M:¬(b:Int)=188:=aq;have c:yl x b r={ aB (xZ bc fl b r.main r.alt).2.2 r with main:=(xZ bc fl b r.main r.alt).1,alt:=(xZ bc fl b r.main r.alt).2.1 }:=by
  unfold yl;rw[E.hh.1,E.hh.2,if_neg k,if_neg aq,if_neg n,if_neg o,if_neg q,if_neg t,if_neg l]
 rw[c];have u:=Um b h8 r.main r.alt f.m f.a (fun y w=>by have:=(f.mb y w).1;omega) (fun y w=>by have:=(f.ab y w).1;omega) (fun y w=>(f.mb y w).2);unfold Ds at u
 generalize xZ bc fl b r.main r.alt=d at *;obtain⟨Z,W,V⟩:=d;simp only at u⊢;have hf:=bM e r J 0 V;rw[bN];simp only[aK,bP,bO,id,er]at *;simp[go_sem,R,P,K,O,z,L,I,N,C,M,U];refine ag u (by intro v c;simp at c;rcases c with rfl|rfl;trivial;exact fZ r.main r.alt) ?_;simp[go_sem];refine aU (Pp:=[(964,⟨155,2,[[.d (.ro 1 (Z.map bX)),.d (.ro 1 (W.map bX))]]⟩)]) (s:=⟨r,J,0⟩) e hf (by simp[bN,aK,bP,bO]) aq (by intro p X;simp at X;subst X;simp) (by simp[AV.R,AV.r]) ?_;rintro v g ρ rfl h;rw[bN];generalize aB V r=r';have Y:jq r'=jq { r' with main:=Z,alt:=W }:=rfl;simp only[aK,bP,bO,id];simp[go_sem,U,Hq];exact aG rfl rfl rfl
def WI(l:List bm):Prop:=∀x,x∈l→bytes x
def nD(m:Mc):Prop:=WI m.main∧WI m.alt
theorem C3:bytes []:=fun x a=>(by cases a)
theorem wR{l:List bm}(h:WI l):bytes (l.getLastD []):=by
 rcases l.eq_nil_or_concat with rfl|⟨a,x,rfl⟩;exact C3;rw[List.concat_eq_append]at h⊢;rw[List.getLastD_concat];exact h x aw
theorem C4{l:List bm}(h:WI l)(i:Nat):bytes (l.getD i []):=by
 rw[cR];cases a:l[i]? with
 |none=>exact C3
 |some x=>exact h x (cr a)
theorem yH{m:Mc}(x:Int)(h:nD m):nD (jm x m):=by unfold jm;split<;>exact h
theorem mJ{m:Mc}(n:Nat)(h:nD m):nD (aT n m):=by unfold aT;split;exact yH 12 h;exact h
theorem yI{m:Mc}(h:nD m):nD (dY m).2∧bytes (dY m).1:=by
 unfold dY;split;exact⟨⟨fun x a=>h.1 x ((List.dropLast_sublist _).mem a),h.2⟩,wR h.1⟩;exact⟨mJ 1 h,C3⟩
theorem mV{m:Mc}{l:List bm}(a:WI l)(h:nD m):nD (fj l m):=⟨fun x b=>(cD.1 b).elim (h.1 x) (a x),h.2⟩
theorem JW{m:Mc}(most:Nat)(x:bm)(h:nD m):nD (gP most x m).2:=by
 unfold gP;split;cases gK most x with
 |none=>exact yH 15 h
 |some n=>exact h
 ·exact h
theorem C5{m:Mc}(k:Nat)(put:List Nat)(h:nD m):nD (c7 k put m):=by
 unfold c7;split;refine⟨fun x b=>?_,h.2⟩;rcases cD.1 b with q|q;exact h.1 x (List.mem_of_mem_take q);obtain⟨i,_,rfl⟩:=List.mem_map.1 q;exact C4 (fun y a=>h.1 y (List.mem_of_mem_drop a)) i;exact mJ k h
theorem jY{x:bm}(h:bytes x):WI [x]:=fun y a=>by simp at a;subst a;exact h
theorem QE{m:Mc}(h:nD m):nD (nW m):=by
 obtain⟨a,b⟩:=yI h;exact⟨a.1,fun x c=>(cD.1 c).elim (a.2 x) (jY b x)⟩
theorem Vg{m:Mc}(h:nD m):nD (qT m):=by
 unfold qT;split;exact yH 12 h;exact⟨fun x a=>(cD.1 a).elim (h.1 x) (jY (wR h.2) x),fun x a=>h.2 x ((List.dropLast_sublist _).mem a)⟩
theorem C6{m:Mc}(c:Bool)(h:nD m):nD (kT c m):=by unfold kT;split;exact h;exact yH 16 h
theorem JX{m:Mc}(h:nD m):nD (iJ m).2:=by
 unfold iJ;split;exact C5 2 [] h;exact mJ 2 h
theorem Vh{m:Mc}(h:nD m):nD (qU m):=by
 unfold qU;split;exact mV (jY (um (C4 h.1 _) (wR h.1))) (C5 2 [] h);exact mJ 2 h
theorem JY{m:Mc}(f:bm→bm)(a:∀x,bytes (f x))(h:nD m):nD (mz f m):=by
 unfold mz;split;exact mV (jY (a _)) (yI h).1;exact mJ 1 h
theorem JZ{m:Mc}(r:Bool)(h:nD m):nD (kS r m):=by
 have a:=JW 4 (dY m).1 (yI h).1;unfold kS;simp only;split;split;exact yH 12 a;refine mV (jY (C4 a.1 _)) ⟨fun x b=>?_,a.2⟩;cases r;exact a.1 x b;exact a.1 x (List.mem_of_mem_eraseIdx b);exact a
theorem QF:∀(k:Nat)(m:Mc),nD m→nD (oM k m).2
 |0,m,h=>h
 |k+1,m,h=>QF k _ (JW 4 _ (yI h).1)
theorem wS{m:Mc}(n:Nat)(h:nD m):nD (ek n m).2:=by
 unfold ek;split;exact QF n m h;exact mJ n h
theorem yJ(b:Bool):bytes (jX b):=by cases b;exact C3;intro x a;simp[jX]at a;omega
theorem fO{c:Prop}[Decidable c]{x y:Mc}{r:Option Mc}(h:(if c then some x else r)=some y)(b:nD x)(a:r=some y→nD y):nD y:=by
 split at h;cases h;exact b;exact a h
theorem Zs{c:Nat}{m b:Mc}(h:jC c m=some b)(a:nD m):nD b:=by
 unfold jC at h;refine fO h a fun h=>?_;refine fO h (QE a) fun h=>?_;refine fO h (Vg a) fun h=>?_
 iterate 13 refine fO h (C5 _ _ a) fun h=>?_
 cases h
theorem acH{c:Nat}{m b:Mc}(h:yZ bc fl c m=some b)(a:nD m):nD b:=by
 unfold yZ at h;refine fO h (JZ _ a) fun h=>?_;refine fO h (JZ _ a) fun h=>?_;refine fO h (C6 _ (yI a).1) fun h=>?_;refine fO h ?_ fun h=>?_;split;split;exact mV (jY (wR a.1)) a;exact a;exact mJ 1 a;refine fO h (mV (jY (eG _)) a) fun h=>?_;refine fO h (Vh a) fun h=>?_;refine fO h ?_ fun h=>?_;split;exact mV (jY (eG _)) a;exact mJ 1 a;refine fO h (mV (jY (yJ _)) (JX a)) fun h=>?_;refine fO h (C6 _ (JX a)) fun h=>?_;refine fO h (JY _ eE a) fun h=>?_;refine fO h (JY _ (fun _=>eE _) a) fun h=>?_;cases h
theorem Zt{c:Nat}{m b:Mc}(h:qN c m=some b)(a:nD m):nD b:=by
 unfold qN at h;split at h;obtain rfl:=Option.some.inj h;exact mV (jY (yJ _)) (wS 3 a);split at h;obtain rfl:=Option.some.inj h;exact mV (jY (eG _)) (wS 1 a);split at h;cases h;obtain rfl:=Option.some.inj h;simp only;split;exact C6 _ (wS 2 a);exact mV (jY (eG _)) (wS 2 a)
theorem e7{main alt:List bm}(h:gm main alt=0):(∀x,x∈main→x.length≤520)∧(∀x,x∈alt→x.length≤520)∧main.length+alt.length≤100:=by
 unfold gm at h;split at h;rename_i hc;simp only[Bool.and_eq_true,fa,decide_eq_true_eq]at hc;split at h;exact⟨hc.1,hc.2,‹_›⟩;simp at h;simp at h
theorem QG{main alt:List bm}(h:gm main alt=0)(f:WI main)(e:WI alt):StOk main alt:=by
 obtain⟨a,b,c⟩:=e7 h;exact⟨aq,aq,fun x d=>⟨by have:=a x d;omega,f x d⟩,fun x d=>⟨by have:=b x d;omega,e x d⟩⟩
theorem HW:StOk [] []:=⟨aw,aw,fun x a=>(by cases a),fun x a=>(by cases a)⟩
theorem C7{m:Mc}(h:nD m):StOk (dR m).1 (dR m).2.1:=by
 unfold dR;split;split;exact QG ‹_› h.1 h.2;exact HW;exact HW
theorem acI{main alt:List bm}(h:StOk main alt)(a:Nat):StOk (xZ bc fl a main alt).1 (xZ bc fl a main alt).2.1:=by
 have b:nD ⟨main,alt,0⟩:=⟨fun x c=>(h.mb x c).2,fun x c=>(h.ab x c).2⟩;unfold xZ;cases f:jC a ⟨main,alt,0⟩with
 |some m=>exact C7 (Zs f b)
 | none =>
  cases e:yZ bc fl a ⟨main,alt,0⟩with
  |some m=>exact C7 (acH e b)
  |none =>
   cases d:qN a ⟨main,alt,0⟩with
   |some m=>exact C7 (Zt d b)
   |none=>exact HW
structure RnG(r r':Rn):Prop where
 st:StOk r'.main r'.alt
 bd:i7 r'.bud
 br:r'.br=r.br
 cl:r'.cl=r.cl
theorem RnG.trans{a b c:Rn}(h:RnG a b)(d:RnG b c):RnG a c:=⟨d.st,d.bd,d.br.trans h.br,d.cl.trans h.cl⟩
theorem QH{r a:Rn}(h:i7 r.bud)(l:RnL r a)(s:StOk a.main a.alt):RnG r a:=⟨s,by rw[l.bud];exact h,l.br,l.cl⟩
theorem Zu{r:Rn}(h:StOk r.main r.alt)(a:i7 r.bud):RnG r r:=⟨h,a,rfl,rfl⟩
theorem iy{r:Rn}(h:StOk r.main r.alt)(a:i7 r.bud)(x:Int):RnG r (aB x r):=QH a (pD x r) (iM h)
theorem rS{r:Rn}(h:StOk r.main r.alt)(a:i7 r.bud):RnG r (bB r).2:=QH a (mU r) (eH h).1
theorem AI{r:Rn}(h:StOk r.main r.alt)(a:i7 r.bud)(most:Nat):RnG r (fD most r).2:=QH a (AH most r) (oy h)
theorem FC{r:Rn}(h:StOk r.main r.alt)(d:i7 r.bud){b:bm}(a:bytes b):RnG r (eQ b r):=by
 refine QH d (acF b r) ?_;unfold eQ;split;split;exact QG ‹_› (fun x c=>(cD.1 c).elim (fun q=>(h.mb x q).2) (jY a x)) (fun x c=>(h.ab x c).2);exact iM h;exact h
theorem J0{r:Rn}(h:StOk r.main r.alt)(c:i7 r.bud)(sg:bm→bm→bm→Bool)(key a msg:bm):RnG r (gR sg key a msg r).2:=by
 obtain⟨f,d,b,e⟩:=yF sg key a msg r c h;exact⟨e,b,f,d⟩
theorem WJ{r:Rn}(h:StOk r.main r.alt)(a:i7 r.bud):RnG r (nu r).2:=by
 unfold nu;split;exact iy h a 12;exact Zu h a
theorem QI{r:Rn}(h:StOk r.main r.alt)(a:i7 r.bud):RnG r (mF r).2:=by
 have g:=WJ h a;unfold mF;generalize nu r=p at *;simp only;split;cases gK 5 p.1 with
 |none=>exact g.trans (iy g.st g.bd 15)
 |some n =>
  simp only;split;exact g.trans (iy g.st g.bd 22);exact g
 ·exact g
theorem Zv{r:Rn}(h:StOk r.main r.alt)(a:i7 r.bud):RnG r (oJ r).2:=by
 have g:=rS h a;unfold oJ;simp only;split;exact g.trans (iy g.st g.bd 19);exact g
theorem acJ{r:Rn}(h:StOk r.main r.alt)(e:i7 r.bud)(x:Rx)(f:Nat):RnG r (uF x f r):=by
 have c:=rS h e;unfold uF;simp only;generalize bB r=k at *;have b:=rS c.st c.bd;split;generalize bB k.2=s at *;have a:=J0 b.st b.bd x.sg k.1 s.1 x.msg;exact c.trans (b.trans (a.trans (FC a.st a.bd (yJ _))));split;generalize bB k.2=s at *;have a:=J0 b.st b.bd x.sg k.1 s.1 x.msg;split;exact c.trans (b.trans a);exact c.trans (b.trans (a.trans (iy a.st a.bd 16)));split;have b:=AI c.st c.bd 4;generalize fD 4 k.2=n at *;have a:=rS b.st b.bd;generalize bB n.2=s at *;have d:=J0 a.st a.bd x.sg k.1 s.1 x.msg;exact c.trans (b.trans (a.trans (d.trans (FC d.st d.bd (eG _)))));split;generalize bB k.2=m at *;have a:=rS b.st b.bd;generalize bB m.2=s at *;have d:=J0 a.st a.bd x.sg k.1 s.1 m.1;exact c.trans (b.trans (a.trans (d.trans (FC d.st d.bd (yJ _)))));exact c
theorem Zw{r:Rn}(h:StOk r.main r.alt)(a:i7 r.bud)(x:Rx):RnG r (yk x r):=by
 have g:=QI h a;unfold yk;simp only;split;exact g.trans (iy g.st g.bd 22);exact g
theorem acK{r:Rn}(h:StOk r.main r.alt)(a:i7 r.bud)(x:Rx):RnG r (Ce x r):=by
 have g:=QI h a;unfold Ce;simp only;split;exact g;split;exact g.trans (iy g.st g.bd 22);exact g
theorem acL{r:Rn}(h:StOk r.main r.alt)(a:i7 r.bud)(x:Rx):RnG r (Cf x r):=by
 have g:=WJ h a;unfold Cf;simp only;split;exact g;exact g.trans (iy g.st g.bd 23)
structure RnOk(r:Rn)(k:Nat):Prop where
 st:StOk r.main r.alt
 bd:i7 r.bud
 br:r.br.length≤k
 cl:r.cl.length≤2*k
theorem pE{r a:Rn}{k:Nat}(h:RnOk r k)(g:RnG r a):RnOk a k:=⟨g.st,g.bd,by rw[g.br];exact h.br,by rw[g.cl];exact h.cl⟩
theorem nE{r:Rn}{k m:Nat}(h:RnOk r k)(a:k≤m):RnOk r m:=⟨h.st,h.bd,by have:=h.br;omega,by have:=h.cl;omega⟩
theorem QJ{r:Rn}{k:Nat}(h:RnOk r k)(l:List (Int×Int))(b:l.length≤2)(e:Int):RnOk (EX l e r) (k+1):=by
 unfold EX;split;have g:=iy h.st h.bd e;have a:RnG { aB e r with cl:=r.cl++l } (eQ (jX true) { aB e r with cl:=r.cl++l }):=FC (r:={ aB e r with cl:=r.cl++l }) g.st g.bd (yJ true);refine⟨a.st,a.bd,?_,?_⟩;rw[a.br];show(aB e r).br.length≤k+1;rw[g.br];have:=h.br;omega;rw[a.cl];show(r.cl++l).length≤2*(k+1);have:=h.cl;simp;omega;exact nE h aq
theorem Zx{r:Rn}{k:Nat}(h:RnOk r k)(x:Rx):RnOk (Hn x r) (k+1):=by
 have a:=pE h (rS h.st h.bd);unfold Hn;simp only;generalize bB r=p at *;have b:=pE a (AI a.st a.bd 4);split;exact QJ b _ aw _;exact nE b aq
theorem Zy{r:Rn}{k:Nat}(h:RnOk r k)(x:Rx)(i:∀s o0 o1 bk,(x.trg s o0 o1 bk).1.length≤2):RnOk (Ho x r) (k+1):=by
 have f:=pE h (AI h.st h.bd 4);unfold Ho;simp only;generalize fD 4 r=p1 at *;have c:=pE f (rS f.st f.bd);generalize bB p1.2=p2 at *;obtain⟨j,_,_,g⟩:=QD c.st p1.1;have b:=pE c (QH c.bd g j);generalize jL p1.1 p2.2=p3 at *;have d:=pE b (AI b.st b.bd 4);generalize fD 4 p3.2=p4 at *;have e:=pE d (AI d.st d.bd 4);generalize fD 4 p4.2=p5 at *;have a:=pE e (AI e.st e.bd 8);generalize fD 8 p5.2=p6 at *;split;split;exact QJ a _ (i _ _ _ _) _;exact nE (pE a (iy a.st a.bd _)) aq;exact nE a aq
theorem acM{r:Rn}{k:Nat}(h:RnOk r k)(x:Rx)(i:x.h1=bc)(e:x.h2=fl)(f:∀s o0 o1 bk,(x.trg s o0 o1 bk).1.length≤2)(a:Nat):RnOk (yl x a r) (k+1):=by
 have le:∀{c:Rn},RnG r c→RnOk c (k+1):=fun g=>nE (pE h g) aq;unfold yl;rw[i,e];split;exact le (iy h.st h.bd 17);split;exact le (acJ h.st h.bd x a);split;exact le (Zw h.st h.bd x);split;exact le (acK h.st h.bd x);split;exact le (acL h.st h.bd x);split;exact Zy h x f;split;exact Zx h x;have d:=acI h.st a;have b:=pD (xZ bc fl a r.main r.alt).2.2 r;exact le ⟨d,by show i7 (aB _ r).bud;rw[b.bud];exact h.bd,b.br,b.cl⟩
theorem HY{r:Rn}{k:Nat}(h:RnOk r k)(b:Bool):RnOk (ny b r) (k+1):=⟨h.st,h.bd,by have:=h.br;simp[ny];omega,by have:=h.cl;show r.cl.length≤_;omega⟩
theorem QK{r:Rn}{k:Nat}(h:RnOk r k):RnOk (og r).2 k∧((og r).1≠none→(og r).2.br.length+1≤k):=by
 unfold og;split;exact⟨pE h (iy h.st h.bd 18),fun q=>absurd rfl q⟩;rename_i a;have:=h.br;exact⟨⟨h.st,h.bd,by simp;omega,h.cl⟩,fun _=>by simp;omega⟩
theorem Zz{r c:Rn}{k e:Nat}(h:RnOk r k)(a:px e r=some c):RnOk c (k+1):=by
 unfold px at a;split at a;obtain rfl:=Option.some.inj a;split;exact HY (pE h (Zv h.st h.bd)) _;exact HY h false;split at a;obtain rfl:=Option.some.inj a;obtain⟨d,f⟩:=QK h;generalize og r=p at *;obtain⟨o,g⟩:=p;cases o with
 |none=>exact nE d aq
 |some b=>exact HY d _
 ·split at a;obtain rfl:=Option.some.inj a;exact nE (QK h).1 aq;cases a
theorem QL{r:Rn}{k:Nat}(h:RnOk r k)(x:Rx)(i:x.h1=bc)(e:x.h2=fl)(g:∀s o0 o1 bk,(x.trg s o0 o1 bk).1.length≤2)(w:Wd)(d:w.1<256)(c:bytes w.2):RnOk (oh x w r) (k+1):=by
 unfold oh;split;exact nE (pE h (iy h.st h.bd 10)) aq;cases a:px w.1 r with
 |some r'=>exact Zz h a
 | none =>
  simp only;split;exact nE h aq;cases f:ga w with
  |none=>exact acM h x i e g w.1
  |some b =>
   simp only;split;exact nE (pE h (FC h.st h.bd (yn c d f))) aq;exact nE (pE h (iy h.st h.bd 11)) aq
theorem ZA(F:RnF)(x:Rx)(E:RnE F x)(w:Wd)(G:w.1<256)(S:bytes w.2)(U:w.2.length≤50000)(r:Rn)(J:List Bool)(k:Nat)(C:RnOk r k)(Z:k≤10000) :
  dB prog 3 (aK (jk F)) 140 ⟨r,J,0⟩ [.ptr 0 0 0 1,.agg (zp w)] (fun v m=>∃J',m=⟨oh x w r,J',0⟩):=by
 refine ap func140 (by kernel_rfl) rfl ntmps140 (rs:=[]) rfl (dN rfl) (by decide) ?_;have j:=fC (F:=F) E.hi;have A:=j.2.2;have X:=C.br;have aa:=C.cl;have L:=ym w G aq;have R:=Uo w.1 G;have t:=Lx w G S U;have h:=PI j w.1 G r J 0 C.st aq;have y:∀v,v∈[AV.agg (zp w)]→v.deep:=by
  intro v q;simp at q;subst q;exact lV w
 obtain⟨a,c⟩:=w;simp only[zp]at *;have e:∀(N:Nat),5≤N→∀p,p∈[((4:Nat),(⟨42,2,[[.d (.int .u8 (a:Int)),.d (nb c)]]⟩:Blk))]→p.1<N∧3≤p.1:=by
  intro N hN p l;simp at l;subst l;exact⟨by show 4<N;omega,by show 3≤4;omega⟩
 simp[go_sem];refine ag L y ?_;have P:Pz (ga (a,c))=.tup [.d (nb ((ga (a,c)).getD [])),.d (.bool (ga (a,c)).isSome)]:=by cases ga (a,c)<;>rfl
 rw[P];simp[go_sem];refine ag R a9 ?_;by_cases B:(!oO a&&(ga (a,c)).isNone)=true
 ·have q:oh x (a,c) r=aB 10 r:=if_pos B;rw[q];have Q:oO a=false:=by simp at B;exact B.1
  have M:ga (a,c)=none:=by simp at B;exact B.2
  simp[go_sem,Q,M];refine aU (Pp:=[(4,⟨42,2,[[.d (.int .u8 (a:Int)),.d (nb c)]]⟩)]) j (bM j r J 0 10) rfl aq (e _ aq) (by simp[AV.R,AV.r]) ?_;rintro v m ρ rfl n;rw[bN];generalize aB 10 r=r';simp only[aK,bP,bO,id];simp[go_sem];exact⟨_,⟨J,rfl⟩,aG rfl rfl rfl⟩
 ·have D:(oO a=true∧(ga (a,c)).isSome=true)∨(oO a=true∧ga (a,c)=none)∨(oO a=false∧(ga (a,c)).isSome=true):=by
   cases Y:oO a;cases V:ga (a,c);rw[Y,V]at B;simp at B;exact .inr (.inr ⟨rfl,rfl⟩);cases V:ga (a,c);exact .inr (.inl ⟨rfl,rfl⟩);exact .inl ⟨rfl,rfl⟩
  have u:oh x (a,c) r=(match px a r with
    |some r'=>r'
    |none=>if 0<jq r then r else match ga (a,c)with
     |some b=>if vu (a,c)then eQ b r else aB 11 r
     |none=>yl x a r):=if_neg B
  cases T:px a r with
  |some r1 =>
   have q:oh x (a,c) r=r1:=(by rw[u,T]);rw[q];rw[T]at h;rcases D with ⟨i,l⟩|⟨i,l⟩|⟨i,l⟩
   ·simp[go_sem,i,l];refine aU (Pp:=[(4,⟨42,2,[[.d (.int .u8 (a:Int)),.d (nb c)]]⟩)]) j h (by first|rfl|simp[bN,aK,bP,bO]) aq (e _ aq) (by simp[AV.R,AV.r]) ?_;rintro v m ρ ⟨rfl,g,rfl⟩ n;simp[go_sem,AV.r];rw[bN];exact⟨_,⟨g,rfl⟩,aG rfl rfl rfl⟩
   ·simp[go_sem,i,l];refine aU (Pp:=[(4,⟨42,2,[[.d (.int .u8 (a:Int)),.d (nb c)]]⟩)]) j h (by first|rfl|simp[bN,aK,bP,bO]) aq (e _ aq) (by simp[AV.R,AV.r]) ?_;rintro v m ρ ⟨rfl,g,rfl⟩ n;simp[go_sem,AV.r];rw[bN];exact⟨_,⟨g,rfl⟩,aG rfl rfl rfl⟩
   ·simp[go_sem,i,l];refine aU (Pp:=[(4,⟨42,2,[[.d (.int .u8 (a:Int)),.d (nb c)]]⟩)]) j h (by first|rfl|simp[bN,aK,bP,bO]) aq (e _ aq) (by simp[AV.R,AV.r]) ?_;rintro v m ρ ⟨rfl,g,rfl⟩ n;simp[go_sem,AV.r];rw[bN];exact⟨_,⟨g,rfl⟩,aG rfl rfl rfl⟩
  | none =>
   rw[T]at u h;by_cases o:0<jq r
   ·have q:oh x (a,c) r=r:=by rw[u];exact if_pos o
    rw[q];have W:(0:Int)<(jq r:Int):=aq;rcases D with ⟨i,l⟩|⟨i,l⟩|⟨i,l⟩
    ·simp[go_sem,i,l];refine aU (Pp:=[(4,⟨42,2,[[.d (.int .u8 (a:Int)),.d (nb c)]]⟩)]) j h (by first|rfl|simp[bN,aK,bP,bO]) aq (e _ aq) (by simp[AV.R,AV.r]) ?_;rintro v m ρ ⟨rfl,g,rfl⟩ n;rw[bN];simp only[aK,bP,bO,id];simp[go_sem,AV.r,A,o];exact⟨_,⟨g,rfl⟩,aG rfl rfl rfl⟩
    ·simp[go_sem,i,l];refine aU (Pp:=[(4,⟨42,2,[[.d (.int .u8 (a:Int)),.d (nb c)]]⟩)]) j h (by first|rfl|simp[bN,aK,bP,bO]) aq (e _ aq) (by simp[AV.R,AV.r]) ?_;rintro v m ρ ⟨rfl,g,rfl⟩ n;rw[bN];simp only[aK,bP,bO,id];simp[go_sem,AV.r,A,o];exact⟨_,⟨g,rfl⟩,aG rfl rfl rfl⟩
    ·simp[go_sem,i,l];refine aU (Pp:=[(4,⟨42,2,[[.d (.int .u8 (a:Int)),.d (nb c)]]⟩)]) j h (by first|rfl|simp[bN,aK,bP,bO]) aq (e _ aq) (by simp[AV.R,AV.r]) ?_;rintro v m ρ ⟨rfl,g,rfl⟩ n;rw[bN];simp only[aK,bP,bO,id];simp[go_sem,AV.r,A,o];exact⟨_,⟨g,rfl⟩,aG rfl rfl rfl⟩
   ·have f:jq r=0:=aq;have I:oO a=true∨oO a=false:=by cases oO a;exact .inr rfl;exact .inl rfl
    cases z:ga (a,c)with
    |none =>
     have i:oO a=true:=by rcases D with ⟨i,l⟩|⟨i,l⟩|⟨i,l⟩<;>first|exact i|(rw[z]at l;simp at l)
     have q:oh x (a,c) r=yl x a r:=by rw[u,z];exact if_neg o
     rw[q];simp[go_sem,i];refine aU (Pp:=[(4,⟨42,2,[[.d (.int .u8 (a:Int)),.d (nb c)]]⟩)]) j h (by first|rfl|simp[bN,aK,bP,bO]) aq (e _ aq) (by simp[AV.R,AV.r]) ?_;rintro v m ρ ⟨rfl,g,rfl⟩ n;rw[bN];simp only[aK,bP,bO,id];simp[go_sem,AV.r,A,f];refine aU (Pp:=[(4,⟨42,2,[[.d (.int .u8 (a:Int)),.d (nb c)]]⟩)]) (s:=⟨r,g,0⟩) j (Vf F x E a G r g C.st aq C.bd) (by simp[bN,aK,bP,bO,f]) aq (e _ aq) (by simp[AV.R,AV.r]) ?_;rintro v m ρ rfl n;rw[bN];generalize yl x a r=r';simp only[aK,bP,bO,id];simp[go_sem];exact⟨_,⟨g,rfl⟩,aG rfl rfl rfl⟩
    | some b =>
     have H:=Jn z;simp only at H;by_cases K:vu (a,c)=true
     ·have q:oh x (a,c) r=eQ b r:=by rw[u,z];exact(if_neg o).trans (if_pos K)
      rw[q];rw[K]at t;rcases I with i|i
      ·simp[go_sem,i];refine aU (Pp:=[(4,⟨42,2,[[.d (.int .u8 (a:Int)),.d (nb c)]]⟩)]) j h (by first|rfl|simp[bN,aK,bP,bO]) aq (e _ aq) (by simp[AV.R,AV.r]) ?_;rintro v m ρ ⟨rfl,g,rfl⟩ n;rw[bN];simp only[aK,bP,bO,id];simp[go_sem,AV.r,A,f];refine ag t y ?_;simp[go_sem];refine aU (Pp:=[(4,⟨42,2,[[.d (.int .u8 (a:Int)),.d (nb c)]]⟩)]) (s:=⟨r,g,0⟩) j (rL j r g 0 C.st b aq) (by simp[bN,aK,bP,bO,f]) aq (e _ aq) (by simp[AV.R,AV.r]) ?_;rintro v m ρ rfl n;rw[bN];generalize eQ b r=r';simp only[aK,bP,bO,id];simp[go_sem];exact⟨_,⟨g,rfl⟩,aG rfl rfl rfl⟩
      ·simp[go_sem,i];refine aU (Pp:=[(4,⟨42,2,[[.d (.int .u8 (a:Int)),.d (nb c)]]⟩)]) j h (by first|rfl|simp[bN,aK,bP,bO]) aq (e _ aq) (by simp[AV.R,AV.r]) ?_;rintro v m ρ ⟨rfl,g,rfl⟩ n;rw[bN];simp only[aK,bP,bO,id];simp[go_sem,AV.r,A,f];refine ag t y ?_;simp[go_sem];refine aU (Pp:=[(4,⟨42,2,[[.d (.int .u8 (a:Int)),.d (nb c)]]⟩)]) (s:=⟨r,g,0⟩) j (rL j r g 0 C.st b aq) (by simp[bN,aK,bP,bO,f]) aq (e _ aq) (by simp[AV.R,AV.r]) ?_;rintro v m ρ rfl n;rw[bN];generalize eQ b r=r';simp only[aK,bP,bO,id];simp[go_sem];exact⟨_,⟨g,rfl⟩,aG rfl rfl rfl⟩
     ·have O:vu (a,c)=false:=(by simpa using K);have q:oh x (a,c) r=aB 11 r:=by rw[u,z];exact(if_neg o).trans (if_neg K)
      rw[q];rw[O]at t;rcases I with i|i
      ·simp[go_sem,i];refine aU (Pp:=[(4,⟨42,2,[[.d (.int .u8 (a:Int)),.d (nb c)]]⟩)]) j h (by first|rfl|simp[bN,aK,bP,bO]) aq (e _ aq) (by simp[AV.R,AV.r]) ?_;rintro v m ρ ⟨rfl,g,rfl⟩ n;rw[bN];simp only[aK,bP,bO,id];simp[go_sem,AV.r,A,f];refine ag t y ?_;simp[go_sem];refine aU (Pp:=[(4,⟨42,2,[[.d (.int .u8 (a:Int)),.d (nb c)]]⟩)]) (s:=⟨r,g,0⟩) j (bM j r g 0 11) (by simp[bN,aK,bP,bO,f]) aq (e _ aq) (by simp[AV.R,AV.r]) ?_;rintro v m ρ rfl n;rw[bN];generalize aB 11 r=r';simp only[aK,bP,bO,id];simp[go_sem];exact⟨_,⟨g,rfl⟩,aG rfl rfl rfl⟩
      ·simp[go_sem,i];refine aU (Pp:=[(4,⟨42,2,[[.d (.int .u8 (a:Int)),.d (nb c)]]⟩)]) j h (by first|rfl|simp[bN,aK,bP,bO]) aq (e _ aq) (by simp[AV.R,AV.r]) ?_;rintro v m ρ ⟨rfl,g,rfl⟩ n;rw[bN];simp only[aK,bP,bO,id];simp[go_sem,AV.r,A,f];refine ag t y ?_;simp[go_sem];refine aU (Pp:=[(4,⟨42,2,[[.d (.int .u8 (a:Int)),.d (nb c)]]⟩)]) (s:=⟨r,g,0⟩) j (bM j r g 0 11) (by simp[bN,aK,bP,bO,f]) aq (e _ aq) (by simp[AV.R,AV.r]) ?_;rintro v m ρ rfl n;rw[bN];generalize aB 11 r=r';simp only[aK,bP,bO,id];simp[go_sem];exact⟨_,⟨g,rfl⟩,aG rfl rfl rfl⟩
theorem J1{s:bm}{a b:Nat}{w:Wd}(k:bytes s)(l:a<s.length)(h:pv s a=some (w,b)):a<b∧b≤s.length∧w.1<256∧bytes w.2∧w.2.length≤s.length:=by
 obtain⟨d,r,e⟩:∃d r,s.drop a=d::r:=by
  rcases h:s.drop a with _|⟨d,r⟩;have:=congrArg List.length h;simp at this;omega;exact⟨d,r,rfl⟩
 have c:bytes (d::r):=fun x g=>k x (by rw[←e]at g;exact List.mem_of_mem_drop g);have j:a+(r.length+1)=s.length:=by
  have:=congrArg List.length e;simp at this;omega
 unfold pv at h;rw[e]at h;cases f:jK (d::r)with
 |none=>rw[f]at h;cases h
 |some p =>
  obtain⟨n,m⟩:=p;obtain⟨o,u,t⟩:=EY c f;rw[f]at h;simp only[List.length_cons,List.headD_cons]at h;split at h;cases h;rename_i q;simp only[Option.some.injEq,Prod.mk.injEq]at h;obtain⟨rfl,rfl⟩:=h;refine⟨aq,aq,c d aw,fun y i=>c y (List.mem_of_mem_drop (List.mem_of_mem_take i)),?_⟩;simp;omega
theorem Vi(F:RnF)(x:Rx)(E:RnE F x)(A:bytes F.script)(Y:F.script.length≤1000)(R:∀s o0 o1 bk,(x.trg s o0 o1 bk).1.length≤2)(r:Rn)(J:List Bool)(Z:RnOk r 0) :
  dB prog 3 (aK (jk F)) 98 ⟨r,J,0⟩ [.ptr 0 0 0 1] (fun v B=>∃c,B=⟨oP x F.script (F.script.length+1) 0 r,c,0⟩):=by
 refine ap func98 (by kernel_rfl) rfl ntmps98 (rs:=[]) rfl (dN rfl) (by decide) ?_;have n:=fC (F:=F) E.hi;have hl:=n.2.2;have o:∀l:List AV,(jk F++l)[39]?=some (.d (.ro 1 (F.script.map fun(b:Nat)=>[.int .u8 (b:Int)]))):=fun l=>by
  unfold jk au;rw[cA,dn (by simp[eS])];simp only[eS,List.length_cons,List.length_nil,cA];rw[dn (by rw[aj,E.hi];omega),aj,E.hi];rfl
 generalize X:oP x F.script (F.script.length+1) 0 r=W;simp[go_sem]
 have y:∀(C:Fr)(m:Hp)(L a:Nat)(g:Rn)(c:List Bool),(fv 0 C=.ptr 0 0 0 1∧fv 2 C=.d (.int .i64 (a:Int)))→(∀p,p∈jD 3 (aK (jk F)) ⟨g,c,0⟩ id→lk p.1 m=some p.2) →
   aA ⟨C,m,L⟩ ⟨[(0,.ptr 0 0 0 1),(2,.d (.int .i64 (a:Int)))],jD 3 (aK (jk F)) ⟨g,c,0⟩ id,9000⟩:=by
  rintro C m L a g c⟨q0,U⟩V;refine⟨?_,rnW n (dN rfl) V,.inr (by show 64≤9000;omega)⟩;intro p t;simp only[d_,List.mem_nil_iff,or_false]at t;rcases t with rfl|rfl;exact⟨.inl q0.symm,by simp[AV.low,AV.l]⟩;exact⟨.inl U.symm,by simp[AV.low,AV.l]⟩
 refine av (fun u:Nat×Nat×Rn×List Bool=>⟨[(0,.ptr 0 0 0 1),(2,.d (.int .i64 (u.1:Int)))],jD 3 (aK (jk F)) ⟨u.2.2.1,u.2.2.2,0⟩ id,9000⟩)
  (fun u=>u.1≤F.script.length∧F.script.length+1≤u.2.1+u.1∧RnOk u.2.2.1 u.1∧oP x F.script u.2.1 u.1 u.2.2.1=W) (fun u=>F.script.length-u.1) (0,F.script.length+1,r,J) ⟨aq,by show _≤F.script.length+1+0;omega,Z,X⟩
  (y _ _ _ 0 r J (by simp[fv,lk]) (tw rfl rfl rfl)) ?_
 rintro⟨a,f,g,c⟩⟨O,P,G,j⟩;simp only at O P G j;obtain⟨f,rfl⟩:∃T,f=T+1:=⟨f-1,aq⟩;rw[oP]at j;simp only;by_cases k:a<F.script.length
 ·have i:(a:Int)<(F.script.length:Int):=aq;rw[bN];simp only[aK,bP,bO,id];simp[go_sem,i,o];refine aU (Pp:=[]) (s:=⟨g,c,0⟩) n (fM n g c 0) (by simp[bN,aK,bP,bO]) aq aw (by simp[AV.R]) ?_;rintro v B ρ ⟨rfl,rfl⟩ K;by_cases q:g.e=0
  ·rw[if_pos ⟨k,q⟩]at j;have I:=Py F.script a A aq k;rw[bN];simp only[aK,bP,bO,id];simp[go_sem,AV.r,q,o];refine ag I a9 ?_
   cases H:pv F.script a with
   |none =>
    rw[H]at j;subst j;simp[go_sem,Px,zp];refine aU (Pp:=[(9736,⟨42,2,[[.d (.int .u8 0),.d (nb [])]]⟩)]) (s:=⟨g,c,0⟩) n (bM n g c 0 2) (by simp[bN,aK,bP,bO,q]) aq (by intro p m;simp at m;subst m;simp) (by simp[AV.R,AV.r]) ?_;rintro v B ρ rfl K;rw[bN];generalize aB 2 g=r2;simp only[aK,bP,bO,id];simp[go_sem];exact⟨_,⟨c,rfl⟩,aG rfl rfl rfl⟩
   |some p =>
    obtain⟨w,b⟩:=p;rw[H]at j;obtain⟨n1,Q,N,M,n5⟩:=J1 A k H;have z:=ZA F x E w N M aq g c a G aq;have D:=nE (QL G x E.hh.1 E.hh.2 R w N M) (show a+1≤b by omega);simp only[zp]at z;simp[go_sem,Px,zp];refine aU (Pp:=[(9736,⟨42,2,[[.d (.int .u8 (w.1:Int)),.d (nb w.2)]]⟩)]) (s:=⟨g,c,0⟩) n z (by simp[bN,aK,bP,bO,q]) aq (by intro p m;simp at m;subst m;simp) (fun ρ=>rfl) ?_;rintro v B ρ ⟨S,rfl⟩ K;simp[go_sem];refine ao (b,f,oh x w g,S) ⟨Q,by show _≤f+b;omega,D,j⟩ (by show F.script.length-b<F.script.length-a;omega) (y _ _ _ b _ _ (by simp[fv,lk]) (tw rfl rfl rfl))
  ·rw[if_neg (fun h=>q h.2)]at j;subst j;simp[go_sem,AV.r,q];rw[bN];exact⟨_,⟨c,rfl⟩,aG rfl rfl rfl⟩
 ·rw[if_neg (fun h=>k h.1)]at j;subst j;have i:¬(a:Int)<(F.script.length:Int):=aq;rw[bN];simp only[aK,bP,bO,id];simp[go_sem,i,o];exact⟨_,⟨c,rfl⟩,aG rfl rfl rfl⟩
def vW(r1:Rn):Rn:=if r1.main.length=1∧gu (r1.main.headD [])=true then r1 else aB 25 r1
theorem acN{C:List AV}(f:jQ C)(r:Rn)(J:List Bool)(H:Nat)(A:StOk r.main r.alt):dB prog 3 (aK C) 99 ⟨r,J,H⟩ [.ptr 0 0 0 1] (fun v n=>n=⟨om r,J,H⟩):=by
 refine ap func99 (by kernel_rfl) rfl ntmps99 (rs:=[]) rfl (dN rfl) (by decide) ?_;have k:=f.2.2;by_cases o:0<r.br.length
 ·have w:om r=vW (aB 18 r):=by simp only[om,if_pos o,vW]
  rw[w];have i:StOk (aB 18 r).main (aB 18 r).alt:=iM A;have t:(0:Int)<(r.br.length:Int):=aq;have B:=bM f r J H 18;generalize aB 18 r=u at *;rw[bN];simp only[aK,bP,bO,id];simp[go_sem,k,o];refine aU (Pp:=[]) (s:=⟨r,J,H⟩) f B (by simp[bN,aK,bP,bO]) aq aw (by simp[AV.R,AV.r]) ?_;rintro v n ρ rfl q;obtain⟨j,alt,b,a,c,e⟩:=u;simp only at i;rcases j with _|⟨y,_|⟨z,l⟩⟩
  ·have g:vW ⟨[],alt,b,a,c,e⟩=aB 25 ⟨[],alt,b,a,c,e⟩:=rfl;rw[g,bN];simp only[aK,bP,bO,id];simp[go_sem,k];refine aU (Pp:=[]) (s:=⟨⟨[],alt,b,a,c,e⟩,J,H⟩) f (bM f ⟨[],alt,b,a,c,e⟩ J H 25) (by simp[bN,aK,bP,bO]) aq aw (by simp[AV.R,AV.r]) ?_;rintro v n ρ rfl q;rw[bN];generalize aB 25 ⟨[],alt,b,a,c,e⟩=r';simp only[aK,bP,bO,id];simp[go_sem];exact aG rfl rfl rfl
  ·obtain⟨D,x⟩:=i.mb y aw;have d:=pq y x aq;rw[bN];simp only[aK,bP,bO,id];by_cases m:gu y=true
   ·have g:vW ⟨[y],alt,b,a,c,e⟩=⟨[y],alt,b,a,c,e⟩:=if_pos ⟨rfl,m⟩;rw[g];rw[m]at d;simp[go_sem,k,bX];refine ag d a9 ?_;simp[go_sem];exact aG rfl rfl rfl
   ·have g:vW ⟨[y],alt,b,a,c,e⟩=aB 25 ⟨[y],alt,b,a,c,e⟩:=if_neg (fun h=>m h.2);rw[g];rw[show gu y=false by simpa using m]at d;simp[go_sem,k,bX];refine ag d a9 ?_;simp[go_sem];refine aU (Pp:=[]) (s:=⟨⟨[y],alt,b,a,c,e⟩,J,H⟩) f (bM f ⟨[y],alt,b,a,c,e⟩ J H 25) (by simp[bN,aK,bP,bO,bX]) aq aw (by simp[AV.R,AV.r]) ?_;rintro v n ρ rfl q;rw[bN];generalize aB 25 ⟨[y],alt,b,a,c,e⟩=r';simp only[aK,bP,bO,id];simp[go_sem];exact aG rfl rfl rfl
  ·have g:vW ⟨y::z::l,alt,b,a,c,e⟩=aB 25 ⟨y::z::l,alt,b,a,c,e⟩:=if_neg (fun h=>by simp at h);have p:¬(l.length:Int)+1+1=1:=aq;rw[g,bN];simp only[aK,bP,bO,id];simp[go_sem,k,p];refine aU (Pp:=[]) (s:=⟨⟨y::z::l,alt,b,a,c,e⟩,J,H⟩) f (bM f ⟨y::z::l,alt,b,a,c,e⟩ J H 25) (by simp[bN,aK,bP,bO,bX]) aq aw (by simp[AV.R,AV.r]) ?_;rintro v n ρ rfl q;rw[bN];generalize aB 25 ⟨y::z::l,alt,b,a,c,e⟩=r';simp only[aK,bP,bO,id];simp[go_sem];exact aG rfl rfl rfl
 ·have w:om r=vW r:=by simp only[om,if_neg o,vW]
  rw[w];have i:=A;have t:¬(0:Int)<(r.br.length:Int):=aq;obtain⟨u,rfl⟩:∃u,u=r:=⟨r,rfl⟩;obtain⟨j,alt,b,a,c,e⟩:=u;simp only at i o t;rcases j with _|⟨y,_|⟨z,l⟩⟩
  ·have g:vW ⟨[],alt,b,a,c,e⟩=aB 25 ⟨[],alt,b,a,c,e⟩:=rfl;rw[g,bN];simp only[aK,bP,bO,id];simp[go_sem,k,o];refine aU (Pp:=[]) (s:=⟨⟨[],alt,b,a,c,e⟩,J,H⟩) f (bM f ⟨[],alt,b,a,c,e⟩ J H 25) (by simp[bN,aK,bP,bO]) aq aw (by simp[AV.R,AV.r]) ?_;rintro v n ρ rfl q;rw[bN];generalize aB 25 ⟨[],alt,b,a,c,e⟩=r';simp only[aK,bP,bO,id];simp[go_sem];exact aG rfl rfl rfl
  ·obtain⟨D,x⟩:=i.mb y aw;have d:=pq y x aq;rw[bN];simp only[aK,bP,bO,id];by_cases m:gu y=true
   ·have g:vW ⟨[y],alt,b,a,c,e⟩=⟨[y],alt,b,a,c,e⟩:=if_pos ⟨rfl,m⟩;rw[g];rw[m]at d;simp[go_sem,k,bX,o];refine ag d a9 ?_;simp[go_sem];exact aG rfl rfl rfl
   ·have g:vW ⟨[y],alt,b,a,c,e⟩=aB 25 ⟨[y],alt,b,a,c,e⟩:=if_neg (fun h=>m h.2);rw[g];rw[show gu y=false by simpa using m]at d;simp[go_sem,k,bX,o];refine ag d a9 ?_;simp[go_sem];refine aU (Pp:=[]) (s:=⟨⟨[y],alt,b,a,c,e⟩,J,H⟩) f (bM f ⟨[y],alt,b,a,c,e⟩ J H 25) (by simp[bN,aK,bP,bO,bX]) aq aw (by simp[AV.R,AV.r]) ?_;rintro v n ρ rfl q;rw[bN];generalize aB 25 ⟨[y],alt,b,a,c,e⟩=r';simp only[aK,bP,bO,id];simp[go_sem];exact aG rfl rfl rfl
  ·have g:vW ⟨y::z::l,alt,b,a,c,e⟩=aB 25 ⟨y::z::l,alt,b,a,c,e⟩:=if_neg (fun h=>by simp at h);have p:¬(l.length:Int)+1+1=1:=aq;rw[g,bN];simp only[aK,bP,bO,id];simp[go_sem,k,p,o];refine aU (Pp:=[]) (s:=⟨⟨y::z::l,alt,b,a,c,e⟩,J,H⟩) f (bM f ⟨y::z::l,alt,b,a,c,e⟩ J H 25) (by simp[bN,aK,bP,bO,bX]) aq aw (by simp[AV.R,AV.r]) ?_;rintro v n ρ rfl q;rw[bN];generalize aB 25 ⟨y::z::l,alt,b,a,c,e⟩=r';simp only[aK,bP,bO,id];simp[go_sem];exact aG rfl rfl rfl
def LM(F:RnF)(x:Rx)(a:List bm)(bud:Int):AV :=
 if bI F.t (F.n:Int) F.coins≠0∨1000<F.script.length then .tup [.d (.ro 2 []),.d (.int .i64 1)]
 else .tup [.d (.ro 2 ((zo x F.script a bud).1.map fi)),.d (.int .i64 (zo x F.script a bud).2)]
theorem uM(t:Tn)(n:Int)(coins:List (Nat×List Nat)):bI t n coins=0∨bI t n coins=1:=by
 rcases nZ t n coins with h|h;exact .inr h;exact .inl h.1
theorem yK(F:RnF)(a:List bm)(bud:Int):∀v,v∈[AV.agg (eS F.t (F.n:Int) F.coins),cE F.inner F.path F.script,.d (.ro 1 (a.map bX)),.d (nb F.annex),.d (.int .i64 bud)]→v.deep:=by
 intro v b;simp at b;rcases b with rfl|rfl|rfl|rfl|rfl;simp[AV.deep,AV.deep1,eS];exact cY F.inner F.path F.script _ (List.mem_singleton.2 rfl);trivial;trivial;trivial
def QM:List AV:=[.d (.int .u32 0),.nil,.nil,.d (.int .u32 0),.d (.int .i64 0),.nil]++(cb z32++[.nil,.nil,.nil,.nil,.nil,.nil,.d (.int .i64 0),.d (.int .i64 0),.nil,.d (.int .i64 0)])
theorem aeW:gi prog 158=some QM:=by kernel_rfl
theorem QN:QM.length=48:=rfl
theorem QO:List.drop 40 QM=[.nil,.nil,.nil,.nil,.d (.int .i64 0),.d (.int .i64 0),.nil,.d (.int .i64 0)]:=rfl
theorem acO{L:List AV}(h:L.length=34)(k:Nat)(l:List AV):List.take (34+k) (L++l)=L++List.take k l:=by
 rw[List.take_append,cx aq,h,Nat.add_sub_cancel_left]
theorem ZB{L:List AV}(h:L.length=34)(k:Nat)(l:List AV):List.drop (34+k) (L++l)=List.drop k l:=by
 rw[List.drop_append,c_ aq,h,Nat.add_sub_cancel_left,List.nil_append]
def fR(j:Nat):Nat:=640+1000*j
theorem ZC:rE 3 fR:=by
 intro i j b a h;unfold fR at h;omega
theorem ZD(C:List AV)(s:RnS):jD 3 (aK C) s fR=[(640,aK C s fR 0),(1640,aK C s fR 1),(2640,aK C s fR 2)]:=rfl
theorem J4{C:List AV}(f:jQ C){N:Nat}{hp:Hp}{g:FuncId}{s:RnS}{a:List AV}{R:AV→RnS→Prop}{K:AV→Hp→Prop}(h:dB prog 3 (aK C) g s (.ptr 0 0 0 1::a) R)(e:hp=jD 3 (aK C) s fR)(k:2641≤N)(c:∀ ρ,AV.R ρ a=a)
  (d:∀v b ρ,R v b→K (v.r ρ) (jD 3 (aK C) b fR)):uX prog g (.ptr 640 0 0 1::a) hp N K:=by
 subst e;refine wH (Pp:=[]) (uH f) h ZC (fun j i=>by unfold fR;omega) aw ?_ fun v b ρ hR _=>d v b ρ hR;rw[AV.R,c,AV.r];rfl
theorem QP(x:Rx)(g:x.h1=bc)(d:x.h2=fl)(e:∀s o0 o1 bk,(x.trg s o0 o1 bk).1.length≤2){s:bm}(c:bytes s):∀(f a:Nat)(r:Rn),RnOk r a→∃k,RnOk (oP x s f a r) k
 |0,a,r,h=>⟨a,h⟩
 | f+1,a,r,h=>by
  rw[oP];split;rename_i hc;cases i:pv s a with
  |none=>exact⟨a,pE h (iy h.st h.bd 2)⟩
  |some p =>
   obtain⟨w,b⟩:=p;obtain⟨o,n,j,l,m⟩:=J1 c hc.1 i;exact QP x g d e c f b _ (nE (QL h x g d e w j l) aq)
  ·exact⟨a,h⟩
theorem ZE(F:RnF)(x:Rx)(a:List bm)(bud:Int)(ht:Sm F.t)(hc:F.coins.length≤1000)(hi:F.inner.length=32)(N:bytes F.script)(H:StOk a [])(W:i7 bud)
  (E:bI F.t (F.n:Int) F.coins=0→F.script.length≤1000→RnE F x) (hx:∀s o0 o1 bk,(x.trg s o0 o1 bk).1.length≤2) :
  fm prog 53 [.agg (eS F.t (F.n:Int) F.coins),cE F.inner F.path F.script,.d (.ro 1 (a.map bX)),.d (nb F.annex),.d (.int .i64 bud)] (LM F x a bud):=by
 have r:=nt F.t (F.n:Int) F.coins ht hc;have f:(au F.inner (AV.d (cz F.path)) (AV.d (nb F.script))).length=34:=by simp[au,aj,hi]
 have S:List.take 34 (au F.inner (AV.d (cz F.path)) (AV.d (nb F.script)))=au F.inner (AV.d (cz F.path)) (AV.d (nb F.script)):=cx (by rw[f];omega);have I:(au F.inner (AV.d (cz F.path)) (AV.d (nb F.script)))[33]?=some (.d (.ro 1 (F.script.map fun(b:Nat)=>[.int .u8 (b:Int)]))):=by
  unfold au;rw[dn (by rw[aj,hi];omega),aj,hi];rfl
 have w:∀v,v∈[AV.agg (eS F.t (F.n:Int) F.coins)]→v.deep:=by simp[AV.deep,AV.deep1,eS]
 simp only[eS]at r w;by_cases hs:1000<F.script.length
 ·have C:LM F x a bud=.tup [.d (.ro 2 []),.d (.int .i64 1)]:=if_pos (.inr hs);rw[C];have B:(1000:Int)<(F.script.length:Int):=aq;refine bL func53 ntmps53 (rs:=[.tmp 10,.tmp 11]) (yK F a bud) ?_;simp[go_sem,cE,eS,f];refine ag r w ?_;rcases uM F.t (F.n:Int) F.coins with h|h
  ·simp[go_sem,h,I,B,ah];exact eC (cs':=[.d (.ro 2 []),.d (.int .i64 1)]) (ax (am (.nil 2)) (ax (aM trivial) ca)) rfl a9 rfl
  ·simp[go_sem,h,ah];exact eC (cs':=[.d (.ro 2 []),.d (.int .i64 1)]) (ax (am (.nil 2)) (ax (aM trivial) ca)) rfl a9 rfl
 ·rcases uM F.t (F.n:Int) F.coins with h|h
  ·have C:LM F x a bud=.tup [.d (.ro 2 ((zo x F.script a bud).1.map fi)),.d (.int .i64 (zo x F.script a bud).2)]:=if_neg (by rw[h];simp;omega);rw[C];have E:=E h aq;rw[h]at r;have B:¬(1000:Int)<(F.script.length:Int):=aq;refine qd func53 (by kernel_rfl) rfl ntmps53 (rs:=[.tmp 10,.tmp 11]) rfl (dN rfl) (yK F a bud) ?_;refine dh (aN ?_);simp[go_sem,cE,eS,f];simp only[jP];refine dh (aN ?_);simp[go_sem];refine ag r w ?_;simp[go_sem,I,B];simp only[jP];refine dh (aN ?_);have Q:∀l,List.take 35 (au F.inner (AV.d (cz F.path)) (AV.d (nb F.script))++l)=au F.inner (AV.d (cz F.path)) (AV.d (nb F.script))++List.take 1 l:=acO f 1;have T:∀l,List.take 39 (au F.inner (AV.d (cz F.path)) (AV.d (nb F.script))++l)=au F.inner (AV.d (cz F.path)) (AV.d (nb F.script))++List.take 5 l:=acO f 5;have X:∀l,List.drop 35 (au F.inner (AV.d (cz F.path)) (AV.d (nb F.script))++l)=List.drop 1 l:=ZB f 1;have U:∀l,List.drop 37 (au F.inner (AV.d (cz F.path)) (AV.d (nb F.script))++l)=List.drop 3 l:=ZB f 3;have V:∀l,List.drop 40 (au F.inner (AV.d (cz F.path)) (AV.d (nb F.script))++l)=List.drop 6 l:=ZB f 6;simp[go_sem,f,S,aeW,QN,QO,Q,T,X,U,V];simp only[jP];have o:=fC (F:=F) hi;refine uo (st':=⟨[(12,.ptr 640 0 0 1)],[(640,⟨158,48,[jk F++[.d (.ro 1 (a.map bX)),.nil,.nil,.d (.int .i64 0),.d (.int .i64 bud),.nil,.d (.int .i64 0)]]⟩),(1640,⟨4,1,[]⟩),(2640,⟨55,2,[]⟩)],9000⟩) (b8 ⟨by simp[ai,fv,lk,AV.low,AV.l],?_,aw⟩) ?_
   intro p hp;simp only[d_,List.mem_nil_iff,or_false]at hp;rcases hp with rfl|rfl|rfl;refine⟨.inl (by simp[lk,jk,eS]),by show 640<9000;omega,?_⟩;intro q D v O;simp only[d_,List.mem_nil_iff,or_false]at D;subst D;rcases cD.1 O with h|h;exact o.2.1 v h _;simp only[d_,List.mem_nil_iff,or_false]at h;rcases h with rfl|rfl|rfl|rfl|rfl|rfl|rfl<;>trivial;exact⟨.inr ⟨by show 704≤1640;omega,rfl⟩,by show 1640<9000;omega,by intro q D;simp at D⟩;exact⟨.inr ⟨by show 704≤2640;omega,rfl⟩,by show 2640<9000;omega,by intro q D;simp at D⟩;refine uo (st':=⟨[(12,.ptr 640 0 0 1)],jD 3 (aK (jk F)) ⟨⟨a,[],[],bud,[],0⟩,[],0⟩ fR,9000⟩) ?_ ?_
   ·refine Ap (st:=⟨_,_,9000⟩) (L:=640) (b:=⟨158,48,[jk F++[.d (.ro 1 (a.map bX)),.nil,.nil,.d (.int .i64 0),.d (.int .i64 bud),.nil,.d (.int .i64 0)]]⟩) (es':=[bP (jk F) ⟨⟨a,[],[],bud,[],0⟩,[],0⟩ fR]) rfl aw rfl ?_;intro i y y' Y h2
    match i with
    | 0 =>
     simp only[List.getElem?_cons_zero,Option.some.injEq]at Y h2;subst Y h2;refine⟨by simp[bP,bO],fun j v v' g c=>?_⟩;unfold bP bO at c;by_cases hj:j<41;rw[List.getElem?_append_left (by rw[o.2.2];exact hj)]at g c;rw[g]at c;exact .inl (Option.some.inj c).symm
     ·rw[dn (by rw[o.2.2];omega),o.2.2]at g c;generalize j-41=k at g c
      match k,g,c with
      |0,g,c=>cases g;cases c;exact .inl rfl
      |1,g,c=>cases g;cases c;exact .inr (.inr ⟨rfl,1,rfl⟩)
      |2,g,c=>cases g;cases c;exact .inr (.inl ⟨rfl,1640,by show 1640<9000;omega,rfl⟩)
      |3,g,c=>cases g;cases c;exact .inl rfl
      |4,g,c=>cases g;cases c;exact .inl rfl
      |5,g,c=>cases g;cases c;exact .inr (.inl ⟨rfl,2640,by show 2640<9000;omega,rfl⟩)
      |6,g,c=>cases g;cases c;exact .inl rfl
      |k+7,g,c=>cases g
    |i+1=>simp at Y
   refine aN ?_;have M:=ER a [] (by have:=H.m;omega) aw;have K:=bM o ⟨a,[],[],bud,[],0⟩ [] 0 (gm a []);have u:RnOk ⟨a,[],[],bud,[],0⟩ 0:=⟨H,W,aw,aw⟩;have A:=pE u (iy u.st u.bd (gm a []));rw[ZD];simp only[aK,bP,bO,er]at *;simp[go_sem,o.2.2];refine ag M (by intro v O;simp at O;subst O;exact fZ a []) ?_;simp[go_sem];have z:zo x F.script a bud=(if(om (oP x F.script (F.script.length+1) 0 (aB (gm a []) ⟨a,[],[],bud,[],0⟩))).e=0 then((om (oP x F.script (F.script.length+1) 0 (aB (gm a []) ⟨a,[],[],bud,[],0⟩))).cl,0)else([],(om (oP x F.script (F.script.length+1) 0 (aB (gm a []) ⟨a,[],[],bud,[],0⟩))).e)):=rfl;rw[z];clear z C;refine J4 o K (by simp[ZD,aK,bP,bO]) aq (by simp[AV.R,AV.r]) ?_;rintro v R ρ rfl;clear K M;generalize aB (gm a []) ⟨a,[],[],bud,[],0⟩=r1 at *;simp[go_sem];refine J4 o (Vi F x E N aq hx r1 [] A) rfl aq (fun ρ=>rfl) ?_;rintro v R ρ ⟨Z,rfl⟩;obtain⟨k,J⟩:=QP x E.hh.1 E.hh.2 hx N (F.script.length+1) 0 r1 A;generalize oP x F.script (F.script.length+1) 0 r1=r2 at *;simp[go_sem];refine J4 o (acN o r2 Z 0 J.st) rfl aq (fun ρ=>rfl) ?_;rintro v R ρ rfl;generalize om r2=r3 at *;simp[go_sem];refine J4 o (fM o r3 Z 0) rfl aq (fun ρ=>rfl) ?_;rintro v R ρ ⟨rfl,rfl⟩;rw[ZD];simp only[aK,bP,bO];by_cases P:r3.e=0
   ·rw[if_pos P];simp[go_sem,AV.r,P,o.2.2,ah];exact eC (cs':=[.d (.ro 2 (r3.cl.map fi)),.d (.int .i64 0)]) (ax (am (JM (id:=2640) (ty:=55) (by simp[lk,MI]) trivial)) (ax (aM trivial) ca)) rfl a9 rfl
   ·rw[if_neg P];simp[go_sem,AV.r,P];refine cK [0,1,2,3,4,5] [] 0 (k:=6) ?_;intro G hG;simp[go_sem,o.2.2];refine hG _ _ ?_;clear hG G;simp[go_sem,ah];exact eC (cs':=[.d (.ro 2 []),.d (.int .i64 r3.e)]) (ax (am (.nil 2)) (ax (aM trivial) ca)) rfl a9 rfl
  ·have C:LM F x a bud=.tup [.d (.ro 2 []),.d (.int .i64 1)]:=if_pos (.inl (by rw[h];omega));rw[C];rw[h]at r;refine bL func53 ntmps53 (rs:=[.tmp 10,.tmp 11]) (yK F a bud) ?_;simp[go_sem,cE,eS,f];refine ag r w ?_;simp[go_sem,ah];exact eC (cs':=[.d (.ro 2 []),.d (.int .i64 1)]) (ax (am (.nil 2)) (ax (aM trivial) ca)) rfl a9 rfl
theorem tC{b:List Nat}(a:b.length=32):(List.range 32).map (fun k=>((cb b).drop k).take 1)=rb b:=by
 rw[jz a,dx]
theorem LN{b:List Nat}(a:b.length=32)(r:List AV):(List.range 32).map (fun k=>((cb b++r).drop k).take 1)=rb b:=by
 rw[←tC a];refine List.map_congr_left fun k d=>?_;have c:k<32:=List.mem_range.1 d;have e:=aj b;rw[List.drop_append_of_le_length aq,List.take_append_of_le_length (by rw[e_];omega)]
theorem uN{Q:AV→Prop}{st:St}{id n:Nat}{e:Int}{L:List Nat}(b:L.length=n)(a:lk id st.hp=some ⟨5,1,rb L⟩)(hq:Q (.tup [.d (nb L),.d (.int .i64 e)])):dG Q (.tup [.own id 0 n n,.d (.int .i64 e)]) st :=
 eC (ax (am (bq b a trivial)) (ax (aM trivial) ca)) rfl a9 hq
theorem LO{Q:AV→Prop}{st:St}{e:Int}(hq:Q (.tup [.d (nb []),.d (.int .i64 e)])):dG Q (.tup [.nil,.d (.int .i64 e)]) st :=
 eC (ax (am (.nil 1)) (ax (aM trivial) ca)) rfl a9 hq
theorem uO{inner x k:List Nat}{ps:List (List Nat)}{o:Bool}(hi:inner.length=32)(b:k.length=32)(f:fm prog 92 [cE inner ps x] (.tup [.agg (cb k),.d (.bool o),.d (.int .i64 1)])) :
  fm prog 46 [cE inner ps x] (.tup [.d (nb []),.d (.int .i64 1)]):=by
 refine bL func46 ntmps46 (rs:=[.tmp 2,.tmp 3]) (cY _ _ _) ?_;have a:List.drop 32 (cb z32)=[]:=ia rfl;simp[go_sem,cE,au,cz,nb,hi,qB hi];refine ag f (cY _ _ _) ?_;simp[go_sem,aj,b,a,ah];exact LO rfl
theorem nF{inner x k:List Nat}{ps:List (List Nat)}{o:Bool}(hi:inner.length=32)(c:k.length=32)(f:fm prog 92 [cE inner ps x] (.tup [.agg (cb k),.d (.bool o),.d (.int .i64 0)])) :
  fm prog 46 [cE inner ps x] (.tup [.d (nb (81::32::k)),.d (.int .i64 0)]):=by
 refine bL func46 ntmps46 (rs:=[.tmp 2,.tmp 3]) (cY _ _ _) ?_;have g:List.drop 32 (cb z32)=[]:=ia rfl;simp[go_sem,cE,au,cz,nb,hi,qB hi];refine ag f (cY _ _ _) ?_;have a:=tC c;simp[go_sem]at a;simp[go_sem,aj,c,g,a,aJ,ah];have e:rb (81::32::k)=[AV.d (.int .u8 81)]::[AV.d (.int .u8 32)]::rb k:=by simp[rb]
 have b:(81::32::k).length=34:=by simp[c]
 exact uN (L:=81::32::k) b (by rw[e];rfl) (by simp[nb])
def iC(o:Bool)(inner:List Nat)(ps:List (List Nat)):List Nat:=(if o then 193 else 192)::(inner++ps.flatten)
theorem HZ{inner x k:List Nat}{ps:List (List Nat)}{o:Bool}(hi:inner.length=32)(j:∀p,p∈ps→p.length=32)(F:ps.length≤1000)(u:k.length=32)(f:fm prog 92 [cE inner ps x] (.tup [.agg (cb k),.d (.bool o),.d (.int .i64 0)])) :
  fm prog 118 [cE inner ps x] (.tup [.d (nb (iC o inner ps)),.d (.int .i64 0)]):=by
 refine bL func118 ntmps118 (rs:=[.tmp 2,.tmp 3]) (cY _ _ _) ?_;have E:List.drop 32 (cb z32)=[]:=ia rfl;have G:IntKind.u8.wrap 193=193:=by decide
 simp[go_sem,cE,au,cz,nb,hi,qB hi];refine ag f (cY _ _ _) ?_;have s:=LN hi [AV.d (DV.ro 32 (List.map cd ps)),AV.d (DV.ro 1 (List.map (fun(b:Nat)=>[DV.int .u8 (b:Int)]) x))];simp[go_sem]at s
 cases o
 ·simp[go_sem,s,aJ,aj,u,hi,E];have t:(iC false inner (ps.take 0)).length=33:=by simp[iC,hi]
  have A:rb (iC false inner (ps.take 0))=[AV.d (.int .u8 192)]::rb inner:=by simp[iC,rb]
  refine av (fun k:Nat=>⟨[(7,.own 480 0 (iC false inner (ps.take k)).length (iC false inner (ps.take k)).length),(31,.d (cz ps)),(32,.d (.int .i64 (ps.length:Int))),(33,.d (.int .i64 (k:Int)))],[(480,⟨5,1,rb (iC false inner (ps.take k))⟩)],9000⟩)
   (fun k=>k≤ps.length) (fun k=>ps.length-k) 0 aq (by
    rw[t,A];simp[aA,ai,fv,lk,AV.low,AV.l,cz]
    exact aZ _ _) ?_
  intro k u;have w:=ay (k:=k) aq;simp only[go_sem,Nat.reduceEqDiff,Nat.reduceAdd,Nat.reduceLT,↓reduceIte];refine⟨fun v=>?_,fun z=>?_⟩
  ·have e:k<ps.length:=aq;have i:=cm e;have g:ps.take (k+1)=ps.take k++[ps[k]]:=List.take_succ_eq_append_getElem e;generalize ps[k]=q at i g;have c:q.length=32:=j q (cr i);have m:=tC c;simp[go_sem]at m;have hc:iC false inner (ps.take (k+1))=iC false inner (ps.take k)++q:=by rw[g];simp[iC]
   have C:(iC false inner (ps.take k)).length≤33+32*k:=by
    clear hc g w;have:(ps.take k).flatten.length≤32*k:=by
     have B:∀l:List (List Nat),(∀p,p∈l→p.length=32)→l.flatten.length=32*l.length:=by
      intro l
      induction l with
      |nil=>intro _;rfl
      |cons a r ih=>intro h;rw[List.flatten_cons,b_,ih (fun p i=>h p (by simp[i])),h a aw,List.length_cons];omega
     rw[B _ (fun p i=>j p (List.mem_of_mem_take i)),List.length_take];omega
    unfold iC;rw[List.length_cons,b_,hi];omega
   generalize iC false inner (ps.take k)=L at *;simp[go_sem,cz,i,b7,c,dc,al c,aj,cf,m,aJ]
   first|refine⟨aq,?_⟩|skip
   refine ao (k+1) aq aq ?_;rw[hc];have D:rb (L++q)=rb L++rb q:=(by simp[rb]);simp[aA,ai,fv,lk,AV.low,AV.l,w,c,D];intro r y;exact y.elim (aZ _ _ r) (aZ _ _ r)
  ·have n:k=ps.length:=aq;subst n;simp only[List.take_length];simp[go_sem];exact uN (L:=iC false inner ps) rfl rfl (by simp[nb])
 ·simp[go_sem,s,aJ,aj,u,hi,E,G];have t:(iC true inner (ps.take 0)).length=33:=by simp[iC,hi]
  have A:rb (iC true inner (ps.take 0))=[AV.d (.int .u8 193)]::rb inner:=by simp[iC,rb]
  refine av (fun k:Nat=>⟨[(7,.own 480 0 (iC true inner (ps.take k)).length (iC true inner (ps.take k)).length),(31,.d (cz ps)),(32,.d (.int .i64 (ps.length:Int))),(33,.d (.int .i64 (k:Int)))],[(480,⟨5,1,rb (iC true inner (ps.take k))⟩)],9000⟩)
   (fun k=>k≤ps.length) (fun k=>ps.length-k) 0 aq (by
    rw[t,A];simp[aA,ai,fv,lk,AV.low,AV.l,cz]
    exact aZ _ _) ?_
  intro k u;have w:=ay (k:=k) aq;simp only[go_sem,Nat.reduceEqDiff,Nat.reduceAdd,Nat.reduceLT,↓reduceIte];refine⟨fun v=>?_,fun z=>?_⟩
  ·have e:k<ps.length:=aq;have i:=cm e;have g:ps.take (k+1)=ps.take k++[ps[k]]:=List.take_succ_eq_append_getElem e;generalize ps[k]=q at i g;have c:q.length=32:=j q (cr i);have m:=tC c;simp[go_sem]at m;have hc:iC true inner (ps.take (k+1))=iC true inner (ps.take k)++q:=by rw[g];simp[iC]
   have C:(iC true inner (ps.take k)).length≤33+32*k:=by
    clear hc g w;have:(ps.take k).flatten.length≤32*k:=by
     have B:∀l:List (List Nat),(∀p,p∈l→p.length=32)→l.flatten.length=32*l.length:=by
      intro l
      induction l with
      |nil=>intro _;rfl
      |cons a r ih=>intro h;rw[List.flatten_cons,b_,ih (fun p i=>h p (by simp[i])),h a aw,List.length_cons];omega
     rw[B _ (fun p i=>j p (List.mem_of_mem_take i)),List.length_take];omega
    unfold iC;rw[List.length_cons,b_,hi];omega
   generalize iC true inner (ps.take k)=L at *;simp[go_sem,cz,i,b7,c,dc,al c,aj,cf,m,aJ]
   first|refine⟨aq,?_⟩|skip
   refine ao (k+1) aq aq ?_;rw[hc];have D:rb (L++q)=rb L++rb q:=(by simp[rb]);simp[aA,ai,fv,lk,AV.low,AV.l,w,c,D];intro r y;exact y.elim (aZ _ _ r) (aZ _ _ r)
  ·have n:k=ps.length:=aq;subst n;simp only[List.take_length];simp[go_sem];exact uN (L:=iC true inner ps) rfl rfl (by simp[nb])
theorem C9(a:List Int)(i:Wn 4 a):∃r:List Int,Wn 4 r∧fm prog 124 [.agg (cI a)] (.agg (cI r)):=by
 obtain⟨s,c,o,hc,z,n⟩:=ta a UX i Qn;have b:=i.1;have f:=o.1;have l:List.drop 4 (cI ed)=[]:=bg rfl;refine⟨if c=0 then s else a,by split<;>assumption,?_⟩;refine bL func124 ntmps124 (rs:=[.cell 2 96]) (aV a) ?_;simp[go_sem,b];refine dI [0] [1,2,6,7] [0,3,4,5,8] (.alt (bt 1 (.alt (.step 2 [3,4,5] true (bt 6 (.step 7 [8] true .done))) (bt 6 (.step 2 [3,4,5] true (.step 7 [8] true .done))))) (bt 6 (bt 1 (.step 2 [3,4,5] true (.step 7 [8] true .done))))) ⟨[(1,.ptr 0 0 0 1),(2,.ptr 32 0 0 1),(3,.ptr 256 0 0 1),(4,.d (.int .u64 c))],[(256,⟨96,4,[cI s]⟩),(32,⟨96,4,[cI ed]⟩),(0,⟨96,4,[cI a]⟩)],9000⟩ (k:=9) ?h3 ?hq
 case h3 =>
  intro G q;have m:∀(g:Fr)(e:Hp),(fv 1 g=.ptr 0 0 0 1∧fv 2 g=.ptr 32 0 0 1∧fv 3 g=.ptr 256 0 0 1∧fv 4 g=.d (.int .u64 c)∧lk 256 e=some ⟨96,4,[cI s]⟩∧lk 32 e=some ⟨96,4,[cI ed]⟩∧lk 0 e=some ⟨96,4,[cI a]⟩)→G g e:=by
   rintro g e⟨A,y,x,w,t,u,B⟩;refine q _ _ (b8 ?_);simp only[aA,ai];refine⟨fun p e=>?_,fun p e=>?_,aw⟩;simp only[d_,List.mem_nil_iff,or_false]at e;rcases e with rfl|rfl|rfl|rfl<;>exact⟨.inl (Eq.symm (by assumption)),by simp[AV.low,AV.l]⟩
   ·simp only[d_,List.mem_nil_iff,or_false]at e;rcases e with rfl|rfl|rfl<;>exact⟨.inl (by assumption),aw,by intro r j;simp only[d_,List.mem_nil_iff,or_false]at j;subst j;first|exact cH _ _|exact aI _ _|exact ou _ _ _ _⟩
  simp[go_sem,b,ae b,dM]
  repeat' first|exact m _ _ ⟨rfl,rfl,rfl,rfl,rfl,rfl,rfl⟩|(refine m _ _ ?_;simp[fv];done)|refine ag tp aw ?_|refine ag n (aP _ _) ?_|apply And.intro|simp[go_sem,f,dM]
 case hq =>
  by_cases h:c=0
  ·rw[if_pos h];simp[go_sem,h,f,ae f,l,ah];exact eJ rfl
  ·rw[if_neg h];simp[go_sem,h,b,ae b,l,ah];exact eJ rfl
theorem Vj(a:List Int)(j:Wn 4 a):∃r:List Int,Wn 4 r∧fm prog 128 [.agg (cI a)] (.agg (cI r)):=by
 obtain⟨b,m,o⟩:=C9 a j;obtain⟨s,c,l,hc,B,u⟩:=ta UX b Qn m;obtain⟨r,g,w⟩:=C9 s l;have e:=j.1;have q:=m.1;have f:=l.1;have h:=g.1;have t:List.drop 4 (cI ed)=[]:=bg rfl;refine⟨r,g,?_⟩;refine bL func128 ntmps128 (rs:=[.cell 2 96]) (aV a) ?_;simp[go_sem,e];refine dI [1] [0,2,3,7,8] [1,4,5,6,9] (.alt (bt 0 (.alt (bt 2 (.alt (.step 3 [4,5,6] true (bt 7 (.step 8 [9] true .done))) (bt 7 (.step 3 [4,5,6] true (.step 8 [9] true .done))))) (bt 7 (bt 2 (.step 3 [4,5,6] true (.step 8 [9] true .done)))))) (bt 7 (bt 0 (bt 2 (.step 3 [4,5,6] true (.step 8 [9] true .done)))))) ⟨[(2,.ptr 32 0 0 1),(3,.ptr 288 0 0 1)],[(288,⟨96,4,[cI s]⟩),(32,⟨96,4,[cI ed]⟩)],9000⟩ (k:=10) ?h3 ?hq
 case h3 =>
  intro G x;have n:∀(i:Fr)(d:Hp),(fv 2 i=.ptr 32 0 0 1∧fv 3 i=.ptr 288 0 0 1∧lk 288 d=some ⟨96,4,[cI s]⟩∧lk 32 d=some ⟨96,4,[cI ed]⟩)→G i d:=by
   rintro i d⟨C,A,z,y⟩;refine x _ _ (b8 ?_);simp only[aA,ai];refine⟨fun p d=>?_,fun p d=>?_,aw⟩;simp only[d_,List.mem_nil_iff,or_false]at d;rcases d with rfl|rfl<;>exact⟨.inl (Eq.symm (by assumption)),by simp[AV.low,AV.l]⟩
   ·simp only[d_,List.mem_nil_iff,or_false]at d;rcases d with rfl|rfl<;>exact⟨.inl (by assumption),aw,by intro r g;simp only[d_,List.mem_nil_iff,or_false]at g;subst g;first|exact cH _ _|exact aI _ _|exact ou _ _ _ _⟩
  simp[go_sem,e,ae e,dM]
  repeat' first|exact n _ _ ⟨rfl,rfl,rfl,rfl⟩|(refine n _ _ ?_;simp[fv];done)|refine ag tp aw ?_|refine ag o (aV _) ?_|refine ag u (aP _ _) ?_|apply And.intro|simp[go_sem,f,dM]
 case hq =>
  simp[go_sem,f,ae f];refine ag w (aV _) ?_;simp[go_sem,h,ae h,t,ah];exact eJ rfl
theorem QQ(b:List Nat)(d:b.length=32)(e:bytes b):∃r:List Int,Wn 4 r∧fm prog 135 [.agg (cb b)] (.agg (cI r)):=by
 obtain⟨a,f,l,i⟩:=yB b d e;obtain⟨r,g,h⟩:=C9 a f;have j:=f.1;have c:=g.1;have k:List.drop 4 (cI ed)=[]:=bg rfl;have m:List.drop 32 (cb b)=[]:=ia d;refine⟨r,g,?_⟩;refine bL func135 ntmps135 (rs:=[.cell 2 96]) (c8 b) ?_;simp[go_sem,aj,d,al d];refine ag i (c8 _) ?_;simp[go_sem];refine ag h (aV _) ?_;simp[go_sem,c,ae c,ah];exact eJ rfl
def ZF(a b d:List Nat):Nat→AV
 |0=>.nil
 |1=>.own 1192 0 a.length a.length
 |2=>.own 1192 0 (a++b).length (a++b).length
 |_=>.own 1192 0 d.length d.length
def ZG(a b d:List Nat):Nat→Hp
 |0=>[]
 |1=>[(1192,⟨5,1,rb a⟩)]
 |2=>[(1192,⟨5,1,rb (a++b)⟩)]
 |_=>[(1192,⟨5,1,rb d⟩)]
theorem H3(a b c d:List Nat)(l:a++b++c=d)(m:a.length=32)(n:b.length=32)(hc:c.length≤1000000):fm prog 89 [.d (.ro 1 [[nb a],[nb b],[nb c]])] (.d (nb d)):=by
 refine bL func89 ntmps89 (rs:=[.tmp 2]) a9 ?_;simp[go_sem]
 refine av (fun k:Nat=>⟨[(3,ZF a b d k),(6,.d (.ro 1 [[nb a],[nb b],[nb c]])),(7,.d (.int .i64 3)),(8,.d (.int .i64 (k:Int)))],ZG a b d k,UZ k⟩)
  (fun k=>k≤3) (fun k=>3-k) 0 aq (by simp[aA,ai,fv,lk,AV.low,AV.l,ZF,ZG,UZ]) ?_
 intro k o;simp only[go_sem,Nat.reduceEqDiff,Nat.reduceLT,↓reduceIte]
 match k,o with
 |0,_ =>
  refine⟨fun _=>?_,fun h=>absurd (by decide) h⟩;simp[go_sem,ZF,ZG,UZ,nb,dx];refine⟨by rw[aJ];omega,?_⟩;have f:IntKind.i64.wrap 1=1:=by decide
  refine ao 1 aq aq ?_;simp[aA,ai,fv,lk,AV.low,AV.l,aJ,f];exact aZ _ _
 |1,_ =>
  refine⟨fun _=>?_,fun h=>absurd (by decide) h⟩;simp[go_sem,ZF,ZG,UZ,nb,dx,aJ];refine⟨aq,?_⟩;have f:IntKind.i64.wrap 2=2:=by decide
  have j:rb (a++b)=rb a++rb b:=by simp[rb]
  refine ao 2 aq aq ?_;simp[aA,ai,fv,lk,AV.low,AV.l,f,j];intro r g;exact g.elim (aZ _ _ r) (aZ _ _ r)
 |2,_ =>
  refine⟨fun _=>?_,fun h=>absurd (by decide) h⟩;have j:rb d=rb (a++b)++rb c:=by rw[←l];simp[rb]
  have i:d.length=(a++b).length+c.length:=by rw[←l];exact b_
  have p:(a++b).length=64:=by simp[m,n]
  simp only[ZF,ZG];generalize a++b=e at *;simp[go_sem,UZ,nb,dx,aJ];refine⟨aq,?_⟩;have f:IntKind.i64.wrap 3=3:=by decide
  refine ao 3 aq aq ?_;simp[aA,ai,fv,lk,AV.low,AV.l,f,j,i];intro r g;exact g.elim (aZ _ _ r) (aZ _ _ r)
 |3,_ =>
  refine⟨fun h=>absurd h (by decide),fun _=>?_⟩;simp only[ZF,ZG];simp[go_sem];exact jW rfl (by simp[nb])
def Da:List Nat:=[66,73,80,48,51,52,48,47,99,104,97,108,108,101,110,103,101]
theorem Vk(a b c:List Nat)(h:a.length=32)(g:b.length=32)(hc:c.length≤1000):∃r:List Int,Wn 4 r∧fm prog 88 [.agg (cb a),.agg (cb b),.d (nb c)] (.agg (cI r)):=by
 obtain⟨r,f,l⟩:=QQ (fQ Da (a++b++c)) (CZ _ _).1 (CZ _ _).2;have e:=f.1;have n:List.drop 4 (cI ed)=[]:=bg rfl;refine⟨r,f,?_⟩;refine bL func88 ntmps88 (rs:=[.cell 6 96]) (by intro v j;simp at j;rcases j with rfl|rfl|rfl;exact d6 _;exact d6 _;trivial) ?_;have m:(a++b++c).length≤2000:=by simp;omega
 simp[go_sem,aj,h,g];refine cK [0,1,2] [(3,[]),(4,[]),(5,[]),(6,[]),(7,[])] 0 (k:=8) ?_;intro G i;simp[go_sem];refine bJ [0,32,192] (H3 a b c _ rfl h g aq) rfl (ak (.one (am (kJ (rows:=[[.sub 0 0 0 1 32 32 1],[.sub 32 0 0 1 32 32 1],[.d (nb c)]]) rfl aw rfl (RowsR.cons (.cons (fh rfl aw h) .nil) (RowsR.cons (.cons (fh rfl aw g) .nil) (RowsR.cons (.cons (.d _) .nil) .nil))) rfl (by intro r f;simp at f;rcases f with rfl|rfl|rfl<;>rfl)))) aF) ?_;generalize a++b++c=d at *;simp[go_sem,aC];refine ag (jc Da (.str [66,73,80,48,51,52,48,47,99,104,97,108,108,101,110,103,101]) rfl d (by simp[Da]) aq) a9 ?_;simp[go_sem];refine ag l (c8 _) ?_;simp[go_sem,e];refine i _ _ ?_;clear i G;simp[go_sem,e,ae e,ah];exact eJ rfl
theorem FD(l:List Nat):(l.map fun(b:Nat)=>[DV.int .u8 (b:Int)]).flatten=cd l:=by
 unfold cd
 induction l with
 |nil=>rfl
 |cons a l ih=>simp only[List.map_cons,List.flatten_cons,ih];rfl
theorem FG:∀l:List Nat,cF .u8 (cb l)=some (l.map fun(b:Nat)=>(b:Int))
 |[]=>rfl
 |a::l=>by
  have:=FG l;unfold cb at this⊢;simp only[List.map_cons,cF,if_true,this];rfl
theorem tG(k m s:List Nat):∀v,v∈[AV.agg (cb k),.d (nb m),.d (nb s)]→v.deep:=by
 intro v a;simp at a;rcases a with rfl|rfl|rfl;exact d6 _;trivial;trivial
theorem LP(key msg a:List Nat)(i:key.length=32)(N:bytes key)(U:bytes a)(hm:msg.length≤1000)(hs:a.length≤1000):∃o:Bool,fm prog 156 [.agg (cb key),.d (nb msg),.d (nb a)] (.d (.bool o)):=by
 obtain⟨x,y,c,ok,Z,V,_,J⟩:=Fq key i N;have zd:List.drop 32 (cb key)=[]:=ia i;have w:z32.length=32:=rfl;have I:List.drop 32 (cb z32)=[]:=rfl;have hz:List.drop 4 (cI ed)=[]:=bg rfl;have M:=Z.1;have L:=V.1;have h:(cP x y c).length=9:=cO M L c;have T:List.take 9 (cP x y c)=cP x y c:=cx (by rw[h];omega);cases ok with
 |false =>
  refine⟨false,?_⟩;refine bL func156 ntmps156 (rs:=[.tmp 6]) (tG _ _ _) ?_;simp[go_sem,aj,i,al i];refine ag J (c8 _) ?_;simp[go_sem,h,ah];exact aa trivial rfl
 | true =>
  by_cases l:a.length=64
  ·have e:(a.take 32).length=32:=(by simp[l]);have m:(a.drop 32).length=32:=(by simp[l]);have E:bytes (a.drop 32):=fun z hz=>U z (List.mem_of_mem_drop hz);obtain⟨s,O,H,_,f2⟩:=Fp (a.drop 32) m E;have g:=H.1;have A:(a.length:Int)=64:=aq;have Y:List.take 32 (a.map fun(b:Nat)=>[DV.int .u8 (b:Int)])=(a.take 32).map fun(b:Nat)=>[DV.int .u8 (b:Int)]:=List.map_take.symm;have e2:List.drop 32 (a.map fun(b:Nat)=>[DV.int .u8 (b:Int)])=(a.drop 32).map fun(b:Nat)=>[DV.int .u8 (b:Int)]:=List.map_drop.symm;have X:List.take 64 (a.map fun(b:Nat)=>[DV.int .u8 (b:Int)])=a.map fun(b:Nat)=>[DV.int .u8 (b:Int)]:=cx (by simp[l]);obtain⟨ch,Q,f3⟩:=Vk (a.take 32) key msg e i hm;generalize a.take 32=R at *;generalize a.drop 32=S at *;cases O with
   |false =>
    refine⟨false,?_⟩;refine bL func156 ntmps156 (rs:=[.tmp 6]) (tG _ _ _) ?_;simp[go_sem,aj,i,al i];refine ag J (c8 _) ?_;simp[go_sem,h,nb,l,Y,e2,X,FD,dc,al e,al m,aj,e,m,w,I];refine ag f2 (c8 _) ?_;simp[go_sem,g,ah];exact aa trivial rfl
   | true =>
    obtain⟨ng,F,f4⟩:=Vj ch Q;obtain⟨u,v,q,P,f,_,f5⟩:=JI s ng gX gY x y false c H F acv acw Z V;obtain⟨o,_,f6⟩:=JF u v q P f;obtain⟨B,hB,ab,_,f7⟩:=AE u v q P f;have n:=F.1;have j:(cP u v q).length=9:=cO P.1 f.1 q;have C:List.take 9 (cP u v q)=cP u v q:=cx (by rw[j];omega);refine⟨o&&decide ((B.map fun(b:Nat)=>(b:Int))=R.map fun(b:Nat)=>(b:Int)),?_⟩;refine bL func156 ntmps156 (rs:=[.tmp 6]) (tG _ _ _) ?_;simp[go_sem,aj,i,al i];refine ag J (c8 _) ?_;simp[go_sem,h,nb,l,Y,e2,X,FD,dc,al e,al m,aj,e,m,w,I];refine ag f2 (c8 _) ?_;simp[go_sem,g,aj,i,e,al i,al e];refine ag f3 (by intro v f;simp at f;rcases f with rfl|rfl|rfl;exact d6 _;exact d6 _;trivial) ?_;simp[go_sem];refine ag f4 (aV _) ?_;simp[go_sem,n];refine dI [0,2,3] [1,4,5,6] [0,2,3] (.alt (bt 1 (.alt (a_ [4,5,6]) (bt 5 (a_ [4,6])))) (bt 5 (bt 1 (a_ [4,6])))) ⟨[(9,.ptr 672 0 0 1),(12,.ptr 1536 0 0 1)],[(1536,⟨189,9,[cP u v q]⟩),(672,⟨29,32,[cb R]⟩)],9000⟩ (k:=7) ?h3 ?hq
    case h3 =>
     intro G D;have hW:∀(K:Fr)(t:Hp),(fv 9 K=.ptr 672 0 0 1∧fv 12 K=.ptr 1536 0 0 1∧lk 1536 t=some ⟨189,9,[cP u v q]⟩∧lk 672 t=some ⟨29,32,[cb R]⟩)→G K t:=by
      rintro K t⟨q0,q1,q2,q3⟩;refine D _ _ (b8 ?_);simp only[aA,ai];refine⟨fun p t=>?_,fun p t=>?_,aw⟩;simp only[d_,List.mem_nil_iff,or_false]at t;rcases t with rfl|rfl<;>exact⟨.inl (Eq.symm (by assumption)),by simp[AV.low,AV.l]⟩
      ·simp only[d_,List.mem_nil_iff,or_false]at t;rcases t with rfl|rfl<;>exact⟨.inl (by assumption),aw,by intro r W;simp only[d_,List.mem_nil_iff,or_false]at W;subst W;first|exact cH _ _|exact aI _ _|exact ou _ _ _ _⟩
     simp[go_sem,g,n,ae g,ae n,h,T,dM]
     repeat' first|exact hW _ _ ⟨rfl,rfl,rfl,rfl⟩|(refine hW _ _ ?_;simp[fv];done)|refine ag CW aw ?_|refine ag f5 (by intro v f;simp at f;rcases f with rfl|rfl|rfl|rfl<;>first|exact gf _|exact lj _ _ _) ?_|apply And.intro|simp[go_sem,j,dM]
    case hq =>
     cases o with
     |false =>
      simp[go_sem];refine cK [0] [(1,[2,3,5]),(4,[6,7,8])] 2 (k:=9) ?_;intro G D;simp[go_sem,j,C];refine ag f6 (by intro v f;simp at f;subst f;exact lj _ _ _) ?_;simp[go_sem];refine D _ _ ?_;clear D G;simp[go_sem,ah];exact aa trivial rfl
     |true =>
      simp[go_sem];refine cK [0] [(1,[2,3,5]),(4,[6,7,8])] 2 (k:=9) ?_;intro G D;simp[go_sem,j,C];refine ag f6 (by intro v f;simp at f;subst f;exact lj _ _ _) ?_;simp[go_sem,j,C,aj,e,al e];refine ag f7 (by intro v f;simp at f;subst f;exact lj _ _ _) ?_;simp[go_sem,e,hB,FG];refine D _ _ ?_;clear D G;simp[go_sem,ah];exact aa trivial rfl
  ·have A:¬(a.length:Int)=64:=aq;refine⟨false,?_⟩;refine bL func156 ntmps156 (rs:=[.tmp 6]) (tG _ _ _) ?_;simp[go_sem,aj,i,al i];refine ag J (c8 _) ?_;simp[go_sem,h,nb,A,ah];exact aa trivial rfl
def tH(i:Ip):List Nat:=i.hash++le i.idx 4
def uP(i:Ip):List Nat:=le i.seq 4
def yL(o:Nat×List Nat):List Nat:=le o.1 8
def zr(o:Nat×List Nat):List Nat:=cN o.2
def Db(l:List Nat):List AV:=dP (E H0 l).1++[.d (nb (E H0 l).2),.d (.int .u64 (l.length:Int))]
theorem bH(ρ:Nat→Nat)(l:List Nat):AV.R ρ (Db l)=Db l:=by rw[Db,iG];rfl
theorem lm(n:Nat)(l:List Nat):∀v,v∈Db l→v.l n:=by
 intro v a;simp[Db,dP]at a;rcases a with rfl|rfl|rfl|rfl|rfl|rfl|rfl|rfl|rfl|rfl<;>trivial
theorem Vl(n:Nat):OH n (dP H0++[.nil,.d (.int .u64 0)]) (Db []):=K6 (dP H0) [.d (.int .u64 0)] (.inr (.inr ⟨.inl rfl,.inr ⟨1,rfl⟩⟩))
theorem FH{st:St}(L:Nat)(h:lk L st.hp=some ⟨167,10,[dP H0++[.nil,.d (.int .u64 0)]]⟩):Wk st ⟨st.fr,bV L ⟨167,10,[Db []]⟩ st.hp,st.nx⟩:=Yj h (by decide) (Vl _)
theorem qW(l b:List Nat)(c:l.length+b.length≤100000000000) :
  cZ prog 58 1 [(0,⟨167,10,[Db l]⟩)] [.ptr 0 0 0 1,.d (nb b)] (fun r a=>r=.tup []∧lk 0 a=some ⟨167,10,[Db (l++b)]⟩):=by
 have h:=Ed _ H0 l (cL _);have:=TE (E H0 l).1 (.d (nb (E H0 l).2)) (E H0 l).2 b l.length (.inl rfl) aq aq;rw[←Eb b l.length H0 l (cL _),←b_]at this;exact this
theorem H4(ty:TypeId)(e:Nat)(a:List AV)(l b:List Nat)(i:(List.range 32).map (fun k=>(a.drop k).take 1)=List.map ((fun r=>List.map AV.d r)∘fun(x:Nat)=>[DV.int .u8 (x:Int)]) b)(f:∀n v,v∈a→v.l n)(c:b.length=32)(j:l.length+b.length≤100000000000) :
  cZ prog 58 2 [(0,⟨167,10,[Db l]⟩),(1,⟨ty,e,[a]⟩)] [.ptr 0 0 0 1,.sub 1 0 0 1 32 32 1] (fun r g=>r=.tup []∧lk 0 g=some ⟨167,10,[Db (l++b)]⟩∧lk 1 g=some ⟨ty,e,[a]⟩):=by
 have h:=Ed _ H0 l (cL _);have:=Oh ty e a (E H0 l).1 (.d (nb (E H0 l).2)) (E H0 l).2 b l.length i f (.inl rfl) aq c aq;rw[←Eb b l.length H0 l (cL _),←b_]at this;exact this
theorem AK(l:List Nat)(b:l.length≤100000000000) :
  cZ prog 60 1 [(0,⟨167,10,[Db l]⟩)] [.ptr 0 0 0 1] (fun r a=>r=.agg (cb (bc l))∧lk 0 a=some ⟨167,10,[Db l]⟩):=by
 have h:=Ed _ H0 l (cL _);exact GO (E H0 l).1 (.d (nb (E H0 l).2)) (E H0 l).2 l.length (.inl rfl) aq
theorem nG{α:Type}{f:α→List Nat}{l:List α}:[]++fw f l 0=(l.map f).flatten:=by simp[fw]
theorem J5(ρ:Nat→Nat)(i:Ip):AV.R ρ (uC i)=uC i:=by
 unfold uC;have:∀(l m:List AV),AV.R ρ (l++m)=AV.R ρ l++AV.R ρ m:=fun l m=>by
  induction l with
  |nil=>simp[AV.R]
  |cons a l ih=>simp[AV.R,ih]
 rw[this,dV];rfl
theorem J6(t:Tn)(x:Sm t):fm prog 55 [.agg (eT t)] (.agg (cb (bc (t.ins.map uP).flatten))):=by
 obtain⟨⟨E,A,w,C⟩,H,F,D,G⟩:=x;refine bL func55 ntmps55 (rs:=[.cell 2 29]) (by simp[AV.deep,AV.deep1,eT]) ?_;simp[go_sem,eT];refine aS [] o6 rfl aw aw aw (by simp[AV.R]) ?_;rintro r b⟨rfl,c⟩;refine⟨[(97,0)],rfl,?_⟩;simp[go_sem,cj,bK,c,Blk.r,aQ,iG,AV.r,cn];clear c b;generalize j:(t.ins.map uP).flatten=R
 refine na (fun u:Nat×List Nat=>⟨[(2,.ptr 32 0 0 1),(3,.ptr 64 0 0 1),(8,.d (.ro 35 (t.ins.map eI))),(9,.d (.int .i64 (t.ins.length:Int))),(10,.d (.int .i64 (u.1:Int)))],[(64,⟨167,10,[Db u.2]⟩),(32,⟨29,32,[cb z32]⟩)],2000⟩)
  (fun u=>u.1≤t.ins.length∧u.2.length≤4*u.1∧u.2++fw uP t.ins u.1=R) (fun u=>t.ins.length-u.1) (0,[]) ⟨aw,aw,by rw[←j];exact nG⟩ ((FH 64 rfl).trans (b8 (by
   simp[aA,ai,fv,lk,bV,AV.low,AV.l]
   exact⟨lm _ _,aI _ _⟩))) ?_
 rintro⟨k,B⟩⟨y,m,g⟩;simp only at y m g;simp only[go_sem,Nat.reduceEqDiff,Nat.reduceAdd,Nat.reduceLT,↓reduceIte];refine⟨fun h=>?_,fun h=>?_⟩
 ·obtain⟨i,e,v⟩:=bu (l:=t.ins) (k:=k) aq;obtain⟨a,s,f⟩:=w i (cr e);have z:=ay (k:=k) aq;have o:=lS a;have n:=qi a;simp[go_sem,e,o,EO,n,po a,pp,Wi a];refine bJ [] (jF [] i.seq aw f) rfl (ak (.one (am (.nil 1))) (ak (.deep a9) aF)) ?_;simp[go_sem,aC];refine aS [(0,64)] (qW B (le i.seq 4) (by rw[aO];omega)) rfl aw (by simp[lk]) (by simp[lk,Blk.r,aQ,bH]) (by simp[AV.R,AV.r,cn,iV,lk]) ?_;rintro r b⟨rfl,c⟩;refine⟨[],rfl,?_⟩;simp[go_sem,cj,bK,c,Blk.r,aQ,bH,AV.R,AV.r,z];refine ao (k+1,B++le i.seq 4) ⟨by simp only;omega,by simp only[b_,aO];omega,eu v g⟩ (by simp only;omega) ?_;simp[aA,ai,fv,lk,AV.low,AV.l];exact⟨lm _ _,aI _ _⟩
 ·have p:k=t.ins.length:=aq;subst p;have:=eA g;subst this;simp[go_sem];refine aS [(0,64)] (AK B aq) rfl aw (by simp[lk]) (by simp[lk,Blk.r,aQ,bH]) (by simp[AV.R,AV.r,cn,iV,lk]) ?_;rintro r b⟨rfl,c⟩;refine⟨[],rfl,?_⟩;have q:=aR B;simp[go_sem,cj,bK,c,Blk.r,aQ,bH,dV,AV.r,q,al q,cf,ah];exact aa (by simp[AV.deep];exact bp _) rfl
theorem Vm(t:Tn)(F:Sm t):fm prog 130 [.agg (eT t)] (.agg (cb (bc (t.ins.map tH).flatten))):=by
 obtain⟨⟨L,I,E,J⟩,q,M,K,N⟩:=F;refine bL func130 ntmps130 (rs:=[.cell 2 29]) (by simp[AV.deep,AV.deep1,eT]) ?_;simp[go_sem,eT];refine aS [] o6 rfl aw aw aw (by simp[AV.R]) ?_;rintro r b⟨rfl,c⟩;refine⟨[(97,0)],rfl,?_⟩;simp[go_sem,cj,bK,c,Blk.r,aQ,iG,AV.r,cn];clear c b;generalize o:(t.ins.map tH).flatten=R
 refine na (fun u:Nat×List Nat=>⟨[(2,.ptr 32 0 0 1),(3,.ptr 64 0 0 1),(8,.d (.ro 35 (t.ins.map eI))),(9,.d (.int .i64 (t.ins.length:Int))),(10,.d (.int .i64 (u.1:Int)))],[(64,⟨167,10,[Db u.2]⟩),(32,⟨29,32,[cb z32]⟩)],2000⟩)
  (fun u=>u.1≤t.ins.length∧u.2.length≤36*u.1∧u.2++fw tH t.ins u.1=R) (fun u=>t.ins.length-u.1) (0,[]) ⟨aw,aw,by rw[←o];exact nG⟩ ((FH 64 rfl).trans (b8 (by
   simp[aA,ai,fv,lk,bV,AV.low,AV.l]
   exact⟨lm _ _,aI _ _⟩))) ?_
 rintro⟨k,B⟩⟨G,p,m⟩;simp only at G p m;simp only[go_sem,Nat.reduceEqDiff,Nat.reduceAdd,Nat.reduceLT,↓reduceIte,Nat.reduceMul];refine⟨fun h=>?_,fun h=>?_⟩
 ·obtain⟨i,e,C⟩:=bu (l:=t.ins) (k:=k) aq;obtain⟨a,f,z⟩:=E i (cr e);have H:=ay (k:=k) aq;have s:=lS a;have j:=qi a;have D:(List.range 32).map (fun k=>((uC i).drop k).take 1)=List.map ((fun r=>List.map AV.d r)∘fun(x:Nat)=>[DV.int .u8 (x:Int)]) i.hash:=by rw[EP a];simp[rb,Function.comp_def]
  simp[go_sem,e,s,EO,j,po a,pp];refine aS [(0,64),(1,2096)] (H4 68 35 (uC i) B i.hash D (fun n=>T8 n i) a aq) rfl aw (by simp[lk]) (by simp[lk,Blk.r,aQ,bH,J5]) (by simp[AV.R,AV.r,cn,iV,lk]) ?_;rintro r b⟨rfl,c,q⟩;refine⟨[],rfl,?_⟩;have y:(B++i.hash).length=B.length+32:=by rw[b_,a]
  have g:B++tH i=B++i.hash++le i.idx 4:=by simp[tH]
  generalize B++i.hash=B1 at *;simp[go_sem,cj,bK,c,q,Blk.r,aQ,bH,J5,AV.R,AV.r,j,Wh a];clear c q b;refine bJ [] (jF [] i.idx aw f) rfl (ak (.one (am (.nil 1))) (ak (.deep a9) aF)) ?_;simp[go_sem,aC];refine aS [(0,64)] (qW B1 (le i.idx 4) (by rw[aO];omega)) rfl aw (by simp[lk]) (by simp[lk,Blk.r,aQ,bH]) (by simp[AV.R,AV.r,cn,iV,lk]) ?_;rintro r b⟨rfl,c⟩;refine⟨[],rfl,?_⟩;rw[←g]at c;have A:(B++tH i).length=B1.length+4:=by rw[g,b_,aO]
  simp[go_sem,cj,bK,c,Blk.r,aQ,bH,AV.R,AV.r,H];refine ao (k+1,B++tH i) ⟨by simp only;omega,by simp only;omega,eu C m⟩ (by simp only;omega) ?_;simp[aA,ai,fv,lk,AV.low,AV.l];exact⟨lm _ _,aI _ _⟩
 ·have v:k=t.ins.length:=aq;subst v;have:=eA m;subst this;simp[go_sem];refine aS [(0,64)] (AK B aq) rfl aw (by simp[lk]) (by simp[lk,Blk.r,aQ,bH]) (by simp[AV.R,AV.r,cn,iV,lk]) ?_;rintro r b⟨rfl,c⟩;refine⟨[],rfl,?_⟩;have w:=aR B;simp[go_sem,cj,bK,c,Blk.r,aQ,bH,dV,AV.r,w,al w,cf,ah];exact aa (by simp[AV.deep];exact bp _) rfl
theorem FI(os:List (Nat×List Nat))(A:os.length≤8)(q:∀o,o∈os→o.1<18446744073709551616∧o.2.length≤1100):fm prog 56 [.d (.ro 2 (os.map eO))] (.agg (cb (bc (os.map gQ).flatten))):=by
 refine bL func56 ntmps56 (rs:=[.cell 2 29]) a9 ?_;simp[go_sem];refine aS [] o6 rfl aw aw aw (by simp[AV.R]) ?_;rintro r a⟨rfl,b⟩;refine⟨[(97,0)],rfl,?_⟩;simp[go_sem,cj,bK,b,Blk.r,aQ,iG,AV.r,cn];clear b a;generalize i:(os.map gQ).flatten=R
 refine na (fun u:Nat×List Nat=>⟨[(2,.ptr 0 0 0 1),(3,.ptr 32 0 0 1),(7,.d (.ro 2 (os.map eO))),(8,.d (.int .i64 (os.length:Int))),(9,.d (.int .i64 (u.1:Int)))],[(32,⟨167,10,[Db u.2]⟩),(0,⟨29,32,[cb z32]⟩)],2000⟩)
  (fun u=>u.1≤os.length∧u.2.length≤1200*u.1∧u.2++fw gQ os u.1=R) (fun u=>os.length-u.1) (0,[]) ⟨aw,aw,by rw[←i];exact nG⟩ ((FH 32 rfl).trans (b8 (by
   simp[aA,ai,fv,lk,bV,AV.low,AV.l]
   exact⟨lm _ _,aI _ _⟩))) ?_
 rintro⟨k,B⟩⟨x,j,g⟩;simp only at x j g;simp only[go_sem,Nat.reduceEqDiff,Nat.reduceAdd,Nat.reduceLT,↓reduceIte];refine⟨fun h=>?_,fun h=>?_⟩
 ·obtain⟨o,e,t⟩:=bu (l:=os) (k:=k) aq;obtain⟨f,v⟩:=q o (cr e);have z:=ay (k:=k) aq;have w:=cC o.2.length;have y:(cN o.2).length=(az o.2.length).length+o.2.length:=by simp[cN]
  simp[go_sem,e,eO];refine bJ [] (yb [] o.1 aw f) rfl (ak (.one (am (.nil 1))) (ak (.deep a9) aF)) ?_;simp[go_sem,aC];refine aS [(0,32)] (qW B (le o.1 8) (by rw[aO];omega)) rfl aw (by simp[lk]) (by simp[lk,Blk.r,aQ,bH]) (by simp[AV.R,AV.r,cn,iV,lk]) ?_;rintro r a⟨rfl,b⟩;refine⟨[],rfl,?_⟩;have p:(B++le o.1 8).length=B.length+8:=by rw[b_,aO]
  have c:B++gQ o=B++le o.1 8++cN o.2:=by simp[gQ]
  generalize B++le o.1 8=B1 at *;simp[go_sem,cj,bK,b,Blk.r,aQ,bH,AV.R,AV.r];clear b a;refine bJ [] (gG [] o.2 aw aq) rfl (ak (.one (am (.nil 1))) (ak (.deep a9) aF)) ?_;simp[go_sem,aC];refine aS [(0,32)] (qW B1 (cN o.2) aq) rfl aw (by simp[lk]) (by simp[lk,Blk.r,aQ,bH]) (by simp[AV.R,AV.r,cn,iV,lk,nb,cN]) ?_;rintro r a⟨rfl,b⟩;refine⟨[],rfl,?_⟩;rw[←c]at b;have s:(B++gQ o).length=B1.length+(cN o.2).length:=by rw[c,b_]
  simp[go_sem,cj,bK,b,Blk.r,aQ,bH,AV.R,AV.r,z];refine ao (k+1,B++gQ o) ⟨by simp only;omega,by simp only;omega,eu t g⟩ (by simp only;omega) ?_;simp[aA,ai,fv,lk,AV.low,AV.l];exact⟨lm _ _,aI _ _⟩
 ·have m:k=os.length:=aq;subst m;have:=eA g;subst this;simp[go_sem];refine aS [(0,32)] (AK B aq) rfl aw (by simp[lk]) (by simp[lk,Blk.r,aQ,bH]) (by simp[AV.R,AV.r,cn,iV,lk]) ?_;rintro r a⟨rfl,b⟩;refine⟨[],rfl,?_⟩;have n:=aR B;simp[go_sem,cj,bK,b,Blk.r,aQ,bH,dV,AV.r,n,al n,cf,ah];exact aa (by simp[AV.deep];exact bp _) rfl
def jZ:List Nat:=[84,97,112,83,105,103,104,97,115,104]
theorem QR(os:List (Nat×List Nat))(G:os.length≤8)(w:∀o,o∈os→o.1<18446744073709551616∧o.2.length≤1100):fm prog 83 [.d (.ro 2 (os.map eO))] (.tup [.agg (cb (bc (os.map yL).flatten)),.agg (cb (bc (os.map zr).flatten))]):=by
 refine bL func83 ntmps83 (rs:=[.cell 2 29,.cell 3 29]) a9 ?_;simp[go_sem];refine aS [] o6 rfl aw aw aw (by simp[AV.R]) ?_;rintro r a⟨rfl,b⟩;refine⟨[(97,0)],rfl,?_⟩;simp[go_sem,cj,bK,b,Blk.r,aQ,iG,AV.r,cn];clear b a;refine aS [] o6 rfl aw aw aw (by simp[AV.R]) ?_;rintro r a⟨rfl,b⟩;refine⟨[(97,0)],rfl,?_⟩;simp[go_sem,cj,bK,b,Blk.r,aQ,iG,AV.r,cn];clear b a;generalize s:(os.map yL).flatten=V;generalize m:(os.map zr).flatten=S
 refine na (fun u:Nat×List Nat×List Nat=>⟨[(2,.ptr 0 0 0 1),(3,.ptr 32 0 0 1),(4,.ptr 64 0 0 1),(5,.ptr 96 0 0 1),(10,.d (.ro 2 (os.map eO))),(11,.d (.int .i64 (os.length:Int))),(12,.d (.int .i64 (u.1:Int)))],
   [(96,⟨167,10,[Db u.2.2]⟩),(64,⟨167,10,[Db u.2.1]⟩),(32,⟨29,32,[cb z32]⟩),(0,⟨29,32,[cb z32]⟩)],2000⟩)
  (fun u=>u.1≤os.length∧(u.2.1.length≤8*u.1∧u.2.2.length≤1200*u.1)∧u.2.1++fw yL os u.1=V∧u.2.2++fw zr os u.1=S) (fun u=>os.length-u.1) (0,[],[]) ⟨aw,aw,by rw[←s];exact nG,by rw[←m];exact nG⟩
  ((FH 64 rfl).trans ((FH 96 rfl).trans (b8 (by
   simp[aA,ai,fv,lk,bV,AV.low,AV.l]
   exact⟨lm _ _,aI _ _⟩)))) ?_
 rintro⟨k,A,B⟩⟨D,⟨n,p⟩,q,j⟩;simp only at D n p q j;simp only[go_sem,Nat.reduceEqDiff,Nat.reduceAdd,Nat.reduceLT,↓reduceIte];refine⟨fun h=>?_,fun h=>?_⟩
 ·obtain⟨o,g,v⟩:=bu (l:=os) (k:=k) aq;obtain⟨i,z⟩:=w o (cr g);have F:=ay (k:=k) aq;have C:=cC o.2.length;have E:(cN o.2).length=(az o.2.length).length+o.2.length:=by simp[cN]
  simp[go_sem,g,eO];refine bJ [] (yb [] o.1 aw i) rfl (ak (.one (am (.nil 1))) (ak (.deep a9) aF)) ?_;simp[go_sem,aC];refine aS [(0,64)] (qW A (le o.1 8) (by rw[aO];omega)) rfl aw (by simp[lk]) (by simp[lk,Blk.r,aQ,bH]) (by simp[AV.R,AV.r,cn,iV,lk]) ?_;rintro r a⟨rfl,b⟩;refine⟨[],rfl,?_⟩;have y:(A++yL o).length=A.length+8:=by rw[b_,yL,aO]
  rw[show A++le o.1 8=A++yL o from rfl]at b;simp[go_sem,cj,bK,b,Blk.r,aQ,bH,AV.R,AV.r];clear b a;refine bJ [] (gG [] o.2 aw aq) rfl (ak (.one (am (.nil 1))) (ak (.deep a9) aF)) ?_;simp[go_sem,aC];refine aS [(0,96)] (qW B (cN o.2) aq) rfl aw (by simp[lk]) (by simp[lk,Blk.r,aQ,bH]) (by simp[AV.R,AV.r,cn,iV,lk,nb,cN]) ?_;rintro r a⟨rfl,b⟩;refine⟨[],rfl,?_⟩;have x:(B++zr o).length=B.length+(cN o.2).length:=by rw[b_];rfl
  rw[show B++cN o.2=B++zr o from rfl]at b;simp[go_sem,cj,bK,b,Blk.r,aQ,bH,AV.R,AV.r,F];refine ao (k+1,A++yL o,B++zr o) ⟨by simp only;omega,⟨by simp only;omega,by simp only;omega⟩,eu v q,eu v j⟩ (by simp only;omega) ?_;simp[aA,ai,fv,lk,AV.low,AV.l];exact⟨lm _ _,lm _ _,aI _ _⟩
 ·have t:k=os.length:=aq;subst t;have:=eA q;subst this;have:=eA j;subst this;have f:=aR A;have e:=aR B;simp[go_sem];refine aS [(0,64)] (AK A aq) rfl aw (by simp[lk]) (by simp[lk,Blk.r,aQ,bH]) (by simp[AV.R,AV.r,cn,iV,lk]) ?_;rintro r a⟨rfl,b⟩;refine⟨[],rfl,?_⟩;simp[go_sem,cj,bK,b,Blk.r,aQ,bH,dV,AV.r];clear b a;refine aS [(0,96)] (AK B aq) rfl aw (by simp[lk]) (by simp[lk,Blk.r,aQ,bH]) (by simp[AV.R,AV.r,cn,iV,lk]) ?_;rintro r a⟨rfl,b⟩;refine⟨[],rfl,?_⟩;simp[go_sem,cj,bK,b,Blk.r,aQ,bH,dV,AV.r,f,e,al f,al e,cf,ah]
  exact aa (by
   intro c hc;simp at hc;rcases hc with rfl|rfl;exact .inr ⟨_,rfl,bp _⟩
   exact .inr ⟨_,rfl,bp _⟩) rfl
theorem Dc(t:Tn):∀v,v∈[AV.agg (eT t)]→v.deep:=by simp[AV.deep,AV.deep1,eT]
def ZH:List Nat:=List.replicate 96 0
theorem ZI:gi prog 139=some (cb ZH):=by kernel_rfl
def J7:List Nat:=List.replicate 160 0
theorem Vn:gi prog 143=some (cb J7):=by kernel_rfl
attribute [go_sem] ZI Vn
theorem FK:ZH.length=96:=rfl
theorem uQ:List.drop 96 (cb ZH)=[]:=rfl
theorem AL:J7.length=160:=by simp[J7]
theorem H5:List.drop 160 (cb J7)=[]:=c_ (by rw[aj,AL];exact cL _)
theorem H6{A Z:List AV}{n m:Nat}(a:A.length=n)(b:n≤m):List.drop m (A++List.drop n Z)=List.drop m Z:=by
 rw[List.drop_append,c_ aq,List.nil_append,List.drop_drop,a,show n+(m-n)=m by omega]
theorem tJ{A B Z:List AV}{n m:Nat}(a:A.length=n)(b:n≤m):List.take n (A++List.drop n Z)++(B++List.drop m (A++List.drop n Z))=A++B++List.drop m Z:=by
 rw[H6 a b];subst a;rw[List.take_left,cA]
theorem yM(a b:List Nat):cb (a++b)=cb a++cb b:=by simp[cb]
theorem QS(t:Tn)(e:Sm t):fm prog 82 [.agg (eT t)] (.agg (cb (bc (t.ins.map tH).flatten++(bc (t.ins.map uP).flatten++bc (t.outs.map gQ).flatten)))):=by
 refine bL func82 ntmps82 (rs:=[.cell 2 139]) (Dc t) ?_;have m:=Vm t e;have l:=J6 t e;have x:=FI t.outs (by have:=e.2.2.1;omega) (fun o h=>⟨e.1.2.2.2 o h,by have:=e.2.2.2.1 o h;omega⟩);have f:=aR (t.ins.map tH).flatten;have j:=aR (t.ins.map uP).flatten;have q:=aR (t.outs.map gQ).flatten;generalize bc (t.ins.map tH).flatten=a at *;generalize bc (t.ins.map uP).flatten=b at *;generalize bc (t.outs.map gQ).flatten=c at *;have v:eT t=[.d (.int .u32 (t.ver:Int)),.d (.ro 35 (t.ins.map eI)),.d (.ro 2 (t.outs.map eO)),.d (.int .u32 (t.lock:Int))]:=rfl;have g:=Dc t;rw[v]at m l g;simp[go_sem,eT];refine cK [0,2,4,5] [(1,[]),(3,[]),(6,[7]),(8,[])] 3 (k:=9) ?_;intro G s;simp[go_sem];refine ag m g ?_;simp[go_sem];refine ag l g ?_;simp[go_sem];refine ag x a9 ?_;simp[go_sem,aj,f,j,q,FK,uQ];rw[H6 (A:=cb a) (n:=32) (by rw[aj,f]) aq,←cA (cb a),tJ (A:=cb a++cb b) (n:=64) (by simp[aj,f,j]) aq,uQ,List.append_nil];refine s _ _ ?_;clear s G;have w:(cb a++cb b++cb c).length=96:=by simp[aj,f,j,q]
 have i:List.take 96 (cb a++cb b++cb c)=cb a++cb b++cb c:=cx aq;have u:cb (a++(b++c))=cb a++cb b++cb c:=by rw[yM,yM,cA]
 have p:=bp (a++(b++c));rw[u]at p;rw[u];generalize cb a++cb b++cb c=R at *;simp[go_sem,w,i,ah];exact aa p rfl
end Go.Proofs.YtmfnimjnneflnaaGreat
