/-
 Part 12 of what the claim rests on.
-/
import Derived.Test.YtmfnimjnneflnaaGreatD5
import Derived.Test.YtmfnimjnneflnaaGreatD6
import Derived.Test.YtmfnimjnneflnaaGreatD7
import Derived.Test.YtmfnimjnneflnaaGreatD10
set_option linter.unusedVariables false
set_option linter.unusedSimpArgs false
set_option maxRecDepth 100000
set_option maxHeartbeats 16000000
namespace Go.Proofs.YtmfnimjnneflnaaGreat
open Go.Am Go.Sha
theorem po{most:Nat}{r:Rn}(h:StOk r.main r.alt):StOk (eJ most r).2.main (eJ most r).2.alt:=by
 have h:=(eA h).1;unfold eJ;generalize bA r=p at *;simp only;split;cases lM most p.1 with
 |none=>exact i6 h
 |some n=>exact h
 ·exact h
theorem RQ{hp:Hp}{I:Nat→Prop}{id:Nat}{ty:TypeId}{cs:List (Int×Int)}(a:lk id hp=some ⟨ty,2,cs.map Yg⟩)(b:I id):SnapD hp I (.own id 0 cs.length cs.length) (.ro 2 (cs.map eQ)):=by
 refine j5 a b aw ?_ aw (fun r c=>by
  obtain⟨x,_,rfl⟩:=List.mem_map.1 c
  rfl)
 rw[List.drop_zero,cx aw];have e:cs.map Yg=(cs.map eQ).map fun r=>r.map AV.d:=by
  rw[List.map_map];rfl
 rw[e];exact kH _
theorem aaO{C:List AV}(o:jV C)(b:List Nat)(Pp:Hp){N:Nat}{hp:Hp}{g:FuncId}{s:RnS}{a ars2:List AV}{R:AV→RnS→Prop}{K:AV→Hp→Prop}(h:fH Tryz.prog 3 (a8 C) g s (.ptr 0 0 0 1::ars2) R)(t:3≤N)
  (q:∀p,p∈Pp++kg 3 (a8 C) s id→lk p.1 (aN b hp)=some p.2) (r:a.length=ars2.length) (l:∀(i:Nat)(v c:AV),a[i]?=some v→ars2[i]?=some c→c=v∨Snap hp (fun id=>id∈b) v c) (k:∀p,p∈Pp→p.1<N∧3≤p.1) (d:∀ ρ,AV.renL ρ ars2=ars2)
  (n:∀v s' ρ,R v s'→(∀j,j<3→ρ j=j)→K (v.ren ρ) (Pp++kg 3 (a8 C) s' id)):uh Tryz.prog g (.ptr 0 0 0 1::a) hp N K:=by
 refine Hy b Pp (args':=.ptr 0 0 0 1::ars2) (tc o) id h (ie 3) (fun j m=>by show j<N;omega) q (by simp[r]) ?_ (fun p hp=>⟨(k p hp).1,fun j m=>by have:=(k p hp).2;show j≠p.1;omega⟩) ?_ n
 ·intro i v c e f
  match i with
  |0=>simp at e f;subst e;subst f;exact .inl rfl
  |i+1=>exact l i v c e f
 ·rw[AV.renL,d,AV.ren];rfl
theorem RR{hp:Hp}{I:Nat→Prop}{l:List AV}:∀(i:Nat)(v a:AV),([]:List AV)[i]?=some v→l[i]?=some a→a=v∨Snap hp I v a:=by intro i v a h;simp at h
theorem A7{hp:Hp}{I:Nat→Prop}{a a':AV}{args args':List AV}(h:a'=a∨Snap hp I a a')(t:∀(i:Nat)(v b:AV),args[i]?=some v→args'[i]?=some b→b=v∨Snap hp I v b):∀(i:Nat)(v b:AV),(a::args)[i]?=some v→(a'::args')[i]?=some b→b=v∨Snap hp I v b:=by
 intro i v b c d
 match i with
 |0=>simp at c d;subst c;subst d;exact h
 |i+1=>exact t i v b c d
theorem Xc (F:RnF) (x:Rx) (hi:F.inner.length=32) (A:F.script.length≤100000) (i:x.msg.length=32) (w:Int)
    (s:ap Tryz.prog 43 [.agg (eS F.t (F.n:Int) F.coins),.d (nb (db F.script)),.d (nb F.annex)] (fun v=>v=.tup [.agg (cb x.msg),.d (.int .i64 w)])) (r:Rn) (J:List Bool) (H:Nat) :
    c7 Tryz.prog 226 3 (kg 3 (a8 (nB F)) ⟨r,J,H⟩ id) [.ptr 0 0 0 1] (fun v e=>v=.sub 708 0 0 1 32 32 1∧lk 708 e=some ⟨29,32,[cb x.msg]⟩∧Fv 3 (a8 (nB F)) ⟨r,J,H⟩ id e):=by
  refine aB Tryz.func226 (by kernel_rfl) rfl Tryz.ntmps226 (rs:=[.tmp 2]) rfl (fD rfl) (by decide) ?_;have C:=jb (F:=F) hi;have m:z32.length=32:=rfl;have f:=lq F.script A;have a:(eH [84,97,112,76,101,97,102] (192::(ax F.script.length++F.script))).length=32:=kt F.script;rw[cf];simp only[a8,cC,cB,id,nB,eS,ar];have o:∀l:List AV,(cb F.inner++(AV.d (bS F.path)::AV.d (nb F.script)::l))[33]?=some (.d (nb F.script)):=fun l=>by
    rw[dn (by rw[aj,hi];omega),aj,hi];rfl
  have h:∀l:List AV,(cb F.inner++(AV.d (bS F.path)::AV.d (nb F.script)::AV.d (nb F.annex)::l))[34]?=some (.d (nb F.annex)):=fun l=>by
    rw[dn (by rw[aj,hi];omega),aj,hi];rfl
  simp[go_sem,o];refine ag f a9 ?_;have b:List.drop 32 (cb z32)=[]:=rfl;have j:eH [84,97,112,76,101,97,102] (192::(ax F.script.length++F.script))=db F.script:=rfl;rw[j]at a⊢;generalize db F.script=lb at *;simp only[eS]at s;simp[go_sem,aj,m,a,b]
  have g:(AV.tup [.agg (cb x.msg),.d (.int .i64 w)]).flat:=by
    intro c hc;simp at hc;rcases hc with rfl|rfl
    · refine .inr ⟨_,rfl,fun y D=>?_⟩
      obtain⟨z,_,rfl⟩:=List.mem_map.1 D;trivial
    · exact .inl trivial
  refine cO [0,1,2,3,4,5,6,7,8] [9,13,14] [0,1,2,3,4,5,6,7,8,10,11,12,15] (.alt (.step 9 [10,11,12] true (bt 13 (.step 14 [15] true .done))) (bt 13 (.step 9 [10,11,12] true (.step 14 [15] true .done)))) ⟨[(4,.ptr 708 0 0 1)],(708,⟨29,32,[cb x.msg]⟩)::kg 3 (a8 (nB F)) ⟨r,J,H⟩ id,9000⟩ (k:=16) ?h3 ?hq
  case h3 =>
    intro G B;simp (config := { maxSteps := 3000000 }) [go_sem,h,aj,a]
    repeat' first
      |apply And.intro
      | (refine jx s rfl (ak (.deep a9) (ak (.one (ao (dE rfl trivial a))) (ak (.deep trivial) aC))) g ?_
         simp (config := { maxSteps := 3000000 }) [go_sem,aj,i,m])
      | (refine B _ _ (aV ⟨by simp [ah,fv,lk,AV.low,AV.low1],?_,aw⟩)
         intro p q;rcases d_.1 q with rfl|q
         · refine ⟨.inl (by simp [lk,aj,m,b]),by show 708<9000;omega,?_⟩
           intro r u v E;simp only[d_,List.mem_nil_iff,or_false]at u;subst u;obtain⟨y,_,rfl⟩:=List.mem_map.1 E;trivial
         · exact rnW C (fD rfl) (zh (by simp[lk,a8,cC,cB,nB,eS,ar]) (by simp[lk,a8]) (by simp[lk,a8])) p q)
  case hq =>
    simp[go_sem,ai];rw[cf];exact aP (by simp[lk,a8,cC,cB,nB,eS,ar]) rfl rfl
theorem Xd(F:RnF)(x:Rx)(hi:F.inner.length=32)(w:F.script.length≤100000)(l:x.msg.length=32)(u:Int)
  (A:ap Tryz.prog 43 [.agg (eS F.t (F.n:Int) F.coins),.d (nb (db F.script)),.d (nb F.annex)] (fun v=>v=.tup [.agg (cb x.msg),.d (.int .i64 u)])) {s:RnS} {N:Nat} {K:AV→Hp→Prop} (I:3≤N)
  (y:K (.sub N 0 0 1 32 32 1) ((N,⟨29,32,[cb x.msg]⟩)::kg 3 (a8 (nB F)) s id)):uh Tryz.prog 226 [.ptr 0 0 0 1] (kg 3 (a8 (nB F)) s id) N K:=by
 have z:=jb (F:=F) hi;have p:=tc z;have m:∀j,j<3→bX (li 3 id id) 3 (id j)=j:=fun j a=>As id 3 (ie 3) a;have f:dp (li 3 id id) [(708,0)]=true:=MD aq;have g:Bv 3 id [(708,0)] N 708=N:=Hq (c:=708) (j:=0) f aw;refine .inl (s5 (n:=3) (b0:=a8 (nB F) s id) id (Xc F x hi w l u A s.r s.J s.H) (fun i x hi=>MF i x hi) (ie 3) (fun j a=>by show j<N;omega)
  (fun j a=>⟨_,Fp _ (ie 3) a,p.2 _ _ _ a,(p.1 s id _ id j a m).symm⟩) ?_ [(708,0)] f ?_)
 rw[AV.renL,AV.renL,AV.ren];rfl;rintro L E⟨rfl,B,q⟩C D G M;have o:∀j,j<3→Bv 3 id [(708,0)] N (id j)=id j:=fun j a=>Ft f a;refine⟨(N,⟨29,32,[cb x.msg]⟩)::kg 3 (a8 (nB F)) s id,fun i b h=>?_,?_⟩;simp only[lk]at h;split at h;rename_i e;subst e;cases h;have k:=G 708 0 aw _ B;have e:Blk.ren (Bv 3 id [(708,0)] N) ⟨29,32,[cb x.msg]⟩=⟨29,32,[cb x.msg]⟩:=by
  simp only[Blk.ren,aS,List.map_cons,List.map_nil,jT,cb,List.map_map];rfl
 rw[e]at k;exact k;obtain⟨j,a,e⟩:=oW.1 (bN h);cases e;have k:=D j a _ (q j a);rw[p.1 s id _ id j a o]at k;exact k;rw[AV.ren,g];exact y
theorem H3(m:bL):ap Tryz.prog 228 [.rop [nb m]] (fun v=>v=.d (nb m)):=by
 refine bz Tryz.func228 Tryz.ntmps228 (rs:=[.tmp 1]) a9 ?_;simp[go_sem,ai];exact ae trivial rfl
def Xe(e:bL→bL→bL→Bool):Prop:=∀c a b:bL,c.length=32→bytes c→bytes a→bytes b→a.length≤1000→b.length≤1000→ap Tryz.prog 156 [.agg (cb c),.d (nb a),.d (nb b)] (fun v=>v=.d (.bool (e c b a)))
theorem sk(key:bL):(key.map fun(b:Nat)=>[DV.int .u8 (b:Int)]).flatten=cd key:=by
 unfold cd
 induction key with
 |nil=>rfl
 |cons a l ih=>simp only[List.map_cons,List.flatten_cons,ih];rfl
theorem H4{hp:Hp}{key:bL}:Snap hp (fun _=>True) (.agg (cb key)) (.agg (cb key)):=.deep (dc _)
theorem NU{C:List AV}(t:jV C)(a:bL)(F:bytes a)(z:a.length≤1000)(p:bL→bL→bL→Bool)(Q:Xe p)(r:Rn)(J:List Bool)(H:Nat)(key sig:bL)(K:bytes key)(L:bytes sig)(P:key.length≤1000)(x:sig.length≤1000)(E:-9223372036854775808≤r.bud)(A:r.bud<9223372036854775808) :
  fH Tryz.prog 3 (a8 C) 225 ⟨r,J,H⟩ [.ptr 0 0 0 1,.d (nb key),.d (nb sig),.fn 228 [.rop [nb a]]] (fun v D=>v=.d (.bool (fO p key sig a r).1)∧D=⟨(fO p key sig a r).2,J,H⟩):=by
 refine aB Tryz.func225 (by kernel_rfl) rfl Tryz.ntmps225 (rs:=[.tmp 8]) rfl (fD rfl) (by decide) ?_;have O:=t.2.2;simp[go_sem];refine gR (Pp:=[]) t (gn t r J H) aq aw (by simp[AV.renL,AV.ren]) ?_;rintro v D ρ ⟨rfl,rfl⟩ I;by_cases n:r.e=0
 ·by_cases i:sig.length=0
  ·have j:fO p key sig a r=(false,r):=(by simp[fO,i]);rw[j];have g:(sig.length:Int)=0:=aq;simp[go_sem,AV.ren,n,nb,i,g,ai];rw[cf];exact aP rfl rfl rfl
  ·have g:¬(sig.length:Int)=0:=aq;by_cases m:r.bud<50
   ·have j:fO p key sig a r=(false,aH 21 r):=(by simp[fO,i,n,m]);rw[j];simp[go_sem,AV.ren,n,nb,i,g];rw[cf];simp only[a8,cC,cB,id];simp[go_sem,O,m];refine bw (Pp:=[]) (s:=⟨r,J,H⟩) t (cK t r J H 21) (by simp[cf,a8,cC,cB,n]) aq aw (by simp[AV.renL,AV.ren]) ?_;rintro v D ρ rfl I;rw[cf];generalize aH 21 r=r';simp only[a8,cC,cB,id];simp[go_sem,ai];exact aP rfl rfl rfl
   ·have j:fO p key sig a r=if key.length=32∧p key sig a=true then(true,{ r with bud:=r.bud-50 })else(false,aH 20 { r with bud:=r.bud-50 }):=by
     simp only[fO,i,n,m,if_false,ne_eq,not_false_eq_true,and_self,if_true]
    rw[j];have N:IntKind.i64.wrap (r.bud-50)=r.bud-50:=IntWalk.i64_in _ aq;simp[go_sem,AV.ren,n,nb,i,g];rw[cf];simp only[a8,cC,cB,id];simp[go_sem,O,m,N];have R:∀l:List AV,l=l:=fun _=>rfl;obtain⟨c,alt,u,bud,w,e⟩:=r;simp only at n m N E A⊢;subst n;have B:iZ ⟨c,alt,u,bud,w,0⟩=iZ ⟨c,alt,u,bud-50,w,0⟩:=rfl;rw[B];have y:=cK t ⟨c,alt,u,bud-50,w,0⟩ J H 20;by_cases b:key.length=32
    ·have o:=Q key a sig b K F L;have f:(key.length:Int)=32:=aq;cases M:p key sig a with
     |true =>
      rw[M]at o;rw[if_pos ⟨b,rfl⟩];simp[go_sem,b,f];refine cG [0,1,2,3,4,5,6,7,9] [(8,[]),(10,[11,12])] 2 (k:=13) ?_;intro G q;simp[go_sem,b,f,AV.ren,sk,cQ,al b,aj];refine ag (H3 a) a9 ?_;simp[go_sem];refine ag (o z x) (by intro v j;simp at j;rcases j with rfl|rfl|rfl;exact dc _;trivial;trivial) ?_;simp[go_sem];refine q _ _ ?_;clear q G;simp[go_sem,ai];exact aP rfl rfl rfl
     |false =>
      rw[M]at o;rw[if_neg (fun h=>by cases h.2)];simp[go_sem,b,f];refine cG [0,1,2,3,4,5,6,7,9] [(8,[]),(10,[11,12])] 2 (k:=13) ?_;intro G q;simp[go_sem,b,f,AV.ren,sk,cQ,al b,aj];refine ag (H3 a) a9 ?_;simp[go_sem];refine ag (o z x) (by intro v j;simp at j;rcases j with rfl|rfl|rfl;exact dc _;trivial;trivial) ?_;simp[go_sem];refine q _ _ ?_;clear q G;simp[go_sem];refine bw (Pp:=[]) (s:=⟨⟨c,alt,u,bud-50,w,0⟩,J,H⟩) t y (by simp[cf,a8,cC,cB]) aq aw (by simp[AV.renL,AV.ren]) ?_;rintro v D ρ rfl I;rw[cf];generalize aH 20 ⟨c,alt,u,bud-50,w,0⟩=r';simp only[a8,cC,cB,id];simp[go_sem,ai];exact aP rfl rfl rfl
    ·have f:¬(key.length:Int)=32:=aq;rw[if_neg (fun h=>b h.1)];simp[go_sem,b,f];refine cG [0,1,2,3,4,5,6,7,9] [(8,[]),(10,[11,12])] 2 (k:=13) ?_;intro G q;simp[go_sem,b,f,AV.ren];refine q _ _ ?_;clear q G;simp[go_sem];refine bw (Pp:=[]) (s:=⟨⟨c,alt,u,bud-50,w,0⟩,J,H⟩) t y (by simp[cf,a8,cC,cB]) aq aw (by simp[AV.renL,AV.ren]) ?_;rintro v D ρ rfl I;rw[cf];generalize aH 20 ⟨c,alt,u,bud-50,w,0⟩=r';simp only[a8,cC,cB,id];simp[go_sem,ai];exact aP rfl rfl rfl
 ·have j:fO p key sig a r=(false,r):=by simp[fO,n]
  rw[j];simp[go_sem,AV.ren,n,ai];rw[cf];exact aP rfl rfl rfl
theorem H5(F:RnF)(x:Rx)(hi:F.inner.length=32)(c:F.script.length≤100000)(a:x.msg.length=32)(b:Int)
  (e:ap Tryz.prog 43 [.agg (eS F.t (F.n:Int) F.coins),.d (nb (db F.script)),.d (nb F.annex)] (fun v=>v=.tup [.agg (cb x.msg),.d (.int .i64 b)])) {s:RnS} {N:Nat} {hp:Hp} {K:AV→Hp→Prop} (f:hp=kg 3 (a8 (nB F)) s id) (g:3≤N)
  (h:K (.sub N 0 0 1 32 32 1) ((N,⟨29,32,[cb x.msg]⟩)::kg 3 (a8 (nB F)) s id)):uh Tryz.prog 226 [.ptr 0 0 0 1] hp N K:=f▸Xd F x hi c a b e g h
theorem xh(F:RnF)(x:Rx)(hi:F.inner.length=32)(R:F.script.length≤100000)(o:x.msg.length=32)(M:bytes x.msg)(Q:Int)(S:ap Tryz.prog 43 [.agg (eS F.t (F.n:Int) F.coins),.d (nb (db F.script)),.d (nb F.annex)] (fun v=>v=.tup [.agg (cb x.msg),.d (.int .i64 Q)]))(q:bL→bL→bL→Bool)(X:Xe q)(r:Rn)(J:List Bool)(H:Nat)(key sig:bL)(O:bytes key)(P:bytes sig)(W:key.length≤1000)(B:sig.length≤1000)(L:-9223372036854775808≤r.bud)(E:r.bud<9223372036854775808) :
  fH Tryz.prog 3 (a8 (nB F)) 225 ⟨r,J,H⟩ [.ptr 0 0 0 1,.d (nb key),.d (nb sig),.mth 226 [.ptr 0 0 0 1]] (fun v K=>v=.d (.bool (fO q key sig x.msg r).1)∧K=⟨(fO q key sig x.msg r).2,J,H⟩):=by
 have z:=jb (F:=F) hi;generalize w:nB F=C at *;refine aB Tryz.func225 (by kernel_rfl) rfl Tryz.ntmps225 (rs:=[.tmp 8]) rfl (fD rfl) (by decide) ?_;have V:=z.2.2;simp[go_sem];refine gR (Pp:=[]) z (gn z r J H) aq aw (by simp[AV.renL,AV.ren]) ?_;rintro v K ρ ⟨rfl,rfl⟩ N;by_cases j:r.e=0
 ·by_cases g:sig.length=0
  ·have A:fO q key sig x.msg r=(false,r):=(by simp[fO,g]);rw[A];have f:(sig.length:Int)=0:=aq;simp[go_sem,AV.ren,j,nb,g,f,ai];rw[cf];exact aP rfl rfl rfl
  ·have f:¬(sig.length:Int)=0:=aq;by_cases i:r.bud<50
   ·have A:fO q key sig x.msg r=(false,aH 21 r):=(by simp[fO,g,j,i]);rw[A];simp[go_sem,AV.ren,j,nb,g,f];rw[cf];simp only[a8,cC,cB,id];simp[go_sem,V,i];refine bw (Pp:=[]) (s:=⟨r,J,H⟩) z (cK z r J H 21) (by simp[cf,a8,cC,cB,j]) aq aw (by simp[AV.renL,AV.ren]) ?_;rintro v K ρ rfl N;rw[cf];generalize aH 21 r=r';simp only[a8,cC,cB,id];simp[go_sem,ai];exact aP rfl rfl rfl
   ·have A:fO q key sig x.msg r=if key.length=32∧q key sig x.msg=true then(true,{ r with bud:=r.bud-50 })else(false,aH 20 { r with bud:=r.bud-50 }):=by
     simp only[fO,g,j,i,if_false,ne_eq,not_false_eq_true,and_self,if_true]
    rw[A];have U:IntKind.i64.wrap (r.bud-50)=r.bud-50:=IntWalk.i64_in _ aq;simp[go_sem,AV.ren,j,nb,g,f];rw[cf];simp only[a8,cC,cB,id];simp[go_sem,V,i,U];have Y:∀l:List AV,l=l:=fun _=>rfl;obtain⟨a,alt,p,bud,u,e⟩:=r;simp only at j i U L E⊢;subst j;have I:iZ ⟨a,alt,p,bud,u,0⟩=iZ ⟨a,alt,p,bud-50,u,0⟩:=rfl;rw[I];have D:=cK z ⟨a,alt,p,bud-50,u,0⟩ J H 20;by_cases b:key.length=32
    ·have m:=X key x.msg sig b O M P;have c:(key.length:Int)=32:=aq;cases T:q key sig x.msg with
     |true =>
      rw[T]at m;rw[if_pos ⟨b,rfl⟩];simp[go_sem,b,c];refine cG [0,1,2,3,4,5,6,7,9] [(8,[]),(10,[11,12])] 2 (k:=13) ?_;intro G y;simp[go_sem,b,c,AV.ren,sk,cQ,al b,aj];refine H5 F x hi R o Q S (s:=⟨⟨a,alt,p,bud-50,u,0⟩,J,H⟩) (by simp[w,cf,a8,cC,cB]) aq ?_;rw[cf,w];simp only[a8,cC,cB,id];simp[go_sem];refine jx (m aq B) rfl (ak H4 (ak (.one (ao (dE rfl trivial o))) (ak (.deep trivial) aC))) trivial ?_;simp[go_sem];refine y _ _ ?_;clear y G;simp[go_sem,ai];exact aP rfl rfl rfl
     |false =>
      rw[T]at m;rw[if_neg (fun h=>by cases h.2)];simp[go_sem,b,c];refine cG [0,1,2,3,4,5,6,7,9] [(8,[]),(10,[11,12])] 2 (k:=13) ?_;intro G y;simp[go_sem,b,c,AV.ren,sk,cQ,al b,aj];refine H5 F x hi R o Q S (s:=⟨⟨a,alt,p,bud-50,u,0⟩,J,H⟩) (by simp[w,cf,a8,cC,cB]) aq ?_;rw[cf,w];simp only[a8,cC,cB,id];simp[go_sem];refine jx (m aq B) rfl (ak H4 (ak (.one (ao (dE rfl trivial o))) (ak (.deep trivial) aC))) trivial ?_;simp[go_sem];refine y _ _ ?_;clear y G;simp[go_sem];refine bw (Pp:=[(964,⟨29,32,[cb x.msg]⟩)]) (s:=⟨⟨a,alt,p,bud-50,u,0⟩,J,H⟩) z D (by simp[cf,a8,cC,cB]) aq aw (by simp[AV.renL,AV.ren]) ?_;rintro v K ρ rfl N;rw[cf];generalize aH 20 ⟨a,alt,p,bud-50,u,0⟩=r';simp only[a8,cC,cB,id];simp[go_sem,ai];exact aP rfl rfl rfl
    ·have c:¬(key.length:Int)=32:=aq;rw[if_neg (fun h=>b h.1)];simp[go_sem,b,c];refine cG [0,1,2,3,4,5,6,7,9] [(8,[]),(10,[11,12])] 2 (k:=13) ?_;intro G y;simp[go_sem,b,c,AV.ren];refine y _ _ ?_;clear y G;simp[go_sem];refine bw (Pp:=[]) (s:=⟨⟨a,alt,p,bud-50,u,0⟩,J,H⟩) z D (by simp[cf,a8,cC,cB]) aq aw (by simp[AV.renL,AV.ren]) ?_;rintro v K ρ rfl N;rw[cf];generalize aH 20 ⟨a,alt,p,bud-50,u,0⟩=r';simp only[a8,cC,cB,id];simp[go_sem,ai];exact aP rfl rfl rfl
 ·have A:fO q key sig x.msg r=(false,r):=by simp[fO,j]
  rw[A];simp[go_sem,AV.ren,j,ai];rw[cf];exact aP rfl rfl rfl
structure RnL(r r':Rn):Prop where
 br:r'.br=r.br
 cl:r'.cl=r.cl
 bud:r'.bud=r.bud
theorem qG(x:Int)(r:Rn):RnL r (aH x r):=by unfold aH;split<;>exact⟨rfl,rfl,rfl⟩
theorem RnL.trans{a b c:Rn}(h:RnL a b)(d:RnL b c):RnL a c:=⟨d.br.trans h.br,d.cl.trans h.cl,d.bud.trans h.bud⟩
theorem lS(r:Rn):RnL r (bA r).2:=by
 unfold bA;split;split;exact qG _ _;exact⟨rfl,rfl,rfl⟩;exact⟨rfl,rfl,rfl⟩
theorem zi(most:Nat)(r:Rn):RnL r (eJ most r).2:=by
 have h:=lS r;unfold eJ;generalize bA r=p at *;simp only;split;cases lM most p.1 with
 |none=>exact h.trans (qG _ _)
 |some n=>exact h
 ·exact h
theorem aaP(b:bL)(r:Rn):RnL r (dZ b r):=by
 unfold dZ;split;split;exact⟨rfl,rfl,rfl⟩;exact qG _ _;exact⟨rfl,rfl,rfl⟩
def kq(b:Int):Prop:=-9223372036854775808≤b∧b<9223372036854775808
theorem xi(b:bL→bL→bL→Bool)(key sig a:bL)(r:Rn)(h:kq r.bud)(c:StOk r.main r.alt):(fO b key sig a r).2.br=r.br∧(fO b key sig a r).2.cl=r.cl∧kq (fO b key sig a r).2.bud∧StOk (fO b key sig a r).2.main (fO b key sig a r).2.alt:=by
 have d:¬r.bud<50→kq (r.bud-50):=fun e=>⟨by have:=h.2;omega,by have:=h.2;omega⟩;unfold fO;split;split;have:=qG 21 r;exact⟨this.br,this.cl,by rw[this.bud];exact h,i6 c⟩;split;exact⟨rfl,rfl,d ‹_›,c⟩;have:=qG 20 { r with bud:=r.bud-50 };exact⟨this.br,this.cl,by rw[this.bud];exact d ‹_›,i6 c⟩;exact⟨rfl,rfl,h,c⟩
theorem H6{r:Rn}(h:StOk r.main r.alt):-2147483648<(eJ 4 r).1∧(eJ 4 r).1<2147483648:=by
 obtain⟨_,_,b⟩:=eA h;unfold eJ;generalize bA r=p at *;simp only;split;cases a:lM 4 p.1 with
 |none=>simp only;omega
 |some n=>exact QX b a
 ·simp only;omega
structure RnE(F:RnF)(x:Rx):Prop where
 hi:F.inner.length=32
 hs:F.script.length≤100000
 ml:x.msg.length=32
 mb:bytes x.msg
 mg:∃me:Int,ap Tryz.prog 43 [.agg (eS F.t (F.n:Int) F.coins),.d (nb (db F.script)),.d (nb F.annex)] (fun v=>v=.tup [.agg (cb x.msg),.d (.int .i64 me)])
 vf:Xe x.sg
 tl:x.tpl.length=32
 tb:bytes x.tpl
 tg:∃te:Int,ap Tryz.prog 18 [.agg (eT F.t),.d (.int .i64 (F.n:Int))] (fun v=>v=.tup [.agg (cb x.tpl),.d (.int .i64 te)])
 rc:∀(h:bL)(o:Int),bytes h→h.length≤1000→ap Tryz.prog 234 [.agg (eS F.t (F.n:Int) F.coins),.d (nb h),.d (.int .i64 o)] (fun v=>v=ZJ (x.rcv h o))
 tr:∀(s:bL)(o0 o1 back:Int),bytes s→s.length≤100000→-9223372036854775808≤back→back<9223372036854775808→ap Tryz.prog 27 [.agg (eS F.t (F.n:Int) F.coins),cF F.inner F.path F.script,.d (nb s),.agg [.d (.int .i64 o0),.d (.int .i64 o1)],.d (.int .i64 back)]
  (fun v=>v=.tup [.d (.ro 2 ((x.trg s o0 o1 back).1.map eQ)),.d (.int .i64 (x.trg s o0 o1 back).2)])∧(x.trg s o0 o1 back).1.length≤2
 sq:∃i:Ip,F.t.ins[F.n]?=some i∧i.ok∧x.seq=(i.seq:Int)
 lk:F.t.lock<4294967296∧x.lock=(F.t.lock:Int)
 vr:F.t.ver<4294967296∧x.ver=(F.t.ver:Int)
 hh:x.h1=b7∧x.h2=QW
theorem NV{C:List AV}(d:jV C){N:Nat}{g:FuncId}{s:RnS}{a:List AV}{R:AV→RnS→Prop}{K:AV→Hp→Prop}(h:fH Tryz.prog 3 (a8 C) g s (.ptr 0 0 0 1::a) R)(f:3≤N)(b:AV.renL (bX (li 3 id id) 3) a=a)
  (c:∀v s' ρ,R v s'→(∀j,j<3→ρ j=j)→K (v.ren ρ) (kg 3 (a8 C) s' id)):uh Tryz.prog g (.ptr 0 0 0 1::a) (kg 3 (a8 C) s id) N K:=by
 refine uG (Pp:=[]) (tc d) h (ie 3) (fun j e=>by show j<N;omega) aw ?_ c;rw[AV.renL,b,AV.ren];rfl
theorem RS(F:RnF)(x:Rx)(E:RnE F x)(O:Nat)(Y:O=172∨O=173∨O=186∨O=204)(r:Rn)(J:List Bool)(H:Nat)(V:StOk r.main r.alt)(S:kq r.bud) :
  fH Tryz.prog 3 (a8 (nB F)) 198 ⟨r,J,H⟩ [.ptr 0 0 0 1,.d (.int .u8 (O:Int))] (fun v t=>t=⟨AD x O r,J,H⟩):=by
 refine aB Tryz.func198 (by kernel_rfl) rfl Tryz.ntmps198 (rs:=[]) rfl (fD rfl) (by decide) ?_;have c:=jb (F:=F) E.hi;have Z:=c.2.2;obtain⟨U,T⟩:=E.mg;have M:=lO c r J H V;obtain⟨q,K,I⟩:=eA V;have y:kq (bA r).2.bud:=by rw[(lS r).bud];exact S
 unfold AD;generalize bA r=p at *;obtain⟨h,B⟩:=p;simp only at M q K I y⊢;rcases Y with rfl|rfl|rfl|rfl
 ·have R:=True.intro;have m:=lO c B J H q;obtain⟨g,i,j⟩:=eA q;have a:kq (bA B).2.bud:=by rw[(lS B).bud];exact y
  generalize bA B=p at *;obtain⟨e,z⟩:=p;simp only at m g i j a⊢;have k:=xh F x E.hi E.hs E.ml E.mb U T x.sg E.vf z J H h e I j K i a.1 a.2;obtain⟨_,_,_,o⟩:=xi x.sg h e x.msg z a g;generalize fO x.sg h e x.msg z=p at *;obtain⟨b,G⟩:=p;simp only at k o⊢;have C:=qA c G J H o (lh b) (by cases b<;>simp[lh]);simp[go_sem];refine gR (Pp:=[]) c M aq aw (by simp[AV.renL,AV.ren]) ?_;rintro v t ρ ⟨rfl,rfl⟩ u;simp[go_sem,AV.ren,rl];refine gR (Pp:=[]) c m aq aw (by simp[AV.renL,AV.ren]) ?_;rintro v t ρ ⟨rfl,rfl⟩ u;simp[go_sem,AV.ren,rl];refine NV c k aq rfl ?_;rintro v t ρ ⟨rfl,rfl⟩ u;simp[go_sem,AV.ren];refine ag (uJ b) a9 ?_;simp[go_sem];refine bw (Pp:=[]) c C (List.nil_append _).symm aq aw (by simp[AV.renL,AV.ren]) ?_;rintro v t ρ rfl u;rw[cf];generalize dZ (lh b) G=r';simp only[a8,cC,cB,id];simp[go_sem,ai];exact aP rfl rfl rfl
 ·have R:=True.intro;have m:=lO c B J H q;obtain⟨g,i,j⟩:=eA q;have a:kq (bA B).2.bud:=by rw[(lS B).bud];exact y
  generalize bA B=p at *;obtain⟨e,z⟩:=p;simp only at m g i j a⊢;have k:=xh F x E.hi E.hs E.ml E.mb U T x.sg E.vf z J H h e I j K i a.1 a.2;obtain⟨_,_,_,o⟩:=xi x.sg h e x.msg z a g;generalize fO x.sg h e x.msg z=p at *;obtain⟨b,G⟩:=p;simp only at k o⊢;simp[go_sem];refine gR (Pp:=[]) c M aq aw (by simp[AV.renL,AV.ren]) ?_;rintro v t ρ ⟨rfl,rfl⟩ u;simp[go_sem,AV.ren,rl];refine gR (Pp:=[]) c m aq aw (by simp[AV.renL,AV.ren]) ?_;rintro v t ρ ⟨rfl,rfl⟩ u;simp[go_sem,AV.ren,rl];refine NV c k aq rfl ?_;rintro v t ρ ⟨rfl,rfl⟩ u
  cases b with
  |true =>
   simp[go_sem,AV.ren];rw[cf];exact aP rfl rfl rfl
  |false =>
   simp[go_sem,AV.ren];refine bw (Pp:=[]) c (cK c G J H 16) (List.nil_append _).symm aq aw (by simp[AV.renL,AV.ren]) ?_;rintro v t ρ rfl u;rw[cf];generalize aH 16 G=r';simp only[a8,cC,cB,id];simp[go_sem,ai];exact aP rfl rfl rfl
 ·have R:=True.intro;have P:=wT c B J H q 4 aq;have g:=po (most:=4) q;have a:kq (eJ 4 B).2.bud:=by rw[(zi 4 B).bud];exact y
  have l:=H6 q;generalize eJ 4 B=p at *;obtain⟨n,z⟩:=p;simp only at P g a l⊢;have m:=lO c z J H g;obtain⟨L,A,w⟩:=eA g;have f:kq (bA z).2.bud:=by rw[(lS z).bud];exact a
  generalize bA z=p at *;obtain⟨e,N⟩:=p;simp only at m L A w f⊢;have k:=xh F x E.hi E.hs E.ml E.mb U T x.sg E.vf N J H h e I w K A f.1 f.2;obtain⟨_,_,_,o⟩:=xi x.sg h e x.msg N f L;generalize fO x.sg h e x.msg N=p at *;obtain⟨b,G⟩:=p;simp only at k o⊢;have W:IntKind.i64.wrap (n+1)=n+1:=IntWalk.i64_in _ (by have:=l.1;have:=l.2;omega);simp[go_sem];refine gR (Pp:=[]) c M aq aw (by simp[AV.renL,AV.ren]) ?_;rintro v t ρ ⟨rfl,rfl⟩ u;simp[go_sem,AV.ren,rl];refine gR (Pp:=[]) c P aq aw (by simp[AV.renL,AV.ren]) ?_;rintro v t ρ ⟨rfl,rfl⟩ u;simp[go_sem,AV.ren,rl];refine gR (Pp:=[]) c m aq aw (by simp[AV.renL,AV.ren]) ?_;rintro v t ρ ⟨rfl,rfl⟩ u;simp[go_sem,AV.ren,rl];refine NV c k aq rfl ?_;rintro v t ρ ⟨rfl,rfl⟩ u
  cases b with
  |true =>
   have C:=qA c G J H o (aU (n+1)) (by have:=iT (n+1);omega);simp[go_sem,AV.ren,W];refine ag (mN (n+1) (by have:=l.1;omega) (by have:=l.2;omega)) a9 ?_;simp[go_sem];refine bw (Pp:=[]) c C (List.nil_append _).symm aq aw (by simp[AV.renL,AV.ren]) ?_;rintro v t ρ rfl u;rw[cf];generalize dZ (aU (n+1)) G=r';simp only[a8,cC,cB,id];simp[go_sem,ai];exact aP rfl rfl rfl
  |false =>
   have C:=qA c G J H o (aU (n)) (by have:=iT (n);omega);simp[go_sem,AV.ren,W];refine ag (mN (n) (by have:=l.1;omega) (by have:=l.2;omega)) a9 ?_;simp[go_sem];refine bw (Pp:=[]) c C (List.nil_append _).symm aq aw (by simp[AV.renL,AV.ren]) ?_;rintro v t ρ rfl u;rw[cf];generalize dZ (aU (n)) G=r';simp only[a8,cC,cB,id];simp[go_sem,ai];exact aP rfl rfl rfl
 ·have R:=True.intro;have Q:=lO c B J H q;obtain⟨g,i,j⟩:=eA q;have a:kq (bA B).2.bud:=by rw[(lS B).bud];exact y
  generalize bA B=p at *;obtain⟨D,z⟩:=p;simp only at Q g i j a⊢;have m:=lO c z J H g;obtain⟨L,A,w⟩:=eA g;have f:kq (bA z).2.bud:=by rw[(lS z).bud];exact a
  generalize bA z=p at *;obtain⟨e,N⟩:=p;simp only at m L A w f⊢;have k:=NU c D j i x.sg E.vf N J H h e I w K A f.1 f.2;obtain⟨_,_,_,o⟩:=xi x.sg h e D N f L;generalize fO x.sg h e D N=p at *;obtain⟨b,G⟩:=p;simp only at k o⊢;have C:=qA c G J H o (lh b) (by cases b<;>simp[lh]);simp[go_sem];refine gR (Pp:=[]) c M aq aw (by simp[AV.renL,AV.ren]) ?_;rintro v t ρ ⟨rfl,rfl⟩ u;simp[go_sem,AV.ren,rl];refine gR (Pp:=[]) c Q aq aw (by simp[AV.renL,AV.ren]) ?_;rintro v t ρ ⟨rfl,rfl⟩ u;simp[go_sem,AV.ren,rl];refine bw (Pp:=[(452,⟨31,1,[[.d (nb D)]]⟩)]) c m rfl aq (by intro p X;simp at X;subst X;simp) (by simp[AV.renL,AV.ren]) ?_;rintro v t ρ ⟨rfl,rfl⟩ u;simp[go_sem,AV.ren,YP]
  refine aaO c [452] [] (s:=⟨N,J,H⟩) (ars2:=[.d (nb h),.d (nb e),.fn 228 [.rop [nb D]]]) k aq (zh rfl rfl rfl) rfl
   (A7 (.inl rfl) (A7 (.inl rfl) (A7 (.inr (.fnp (b:=⟨31,1,[[.d (nb D)]]⟩) aw rfl rfl rfl (jg [nb D]))) RR))) aw (fun ρ=>rfl) ?_
  rintro v t ρ ⟨rfl,rfl⟩ u;simp[go_sem,AV.ren];refine ag (uJ b) a9 ?_;simp[go_sem];refine bw (Pp:=[]) c C (List.nil_append _).symm aq aw (by simp[AV.renL,AV.ren]) ?_;rintro v t ρ rfl u;rw[cf];generalize dZ (lh b) G=r';simp only[a8,cC,cB,id];simp[go_sem,ai];exact aP rfl rfl rfl
theorem kZ:∀(j:Nat)(r:Rn),da (j+1) r=((bA (da j r).2).1::(da j r).1,(bA (da j r).2).2)
 |0,r=>rfl
 |j+1,r=>by
  have h:=kZ j (bA r).2;rw[da,h];rfl
theorem pp:∀(j:Nat)(r:Rn),(da j r).1.length=j
 |0,r=>rfl
 |j+1,r=>by rw[kZ,List.length_cons,pp j r]
theorem xj{r:Rn}(h:StOk r.main r.alt):∀j,StOk (da j r).2.main (da j r).2.alt∧∀x,x∈(da j r).1→x.length≤1000∧bytes x
 |0=>⟨h,fun x a=>by cases a⟩
 |j+1=>by
  obtain⟨b,f⟩:=xj h j;obtain⟨e,d,c⟩:=eA b;rw[kZ];refine⟨e,fun x a=>?_⟩;rcases d_.1 a with rfl|a;exact⟨d,c⟩;exact f x a
theorem H7:∀(j:Nat)(r:Rn),RnL r (da j r).2
 |0,r=>⟨rfl,rfl,rfl⟩
 |j+1,r=>by rw[kZ];exact(H7 j r).trans (lS _)
def A8(k:Nat)(l:List bL):List (List AV):=List.replicate k [AV.nil]++l.map Au
theorem RU(k:Nat)(x:bL)(l:List bL):(A8 (k+1) l).set k [.d (nb x)]=A8 k (x::l):=by
 unfold A8;rw[List.set_append_left _ _ aw];rw[List.replicate_succ',List.set_append_right _ _ aw];simp[Au]
theorem RV(l:List bL):A8 0 l=iH l []:=by simp[A8,iH]
theorem NW{C:List AV}(b:jV C)(r:Rn)(J:List Bool)(H:Nat)(U:StOk r.main r.alt)(n:Int)(Z:-2147483648<n)(ac:n<2147483648) :
  c7 Tryz.prog 232 3 (kg 3 (a8 C) ⟨r,J,H⟩ id) [.ptr 0 0 0 1,.d (.int .i64 n)] (fun v a=>Fv 3 (a8 C) ⟨(iq n r).2,J,H⟩ id a ∧
   ((v=.nil∧(iq n r).2.e≠0)∨(v=.own 548 0 (iq n r).1.length (iq n r).1.length∧lk 548 a=some ⟨31,1,iH (iq n r).1 []⟩))):=by
 refine aB Tryz.func232 (by kernel_rfl) rfl Tryz.ntmps232 (rs:=[.tmp 4]) rfl (fD rfl) (by decide) ?_;have P:=b.2.2;by_cases t:n<0∨(r.main.length:Int)<n
 ·have f:iq n r=([],aH 12 r):=by
   unfold iq;rw[if_pos t];exact if_neg (AH aq)
  have y:(aH 12 r).e≠0:=AH aq;have W:=cK b r J H 12;rw[f];generalize aH 12 r=r2 at *;rw[cf];simp only[a8,cC,cB,id];have S:True:=trivial;by_cases c:n<0
  ·simp[go_sem,P,c];refine bw (Pp:=[]) (s:=⟨r,J,H⟩) b W (by simp[cf,a8,cC,cB]) aq aw (by simp[AV.renL,AV.ren]) ?_;rintro v F ρ rfl z;simp[go_sem];refine gR (Pp:=[]) b (gn b r2 J H) aq aw (by simp[AV.renL,AV.ren]) ?_;rintro v F ρ ⟨rfl,rfl⟩ z;simp[go_sem,AV.ren,y,ai];rw[cf];exact aP rfl rfl rfl
  ·have i:(r.main.length:Int)<n:=t.resolve_left c;simp[go_sem,P,c,i];refine bw (Pp:=[]) (s:=⟨r,J,H⟩) b W (by simp[cf,a8,cC,cB]) aq aw (by simp[AV.renL,AV.ren]) ?_;rintro v F ρ rfl z;simp[go_sem];refine gR (Pp:=[]) b (gn b r2 J H) aq aw (by simp[AV.renL,AV.ren]) ?_;rintro v F ρ ⟨rfl,rfl⟩ z;simp[go_sem,AV.ren,y,ai];rw[cf];exact aP rfl rfl rfl
 ·have c:¬n<0:=fun h=>t (.inl h);have i:¬(r.main.length:Int)<n:=fun h=>t (.inr h);obtain⟨m,rfl⟩:∃m:Nat,n=(m:Int):=⟨n.toNat,aq⟩;have hm:m≤1000:=by have:=U.m;omega
  have M:¬r.main.length<m:=aq;rw[cf];simp only[a8,cC,cB,id];simp[go_sem,P,c,i,M];refine bw (Pp:=[]) (s:=⟨r,J,H⟩) b (gn b r J H) (by simp[cf,a8,cC,cB]) aq aw (by simp[AV.renL,AV.ren]) ?_;rintro v F ρ ⟨rfl,rfl⟩ z;by_cases G:r.e=0
  ·have f:iq (m:Int) r=da m r:=by
    unfold iq;rw[if_neg t];exact if_pos G
   rw[f];have w1:IntKind.i64.wrap ((m:Int)-1)=(m:Int)-1:=IntWalk.i64_in _ aq;simp[go_sem,AV.ren,G,w1];refine⟨aq,aq,aq,?_⟩
   have Q:∀k l,∀q,q∈A8 k l→∀v,v∈q→v.low1 9000:=by
    intro k l q I v f;rcases cD.1 I with h|h;rw[List.eq_of_mem_replicate h]at f;simp only[d_,List.mem_nil_iff,or_false]at f;subst f;trivial;obtain⟨x,_,rfl⟩:=List.mem_map.1 h;simp only[Au,d_,List.mem_nil_iff,or_false]at f;subst f;trivial
   have D:∀(w:Fr)(o:Hp)(V j:Nat),(fv 0 w=.ptr 0 0 0 1∧fv 5 w=.own 548 0 m m∧fv 6 w=.d (.int .i64 ((m:Int)-1-(j:Int))))→lk 548 o=some ⟨31,1,A8 (m-j) (da j r).1⟩→(∀p,p∈kg 3 (a8 C) ⟨(da j r).2,J,H⟩ id→lk p.1 o=some p.2) →
     av ⟨w,o,V⟩ ⟨[(0,.ptr 0 0 0 1),(5,.own 548 0 m m),(6,.d (.int .i64 ((m:Int)-1-(j:Int))))],(548,⟨31,1,A8 (m-j) (da j r).1⟩)::kg 3 (a8 C) ⟨(da j r).2,J,H⟩ id,9000⟩:=by
    rintro w o V j⟨q0,q1,q2⟩h1 h2;refine⟨?_,fun p a=>?_,.inr (by show 64≤9000;omega)⟩;intro p a;simp only[d_,List.mem_nil_iff,or_false]at a;rcases a with rfl|rfl|rfl;exact⟨.inl q0.symm,by simp[AV.low,AV.low1]⟩;exact⟨.inl q1.symm,by simp[AV.low,AV.low1]⟩;exact⟨.inl q2.symm,by simp[AV.low,AV.low1]⟩;rcases d_.1 a with rfl|a;exact⟨.inl h1,by show 548<9000;omega,Q _ _⟩;exact rnW b (fD rfl) h2 p a
   refine au (fun j:Nat=>⟨[(0,.ptr 0 0 0 1),(5,.own 548 0 m m),(6,.d (.int .i64 ((m:Int)-1-(j:Int))))],(548,⟨31,1,A8 (m-j) (da j r).1⟩)::kg 3 (a8 C) ⟨(da j r).2,J,H⟩ id,9000⟩)
    (fun j=>j≤m) (fun j=>m-j) 0 aq (D _ _ _ 0 (by simp[fv,lk]) (by simp[lk,A8,da]) (zh rfl rfl rfl)) ?_
   intro j hj;by_cases K:j=m
   ·subst K;have X:¬(0:Int)≤(j:Int)-1-(j:Int):=aq;have c1:((j:Int)-1-(j:Int))<0:=aq;simp[go_sem,X,c1,ai];refine⟨fun h=>aq,fun _=>⟨?_,(pp _ _).symm,RV _⟩⟩;rw[cf];exact aP rfl rfl rfl
   ·have T:j<m:=aq;have Y:(m:Int)-1-(j:Int)=((m-(j+1):Nat):Int):=aq;obtain⟨R,ab⟩:=xj U j;have E:=kZ j r;have B:(A8 (m-j) (da j r).1).length=m:=by simp[A8,pp];omega
    have g:(A8 (m-j) (da j r).1).set (m-(j+1)) [.d (nb (bA (da j r).2).1)]=A8 (m-(j+1)) (da (j+1) r).1:=by
     rw[E,show m-j=(m-(j+1))+1 by omega];exact RU _ _ _
    have A:(A8 (m-j) (da j r).1)[m-(j+1)]?=some [.nil]:=by
     unfold A8;rw[List.getElem?_append_left (by simp;omega),List.getElem?_replicate,if_pos aq]
    have N:∀h:m-(j+1)<(A8 (m-j) (da j r).1).length,(A8 (m-j) (da j r).1)[m-(j+1)]=[.nil]:=fun h=>Option.some.inj ((cm h).symm.trans A);have O:=lO b (da j r).2 J H R;have w2:IntKind.i64.wrap (((m-(j+1):Nat):Int)-1)=(m:Int)-1-((j+1:Nat):Int):=by rw[IntWalk.i64_in _ aq];omega
    have L:m-(j+1)<m:=aq;have u:((m-(j+1):Nat):Int)<(m:Int):=aq;rw[Y];generalize I:m-(j+1)=q at *;simp[go_sem];refine bw (Pp:=[(548,⟨31,1,A8 (m-j) (da j r).1⟩)]) b O rfl aq (by intro p o;simp at o;subst o;simp) (by simp[AV.renL,AV.ren]) ?_;rintro v F ρ ⟨rfl,rfl⟩ z;simp[go_sem,AV.ren,B,L,u,w2,A,N,g];refine am (j+1) aq aq (D _ _ _ (j+1) (by simp[fv,lk]) ?_ ?_)
    rw[I];simp[lk,g];rw[E];exact zh rfl rfl rfl
  ·have f:iq (m:Int) r=([],r):=by
    unfold iq;rw[if_neg t];exact if_neg G
   rw[f];simp[go_sem,AV.ren,G,ai];rw[cf];exact aP rfl rfl rfl
theorem Xf{C:List AV}(v:jV C)(r:Rn)(J:List Bool)(H:Nat)(y:StOk r.main r.alt)(n:Int)(l:-2147483648<n)(t:n<2147483648){N:Nat}{K:AV→Hp→Prop}(L:3≤N)
  (z:(iq n r).2.e≠0→K .nil (kg 3 (a8 C) ⟨(iq n r).2,J,H⟩ id))
  (k:K (.own N 0 (iq n r).1.length (iq n r).1.length) ((N,⟨31,1,iH (iq n r).1 []⟩)::kg 3 (a8 C) ⟨(iq n r).2,J,H⟩ id)):uh Tryz.prog 232 [.ptr 0 0 0 1,.d (.int .i64 n)] (kg 3 (a8 C) ⟨r,J,H⟩ id) N K:=by
 have p:=tc v;have m:∀j,j<3→bX (li 3 id id) 3 (id j)=j:=fun j a=>As id 3 (ie 3) a;have f:dp (li 3 id id) [(548,0)]=true:=MD aq;have g:Bv 3 id [(548,0)] N 548=N:=Hq (c:=548) (j:=0) f aw;refine .inl (s5 (n:=3) (b0:=a8 C ⟨r,J,H⟩ id) id (NW v r J H y n l t) (fun i x D=>MF i x D) (ie 3) (fun j a=>by show j<N;omega)
  (fun j a=>⟨_,Fp _ (ie 3) a,p.2 _ _ _ a,(p.1 _ id _ id j a m).symm⟩) ?_ [(548,0)] f ?_)
 rw[AV.renL,AV.renL,AV.renL,AV.ren];rfl;rintro M G⟨s,B⟩q F I O;have o:∀j,j<3→Bv 3 id [(548,0)] N (id j)=id j:=fun j a=>Ft f a;have u:∀i b,lk i (kg 3 (a8 C) ⟨(iq n r).2,J,H⟩ id)=some b→lk i q=some b:=by
  intro i b h;obtain⟨j,a,e⟩:=oW.1 (bN h);cases e;have k:=F j a _ (s j a);rw[p.1 _ id _ id j a o]at k;exact k
 rcases B with ⟨rfl,E⟩|⟨rfl,A⟩;exact⟨_,u,z E⟩;refine⟨_,fun i b h=>?_,by rw[AV.ren,g];exact k⟩;simp only[lk]at h;split at h;rename_i e;subst e;cases h;have w:=I 548 0 aw _ A;have e:Blk.ren (Bv 3 id [(548,0)] N) ⟨31,1,iH (iq n r).1 []⟩=⟨31,1,iH (iq n r).1 []⟩:=by
  simp only[Blk.ren,oY]
 rw[e]at w;exact w;exact u i b h
theorem aaQ{b:bL}{n:Int}(d:bytes b)(h:lM 8 b=some n):-9223372036854775808≤n∧n<9223372036854775808:=by
 unfold lM at h;split at h;rename_i i;obtain rfl:=Option.some.inj h;have g:b.length≤8:=aq;rcases fh b with rfl|⟨a,x,rfl⟩;decide;have j:x<256:=d x aw;have c:=wy (b:=a) (fun y f=>d y (List.mem_append_left _ f));simp at g;rw[jo];have hc:a.length=0∨a.length=1∨a.length=2∨a.length=3∨a.length=4∨a.length=5∨a.length=6∨a.length=7:=aq;rcases hc with e|e|e|e|e|e|e|e<;>rw[e]at c⊢<;>simp at c⊢<;>split<;>omega;cases h
theorem NX{r:Rn}(h:StOk r.main r.alt):-9223372036854775808≤(eJ 8 r).1∧(eJ 8 r).1<9223372036854775808:=by
 obtain⟨_,_,b⟩:=eA h;unfold eJ;generalize bA r=p at *;simp only;split;cases a:lM 8 p.1 with
 |none=>simp only;omega
 |some n=>exact aaQ b a
 ·simp only;omega
theorem NY{most:Nat}{r:Rn}(h:r.e≠0):eJ most r=(0,r):=by
 have a:bA r=([],r):=if_neg h;unfold eJ;rw[a];exact if_neg h
theorem NZ{r:Rn}(h:StOk r.main r.alt)(n:Int):StOk (iq n r).2.main (iq n r).2.alt∧(∀x,x∈(iq n r).1→x.length≤1000∧bytes x)∧(iq n r).1.length≤1000∧RnL r (iq n r).2:=by
 unfold iq;simp only;split;rename_i c;split;rename_i d;exact absurd d (AH aq);exact⟨i6 h,fun x a=>(by cases a),aw,qG _ _⟩;rename_i c;split;obtain⟨b,e⟩:=xj h n.toNat
 exact⟨b,e,by rw[pp];have:=h.m;omega,H7 _ _⟩;exact⟨h,fun x a=>(by cases a),aw,⟨rfl,rfl,rfl⟩⟩
theorem Gj{l:List bL}{b:bL}(h:(qf l b).2=0):(qf l b).1.length≤1000:=by
 unfold qf at h⊢;cases a:rI [] l with
 |none=>rw[a]at h;simp at h
 |some out =>
  rw[a]at h;simp only at h⊢;split at h;simp at h;rename_i c;rw[if_neg c];simp only;omega
theorem RX(F:RnF)(x:Rx)(E:RnE F x)(r:Rn)(J:List Bool)(V:StOk r.main r.alt)(hc:r.cl.length≤100000) :
  fH Tryz.prog 3 (a8 (nB F)) 202 ⟨r,J,0⟩ [.ptr 0 0 0 1] (fun v c=>c=⟨AE x r,J,0⟩):=by
 refine aB Tryz.func202 (by kernel_rfl) rfl Tryz.ntmps202 (rs:=[]) rfl (fD rfl) (by decide) ?_;have a:=jb (F:=F) E.hi;have hl:=a.2.2;unfold AE;have h1:=wT a r J 0 V 4 aq;have I:=po (most:=4) V;have S:=H6 V;have l1:=zi 4 r;generalize eJ 4 r=p1 at *;obtain⟨n,Y⟩:=p1;simp only at h1 I S l1⊢;have h2:=lO a Y J 0 I;obtain⟨k2,b1,b2⟩:=eA I;have l2:=lS Y;generalize bA Y=p2 at *;obtain⟨b,r2⟩:=p2;simp only at h2 k2 b1 b2 l2⊢;obtain⟨k3,z,t2,l3⟩:=NZ k2 n;have Z:=fun{N:Nat}{K:AV→Hp→Prop}(hN:3≤N)=>Xf a r2 J 0 k2 n S.1 S.2 (K:=K) hN;generalize iq n r2=p3 at *;obtain⟨l,g⟩:=p3;simp only at Z k3 z t2 l3⊢;simp[go_sem];refine gR (Pp:=[]) a h1 aq aw (by simp[AV.renL,AV.ren]) ?_;rintro v c ρ ⟨rfl,rfl⟩ f;simp[go_sem,AV.ren];refine gR (Pp:=[]) a h2 aq aw (by simp[AV.renL,AV.ren]) ?_;rintro v c ρ ⟨rfl,rfl⟩ f;simp[go_sem,AV.ren];refine Z aq (fun j=>?_) ?_
 ·have e1:eJ 4 g=(0,g):=NY j;have e2:eJ 8 g=(0,g):=NY j;have X:=wT a g J 0 k3 4 aq;have m2:=wT a g J 0 k3 8 aq;rw[e1]at X;rw[e2]at m2;simp only[e1,e2];rw[if_neg j];simp[go_sem];refine bw (Pp:=[]) a X (List.nil_append _).symm aq aw (by simp[AV.renL,AV.ren]) ?_;rintro v c ρ ⟨rfl,rfl⟩ f;simp[go_sem,AV.ren];refine bw (Pp:=[]) a X (List.nil_append _).symm aq aw (by simp[AV.renL,AV.ren]) ?_;rintro v c ρ ⟨rfl,rfl⟩ f;simp[go_sem,AV.ren];refine bw (Pp:=[]) a m2 (List.nil_append _).symm aq aw (by simp[AV.renL,AV.ren]) ?_;rintro v c ρ ⟨rfl,rfl⟩ f;simp[go_sem,AV.ren];refine bw (Pp:=[]) a (gn a g J 0) (List.nil_append _).symm aq aw (by simp[AV.renL,AV.ren]) ?_;rintro v c ρ ⟨rfl,rfl⟩ f;simp[go_sem,AV.ren,j];rw[cf];exact aP rfl rfl rfl
 ·have h4:=wT a g J 0 k3 4 aq;have k4:=po (most:=4) k3;have l4:=zi 4 g;generalize eJ 4 g=p4 at *;obtain⟨o,O⟩:=p4;simp only at h4 k4 l4⊢;have h5:=wT a O J 0 k4 4 aq;have k5:=po (most:=4) k4;have l5:=zi 4 O;generalize eJ 4 O=p5 at *;obtain⟨t,U⟩:=p5;simp only at h5 k5 l5⊢;have h6:=wT a U J 0 k5 8 aq;have k6:=po (most:=8) k5;have l6:=zi 8 U;have R:=NX k5;generalize eJ 8 U=p6 at *;obtain⟨bk,h⟩:=p6;simp only at h6 k6 l6 R⊢;have W:h.cl.length≤100000:=by rw[l6.cl,l5.cl,l4.cl,l3.cl,l2.cl,l1.cl];exact hc
  have i:∀(N:Nat),261≤N→∀p,p∈[((260:Nat),(⟨31,1,iH l []⟩:Blk))]→p.1<N∧3≤p.1:=by
   intro N hN p hp;simp at hp;subst hp;exact⟨by show 260<N;omega,by show 3≤260;omega⟩
  simp[go_sem];refine bw (Pp:=[(260,⟨31,1,iH l []⟩)]) a h4 rfl aq (i _ aq) (by simp[AV.renL,AV.ren]) ?_;rintro v c ρ ⟨rfl,rfl⟩ f;simp[go_sem,AV.ren];refine bw (Pp:=[(260,⟨31,1,iH l []⟩)]) a h5 rfl aq (i _ aq) (by simp[AV.renL,AV.ren]) ?_;rintro v c ρ ⟨rfl,rfl⟩ f;simp[go_sem,AV.ren];refine bw (Pp:=[(260,⟨31,1,iH l []⟩)]) a h6 rfl aq (i _ aq) (by simp[AV.renL,AV.ren]) ?_;rintro v c ρ ⟨rfl,rfl⟩ f;simp[go_sem,AV.ren];refine bw (Pp:=[(260,⟨31,1,iH l []⟩)]) a (gn a h J 0) rfl aq (i _ aq) (by simp[AV.renL,AV.ren]) ?_;rintro v c ρ ⟨rfl,rfl⟩ f;by_cases j:h.e=0
  ·rw[if_pos j];have D:=vU l b t2 (fun y w=>⟨by have:=(z y w).1;omega,(z y w).2⟩) aq;have A:=Fa (things:=l) b2 (fun y w=>⟨by have:=(z y w).1;omega,(z y w).2⟩);have m:=@Gj l b;simp[go_sem,AV.ren,j];refine bn [260] D rfl (ak (.one (ao (jU (J:=[]) rfl aw))) (ak (.deep trivial) aC)) ?_;have L:aN [260] ((260,(⟨31,1,iH l []⟩:Blk))::kg 3 (a8 (nB F)) ⟨h,J,0⟩ id)=kg 3 (a8 (nB F)) ⟨h,J,0⟩ id:=rfl;rw[L];generalize qf l b=u at *;obtain⟨s,T⟩:=u;simp only at A m⊢;by_cases M:T=0
   ·subst M;obtain⟨P,H⟩:=E.tr s o t bk A (by have:=m rfl;omega) R.1 R.2;generalize x.trg s o t bk=q at *;obtain⟨cs,ce⟩:=q;simp only at P H⊢;simp only[if_true];have Q:=RP a h J k6 cs ce W aq;simp only[eS,cF]at P;rw[cf];simp only[a8,cC,cB,id,nB,eS];simp[go_sem];refine cG [0,1,2,3,4,5,6,7,8,9,10,11,12,13] [(14,[15,16]),(17,[])] 1 (k:=18) ?_;intro G hG;have B:(ar F.inner (AV.d (bS F.path)) (AV.d (nb F.script))).length=34:=(by simp[ar,aj,E.hi])
    have C:∀l:List AV,List.take 34 (ar F.inner (AV.d (bS F.path)) (AV.d (nb F.script))++l)=ar F.inner (AV.d (bS F.path)) (AV.d (nb F.script)):=fun l=>by rw[←B,List.take_left]
    simp[go_sem,B,C];refine ag P (by intro v hv;simp at hv;rcases hv with rfl|rfl|rfl|rfl|rfl;simp[AV.deep,AV.deep1];exact c6 F.inner F.path F.script _ (List.mem_singleton.2 rfl);trivial;simp[AV.deep,AV.deep1];trivial) ?_;simp[go_sem];refine bw (Pp:=[]) (s:=⟨h,J,0⟩) a Q (by simp[cf,a8,cC,cB,nB,eS]) aq aw (by simp[AV.renL,AV.ren]) ?_;rintro v c ρ rfl f;simp[go_sem];refine hG _ _ ?_;clear hG G;simp[go_sem];rw[cf];exact aP (by simp[lk,a8,cC,cB,nB,eS]) rfl rfl
   ·rw[if_neg M];simp[go_sem,M];refine bw (Pp:=[]) a (cK a h J 0 T) (List.nil_append _).symm aq aw (by simp[AV.renL,AV.ren]) ?_;rintro v c ρ rfl f;rw[cf];generalize aH T h=r';simp only[a8,cC,cB,id];simp[go_sem,ai];exact aP rfl rfl rfl
  ·rw[if_neg j];simp[go_sem,AV.ren,j];rw[cf];exact aP rfl rfl rfl
def byL(l:List bL):Prop:=∀x,x∈l→bytes x
theorem Xg:bytes []:=fun x a=>(by cases a)
theorem Xh{x:bL}(h:bytes x):byL [x]:=fun y a=>by simp at a;subst a;exact h
theorem Gk(b:Bool):bytes (lh b):=by cases b;exact Xg;intro x a;simp[lh]at a;omega
theorem chk_ok{main alt:List bL}(h:fG main alt=0):(∀x,x∈main→x.length≤520)∧(∀x,x∈alt→x.length≤520)∧main.length+alt.length≤100:=by
 unfold fG at h;split at h;rename_i hc;simp only[Bool.and_eq_true,d7,decide_eq_true_eq]at hc;split at h;exact⟨hc.1,hc.2,‹_›⟩;simp at h;simp at h
theorem Xi{main alt:List bL}(h:fG main alt=0)(e:byL main)(f:byL alt):StOk main alt:=by
 obtain⟨a,b,c⟩:=chk_ok h;exact⟨aq,aq,fun x d=>⟨by have:=a x d;omega,e x d⟩,fun x d=>⟨by have:=b x d;omega,f x d⟩⟩
structure RnG(r r':Rn):Prop where
 st:StOk r'.main r'.alt
 bd:kq r'.bud
 br:r'.br=r.br
 cl:r'.cl=r.cl
theorem RnG.trans{a b c:Rn}(h:RnG a b)(d:RnG b c):RnG a c:=⟨d.st,d.bd,d.br.trans h.br,d.cl.trans h.cl⟩
theorem N1{r a:Rn}(h:kq r.bud)(l:RnL r a)(s:StOk a.main a.alt):RnG r a:=⟨s,by rw[l.bud];exact h,l.br,l.cl⟩
theorem nc{r:Rn}(h:StOk r.main r.alt)(a:kq r.bud)(x:Int):RnG r (aH x r):=N1 a (qG x r) (i6 h)
theorem tq{r:Rn}(h:StOk r.main r.alt)(a:kq r.bud):RnG r (bA r).2:=N1 a (lS r) (eA h).1
theorem DU{r:Rn}(h:StOk r.main r.alt)(a:kq r.bud)(most:Nat):RnG r (eJ most r).2:=N1 a (zi most r) (po h)
theorem DW{r:Rn}(h:StOk r.main r.alt)(d:kq r.bud){b:bL}(c:bytes b):RnG r (dZ b r):=by
 refine N1 d (aaP b r) ?_;unfold dZ;split;split;exact Xi ‹_› (fun x a=>(cD.1 a).elim (fun q=>(h.mb x q).2) (Xh c x)) (fun x a=>(h.ab x a).2);exact i6 h;exact h
theorem H8{r:Rn}(h:StOk r.main r.alt)(e:kq r.bud)(b:bL→bL→bL→Bool)(key sig a:bL):RnG r (fO b key sig a r).2:=by
 obtain⟨c,g,f,d⟩:=xi b key sig a r e h;exact⟨d,f,c,g⟩
theorem Xj{r:Rn}(h:StOk r.main r.alt)(a:kq r.bud):RnG r (nl r).2:=by
 have g:=tq h a;unfold nl;simp only;split;exact g.trans (nc g.st g.bd 19);exact g
theorem aaR{r:Rn}(h:StOk r.main r.alt)(f:kq r.bud)(x:Rx)(e:Nat):RnG r (AD x e r):=by
 have c:=tq h f;unfold AD;simp only;generalize bA r=k at *;have b:=tq c.st c.bd;split;generalize bA k.2=s at *;have a:=H8 b.st b.bd x.sg k.1 s.1 x.msg;exact c.trans (b.trans (a.trans (DW a.st a.bd (Gk _))));split;generalize bA k.2=s at *;have a:=H8 b.st b.bd x.sg k.1 s.1 x.msg;split;exact c.trans (b.trans a);exact c.trans (b.trans (a.trans (nc a.st a.bd 16)));split;have b:=DU c.st c.bd 4;generalize eJ 4 k.2=n at *;have a:=tq b.st b.bd;generalize bA n.2=s at *;have d:=H8 a.st a.bd x.sg k.1 s.1 x.msg;exact c.trans (b.trans (a.trans (d.trans (DW d.st d.bd (fi _)))));split;generalize bA k.2=m at *;have a:=tq b.st b.bd;generalize bA m.2=s at *;have d:=H8 a.st a.bd x.sg k.1 s.1 m.1;exact c.trans (b.trans (a.trans (d.trans (DW d.st d.bd (Gk _)))));exact c
structure RnOk(r:Rn)(k:Nat):Prop where
 st:StOk r.main r.alt
 bd:kq r.bud
 br:r.br.length≤k
 cl:r.cl.length≤2*k
theorem qH{r a:Rn}{k:Nat}(h:RnOk r k)(g:RnG r a):RnOk a k:=⟨g.st,g.bd,by rw[g.br];exact h.br,by rw[g.cl];exact h.cl⟩
theorem nt{r:Rn}{k m:Nat}(h:RnOk r k)(a:k≤m):RnOk r m:=⟨h.st,h.bd,by have:=h.br;omega,by have:=h.cl;omega⟩
theorem Xk{r:Rn}{k:Nat}(h:RnOk r k)(l:List (Int×Int))(b:l.length≤2)(e:Int):RnOk (Dn l e r) (k+1):=by
 unfold Dn;split;have g:=nc h.st h.bd e;have a:RnG { aH e r with cl:=r.cl++l } (dZ (lh true) { aH e r with cl:=r.cl++l }):=DW (r:={ aH e r with cl:=r.cl++l }) g.st g.bd (Gk true);refine⟨a.st,a.bd,?_,?_⟩;rw[a.br];show(aH e r).br.length≤k+1;rw[g.br];have:=h.br;omega;rw[a.cl];show(r.cl++l).length≤2*(k+1);have:=h.cl;simp;omega;exact nt h aq
theorem Xl{r:Rn}{k:Nat}(h:RnOk r k)(x:Rx)(i:∀s o0 o1 bk,(x.trg s o0 o1 bk).1.length≤2):RnOk (AE x r) (k+1):=by
 have b:=qH h (DU h.st h.bd 4);unfold AE;simp only;generalize eJ 4 r=p1 at *;have f:=qH b (tq b.st b.bd);generalize bA p1.2=p2 at *;obtain⟨j,_,_,g⟩:=NZ f.st p1.1;have e:=qH f (N1 f.bd g j);generalize iq p1.1 p2.2=p3 at *;have d:=qH e (DU e.st e.bd 4);generalize eJ 4 p3.2=p4 at *;have c:=qH d (DU d.st d.bd 4);generalize eJ 4 p4.2=p5 at *;have a:=qH c (DU c.st c.bd 8);generalize eJ 8 p5.2=p6 at *;split;split;exact Xk a _ (i _ _ _ _) _;exact nt (qH a (nc a.st a.bd _)) aq;exact nt a aq
theorem Gl{r:Rn}{k:Nat}(h:RnOk r k)(b:Bool):RnOk (mn b r) (k+1):=⟨h.st,h.bd,by have:=h.br;simp[mn];omega,by have:=h.cl;show r.cl.length≤_;omega⟩
theorem N2{r:Rn}{k:Nat}(h:RnOk r k):RnOk (mT r).2 k∧((mT r).1≠none→(mT r).2.br.length+1≤k):=by
 unfold mT;split;exact⟨qH h (nc h.st h.bd 18),fun q=>absurd rfl q⟩;rename_i a;have:=h.br;exact⟨⟨h.st,h.bd,by simp;omega,h.cl⟩,fun _=>by simp;omega⟩
theorem Xm{r d:Rn}{k e:Nat}(h:RnOk r k)(a:ny e r=some d):RnOk d (k+1):=by
 unfold ny at a;split at a;obtain rfl:=Option.some.inj a;split;exact Gl (qH h (Xj h.st h.bd)) _;exact Gl h false;split at a;obtain rfl:=Option.some.inj a;obtain⟨c,g⟩:=N2 h;generalize mT r=p at *;obtain⟨o,f⟩:=p;cases o with
 |none=>exact nt c aq
 |some b=>exact Gl c _
 ·split at a;obtain rfl:=Option.some.inj a;exact nt (N2 h).1 aq;cases a
theorem H9{s:bL}{a b:Nat}{w:Wd}(k:bytes s)(t:a<s.length)(h:lr s a=some (w,b)):a<b∧b≤s.length∧w.1<256∧bytes w.2∧w.2.length≤s.length:=by
 obtain⟨c,r,f⟩:∃c r,s.drop a=c::r:=by
  rcases h:s.drop a with _|⟨c,r⟩;have:=congrArg List.length h;simp at this;omega;exact⟨c,r,rfl⟩
 have d:bytes (c::r):=fun x g=>k x (by rw[←f]at g;exact List.mem_of_mem_drop g);have j:a+(r.length+1)=s.length:=by
  have:=congrArg List.length f;simp at this;omega
 unfold lr at h;rw[f]at h;cases e:iY (c::r)with
 |none=>rw[e]at h;cases h
 |some p =>
  obtain⟨n,m⟩:=p;obtain⟨u,o,q⟩:=Dp d e;rw[e]at h;simp only[List.length_cons,List.headD_cons]at h;split at h;cases h;rename_i l;simp only[Option.some.injEq,Prod.mk.injEq]at h;obtain⟨rfl,rfl⟩:=h;refine⟨aq,aq,d c aw,fun y i=>d y (List.mem_of_mem_drop (List.mem_of_mem_take i)),?_⟩;simp;omega
def uo(r1:Rn):Rn:=if r1.main.length=1∧pI (r1.main.headD [])=true then r1 else aH 25 r1
theorem aaS{C:List AV}(f:jV C)(r:Rn)(J:List Bool)(H:Nat)(A:StOk r.main r.alt):fH Tryz.prog 3 (a8 C) 99 ⟨r,J,H⟩ [.ptr 0 0 0 1] (fun v p=>p=⟨s9 r,J,H⟩):=by
 refine aB Tryz.func99 (by kernel_rfl) rfl Tryz.ntmps99 (rs:=[]) rfl (fD rfl) (by decide) ?_;have n:=f.2.2;by_cases o:0<r.br.length
 ·have x:s9 r=uo (aH 18 r):=by simp only[s9,if_pos o,uo]
  rw[x];have k:StOk (aH 18 r).main (aH 18 r).alt:=i6 A;have i:(0:Int)<(r.br.length:Int):=aq;have D:=cK f r J H 18;generalize aH 18 r=u at *;rw[cf];simp only[a8,cC,cB,id];simp[go_sem,n,o,i];refine bw (Pp:=[]) (s:=⟨r,J,H⟩) f D (by simp[cf,a8,cC,cB]) aq aw (by simp[AV.renL,AV.ren]) ?_;rintro v p ρ rfl t;obtain⟨j,alt,b,a,c,e⟩:=u;simp only at k;rcases j with _|⟨y,_|⟨z,l⟩⟩
  ·have g:uo ⟨[],alt,b,a,c,e⟩=aH 25 ⟨[],alt,b,a,c,e⟩:=rfl;rw[g,cf];simp only[a8,cC,cB,id];simp[go_sem,n];refine bw (Pp:=[]) (s:=⟨⟨[],alt,b,a,c,e⟩,J,H⟩) f (cK f ⟨[],alt,b,a,c,e⟩ J H 25) (by simp[cf,a8,cC,cB,bP]) aq aw (by simp[AV.renL,AV.ren]) ?_;rintro v p ρ rfl t;rw[cf];generalize aH 25 ⟨[],alt,b,a,c,e⟩=r';simp only[a8,cC,cB,id];simp[go_sem,ai];exact aP rfl rfl rfl
  ·obtain⟨B,w⟩:=k.mb y aw;have d:=Dj y w aq;rw[cf];simp only[a8,cC,cB,id];by_cases m:pI y=true
   ·have g:uo ⟨[y],alt,b,a,c,e⟩=⟨[y],alt,b,a,c,e⟩:=if_pos ⟨rfl,m⟩;rw[g];rw[m]at d;simp[go_sem,n,bP];refine ag d a9 ?_;simp[go_sem,ai];exact aP rfl rfl rfl
   ·have g:uo ⟨[y],alt,b,a,c,e⟩=aH 25 ⟨[y],alt,b,a,c,e⟩:=if_neg (fun h=>m h.2);rw[g];rw[show pI y=false by simpa using m]at d;simp[go_sem,n,bP];refine ag d a9 ?_;simp[go_sem];refine bw (Pp:=[]) (s:=⟨⟨[y],alt,b,a,c,e⟩,J,H⟩) f (cK f ⟨[y],alt,b,a,c,e⟩ J H 25) (by simp[cf,a8,cC,cB,bP]) aq aw (by simp[AV.renL,AV.ren]) ?_;rintro v p ρ rfl t;rw[cf];generalize aH 25 ⟨[y],alt,b,a,c,e⟩=r';simp only[a8,cC,cB,id];simp[go_sem,ai];exact aP rfl rfl rfl
  ·have g:uo ⟨y::z::l,alt,b,a,c,e⟩=aH 25 ⟨y::z::l,alt,b,a,c,e⟩:=if_neg (fun h=>by simp at h);have q:¬(l.length:Int)+1+1=1:=aq;rw[g,cf];simp only[a8,cC,cB,id];simp[go_sem,n,q];refine bw (Pp:=[]) (s:=⟨⟨y::z::l,alt,b,a,c,e⟩,J,H⟩) f (cK f ⟨y::z::l,alt,b,a,c,e⟩ J H 25) (by simp[cf,a8,cC,cB,bP]) aq aw (by simp[AV.renL,AV.ren]) ?_;rintro v p ρ rfl t;rw[cf];generalize aH 25 ⟨y::z::l,alt,b,a,c,e⟩=r';simp only[a8,cC,cB,id];simp[go_sem,ai];exact aP rfl rfl rfl
 ·have x:s9 r=uo r:=by simp only[s9,if_neg o,uo]
  rw[x];have k:=A;have i:¬(0:Int)<(r.br.length:Int):=aq;obtain⟨u,rfl⟩:∃u,u=r:=⟨r,rfl⟩;obtain⟨j,alt,b,a,c,e⟩:=u;simp only at k o i;rcases j with _|⟨y,_|⟨z,l⟩⟩
  ·have g:uo ⟨[],alt,b,a,c,e⟩=aH 25 ⟨[],alt,b,a,c,e⟩:=rfl;rw[g,cf];simp only[a8,cC,cB,id];simp[go_sem,n,o,i];refine bw (Pp:=[]) (s:=⟨⟨[],alt,b,a,c,e⟩,J,H⟩) f (cK f ⟨[],alt,b,a,c,e⟩ J H 25) (by simp[cf,a8,cC,cB,bP]) aq aw (by simp[AV.renL,AV.ren]) ?_;rintro v p ρ rfl t;rw[cf];generalize aH 25 ⟨[],alt,b,a,c,e⟩=r';simp only[a8,cC,cB,id];simp[go_sem,ai];exact aP rfl rfl rfl
  ·obtain⟨B,w⟩:=k.mb y aw;have d:=Dj y w aq;rw[cf];simp only[a8,cC,cB,id];by_cases m:pI y=true
   ·have g:uo ⟨[y],alt,b,a,c,e⟩=⟨[y],alt,b,a,c,e⟩:=if_pos ⟨rfl,m⟩;rw[g];rw[m]at d;simp[go_sem,n,bP,o,i];refine ag d a9 ?_;simp[go_sem,ai];exact aP rfl rfl rfl
   ·have g:uo ⟨[y],alt,b,a,c,e⟩=aH 25 ⟨[y],alt,b,a,c,e⟩:=if_neg (fun h=>m h.2);rw[g];rw[show pI y=false by simpa using m]at d;simp[go_sem,n,bP,o,i];refine ag d a9 ?_;simp[go_sem];refine bw (Pp:=[]) (s:=⟨⟨[y],alt,b,a,c,e⟩,J,H⟩) f (cK f ⟨[y],alt,b,a,c,e⟩ J H 25) (by simp[cf,a8,cC,cB,bP]) aq aw (by simp[AV.renL,AV.ren]) ?_;rintro v p ρ rfl t;rw[cf];generalize aH 25 ⟨[y],alt,b,a,c,e⟩=r';simp only[a8,cC,cB,id];simp[go_sem,ai];exact aP rfl rfl rfl
  ·have g:uo ⟨y::z::l,alt,b,a,c,e⟩=aH 25 ⟨y::z::l,alt,b,a,c,e⟩:=if_neg (fun h=>by simp at h);have q:¬(l.length:Int)+1+1=1:=aq;rw[g,cf];simp only[a8,cC,cB,id];simp[go_sem,n,q,o,i];refine bw (Pp:=[]) (s:=⟨⟨y::z::l,alt,b,a,c,e⟩,J,H⟩) f (cK f ⟨y::z::l,alt,b,a,c,e⟩ J H 25) (by simp[cf,a8,cC,cB,bP]) aq aw (by simp[AV.renL,AV.ren]) ?_;rintro v p ρ rfl t;rw[cf];generalize aH 25 ⟨y::z::l,alt,b,a,c,e⟩=r';simp only[a8,cC,cB,id];simp[go_sem,ai];exact aP rfl rfl rfl
def Jw(F:RnF)(x:Rx)(a:List bL)(bud:Int):AV :=
 if cp F.t (F.n:Int) F.coins≠0∨1000<F.script.length then .tup [.d (.ro 2 []),.d (.int .i64 1)]
 else .tup [.d (.ro 2 ((Do x F.script a bud).1.map eQ)),.d (.int .i64 (Do x F.script a bud).2)]
theorem zk(t:Tn)(n:Int)(coins:List (Nat×List Nat)):cp t n coins=0∨cp t n coins=1:=by
 rcases mS t n coins with h|h;exact .inr h;exact .inl h.1
theorem xk(F:RnF)(a:List bL)(bud:Int):∀v,v∈[AV.agg (eS F.t (F.n:Int) F.coins),cF F.inner F.path F.script,.d (.ro 1 (a.map bP)),.d (nb F.annex),.d (.int .i64 bud)]→v.deep:=by
 intro v b;simp at b;rcases b with rfl|rfl|rfl|rfl|rfl;simp[AV.deep,AV.deep1,eS];exact c6 F.inner F.path F.script _ (List.mem_singleton.2 rfl);trivial;trivial;trivial
def N4:List AV:=[.d (.int .u32 0),.nil,.nil,.d (.int .u32 0),.d (.int .i64 0),.nil]++(cb z32++[.nil,.nil,.nil,.nil,.nil,.nil,.d (.int .i64 0),.d (.int .i64 0),.nil,.d (.int .i64 0)])
theorem ado:fK Tryz.prog 158=some N4:=by kernel_rfl
theorem N5:N4.length=48:=rfl
theorem N6:List.drop 40 N4=[.nil,.nil,.nil,.nil,.d (.int .i64 0),.d (.int .i64 0),.nil,.d (.int .i64 0)]:=rfl
theorem aaT{L:List AV}(h:L.length=34)(k:Nat)(l:List AV):List.take (34+k) (L++l)=L++List.take k l:=by
 rw[List.take_append,cx aq,h,Nat.add_sub_cancel_left]
theorem Xn{L:List AV}(h:L.length=34)(k:Nat)(l:List AV):List.drop (34+k) (L++l)=List.drop k l:=by
 rw[List.drop_append,c_ aq,h,Nat.add_sub_cancel_left,List.nil_append]
def fR(j:Nat):Nat:=640+1000*j
theorem Xo:qp 3 fR:=by
 intro i j b a h;unfold fR at h;omega
theorem Xp(C:List AV)(s:RnS):kg 3 (a8 C) s fR=[(640,a8 C s fR 0),(1640,a8 C s fR 1),(2640,a8 C s fR 2)]:=rfl
theorem Ia{C:List AV}(f:jV C){N:Nat}{hp:Hp}{g:FuncId}{s:RnS}{a:List AV}{R:AV→RnS→Prop}{K:AV→Hp→Prop}(h:fH Tryz.prog 3 (a8 C) g s (.ptr 0 0 0 1::a) R)(d:hp=kg 3 (a8 C) s fR)(k:2641≤N)(c:∀ ρ,AV.renL ρ a=a)
  (e:∀v b ρ,R v b→K (v.ren ρ) (kg 3 (a8 C) b fR)):uh Tryz.prog g (.ptr 640 0 0 1::a) hp N K:=by
 subst d;refine uG (Pp:=[]) (tc f) h Xo (fun j i=>by unfold fR;omega) aw ?_ fun v b ρ hR _=>e v b ρ hR;rw[AV.renL,c,AV.ren];rfl
theorem sn{b:List Nat}(a:b.length=32):(List.range 32).map (fun k=>((cb b).drop k).take 1)=rb b:=by
 rw[iP a,dC]
theorem Jx{b:List Nat}(a:b.length=32)(r:List AV):(List.range 32).map (fun k=>((cb b++r).drop k).take 1)=rb b:=by
 rw[←sn a];refine List.map_congr_left fun k d=>?_;have c:k<32:=List.mem_range.1 d;have e:=aj b;rw[List.drop_append_of_le_length aq,List.take_append_of_le_length (by rw[et];omega)]
theorem tt{Q:AV→Prop}{st:St}{id n:Nat}{e:Int}{L:List Nat}(b:L.length=n)(a:lk id st.hp=some ⟨5,1,rb L⟩)(hq:Q (.tup [.d (nb L),.d (.int .i64 e)])):dm Q (.tup [.own id 0 n n,.d (.int .i64 e)]) st :=
 ew (ay (ao (bm b a trivial)) (ay (aM trivial) bO)) rfl a9 hq
theorem Jy{Q:AV→Prop}{st:St}{e:Int}(hq:Q (.tup [.d (nb []),.d (.int .i64 e)])):dm Q (.tup [.nil,.d (.int .i64 e)]) st :=
 ew (ay (ao (.nil 1)) (ay (aM trivial) bO)) rfl a9 hq
theorem tw{inner x k:List Nat}{b:List (List Nat)}{o:Bool}(hi:inner.length=32)(a:k.length=32)(f:ap Tryz.prog 92 [cF inner b x] (fun r=>r=.tup [.agg (cb k),.d (.bool o),.d (.int .i64 1)])) :
  ap Tryz.prog 46 [cF inner b x] (fun r=>r=.tup [.d (nb []),.d (.int .i64 1)]):=by
 refine bz Tryz.func46 Tryz.ntmps46 (rs:=[.tmp 2,.tmp 3]) (c6 _ _ _) ?_;have c:List.drop 32 (cb z32)=[]:=fg rfl;simp[go_sem,cF,ar,kM hi,iQ hi,bS,nb,hi,pj hi];refine ag f (c6 _ _ _) ?_;simp[go_sem,aj,a,al a,c,ai];exact Jy rfl
theorem jr{inner x k:List Nat}{g:List (List Nat)}{o:Bool}(hi:inner.length=32)(b:k.length=32)(f:ap Tryz.prog 92 [cF inner g x] (fun r=>r=.tup [.agg (cb k),.d (.bool o),.d (.int .i64 0)])) :
  ap Tryz.prog 46 [cF inner g x] (fun r=>r=.tup [.d (nb (81::32::k)),.d (.int .i64 0)]):=by
 refine bz Tryz.func46 Tryz.ntmps46 (rs:=[.tmp 2,.tmp 3]) (c6 _ _ _) ?_;have h:List.drop 32 (cb z32)=[]:=fg rfl;simp[go_sem,cF,ar,kM hi,iQ hi,bS,nb,hi,pj hi];refine ag f (c6 _ _ _) ?_;have a:=sn b;simp[go_sem]at a;simp[go_sem,aj,b,al b,h,a,aL,ai];have e:rb (81::32::k)=[AV.d (.int .u8 81)]::[AV.d (.int .u8 32)]::rb k:=by simp[rb]
 have c:(81::32::k).length=34:=by simp[b]
 exact tt (L:=81::32::k) c (by rw[e];rfl) (by simp[nb])
def gy(o:Bool)(inner:List Nat)(a:List (List Nat)):List Nat:=(if o then 193 else 192)::(inner++a.flatten)
theorem Gm{inner x k:List Nat}{c:List (List Nat)}{o:Bool}(hi:inner.length=32)(m:∀p,p∈c→p.length=32)(G:c.length≤1000)(v:k.length=32)(f:ap Tryz.prog 92 [cF inner c x] (fun r=>r=.tup [.agg (cb k),.d (.bool o),.d (.int .i64 0)])) :
  ap Tryz.prog 118 [cF inner c x] (fun r=>r=.tup [.d (nb (gy o inner c)),.d (.int .i64 0)]):=by
 refine bz Tryz.func118 Tryz.ntmps118 (rs:=[.tmp 2,.tmp 3]) (c6 _ _ _) ?_;have F:List.drop 32 (cb z32)=[]:=fg rfl;have H:IntKind.u8.wrap 193=193:=by decide
 simp[go_sem,cF,ar,kM hi,iQ hi,bS,nb,hi,pj hi];refine ag f (c6 _ _ _) ?_;have u:=Jx hi [AV.d (DV.ro 32 (List.map cd c)),AV.d (DV.ro 1 (List.map (fun(b:Nat)=>[DV.int .u8 (b:Int)]) x))];simp[go_sem]at u
 cases o
 ·simp[go_sem,u,aL,aj,v,hi,al v,F,bS,iQ hi,se hi];have s:(gy false inner (c.take 0)).length=33:=by simp[gy,hi]
  have z:rb (gy false inner (c.take 0))=[AV.d (.int .u8 192)]::rb inner:=by simp[gy,rb]
  refine au (fun k:Nat=>⟨[(7,.own 480 0 (gy false inner (c.take k)).length (gy false inner (c.take k)).length),(31,.d (bS c)),(32,.d (.int .i64 (c.length:Int))),(33,.d (.int .i64 (k:Int)))],[(480,⟨5,1,rb (gy false inner (c.take k))⟩)],9000⟩)
   (fun k=>k≤c.length) (fun k=>c.length-k) 0 aq (by
    rw[s,z];simp[av,ah,fv,lk,AV.low,AV.low1,bS]
    exact aT _ _) ?_
  intro k v;have w:=az (k:=k) aq;simp only[go_sem,Nat.reduceEqDiff,Nat.reduceAdd,Nat.reduceLT,↓reduceIte];refine⟨fun y=>?_,fun A=>?_⟩
  ·have g:k<c.length:=aq;have j:=cm g;have i:c.take (k+1)=c.take k++[c[k]]:=List.take_succ_eq_append_getElem g;generalize c[k]=q at j i;have e:q.length=32:=m q (cr j);have n:=sn e;simp[go_sem]at n;have hc:gy false inner (c.take (k+1))=gy false inner (c.take k)++q:=by rw[i];simp[gy]
   have C:(gy false inner (c.take k)).length≤33+32*k:=by
    clear hc i w;have:(c.take k).flatten.length≤32*k:=by
     have B:∀l:List (List Nat),(∀p,p∈l→p.length=32)→l.flatten.length=32*l.length:=by
      intro l
      induction l with
      |nil=>intro _;rfl
      |cons a r ih=>intro h;rw[List.flatten_cons,b_,ih (fun p j=>h p (by simp[j])),h a aw,List.length_cons];omega
     rw[B _ (fun p j=>m p (List.mem_of_mem_take j)),List.length_take];omega
    unfold gy;rw[List.length_cons,b_,hi];omega
   generalize gy false inner (c.take k)=L at *;simp[go_sem,bS,j,bV,e,cQ,al e,aj,bK,n,aL]
   first|refine⟨aq,?_⟩|skip
   refine am (k+1) aq aq ?_;rw[hc];have D:rb (L++q)=rb L++rb q:=(by simp[rb]);simp[av,ah,fv,lk,AV.low,AV.low1,bS,w,e,D];intro r E;exact E.elim (aT _ _ r) (aT _ _ r)
  ·have t:k=c.length:=aq;subst t;simp only[List.take_length];simp[go_sem,ai];exact tt (L:=gy false inner c) rfl rfl (by simp[nb])
 ·simp[go_sem,u,aL,aj,v,hi,al v,F,bS,iQ hi,se hi,H];have s:(gy true inner (c.take 0)).length=33:=by simp[gy,hi]
  have z:rb (gy true inner (c.take 0))=[AV.d (.int .u8 193)]::rb inner:=by simp[gy,rb]
  refine au (fun k:Nat=>⟨[(7,.own 480 0 (gy true inner (c.take k)).length (gy true inner (c.take k)).length),(31,.d (bS c)),(32,.d (.int .i64 (c.length:Int))),(33,.d (.int .i64 (k:Int)))],[(480,⟨5,1,rb (gy true inner (c.take k))⟩)],9000⟩)
   (fun k=>k≤c.length) (fun k=>c.length-k) 0 aq (by
    rw[s,z];simp[av,ah,fv,lk,AV.low,AV.low1,bS]
    exact aT _ _) ?_
  intro k v;have w:=az (k:=k) aq;simp only[go_sem,Nat.reduceEqDiff,Nat.reduceAdd,Nat.reduceLT,↓reduceIte];refine⟨fun y=>?_,fun A=>?_⟩
  ·have g:k<c.length:=aq;have j:=cm g;have i:c.take (k+1)=c.take k++[c[k]]:=List.take_succ_eq_append_getElem g;generalize c[k]=q at j i;have e:q.length=32:=m q (cr j);have n:=sn e;simp[go_sem]at n;have hc:gy true inner (c.take (k+1))=gy true inner (c.take k)++q:=by rw[i];simp[gy]
   have C:(gy true inner (c.take k)).length≤33+32*k:=by
    clear hc i w;have:(c.take k).flatten.length≤32*k:=by
     have B:∀l:List (List Nat),(∀p,p∈l→p.length=32)→l.flatten.length=32*l.length:=by
      intro l
      induction l with
      |nil=>intro _;rfl
      |cons a r ih=>intro h;rw[List.flatten_cons,b_,ih (fun p j=>h p (by simp[j])),h a aw,List.length_cons];omega
     rw[B _ (fun p j=>m p (List.mem_of_mem_take j)),List.length_take];omega
    unfold gy;rw[List.length_cons,b_,hi];omega
   generalize gy true inner (c.take k)=L at *;simp[go_sem,bS,j,bV,e,cQ,al e,aj,bK,n,aL]
   first|refine⟨aq,?_⟩|skip
   refine am (k+1) aq aq ?_;rw[hc];have D:rb (L++q)=rb L++rb q:=(by simp[rb]);simp[av,ah,fv,lk,AV.low,AV.low1,bS,w,e,D];intro r E;exact E.elim (aT _ _ r) (aT _ _ r)
  ·have t:k=c.length:=aq;subst t;simp only[List.take_length];simp[go_sem,ai];exact tt (L:=gy true inner c) rfl rfl (by simp[nb])
open Go.Am Go.Sha Go.Ec
theorem A9(a:List Int)(j:Wn 4 a):∃r:List Int,Wn 4 r∧ap Tryz.prog 124 [.agg (cI a)] (fun v=>v=.agg (cI r)):=by
 obtain⟨s,c,n,hc,t,q⟩:=lu a F9 j y5;have b:=j.1;have e:=n.1;have h:List.drop 4 (cI zI)=[]:=aG rfl;refine⟨if c=0 then s else a,by split<;>assumption,?_⟩;refine bz Tryz.func124 Tryz.ntmps124 (rs:=[.cell 2 96]) (aF a) ?_;simp[go_sem,b,aa b];refine cO [0] [1,2,6,7] [0,3,4,5,8] (.alt (bt 1 (.alt (.step 2 [3,4,5] true (bt 6 (.step 7 [8] true .done))) (bt 6 (.step 2 [3,4,5] true (.step 7 [8] true .done))))) (bt 6 (bt 1 (.step 2 [3,4,5] true (.step 7 [8] true .done))))) ⟨[(1,.ptr 0 0 0 1),(2,.ptr 32 0 0 1),(3,.ptr 256 0 0 1),(4,.d (.int .u64 c))],[(256,⟨96,4,[cI s]⟩),(32,⟨96,4,[cI zI]⟩),(0,⟨96,4,[cI a]⟩)],9000⟩ (k:=9) ?h3 ?hq
 case h3 =>
  intro G o;have l:∀(g:Fr)(f:Hp),(fv 1 g=.ptr 0 0 0 1∧fv 2 g=.ptr 32 0 0 1∧fv 3 g=.ptr 256 0 0 1∧fv 4 g=.d (.int .u64 c)∧lk 256 f=some ⟨96,4,[cI s]⟩∧lk 32 f=some ⟨96,4,[cI zI]⟩∧lk 0 f=some ⟨96,4,[cI a]⟩)→G g f:=by
   rintro g f⟨w,A,B,z,y,u,x⟩;refine o _ _ (aV ?_);simp only[av,ah];refine⟨fun p f=>?_,fun p f=>?_,aw⟩;simp only[d_,List.mem_nil_iff,or_false]at f;rcases f with rfl|rfl|rfl|rfl<;>exact⟨.inl (Eq.symm (by assumption)),by simp[AV.low,AV.low1]⟩
   ·simp only[d_,List.mem_nil_iff,or_false]at f;rcases f with rfl|rfl|rfl<;>exact⟨.inl (by assumption),aw,by intro r m;simp only[d_,List.mem_nil_iff,or_false]at m;subst m;first|exact aR _ _|exact aE _ _|exact eU _ _ _ _⟩
  simp[go_sem,b,e,aa b,aa e,h,cZ]
  repeat' first|exact l _ _ ⟨rfl,rfl,rfl,rfl,rfl,rfl,rfl⟩|(refine l _ _ ?_;simp[fv,lk];done)|refine ag kY aw ?_|refine ag q (aI _ _) ?_|apply And.intro|simp[go_sem,b,e,aa b,aa e,h,cZ]
 case hq =>
  by_cases i:c=0
  ·rw[if_pos i];simp[go_sem,i,e,aa e,h,ai];exact cY rfl
  ·rw[if_neg i];simp[go_sem,i,b,aa b,h,ai];exact cY rfl
theorem RY(a:List Int)(m:Wn 4 a):∃r:List Int,Wn 4 r∧ap Tryz.prog 128 [.agg (cI a)] (fun v=>v=.agg (cI r)):=by
 obtain⟨b,o,x⟩:=A9 a m;obtain⟨s,c,l,hc,y,w⟩:=lu F9 b y5 o;obtain⟨r,h,u⟩:=A9 s l;have e:=m.1;have t:=o.1;have d:=l.1;have g:=h.1;have j:List.drop 4 (cI zI)=[]:=aG rfl;refine⟨r,h,?_⟩;refine bz Tryz.func128 Tryz.ntmps128 (rs:=[.cell 2 96]) (aF a) ?_;simp[go_sem,e,aa e];refine cO [1] [0,2,3,7,8] [1,4,5,6,9] (.alt (bt 0 (.alt (bt 2 (.alt (.step 3 [4,5,6] true (bt 7 (.step 8 [9] true .done))) (bt 7 (.step 3 [4,5,6] true (.step 8 [9] true .done))))) (bt 7 (bt 2 (.step 3 [4,5,6] true (.step 8 [9] true .done)))))) (bt 7 (bt 0 (bt 2 (.step 3 [4,5,6] true (.step 8 [9] true .done)))))) ⟨[(2,.ptr 32 0 0 1),(3,.ptr 288 0 0 1)],[(288,⟨96,4,[cI s]⟩),(32,⟨96,4,[cI zI]⟩)],9000⟩ (k:=10) ?h3 ?hq
 case h3 =>
  intro G q;have n:∀(i:Fr)(f:Hp),(fv 2 i=.ptr 32 0 0 1∧fv 3 i=.ptr 288 0 0 1∧lk 288 f=some ⟨96,4,[cI s]⟩∧lk 32 f=some ⟨96,4,[cI zI]⟩)→G i f:=by
   rintro i f⟨z,B,C,A⟩;refine q _ _ (aV ?_);simp only[av,ah];refine⟨fun p f=>?_,fun p f=>?_,aw⟩;simp only[d_,List.mem_nil_iff,or_false]at f;rcases f with rfl|rfl<;>exact⟨.inl (Eq.symm (by assumption)),by simp[AV.low,AV.low1]⟩
   ·simp only[d_,List.mem_nil_iff,or_false]at f;rcases f with rfl|rfl<;>exact⟨.inl (by assumption),aw,by intro r h;simp only[d_,List.mem_nil_iff,or_false]at h;subst h;first|exact aR _ _|exact aE _ _|exact eU _ _ _ _⟩
  simp[go_sem,e,d,aa e,aa d,j,cZ]
  repeat' first|exact n _ _ ⟨rfl,rfl,rfl,rfl⟩|(refine n _ _ ?_;simp[fv,lk];done)|refine ag kY aw ?_|refine ag x (aF _) ?_|refine ag w (aI _ _) ?_|apply And.intro|simp[go_sem,e,d,aa e,aa d,j,cZ]
 case hq =>
  simp[go_sem,d,aa d];refine ag u (aF _) ?_;simp[go_sem,g,aa g,j,ai];exact cY rfl
theorem N7(b:List Nat)(d:b.length=32)(e:bytes b):∃r:List Int,Wn 4 r∧ap Tryz.prog 135 [.agg (cb b)] (fun v=>v=.agg (cI r)):=by
 obtain⟨a,f,m,k⟩:=r7 b d e;obtain⟨r,g,h⟩:=A9 a f;have l:=f.1;have c:=g.1;have j:List.drop 4 (cI zI)=[]:=aG rfl;have i:List.drop 32 (cb b)=[]:=fg d;refine⟨r,g,?_⟩;refine bz Tryz.func135 Tryz.ntmps135 (rs:=[.cell 2 96]) (cv b) ?_;simp[go_sem,aj,d,al d,i];refine ag k (cv _) ?_;simp[go_sem];refine ag h (aF _) ?_;simp[go_sem,c,aa c,j,ai];exact cY rfl
def Xq(a b d:List Nat):Nat→AV
 |0=>.nil
 |1=>.own 1192 0 a.length a.length
 |2=>.own 1192 0 (a++b).length (a++b).length
 |_=>.own 1192 0 d.length d.length
def Xr(a b d:List Nat):Nat→Hp
 |0=>[]
 |1=>[(1192,⟨5,1,rb a⟩)]
 |2=>[(1192,⟨5,1,rb (a++b)⟩)]
 |_=>[(1192,⟨5,1,rb d⟩)]
theorem xm(a b c d:List Nat)(l:a++b++c=d)(m:a.length=32)(p:b.length=32)(hc:c.length≤1000000):ap Tryz.prog 89 [.d (.ro 1 [[nb a],[nb b],[nb c]])] (fun r=>r=.d (nb d)):=by
 refine bz Tryz.func89 Tryz.ntmps89 (rs:=[.tmp 2]) a9 ?_;simp[go_sem]
 refine au (fun k:Nat=>⟨[(3,Xq a b d k),(6,.d (.ro 1 [[nb a],[nb b],[nb c]])),(7,.d (.int .i64 3)),(8,.d (.int .i64 (k:Int)))],Xr a b d k,RL k⟩)
  (fun k=>k≤3) (fun k=>3-k) 0 aq (by simp[av,ah,fv,lk,AV.low,AV.low1,Xq,Xr,RL]) ?_
 intro k n;simp only[go_sem,Nat.reduceEqDiff,Nat.reduceAdd,Nat.reduceLT,↓reduceIte]
 match k,n with
 |0,_ =>
  refine⟨fun _=>?_,fun h=>absurd (by decide) h⟩;simp[go_sem,Xq,Xr,RL,nb,dC];refine⟨by rw[aL];omega,?_⟩;have f:IntKind.i64.wrap 1=1:=by decide
  refine am 1 aq aq ?_;simp[av,ah,fv,lk,AV.low,AV.low1,aL,f];exact aT _ _
 |1,_ =>
  refine⟨fun _=>?_,fun h=>absurd (by decide) h⟩;simp[go_sem,Xq,Xr,RL,nb,dC,aL];refine⟨aq,?_⟩;have f:IntKind.i64.wrap 2=2:=by decide
  have g:rb (a++b)=rb a++rb b:=by simp[rb]
  refine am 2 aq aq ?_;simp[av,ah,fv,lk,AV.low,AV.low1,aL,f,g];intro r i;exact i.elim (aT _ _ r) (aT _ _ r)
 |2,_ =>
  refine⟨fun _=>?_,fun h=>absurd (by decide) h⟩;have g:rb d=rb (a++b)++rb c:=by rw[←l];simp[rb]
  have j:d.length=(a++b).length+c.length:=by rw[←l];exact b_
  have o:(a++b).length=64:=by simp[m,p]
  simp only[Xq,Xr];generalize a++b=e at *;simp[go_sem,Xq,Xr,RL,nb,dC,aL];refine⟨aq,?_⟩;have f:IntKind.i64.wrap 3=3:=by decide
  refine am 3 aq aq ?_;simp[av,ah,fv,lk,AV.low,AV.low1,aL,f,g,j];intro r i;exact i.elim (aT _ _ r) (aT _ _ r)
 |3,_ =>
  refine⟨fun h=>absurd h (by decide),fun _=>?_⟩;simp only[Xq,Xr];simp[go_sem,ai];exact jj rfl (by simp[nb])
def lC:List Nat:=[66,73,80,48,51,52,48,47,99,104,97,108,108,101,110,103,101]
theorem RZ(a b c:List Nat)(f:a.length=32)(g:b.length=32)(hc:c.length≤1000):∃r:List Int,Wn 4 r∧ap Tryz.prog 88 [.agg (cb a),.agg (cb b),.d (nb c)] (fun v=>v=.agg (cI r)):=by
 obtain⟨r,h,l⟩:=N7 (eH lC (a++b++c)) (tp _ _).1 (tp _ _).2;have e:=h.1;have n:List.drop 4 (cI zI)=[]:=aG rfl;refine⟨r,h,?_⟩;refine bz Tryz.func88 Tryz.ntmps88 (rs:=[.cell 6 96]) (by intro v j;simp at j;rcases j with rfl|rfl|rfl;exact dc _;exact dc _;trivial) ?_;have m:(a++b++c).length≤2000:=by simp;omega
 simp[go_sem,aj,f,g,al f,al g];refine cG [0,1,2] [(3,[]),(4,[]),(5,[]),(6,[]),(7,[])] 0 (k:=8) ?_;intro G i;simp[go_sem,aj,f,g];refine bn [0,32,192] (xm a b c _ rfl f g aq) rfl (ak (.one (ao (j5 (rows:=[[.sub 0 0 0 1 32 32 1],[.sub 32 0 0 1 32 32 1],[.d (nb c)]]) rfl aw rfl (RowsR.cons (.cons (dE rfl aw f) .nil) (RowsR.cons (.cons (dE rfl aw g) .nil) (RowsR.cons (.cons (.d _) .nil) .nil))) rfl (by intro r h;simp at h;rcases h with rfl|rfl|rfl<;>rfl)))) aC) ?_;generalize a++b++c=d at *;simp[go_sem,aN];refine ag (gk lC (.str [66,73,80,48,51,52,48,47,99,104,97,108,108,101,110,103,101]) rfl d (by simp[lC]) aq) a9 ?_;simp[go_sem];refine ag l (cv _) ?_;simp[go_sem,e];refine i _ _ ?_;clear i G;simp[go_sem,e,aa e,ai];exact cY rfl
theorem xn(l:List Nat):(l.map fun(b:Nat)=>[DV.int .u8 (b:Int)]).flatten=cd l:=by
 unfold cd
 induction l with
 |nil=>rfl
 |cons a l ih=>simp only[List.map_cons,List.flatten_cons,ih];rfl
theorem xo:∀l:List Nat,cn .u8 (cb l)=some (l.map fun(b:Nat)=>(b:Int))
 |[]=>rfl
 |a::l=>by
  have:=xo l;unfold cb at this⊢;simp only[List.map_cons,cn,if_true,this];rfl
theorem ou(k m s:List Nat):∀v,v∈[AV.agg (cb k),.d (nb m),.d (nb s)]→v.deep:=by
 intro v a;simp at a;rcases a with rfl|rfl|rfl;exact dc _;trivial;trivial
theorem Jz(key E sig:List Nat)(l:key.length=32)(U:bytes key)(W:bytes sig)(hm:E.length≤1000)(hs:sig.length≤1000):∃o:Bool,ap Tryz.prog 156 [.agg (cb key),.d (nb E),.d (nb sig)] (fun v=>v=.d (.bool o)):=by
 obtain⟨x,y,c,ok,hx,Z,_,N⟩:=xe key l U;have M:List.drop 32 (cb key)=[]:=fg l;have C:z32.length=32:=rfl;have J:List.drop 32 (cb z32)=[]:=rfl;have H:List.drop 4 (cI zI)=[]:=aG rfl;have V:=hx.1;have Q:=Z.1;have h:(cP x y c).length=9:=bR V Q c;have m:List.take 9 (cP x y c)=cP x y c:=cx (by rw[h];omega);cases ok with
 |false =>
  refine⟨false,?_⟩;refine bz Tryz.func156 Tryz.ntmps156 (rs:=[.tmp 6]) (ou _ _ _) ?_;simp[go_sem,aj,l,al l,M];refine ag N (cv _) ?_;simp[go_sem,h,m,ai];exact ae trivial rfl
 | true =>
  by_cases j:sig.length=64
  ·have e:(sig.take 32).length=32:=(by simp[j]);have t:(sig.drop 32).length=32:=(by simp[j]);have K:bytes (sig.drop 32):=fun z H=>W z (List.mem_of_mem_drop H);obtain⟨s,T,I,_,f2⟩:=xc (sig.drop 32) t K;have a:=I.1;have i:(sig.length:Int)=64:=aq;have e1:List.take 32 (sig.map fun(b:Nat)=>[DV.int .u8 (b:Int)])=(sig.take 32).map fun(b:Nat)=>[DV.int .u8 (b:Int)]:=List.map_take.symm;have Y:List.drop 32 (sig.map fun(b:Nat)=>[DV.int .u8 (b:Int)])=(sig.drop 32).map fun(b:Nat)=>[DV.int .u8 (b:Int)]:=List.map_drop.symm;have X:List.take 64 (sig.map fun(b:Nat)=>[DV.int .u8 (b:Int)])=sig.map fun(b:Nat)=>[DV.int .u8 (b:Int)]:=cx (by simp[j]);obtain⟨ch,P,f3⟩:=RZ (sig.take 32) key E e l hm;generalize sig.take 32=R at *;generalize sig.drop 32=S at *;cases T with
   |false =>
    refine⟨false,?_⟩;refine bz Tryz.func156 Tryz.ntmps156 (rs:=[.tmp 6]) (ou _ _ _) ?_;simp[go_sem,aj,l,al l,M];refine ag N (cv _) ?_;simp[go_sem,h,m,nb,j,i,e1,Y,X,xn,cQ,al e,al t,aj,e,t,C,J];refine ag f2 (cv _) ?_;simp[go_sem,a,aa a,H,ai];exact ae trivial rfl
   | true =>
    obtain⟨ng,F,f4⟩:=RY ch P;obtain⟨u,v,q,O,g,_,f5⟩:=uR s ng gX gY x y false c I F RH RI hx Z;obtain⟨o,_,f6⟩:=uO u v q O g;obtain⟨B,hB,ab,_,f7⟩:=pg u v q O g;have f:=F.1;have n:(cP u v q).length=9:=bR O.1 g.1 q;have w:List.take 9 (cP u v q)=cP u v q:=cx (by rw[n];omega);refine⟨o&&decide ((B.map fun(b:Nat)=>(b:Int))=R.map fun(b:Nat)=>(b:Int)),?_⟩;refine bz Tryz.func156 Tryz.ntmps156 (rs:=[.tmp 6]) (ou _ _ _) ?_;simp[go_sem,aj,l,al l,M];refine ag N (cv _) ?_;simp[go_sem,h,m,nb,j,i,e1,Y,X,xn,cQ,al e,al t,aj,e,t,C,J];refine ag f2 (cv _) ?_;simp[go_sem,a,aa a,H,aj,l,e,al l,al e];refine ag f3 (by intro v g;simp at g;rcases g with rfl|rfl|rfl;exact dc _;exact dc _;trivial) ?_;simp[go_sem];refine ag f4 (aF _) ?_;simp[go_sem,f,aa f,H];refine cO [0,2,3] [1,4,5,6] [0,2,3] (.alt (bt 1 (.alt (a_ [4,5,6]) (bt 5 (a_ [4,6])))) (bt 5 (bt 1 (a_ [4,6])))) ⟨[(9,.ptr 672 0 0 1),(12,.ptr 1536 0 0 1)],[(1536,⟨189,9,[cP u v q]⟩),(672,⟨29,32,[cb R]⟩)],9000⟩ (k:=7) ?h3 ?hq
    case h3 =>
     intro G D;have hW:∀(L:Fr)(A:Hp),(fv 9 L=.ptr 672 0 0 1∧fv 12 L=.ptr 1536 0 0 1∧lk 1536 A=some ⟨189,9,[cP u v q]⟩∧lk 672 A=some ⟨29,32,[cb R]⟩)→G L A:=by
      rintro L A⟨q0,q1,q2,q3⟩;refine D _ _ (aV ?_);simp only[av,ah];refine⟨fun p A=>?_,fun p A=>?_,aw⟩;simp only[d_,List.mem_nil_iff,or_false]at A;rcases A with rfl|rfl<;>exact⟨.inl (Eq.symm (by assumption)),by simp[AV.low,AV.low1]⟩
      ·simp only[d_,List.mem_nil_iff,or_false]at A;rcases A with rfl|rfl<;>exact⟨.inl (by assumption),aw,by intro r hr;simp only[d_,List.mem_nil_iff,or_false]at hr;subst hr;first|exact aR _ _|exact aE _ _|exact eU _ _ _ _⟩
     simp[go_sem,a,f,aa a,aa f,h,m,n,w,cZ]
     repeat' first|exact hW _ _ ⟨rfl,rfl,rfl,rfl⟩|(refine hW _ _ ?_;simp[fv,lk];done)|refine ag rZ aw ?_|refine ag f5 (by intro v g;simp at g;rcases g with rfl|rfl|rfl|rfl<;>first|exact cM _|exact dL _ _ _) ?_|apply And.intro|simp[go_sem,a,f,aa a,aa f,h,m,n,w,cZ]
    case hq =>
     cases o with
     |false =>
      simp[go_sem];refine cG [0] [(1,[2,3,5]),(4,[6,7,8])] 2 (k:=9) ?_;intro G D;simp[go_sem,n,w];refine ag f6 (by intro v g;simp at g;subst g;exact dL _ _ _) ?_;simp[go_sem];refine D _ _ ?_;clear D G;simp[go_sem,ai];exact ae trivial rfl
     |true =>
      simp[go_sem];refine cG [0] [(1,[2,3,5]),(4,[6,7,8])] 2 (k:=9) ?_;intro G D;simp[go_sem,n,w];refine ag f6 (by intro v g;simp at g;subst g;exact dL _ _ _) ?_;simp[go_sem,n,w,aj,e,al e];refine ag f7 (by intro v g;simp at g;subst g;exact dL _ _ _) ?_;simp[go_sem,aj,e,al e,hB,xo];refine D _ _ ?_;clear D G;simp[go_sem,ai];exact ae trivial rfl
  ·have i:¬(sig.length:Int)=64:=aq;refine⟨false,?_⟩;refine bz Tryz.func156 Tryz.ntmps156 (rs:=[.tmp 6]) (ou _ _ _) ?_;simp[go_sem,aj,l,al l,M];refine ag N (cv _) ?_;simp[go_sem,h,m,nb,j,i,ai];exact ae trivial rfl
end Go.Proofs.YtmfnimjnneflnaaGreat
namespace Go.Sha
def so(i:Ip):List Nat:=i.hash++le i.idx 4
def tA(i:Ip):List Nat:=le i.seq 4
def xp(o:Nat×List Nat):List Nat:=le o.1 8
def xW(o:Nat×List Nat):List Nat:=cE o.2
end Go.Sha
namespace Go.Proofs.YtmfnimjnneflnaaGreat
open Go.Am Go.Sha
def Ba(l:List Nat):List AV:=dI (E H0 l).1++[.d (nb (E H0 l).2),.d (.int .u64 (l.length:Int))]
theorem bu(ρ:Nat→Nat)(l:List Nat):AV.renL ρ (Ba l)=Ba l:=by rw[Ba,gG];rfl
theorem kr(n:Nat)(l:List Nat):∀v,v∈Ba l→v.low1 n:=by
 intro v a;simp[Ba,dI]at a;rcases a with rfl|rfl|rfl|rfl|rfl|rfl|rfl|rfl|rfl|rfl<;>trivial
theorem R7(n:Nat):MA n (dI H0++[.nil,.d (.int .u64 0)]) (Ba []):=I2 (dI H0) [.d (.int .u64 0)] (.inr (.inr ⟨.inl rfl,.inr ⟨1,rfl⟩⟩))
theorem DX{st:St}(L:Nat)(h:lk L st.hp=some ⟨167,10,[dI H0++[.nil,.d (.int .u64 0)]]⟩):Wk st ⟨st.fr,bJ L ⟨167,10,[Ba []]⟩ st.hp,st.nx⟩:=VV h (by decide) (R7 _)
theorem pR(l b:List Nat)(c:l.length+b.length≤100000000000) :
  c7 Tryz.prog 58 1 [(0,⟨167,10,[Ba l]⟩)] [.ptr 0 0 0 1,.d (nb b)] (fun r a=>r=.tup []∧lk 0 a=some ⟨167,10,[Ba (l++b)]⟩):=by
 have h:=CB _ H0 l (cL _);have:=Qu (E H0 l).1 (.d (nb (E H0 l).2)) (E H0 l).2 b l.length (.inl rfl) aq aq;rw[←Cm b l.length H0 l (cL _),←b_]at this;exact this
theorem Gn(ty:TypeId)(e:Nat)(a:List AV)(l b:List Nat)(i:(List.range 32).map (fun k=>(a.drop k).take 1)=List.map ((fun r=>List.map AV.d r)∘fun(x:Nat)=>[DV.int .u8 (x:Int)]) b)(g:∀n v,v∈a→v.low1 n)(c:b.length=32)(j:l.length+b.length≤100000000000) :
  c7 Tryz.prog 58 2 [(0,⟨167,10,[Ba l]⟩),(1,⟨ty,e,[a]⟩)] [.ptr 0 0 0 1,.sub 1 0 0 1 32 32 1] (fun r f=>r=.tup []∧lk 0 f=some ⟨167,10,[Ba (l++b)]⟩∧lk 1 f=some ⟨ty,e,[a]⟩):=by
 have h:=CB _ H0 l (cL _);have:=LI ty e a (E H0 l).1 (.d (nb (E H0 l).2)) (E H0 l).2 b l.length i g (.inl rfl) aq c aq;rw[←Cm b l.length H0 l (cL _),←b_]at this;exact this
theorem zn(l:List Nat)(b:l.length≤100000000000) :
  c7 Tryz.prog 60 1 [(0,⟨167,10,[Ba l]⟩)] [.ptr 0 0 0 1] (fun r a=>r=.agg (cb (b7 l))∧lk 0 a=some ⟨167,10,[Ba l]⟩):=by
 have h:=CB _ H0 l (cL _);exact E4 (E H0 l).1 (.d (nb (E H0 l).2)) (E H0 l).2 l.length (.inl rfl) aq
theorem mr{α:Type}{f:α→List Nat}{l:List α}:[]++eG f l 0=(l.map f).flatten:=by simp[eG]
theorem Ib(ρ:Nat→Nat)(i:Ip):AV.renL ρ (s8 i)=s8 i:=by
 unfold s8;have:∀(l m:List AV),AV.renL ρ (l++m)=AV.renL ρ l++AV.renL ρ m:=fun l m=>by
  induction l with
  |nil=>simp[AV.renL]
  |cons a l ih=>simp[AV.renL,ih]
 rw[this,dO];rfl
theorem Ic(t:Tn)(v:Sm t):ap Tryz.prog 55 [.agg (eT t)] (fun r=>r=.agg (cb (b7 (t.ins.map tA).flatten))):=by
 obtain⟨⟨F,A,z,C⟩,E,H,D,G⟩:=v;refine bz Tryz.func55 Tryz.ntmps55 (rs:=[.cell 2 29]) (by simp[AV.deep,AV.deep1,eT]) ?_;simp[go_sem,eT];refine aZ [] nP rfl aw aw aw (by simp[AV.renL]) ?_;rintro r b⟨rfl,c⟩;refine⟨[(97,0)],rfl,?_⟩;simp[go_sem,bZ,bF,c,Blk.ren,aS,gG,AV.ren,bX];clear c b;generalize g:(t.ins.map tA).flatten=R
 refine lX (fun u:Nat×List Nat=>⟨[(2,.ptr 32 0 0 1),(3,.ptr 64 0 0 1),(8,.d (.ro 35 (t.ins.map eI))),(9,.d (.int .i64 (t.ins.length:Int))),(10,.d (.int .i64 (u.1:Int)))],[(64,⟨167,10,[Ba u.2]⟩),(32,⟨29,32,[cb z32]⟩)],2000⟩)
  (fun u=>u.1≤t.ins.length∧u.2.length≤4*u.1∧u.2++eG tA t.ins u.1=R) (fun u=>t.ins.length-u.1) (0,[]) ⟨aw,aw,by rw[←g];exact mr⟩ ((DX 64 rfl).trans (aV (by
   simp[av,ah,fv,lk,bJ,AV.low,AV.low1]
   exact⟨kr _ _,aE _ _⟩))) ?_
 rintro⟨k,B⟩⟨x,n,m⟩;simp only at x n m;simp only[go_sem,Nat.reduceEqDiff,Nat.reduceAdd,Nat.reduceLT,↓reduceIte,Nat.reduceMul];refine⟨fun h=>?_,fun h=>?_⟩
 ·obtain⟨i,f,y⟩:=bg (l:=t.ins) (k:=k) aq;obtain⟨a,s,e⟩:=z i (cr f);have w:=az (k:=k) aq;have o:=s6 a;have j:=oZ a;simp[go_sem,f,o,Df,j,oc a,oe,TY a];refine bn [] (iV [] i.seq aw e) rfl (ak (.one (ao (.nil 1))) (ak (.deep a9) aC)) ?_;simp[go_sem,aN];refine aZ [(0,64)] (pR B (le i.seq 4) (by rw[aO];omega)) rfl aw (by simp[lk]) (by simp[lk,Blk.ren,aS,bu]) (by simp[AV.renL,AV.ren,bX,iy,lk,ff]) ?_;rintro r b⟨rfl,c⟩;refine⟨[],rfl,?_⟩;simp[go_sem,bZ,bF,c,Blk.ren,aS,bu,AV.renL,AV.ren,bX,w];refine am (k+1,B++le i.seq 4) ⟨by simp only;omega,by simp only[b_,aO];omega,dV y m⟩ (by simp only;omega) ?_;simp[av,ah,fv,lk,AV.low,AV.low1];exact⟨kr _ _,aE _ _⟩
 ·have p:k=t.ins.length:=aq;subst p;have:=dW m;subst this;simp[go_sem];refine aZ [(0,64)] (zn B aq) rfl aw (by simp[lk]) (by simp[lk,Blk.ren,aS,bu]) (by simp[AV.renL,AV.ren,bX,iy,lk]) ?_;rintro r b⟨rfl,c⟩;refine⟨[],rfl,?_⟩;have q:=bo B;simp[go_sem,bZ,bF,c,Blk.ren,aS,bu,dO,AV.ren,bX,q,al q,bK,ai];exact ae (by simp[AV.deep];exact aW _) rfl
theorem R9(t:Tn)(A:Sm t):ap Tryz.prog 130 [.agg (eT t)] (fun r=>r=.agg (cb (b7 (t.ins.map so).flatten))):=by
 obtain⟨⟨L,I,H,J⟩,o,N,K,M⟩:=A;refine bz Tryz.func130 Tryz.ntmps130 (rs:=[.cell 2 29]) (by simp[AV.deep,AV.deep1,eT]) ?_;simp[go_sem,eT];refine aZ [] nP rfl aw aw aw (by simp[AV.renL]) ?_;rintro r b⟨rfl,c⟩;refine⟨[(97,0)],rfl,?_⟩;simp[go_sem,bZ,bF,c,Blk.ren,aS,gG,AV.ren,bX];clear c b;generalize m:(t.ins.map so).flatten=R
 refine lX (fun u:Nat×List Nat=>⟨[(2,.ptr 32 0 0 1),(3,.ptr 64 0 0 1),(8,.d (.ro 35 (t.ins.map eI))),(9,.d (.int .i64 (t.ins.length:Int))),(10,.d (.int .i64 (u.1:Int)))],[(64,⟨167,10,[Ba u.2]⟩),(32,⟨29,32,[cb z32]⟩)],2000⟩)
  (fun u=>u.1≤t.ins.length∧u.2.length≤36*u.1∧u.2++eG so t.ins u.1=R) (fun u=>t.ins.length-u.1) (0,[]) ⟨aw,aw,by rw[←m];exact mr⟩ ((DX 64 rfl).trans (aV (by
   simp[av,ah,fv,lk,bJ,AV.low,AV.low1]
   exact⟨kr _ _,aE _ _⟩))) ?_
 rintro⟨k,B⟩⟨E,q,p⟩;simp only at E q p;simp only[go_sem,Nat.reduceEqDiff,Nat.reduceAdd,Nat.reduceLT,↓reduceIte,Nat.reduceMul];refine⟨fun h=>?_,fun h=>?_⟩
 ·obtain⟨i,j,G⟩:=bg (l:=t.ins) (k:=k) aq;obtain⟨a,g,z⟩:=H i (cr j);have C:=az (k:=k) aq;have s:=s6 a;have f:=oZ a;have D:(List.range 32).map (fun k=>((s8 i).drop k).take 1)=List.map ((fun r=>List.map AV.d r)∘fun(x:Nat)=>[DV.int .u8 (x:Int)]) i.hash:=by rw[Dh a];simp[rb,Function.comp_def]
  simp[go_sem,j,s,Df,f,oc a,oe];refine aZ [(0,64),(1,2096)] (Gn 68 35 (s8 i) B i.hash D (fun n=>QP n i) a aq) rfl aw (by simp[lk]) (by simp[lk,Blk.ren,aS,bu,Ib]) (by simp[AV.renL,AV.ren,bX,iy,lk]) ?_;rintro r b⟨rfl,c,o⟩;refine⟨[],rfl,?_⟩;have y:(B++i.hash).length=B.length+32:=by rw[b_,a]
  have e:B++so i=B++i.hash++le i.idx 4:=by simp[so]
  generalize B++i.hash=B1 at *;simp[go_sem,bZ,bF,c,o,Blk.ren,aS,bu,Ib,AV.renL,AV.ren,bX,f,TX a];clear c o b;refine bn [] (iV [] i.idx aw g) rfl (ak (.one (ao (.nil 1))) (ak (.deep a9) aC)) ?_;simp[go_sem,aN];refine aZ [(0,64)] (pR B1 (le i.idx 4) (by rw[aO];omega)) rfl aw (by simp[lk]) (by simp[lk,Blk.ren,aS,bu]) (by simp[AV.renL,AV.ren,bX,iy,lk,ff]) ?_;rintro r b⟨rfl,c⟩;refine⟨[],rfl,?_⟩;rw[←e]at c;have F:(B++so i).length=B1.length+4:=by rw[e,b_,aO]
  simp[go_sem,bZ,bF,c,Blk.ren,aS,bu,AV.renL,AV.ren,bX,C];refine am (k+1,B++so i) ⟨by simp only;omega,by simp only;omega,dV G p⟩ (by simp only;omega) ?_;simp[av,ah,fv,lk,AV.low,AV.low1];exact⟨kr _ _,aE _ _⟩
 ·have v:k=t.ins.length:=aq;subst v;have:=dW p;subst this;simp[go_sem];refine aZ [(0,64)] (zn B aq) rfl aw (by simp[lk]) (by simp[lk,Blk.ren,aS,bu]) (by simp[AV.renL,AV.ren,bX,iy,lk]) ?_;rintro r b⟨rfl,c⟩;refine⟨[],rfl,?_⟩;have w:=bo B;simp[go_sem,bZ,bF,c,Blk.ren,aS,bu,dO,AV.ren,bX,w,al w,bK,ai];exact ae (by simp[AV.deep];exact aW _) rfl
theorem DY(os:List (Nat×List Nat))(A:os.length≤8)(t:∀o,o∈os→o.1<18446744073709551616∧o.2.length≤1100):ap Tryz.prog 56 [.d (.ro 2 (os.map eO))] (fun r=>r=.agg (cb (b7 (os.map ga).flatten))):=by
 refine bz Tryz.func56 Tryz.ntmps56 (rs:=[.cell 2 29]) a9 ?_;simp[go_sem];refine aZ [] nP rfl aw aw aw (by simp[AV.renL]) ?_;rintro r a⟨rfl,b⟩;refine⟨[(97,0)],rfl,?_⟩;simp[go_sem,bZ,bF,b,Blk.ren,aS,gG,AV.ren,bX];clear b a;generalize g:(os.map ga).flatten=R
 refine lX (fun u:Nat×List Nat=>⟨[(2,.ptr 0 0 0 1),(3,.ptr 32 0 0 1),(7,.d (.ro 2 (os.map eO))),(8,.d (.int .i64 (os.length:Int))),(9,.d (.int .i64 (u.1:Int)))],[(32,⟨167,10,[Ba u.2]⟩),(0,⟨29,32,[cb z32]⟩)],2000⟩)
  (fun u=>u.1≤os.length∧u.2.length≤1200*u.1∧u.2++eG ga os u.1=R) (fun u=>os.length-u.1) (0,[]) ⟨aw,aw,by rw[←g];exact mr⟩ ((DX 32 rfl).trans (aV (by
   simp[av,ah,fv,lk,bJ,AV.low,AV.low1]
   exact⟨kr _ _,aE _ _⟩))) ?_
 rintro⟨k,B⟩⟨w,j,i⟩;simp only at w j i;simp only[go_sem,Nat.reduceEqDiff,Nat.reduceAdd,Nat.reduceLT,↓reduceIte,Nat.reduceMul];refine⟨fun h=>?_,fun h=>?_⟩
 ·obtain⟨o,f,y⟩:=bg (l:=os) (k:=k) aq;obtain⟨c,z⟩:=t o (cr f);have s:=az (k:=k) aq;have v:=cj o.2.length;have q:(cE o.2).length=(ax o.2.length).length+o.2.length:=by simp[cE]
  simp[go_sem,f,eO];refine bn [] (wK [] o.1 aw c) rfl (ak (.one (ao (.nil 1))) (ak (.deep a9) aC)) ?_;simp[go_sem,aN];refine aZ [(0,32)] (pR B (le o.1 8) (by rw[aO];omega)) rfl aw (by simp[lk]) (by simp[lk,Blk.ren,aS,bu]) (by simp[AV.renL,AV.ren,bX,iy,lk,ff]) ?_;rintro r a⟨rfl,b⟩;refine⟨[],rfl,?_⟩;have p:(B++le o.1 8).length=B.length+8:=by rw[b_,aO]
  have e:B++ga o=B++le o.1 8++cE o.2:=by simp[ga]
  generalize B++le o.1 8=B1 at *;simp[go_sem,bZ,bF,b,Blk.ren,aS,bu,AV.renL,AV.ren,bX];clear b a;refine bn [] (fY [] o.2 aw aq) rfl (ak (.one (ao (.nil 1))) (ak (.deep a9) aC)) ?_;simp[go_sem,aN];refine aZ [(0,32)] (pR B1 (cE o.2) aq) rfl aw (by simp[lk]) (by simp[lk,Blk.ren,aS,bu]) (by simp[AV.renL,AV.ren,bX,iy,lk,nb,cE]) ?_;rintro r a⟨rfl,b⟩;refine⟨[],rfl,?_⟩;rw[←e]at b;have x:(B++ga o).length=B1.length+(cE o.2).length:=by rw[e,b_]
  simp[go_sem,bZ,bF,b,Blk.ren,aS,bu,AV.renL,AV.ren,bX,s];refine am (k+1,B++ga o) ⟨by simp only;omega,by simp only;omega,dV y i⟩ (by simp only;omega) ?_;simp[av,ah,fv,lk,AV.low,AV.low1];exact⟨kr _ _,aE _ _⟩
 ·have m:k=os.length:=aq;subst m;have:=dW i;subst this;simp[go_sem];refine aZ [(0,32)] (zn B aq) rfl aw (by simp[lk]) (by simp[lk,Blk.ren,aS,bu]) (by simp[AV.renL,AV.ren,bX,iy,lk]) ?_;rintro r a⟨rfl,b⟩;refine⟨[],rfl,?_⟩;have n:=bo B;simp[go_sem,bZ,bF,b,Blk.ren,aS,bu,dO,AV.ren,bX,n,al n,bK,ai];exact ae (by simp[AV.deep];exact aW _) rfl
end Go.Proofs.YtmfnimjnneflnaaGreat
namespace Go.Sha
def js:List Nat:=[84,97,112,83,105,103,104,97,115,104]
end Go.Sha
namespace Go.Proofs.YtmfnimjnneflnaaGreat
open Go.Am Go.Sha
theorem N8(os:List (Nat×List Nat))(G:os.length≤8)(y:∀o,o∈os→o.1<18446744073709551616∧o.2.length≤1100):ap Tryz.prog 83 [.d (.ro 2 (os.map eO))] (fun r=>r=.tup [.agg (cb (b7 (os.map xp).flatten)),.agg (cb (b7 (os.map xW).flatten))]):=by
 refine bz Tryz.func83 Tryz.ntmps83 (rs:=[.cell 2 29,.cell 3 29]) a9 ?_;simp[go_sem];refine aZ [] nP rfl aw aw aw (by simp[AV.renL]) ?_;rintro r a⟨rfl,b⟩;refine⟨[(97,0)],rfl,?_⟩;simp[go_sem,bZ,bF,b,Blk.ren,aS,gG,AV.ren,bX];clear b a;refine aZ [] nP rfl aw aw aw (by simp[AV.renL]) ?_;rintro r a⟨rfl,b⟩;refine⟨[(97,0)],rfl,?_⟩;simp[go_sem,bZ,bF,b,Blk.ren,aS,gG,AV.ren,bX];clear b a;generalize q:(os.map xp).flatten=V;generalize m:(os.map xW).flatten=S
 refine lX (fun u:Nat×List Nat×List Nat=>⟨[(2,.ptr 0 0 0 1),(3,.ptr 32 0 0 1),(4,.ptr 64 0 0 1),(5,.ptr 96 0 0 1),(10,.d (.ro 2 (os.map eO))),(11,.d (.int .i64 (os.length:Int))),(12,.d (.int .i64 (u.1:Int)))],
   [(96,⟨167,10,[Ba u.2.2]⟩),(64,⟨167,10,[Ba u.2.1]⟩),(32,⟨29,32,[cb z32]⟩),(0,⟨29,32,[cb z32]⟩)],2000⟩)
  (fun u=>u.1≤os.length∧(u.2.1.length≤8*u.1∧u.2.2.length≤1200*u.1)∧u.2.1++eG xp os u.1=V∧u.2.2++eG xW os u.1=S) (fun u=>os.length-u.1) (0,[],[]) ⟨aw,aw,by rw[←q];exact mr,by rw[←m];exact mr⟩
  ((DX 64 rfl).trans ((DX 96 rfl).trans (aV (by
   simp[av,ah,fv,lk,bJ,AV.low,AV.low1]
   exact⟨kr _ _,aE _ _⟩)))) ?_
 rintro⟨k,A,B⟩⟨C,⟨j,s⟩,p,n⟩;simp only at C j s p n;simp only[go_sem,Nat.reduceEqDiff,Nat.reduceAdd,Nat.reduceLT,↓reduceIte,Nat.reduceMul];refine⟨fun h=>?_,fun h=>?_⟩
 ·obtain⟨o,f,v⟩:=bg (l:=os) (k:=k) aq;obtain⟨e,F⟩:=y o (cr f);have x:=az (k:=k) aq;have z:=cj o.2.length;have w:(cE o.2).length=(ax o.2.length).length+o.2.length:=by simp[cE]
  simp[go_sem,f,eO];refine bn [] (wK [] o.1 aw e) rfl (ak (.one (ao (.nil 1))) (ak (.deep a9) aC)) ?_;simp[go_sem,aN];refine aZ [(0,64)] (pR A (le o.1 8) (by rw[aO];omega)) rfl aw (by simp[lk]) (by simp[lk,Blk.ren,aS,bu]) (by simp[AV.renL,AV.ren,bX,iy,lk,ff]) ?_;rintro r a⟨rfl,b⟩;refine⟨[],rfl,?_⟩;have E:(A++xp o).length=A.length+8:=by rw[b_,xp,aO]
  rw[show A++le o.1 8=A++xp o from rfl]at b;simp[go_sem,bZ,bF,b,Blk.ren,aS,bu,AV.renL,AV.ren,bX];clear b a;refine bn [] (fY [] o.2 aw aq) rfl (ak (.one (ao (.nil 1))) (ak (.deep a9) aC)) ?_;simp[go_sem,aN];refine aZ [(0,96)] (pR B (cE o.2) aq) rfl aw (by simp[lk]) (by simp[lk,Blk.ren,aS,bu]) (by simp[AV.renL,AV.ren,bX,iy,lk,nb,cE]) ?_;rintro r a⟨rfl,b⟩;refine⟨[],rfl,?_⟩;have D:(B++xW o).length=B.length+(cE o.2).length:=by rw[b_];rfl
  rw[show B++cE o.2=B++xW o from rfl]at b;simp[go_sem,bZ,bF,b,Blk.ren,aS,bu,AV.renL,AV.ren,bX,x];refine am (k+1,A++xp o,B++xW o) ⟨by simp only;omega,⟨by simp only;omega,by simp only;omega⟩,dV v p,dV v n⟩ (by simp only;omega) ?_;simp[av,ah,fv,lk,AV.low,AV.low1];exact⟨kr _ _,kr _ _,aE _ _⟩
 ·have t:k=os.length:=aq;subst t;have:=dW p;subst this;have:=dW n;subst this;have g:=bo A;have i:=bo B;simp[go_sem];refine aZ [(0,64)] (zn A aq) rfl aw (by simp[lk]) (by simp[lk,Blk.ren,aS,bu]) (by simp[AV.renL,AV.ren,bX,iy,lk]) ?_;rintro r a⟨rfl,b⟩;refine⟨[],rfl,?_⟩;simp[go_sem,bZ,bF,b,Blk.ren,aS,bu,dO,AV.ren,bX];clear b a;refine aZ [(0,96)] (zn B aq) rfl aw (by simp[lk]) (by simp[lk,Blk.ren,aS,bu]) (by simp[AV.renL,AV.ren,bX,iy,lk]) ?_;rintro r a⟨rfl,b⟩;refine⟨[],rfl,?_⟩;simp[go_sem,bZ,bF,b,Blk.ren,aS,bu,dO,AV.ren,bX,g,i,al g,al i,bK,ai]
  exact ae (by
   intro c hc;simp at hc;rcases hc with rfl|rfl;exact .inr ⟨_,rfl,aW _⟩
   exact .inr ⟨_,rfl,aW _⟩) rfl
theorem Bc(t:Tn):∀v,v∈[AV.agg (eT t)]→v.deep:=by simp[AV.deep,AV.deep1,eT]
def Xs:List Nat:=List.replicate 96 0
theorem Xt:fK Tryz.prog 139=some (cb Xs):=by kernel_rfl
def Ie:List Nat:=List.replicate 160 0
theorem Si:fK Tryz.prog 143=some (cb Ie):=by kernel_rfl
attribute [go_sem] Xt Si
theorem DZ:Xs.length=96:=rfl
theorem tB:List.drop 96 (cb Xs)=[]:=rfl
theorem zo:Ie.length=160:=by simp[Ie]
theorem Gp:List.drop 160 (cb Ie)=[]:=c_ (by rw[aj,zo];exact cL _)
theorem Gq{A Z:List AV}{n m:Nat}(a:A.length=n)(b:n≤m):List.drop m (A++List.drop n Z)=List.drop m Z:=by
 rw[List.drop_append,c_ aq,List.nil_append,List.drop_drop,a,show n+(m-n)=m by omega]
theorem sr{A B Z:List AV}{n m:Nat}(a:A.length=n)(b:n≤m):List.take n (A++List.drop n Z)++(B++List.drop m (A++List.drop n Z))=A++B++List.drop m Z:=by
 rw[Gq a b];subst a;rw[List.take_left,cA]
theorem xq(a b:List Nat):cb (a++b)=cb a++cb b:=by simp[cb]
theorem N9(t:Tn)(e:Sm t):ap Tryz.prog 82 [.agg (eT t)] (fun r=>r=.agg (cb (b7 (t.ins.map so).flatten++(b7 (t.ins.map tA).flatten++b7 (t.outs.map ga).flatten)))):=by
 refine bz Tryz.func82 Tryz.ntmps82 (rs:=[.cell 2 139]) (Bc t) ?_;have s:=R9 t e;have m:=Ic t e;have x:=DY t.outs (by have:=e.2.2.1;omega) (fun o h=>⟨e.1.2.2.2 o h,by have:=e.2.2.2.1 o h;omega⟩);have f:=bo (t.ins.map so).flatten;have i:=bo (t.ins.map tA).flatten;have p:=bo (t.outs.map ga).flatten;generalize b7 (t.ins.map so).flatten=a at *;generalize b7 (t.ins.map tA).flatten=b at *;generalize b7 (t.outs.map ga).flatten=c at *;have v:eT t=[.d (.int .u32 (t.ver:Int)),.d (.ro 35 (t.ins.map eI)),.d (.ro 2 (t.outs.map eO)),.d (.int .u32 (t.lock:Int))]:=rfl;have j:=Bc t;rw[v]at s m j;simp[go_sem,eT];refine cG [0,2,4,5] [(1,[]),(3,[]),(6,[7]),(8,[])] 3 (k:=9) ?_;intro G l;simp[go_sem];refine ag s j ?_;simp[go_sem];refine ag m j ?_;simp[go_sem];refine ag x a9 ?_;simp[go_sem,aj,f,i,p,DZ,tB];rw[Gq (A:=cb a) (n:=32) (by rw[aj,f]) aq,←cA (cb a),sr (A:=cb a++cb b) (n:=64) (by simp[aj,f,i]) aq,tB,List.append_nil];refine l _ _ ?_;clear l G;have w:(cb a++cb b++cb c).length=96:=by simp[aj,f,i,p]
 have g:List.take 96 (cb a++cb b++cb c)=cb a++cb b++cb c:=cx aq;have q:cb (a++(b++c))=cb a++cb b++cb c:=by rw[xq,xq,cA]
 have u:=aW (a++(b++c));rw[q]at u;rw[q];generalize cb a++cb b++cb c=R at *;simp[go_sem,w,g,ai];exact ae u rfl
end Go.Proofs.YtmfnimjnneflnaaGreat
