/-
 Part 15 of what the claim rests on.
-/
import Derived.Test.YtmfnimjnneflnaaGreatR4
import Derived.Test.YtmfnimjnneflnaaGreatR13
set_option linter.unusedVariables false
set_option linter.unusedSimpArgs false
set_option maxRecDepth 100000
set_option maxHeartbeats 16000000
namespace Go.Proofs.YtmfnimjnneflnaaGreat
open Go.Am Go.Sha
theorem Xc (x:Rx):pT x [81,99,82,103,83,104,82,156] [] 0=([],0):=by kernel_rfl
theorem Xd (x:Rx):pT x [81,81] [] 0=([],25):=by kernel_rfl
theorem Xe (x:Rx):pT x [0,99,255,104,81] [] 0=([],10):=by kernel_rfl
end Go.Proofs.YtmfnimjnneflnaaGreat
namespace Go.Sha
open Go.Proofs.YtmfnimjnneflnaaGreat Go.Am
structure CsF where
 t:Tn
 n:Int
 coins:List (Nat × List Nat)
 inner:List Nat
 path:List (List Nat)
 script:List Nat
 start:List (List Nat)
 annex:List Nat
 bud:Int
def qo (c:CsF):List AV:=[.d (.ro 1 (c.start.map bJ)),.d (nb c.annex),.d (.int .i64 c.bud)]
def bV (c:CsF):List AV:=eS c.t c.n c.coins ++ (aP c.inner (.d (c7 c.path)) (.d (nb c.script)) ++ qo c)
def o4 (c:CsF):Bool:=qZ c.t c.coins && (decide (c.script.length≤300) && (decide (c.path.length≤12) && (decide (c.start.length≤12) && (decide (c.annex.length≤300) && c.start.all fun x=>decide (x.length≤600)))))
end Go.Sha
namespace Go.Proofs.YtmfnimjnneflnaaGreat
open Go.Am Go.Sha
theorem uV {inner:List Nat} (hi:inner.length=32) (a b:AV):(aP inner a b).length=34:=by simp [aP,ao,hi]
theorem uG {c:CsF} (hi:c.inner.length=32):(bV c).length=43:=by simp [bV,eS,uV hi,qo]
theorem GZ {c:CsF} (hi:c.inner.length=32):List.drop 6 (bV c)=aP c.inner (.d (c7 c.path)) (.d (nb c.script)) ++ qo c:=rfl
theorem E6 {c:CsF}:List.take 6 (bV c)=eS c.t c.n c.coins:=rfl
theorem Ll {c:CsF} (hi:c.inner.length=32):List.take 34 (List.drop 6 (bV c))=aP c.inner (.d (c7 c.path)) (.d (nb c.script)):=by
 rw [GZ hi,List.take_append,uV hi,cA (by rw [uV hi];omega)];simp
theorem mY {c:CsF} (hi:c.inner.length=32) (k:Nat):(bV c)[k+40]?=(qo c)[k]?:=by
 rw [bV,dz (by simp [eS]),dz (by simp [eS,uV hi])];congr 1;simp [eS,uV hi]
theorem AE {inner:List Nat} (hi:inner.length=32) (a b:AV) (l:List AV) (k:Nat) (hk:k<2):(aP inner a b ++ l)[k+32]?=[a,b][k]?:=by
 rw [List.getElem?_append_left (by rw [uV hi];omega),aP,dz (by rw [ao,hi];omega),ao,hi,Nat.add_sub_cancel]
theorem Pn {c:CsF} (hi:c.inner.length=32):(bV c)[38]?=some (.d (c7 c.path)):=AE (l:=qo c) hi _ _ 0 aq
theorem E7 {c:CsF} (hi:c.inner.length=32):(bV c)[39]?=some (.d (nb c.script)):=AE (l:=qo c) hi _ _ 1 aq
theorem AG (N:Nat) (c:CsF):∀ v,v ∈ bV c→v.low1 N:=by
 intro v hv;simp only [bV,eS,aP,cb,qo,cL,et,List.mem_nil_iff,or_false,List.mem_map] at hv;rcases hv with (rfl | rfl | rfl | rfl | rfl | rfl) | (⟨x,_,rfl⟩ | rfl | rfl) | rfl | rfl | rfl <;> trivial
theorem nP (c:CsF):∀ v,v ∈ [AV.agg (bV c)]→v.deep:=by
 intro v hv;simp only [et,List.mem_nil_iff,or_false] at hv;subst hv;intro v hv;simp only [bV,eS,aP,cb,qo,cL,et,List.mem_nil_iff,or_false,List.mem_map] at hv;rcases hv with (rfl | rfl | rfl | rfl | rfl | rfl) | (⟨x,_,rfl⟩ | rfl | rfl) | rfl | rfl | rfl <;> trivial
theorem G0 (c:CsF) (ht:c.t.ok) (hi:c.inner.length=32):av Tryz.prog 13 [.agg (bV c)] (fun r=>r=.d (.bool (o4 c))):=by
 refine bK Tryz.func13 Tryz.ntmps13 (rs:=[.tmp 2]) (nP c) ?_;have hl:=uG hi;have h6:=E6 (c:=c);have h38:=Pn hi;have h39:=E7 hi;have h40:(bV c)[40]?=some (.d (.ro 1 (c.start.map bJ))):=mY hi 0;have h41:(bV c)[41]?=some (.d (nb c.annex)):=mY hi 1;have hSm:=Gs c.t c.n c.coins ht;have hSd:=E3 c.t c.n c.coins;have hlow:=fun N=>AG N c;have htk:List.take 43 (bV c)=bV c:=cA aq;generalize hX:o4 c=X;unfold o4 at hX;generalize eS c.t c.n c.coins=S at *;generalize bV c=Q at *;simp [go_sem,hl,htk,h6,h38,h39,h40,h41];refine ag hSm hSd ?_;generalize qZ c.t c.coins=W at *
 cases W
 ·simp at hX;subst hX;simp [go_sem];exact aa a9 rfl
 by_cases c1:c.script.length≤300
 case neg =>
  have i1:300<(c.script.length:Int):=aq;have:X=false:=by rw [← hX];simp [c1]
  subst this;simp [go_sem,i1,h38,h39,h40,h41,nb];exact aa a9 rfl
 have i1:¬ 300<(c.script.length:Int):=aq;by_cases c2:c.path.length≤12
 case neg =>
  have i2:12<(c.path.length:Int):=aq;have:X=false:=by rw [← hX];simp [c2]
  subst this;simp [go_sem,i1,i2,h38,h39,h40,h41,nb,c7];exact aa a9 rfl
 have i2:¬ 12<(c.path.length:Int):=aq;by_cases c3:c.start.length≤12
 case neg =>
  have i3:12<(c.start.length:Int):=aq;have:X=false:=by rw [← hX];simp [c3]
  subst this;simp [go_sem,i1,i2,i3,h38,h39,h40,h41,nb,c7];exact aa a9 rfl
 have i3:¬ 12<(c.start.length:Int):=aq;by_cases c4:c.annex.length≤300
 case neg =>
  have i4:300<(c.annex.length:Int):=aq;have:X=false:=by rw [← hX];simp [c4]
  subst this;simp [go_sem,i1,i2,i3,i4,h38,h39,h40,h41,nb,c7];exact aa a9 rfl
 have i4:¬ 300<(c.annex.length:Int):=aq;have e:X=c.start.all fun x=>decide (x.length≤600):=by rw [← hX];simp [c1,c2,c3,c4]
 simp [go_sem,i1,i2,i3,i4,h38,h39,h40,h41,nb,c7]
 refine ax (fun k:Nat=>⟨[(1,.ptr 0 0 0 1),(3,.d (.int .i64 (k:Int)))],[(0,⟨36,43,[Q]⟩)],4000⟩)
  (fun k=>k≤c.start.length∧((c.start.drop k).all fun x=>decide (x.length≤600))=X) (fun k=>c.start.length - k) 0 ⟨aq,e.symm⟩ (by
   simp [ay,ai,fv,lk,AV.low,AV.low1,hl]
   exact hlow _) ?_
 rintro k ⟨hk,ho⟩;have g40:∀ h:40<Q.length,Q[40]'h=AV.d (.ro 1 (c.start.map bJ)):=fun h=>(List.getElem_of_getElem? h40).2;simp [go_sem,g40,hl];refine ⟨fun h=>?_,fun h=>?_⟩
 ·obtain ⟨o,ho1,hd⟩:=bu (l:=c.start) (k:=k) aq;have w3:=aA (k:=k) aq;have hrow:=IU ho1;by_cases hx:o.length≤600
  ·have j1:¬ 600<(o.length:Int):=aq;have j2:(o.length:Int)≤600:=aq;simp [go_sem,ho1,hrow,bJ,nb,j1,j2,w3,g40,hl];refine al (k+1) ⟨aq,jW hd ho (by simpa using hx)⟩ aq ?_;simp [ay,ai,fv,lk,AV.low,AV.low1,hl];exact hlow _
  ·have j1:600<(o.length:Int):=aq;have j2:¬ (o.length:Int)≤600:=aq;have:=jc hd ho (by simpa using hx);subst this;simp [go_sem,ho1,hrow,bJ,nb,j1,j2,g40,hl];exact aa a9 rfl
 ·have hkl:k=c.start.length:=aq;subst hkl;have:=jX ho;subst this;simp [go_sem];exact aa a9 rfl
end Go.Proofs.YtmfnimjnneflnaaGreat
namespace Go.Sha
open Go.Proofs.YtmfnimjnneflnaaGreat Go.Am
theorem o5 (op:Nat) (r:List Nat):fB (op :: r)=if 0<op∧op≤75 then some (op,1) else if op=76 then (match r with | a :: _=>some (a,2) | []=>none) else if op=77 then (match r with | a :: b :: _=>some (a+256*b,3) | _=>none) else some (0,1):=rfl
theorem G1 {t:List Nat} (h:t.length≤65535):cM (d5 t)=some t:=by
 have g:∀ x:List Nat,x.length≤65535→cM (fA x)=some x:=fun x hx=>by
  unfold cM fA;rw [if_pos];simp only
  split
  ·omega
  ·split <;> omega
 match t with
 | []=>rfl
 | [c] =>
  rw [show d5 [c]=if 1≤c∧c≤16 then (80+c,[]) else if c=129 then (79,[]) else fA [c] from rfl]
  split
  ·rename_i hc;have n1:¬ 80+c≤77:=aq;have n2:¬ 80+c=79:=aq;have n3:80<80+c∧80+c≤96:=aq;show (if 80+c≤77 then some [] else if 80+c=79 then some [129] else if 80<80+c∧80+c≤96 then some [80+c - 80] else none)=_;rw [if_neg n1,if_neg n2,if_pos n3,Nat.add_sub_cancel_left]
  ·split
   ·rename_i hc;subst hc;rfl
   ·exact g [c] aw
 | a :: b :: r=>exact g _ h
theorem Po {t:List Nat}:(d5 t).1≤96:=by
 have g:∀ x:List Nat,(fA x).1≤96:=fun x=>by
  unfold fA;simp only
  split
  ·omega
  ·split <;> omega
 unfold d5
 split
 ·split
  ·simp only;omega
  ·split
   ·simp only;omega
   ·exact g _
 ·exact g _
theorem G2 {t:List Nat} (x:Rx) (r:Rn) (h:t.length≤65535) (hi:fx r=0):jZ x (d5 t) r=c6 t r:=by
 have hp:=G1 h;have ho:=Po (t:=t);have hs:rS (d5 t)=true:=by unfold rS;rw [hp];simp
 have hb:kX (d5 t).1 r=none:=by
  unfold kX;rw [if_neg aq,if_neg aq,if_neg aq]
 unfold jZ;rw [hp,hb,if_neg aw,hs];simp [hi]
theorem Lm {s rest:List Nat} {a:Nat} {w:Wd} (hb:w.2.length≤65535) (hw:(dk w).2=true) (hd:s.drop a=(dk w).1 ++ rest):gq s a=some (w,a+(dk w).1.length):=by
 obtain ⟨op,b⟩:=w
 have ht:∀ (n h:Nat) (jq:List Nat),fB (s.drop a)=some (n,h)→s.drop a=jq ++ (b ++ rest)→jq.length=h→b.length=n→(s.drop a).headD 0=op→gq s a=some ((op,b),a+h+n):=by
  intro n h jq h1 h2 h3 h4 h5;unfold gq;rw [h1];simp only;rw [if_neg (by rw [h2];simp only [b_];omega),h5]
  have:((s.drop a).drop h).take n=b:=by
   rw [h2,← h3,List.drop_left,← h4,List.take_left]
  rw [this]
 unfold dk at hw hd ⊢;by_cases c1:0<op∧op≤75
 ·rw [if_pos c1] at hw hd ⊢;simp only [decide_eq_true_eq] at hw;have e:s.drop a=op :: (b ++ rest):=hd;have:=ht op 1 [op] (by rw [e,o5,if_pos c1]) e rfl hw (by rw [e];rfl);rw [this];simp only [List.length_cons];congr 2;omega
 ·rw [if_neg c1] at hw hd ⊢;by_cases c2:op=76
  ·subst c2;rw [if_pos rfl] at hw hd ⊢;simp only [decide_eq_true_eq] at hw;have e8:t8 b.length=b.length:=PS aq;have e:s.drop a=[76,b.length] ++ (b ++ rest):=by rw [hd];simp [e8]
   have:=ht b.length 2 [76,b.length] (by rw [e];rfl) e rfl rfl (by rw [e];rfl);rw [this];simp only [List.length_cons];congr 2;omega
  ·rw [if_neg c2] at hw hd ⊢;by_cases c3:op=77
   ·subst c3;rw [if_pos rfl] at hw hd ⊢;simp only [decide_eq_true_eq] at hw;have e:s.drop a=[77,t8 b.length,t8 (iu 8 b.length)] ++ (b ++ rest):=by rw [hd];simp
    have e8:t8 b.length+256*t8 (iu 8 b.length)=b.length:=by
     unfold t8 iu;simp only [Nat.reducePow];omega
    have:=ht b.length 3 [77,t8 b.length,t8 (iu 8 b.length)] (by rw [e];show some (t8 b.length+256*t8 (iu 8 b.length),3)=_;rw [e8]) e rfl rfl (by rw [e];rfl);rw [this];simp only [List.length_cons];congr 2;omega
   ·rw [if_neg c3] at hw hd ⊢;simp only [decide_eq_true_eq] at hw;have hb0:b=[]:=List.eq_nil_of_length_eq_zero hw;subst hb0;have e:s.drop a=[op] ++ ([] ++ rest):=by rw [hd];simp
    have:=ht 0 1 [op] (by rw [e,List.cons_append,o5,if_neg c1,if_neg c2,if_neg c3]) e rfl rfl (by rw [e];rfl);rw [this];rfl
theorem Xf {k e:Int} {m a:List aS} {br:List Bool} {bud:Int} {cl:List (Int × Int)} (h:(au k ⟨m,a,br,bud,cl,e⟩).e=0):au k ⟨m,a,br,bud,cl,e⟩=⟨m,a,br,bud,cl,0⟩∧k=0:=by
 unfold au at h ⊢
 split at h
 ·rename_i he;rw [if_pos he];simp only at h;subst h;exact ⟨rfl,rfl⟩
 ·exact absurd h ‹_›
theorem Xg {b:aS} {r:Rn} (h:(c6 b r).e=0):r.e=0∧c6 b r={ r with main:=r.main ++ [b] }:=by
 have he:r.e=0:=by
  unfold c6 at h
  split at h
  ·assumption
  ·exact h
 refine ⟨he,?_⟩;unfold c6 at h ⊢;rw [if_pos he] at h ⊢
 split
 ·rfl
 ·rename_i hc;exfalso;rw [if_neg hc] at h;unfold au at h;rw [if_pos he] at h;exact hc h
end Go.Sha
namespace Go.Sha
open Go.Proofs.YtmfnimjnneflnaaGreat Go.Am
def xK (c:CsF) (sg:aS→aS→aS→Bool) (msg:aS) (out:aS→aS × Int):Rx :=
 ⟨bo,dN,sg,msg,(c.t.lock:Int),(c.t.ver:Int),(((c.t.ins[c.n.toNat]?.map Ip.seq).getD 0:Nat):Int),O6 c.t c.n.toNat,uS c.t c.n c.coins,fun s o0 o1 bk=>uF c.t c.n c.coins o0 o1 bk (out s).1 (out s).2⟩
def qp (c:CsF) (x:Rx) (s:List Nat) (start:List (List Nat)):List (Int × Int) × Int:=if cf c.t c.n c.coins ≠ 0 ∨ 1000<s.length then ([],1) else pT x s start c.bud
def mZ (p:List (Int × Int) × Int):AV:=.tup [.d (.ro 2 (p.1.map dm)),.d (.int .i64 p.2)]
end Go.Sha
namespace Go.Proofs.YtmfnimjnneflnaaGreat
open Go.Am Go.Sha
structure CsOk (c:CsF):Prop where
 t:Sm c.t
 cc:Y8 c.coins
 cb:∀ o,o ∈ c.coins→bytes o.2∧o.1<18446744073709551616
 ob:∀ o,o ∈ c.t.outs→bytes o.2
 i:c.inner.length=32
 ib:bytes c.inner
 s:c.script.length≤1000
 p:∀ p,p ∈ c.path→p.length=32
 pl:c.path.length≤1000
 a:c.annex.length≤1000
 b:fJ c.bud
theorem Ui (t:Tn) (n:Int) (coins:List (Nat × List Nat)) (inner:List Nat) (path:List (List Nat)) (s annex:List Nat) (start:List aS) (bud:Int) (ht:Sm t) (hc:coins.length≤1000) (hi:inner.length=32) (h:cf t n coins=1) :
  av Tryz.prog 53 [.agg (eS t n coins),cN inner path s,.d (.ro 1 (start.map bJ)),.d (nb annex),.d (.int .i64 bud)] (fun v=>v=.tup [.d (.ro 2 []),.d (.int .i64 1)]):=by
 have hck:=kV t n coins ht hc;have hlf:(aP inner (AV.d (c7 path)) (AV.d (nb s))).length=34:=uV hi _ _;have hlt:List.take 34 (aP inner (AV.d (c7 path)) (AV.d (nb s)))=aP inner (AV.d (c7 path)) (AV.d (nb s)):=cA (by rw [hlf];omega);have hdS:∀ v,v ∈ [AV.agg (eS t n coins)]→v.deep:=E3 t n coins;rw [h] at hck;simp only [eS] at hck hdS
 refine bK Tryz.func53 Tryz.ntmps53 (rs:=[.tmp 10,.tmp 11]) (by
  intro v hv;simp at hv;rcases hv with rfl | rfl | rfl | rfl | rfl
  ·simp [AV.deep,AV.deep1,eS]
  ·exact cQ inner path s _ (List.mem_singleton.2 rfl)
  ·trivial
  ·trivial
  ·trivial) ?_
 simp [go_sem,cN,eS,hlf,hlt];refine ag hck hdS ?_;simp [go_sem,ah];exact dB (cs':=[.d (.ro 2 []),.d (.int .i64 1)]) (ap (ak (.nil 2)) (ap (bc trivial) bz)) rfl a9 rfl
theorem Ln (c:CsF) (hk:CsOk c) {sg:aS→aS→aS→Bool} {out:aS→aS × Int} (hsg:Pm sg) (hout:E4 c.inner c.path out) (s:List Nat) (hs:bytes s) (hl:s.length≤100000):∃ msg:aS,∀ start:List (List Nat),StOk start [] →
  av Tryz.prog 53 [.agg (eS c.t c.n c.coins),cN c.inner c.path s,.d (.ro 1 (start.map bJ)),.d (nb c.annex),.d (.int .i64 c.bud)] (fun v=>v=mZ (qp c (xK c sg msg out) s start)):=by
 by_cases hn:0≤c.n
 ·obtain ⟨n,hn'⟩:∃ n:Nat,c.n=(n:Int):=⟨c.n.toNat,aq⟩;obtain ⟨msg,hx⟩:=Uh ⟨c.t,n,c.coins,c.inner,c.path,s,c.annex⟩ ⟨hk.t,hk.cc,hk.cb,hk.ob,hk.i,hk.ib,hl,hk.p,hk.pl,hk.a⟩ hsg hout;refine ⟨msg,fun start hst=>?_⟩
  have hr:=TZ ⟨c.t,n,c.coins,c.inner,c.path,s,c.annex⟩ (xK c sg msg out) start c.bud hk.t (by have:=hk.cc.1;show c.coins.length≤1000;omega) hk.i hs hst hk.b (fun hc _=>by
   have:=hx hc (xK c sg msg out) (by unfold xK;rw [hn'];rfl)
   exact this) (fun s o0 o1 bk=>rE _ _ _ _ _ _ _ _)
  have e:GO ⟨c.t,n,c.coins,c.inner,c.path,s,c.annex⟩ (xK c sg msg out) start c.bud=mZ (qp c (xK c sg msg out) s start):=by
   unfold GO qp;rw [hn'];simp only
   split
   ·rfl
   ·rfl
  rw [e,← hn'] at hr;exact hr
 ·have hc:cf c.t c.n c.coins=1:=by
   rcases rB c.t c.n c.coins with h | h
   ·exfalso;unfold cf at h
    split at h
    ·cases h
    ·rename_i hq;simp only [not_or,Int.not_lt,Int.not_le] at hq;omega
   ·exact h
  refine ⟨[],fun start hst=>?_⟩;have:=Ui c.t c.n c.coins c.inner c.path s c.annex start c.bud hk.t (by have:=hk.cc.1;omega) hk.i hc;have e:qp c (xK c sg [] out) s start=([],1):=if_pos (.inl (by rw [hc];omega));rw [e];exact this
theorem wG {inner:List Nat} (hi:inner.length=32) (a b v:AV):(aP inner a b).set 33 v=aP inner a v:=by
 unfold aP;rw [List.set_append_right _ _ (by rw [ao,hi];omega),ao,hi];rfl
theorem G3 {inner:List Nat} (hi:inner.length=32) (a b v:AV):List.take 33 (aP inner a b) ++ v :: List.drop 34 (aP inner a b)=aP inner a v:=by
 rw [← wG hi a b v,List.set_eq_take_append_cons_drop,if_pos (by rw [uV hi];omega)]
theorem Qn (c:CsF) (s:List Nat) (start:List (List Nat)):∀ v,v ∈ [AV.agg (bV c),.d (nb s),.d (.ro 1 (start.map bJ))]→v.deep:=by
 intro v hv;simp only [et,List.mem_nil_iff,or_false] at hv;rcases hv with rfl | rfl | rfl
 ·exact nP c _ aw
 ·trivial
 ·trivial
theorem AH (c:CsF) (hi:c.inner.length=32) (s:List Nat) (start:List (List Nat)) (p:List (Int × Int) × Int)
  (h:av Tryz.prog 53 [.agg (eS c.t c.n c.coins),cN c.inner c.path s,.d (.ro 1 (start.map bJ)),.d (nb c.annex),.d (.int .i64 c.bud)] (fun v=>v=mZ p)) :
  av Tryz.prog 17 [.agg (bV c),.d (nb s),.d (.ro 1 (start.map bJ))] (fun v=>v=mZ p):=by
 refine bK Tryz.func17 Tryz.ntmps17 (rs:=[.tmp 6,.tmp 7]) (Qn c s start) ?_;have hl:=uG hi;have h6:=E6 (c:=c);have h34:=Ll hi;have h41:(bV c)[41]?=some (.d (nb c.annex)):=mY hi 1;have h42:(bV c)[42]?=some (.d (.int .i64 c.bud)):=mY hi 2;have g41:∀ h:41<(bV c).length,(bV c)[41]'h=AV.d (nb c.annex):=fun h=>(List.getElem_of_getElem? h41).2;have g42:∀ h:42<(bV c).length,(bV c)[42]'h=AV.d (.int .i64 c.bud):=fun h=>(List.getElem_of_getElem? h42).2;have hSd:=E3 c.t c.n c.coins;have hlf:=uV hi (.d (c7 c.path)) (.d (nb c.script));have hls:=wG hi (.d (c7 c.path)) (.d (nb c.script)) (.d (nb s));have hls2:=G3 hi (.d (c7 c.path)) (.d (nb c.script)) (.d (nb s));have hlf2:=uV hi (.d (c7 c.path)) (.d (nb s));have htk2:List.take 34 (aP c.inner (.d (c7 c.path)) (.d (nb s)))=aP c.inner (.d (c7 c.path)) (.d (nb s)):=cA aq
 have hdd:∀ v,v ∈ [.agg (eS c.t c.n c.coins),cN c.inner c.path s,.d (.ro 1 (start.map bJ)),.d (nb c.annex),.d (.int .i64 c.bud)]→v.deep:=by
  intro v hv;simp only [et,List.mem_nil_iff,or_false] at hv;rcases hv with rfl | rfl | rfl | rfl | rfl
  ·exact hSd _ aw
  ·exact cQ c.inner c.path s _ (List.mem_singleton.2 rfl)
  ·trivial
  ·trivial
  ·trivial
 have zl:(aP z32 .nil .nil).length=34:=rfl;have zd:List.drop 34 (aP z32 .nil .nil)=[]:=rfl;have htk:List.take 43 (bV c)=bV c:=cA aq;unfold cN at h hdd;generalize eS c.t c.n c.coins=S at *;generalize bV c=Q at *;generalize aP c.inner (.d (c7 c.path)) (.d (nb c.script))=L at *;generalize aP c.inner (.d (c7 c.path)) (.d (nb s))=M at *;simp [go_sem,hl,htk,h6,h34,g41,g42,h41,h42,hlf,hls,hls2,hlf2,htk2,zl,zd];refine ag h hdd ?_;unfold mZ;simp [go_sem,ah];exact aa a9 rfl
theorem G4 (ws:List Wd) (hw:∀ w,w ∈ ws→sf w) (hl:ws.length≤10000):cB Tryz.prog 51 0 [] [.d (.ro 2 (ws.map jh))]
  (fun r hp'=>((fF [] ws).2=0∧r=.tup [.own 1000 0 (fF [] ws).1.length (fF [] ws).1.length,.d (.int .i64 0)]∧lk 1000 hp'=some ⟨5,1,rb (fF [] ws).1⟩) ∨ ((fF [] ws)=([],1)∧r=.tup [.nil,.d (.int .i64 1)])):=by
 refine am Tryz.func51 (by kernel_rfl) rfl Tryz.ntmps51 (rs:=[.tmp 2,.tmp 3]) rfl (dV rfl) (by decide) ?_;generalize hB:fF [] ws=B;simp only [go_sem,Nat.reduceEqDiff,Nat.reduceAdd,Nat.reduceLT,↓reduceIte,Nat.reduceMul]
 refine ax (fun t:Nat × List Nat=>⟨[(4,.own 1000 0 t.2.length t.2.length),(9,.d (.ro 2 (ws.map jh))),(10,.d (.int .i64 (ws.length:Int))),(11,.d (.int .i64 (t.1:Int)))],[(1000,⟨5,1,rb t.2⟩)],1001⟩)
  (fun t=>t.1≤ws.length∧t.2.length≤60003*t.1∧fF t.2 (ws.drop t.1)=B) (fun t=>ws.length - t.1) (0,[]) ⟨aq,aw,hB⟩ (by
   simp [ay,ai,fv,lk,AV.low,AV.low1,rb]) ?_
 clear hB;rintro ⟨k,out⟩ ⟨hk,ho,hB⟩;simp only at hk ho hB;simp only [go_sem,Nat.reduceEqDiff,Nat.reduceAdd,Nat.reduceLT,↓reduceIte,Nat.reduceMul];refine ⟨fun h=>?_,fun h=>?_⟩
 ·obtain ⟨w,hw1,hd⟩:=bu (l:=ws) (k:=k) aq;obtain ⟨q1,q2⟩:=hw w (cr hw1);rw [hd] at hB;simp only [fF] at hB;have hll:=pK w;have hrow:jh w=[.int .u8 (w.1:Int),nb w.2]:=rfl;simp [go_sem,hw1,hrow];refine ag (IS w q1 q2) (by intro v hv;simp at hv;subst hv;exact pL w) ?_
  cases hok:(dk w).2 with
  | false =>
   simp [go_sem,ah];rw [hok,if_neg aw] at hB;exact hB.symm
  | true =>
   rw [hok,if_pos rfl] at hB;have w3:=aA (k:=k) aq;generalize (dk w).1=L at *;simp [go_sem,nb,cC,aH,jS,w3];refine ⟨aq,?_⟩;refine al (k+1,out ++ L) ⟨by simp only;omega,by simp only [b_];omega,hB⟩ (by simp only;omega) ?_;simp [ay,ai,fv,lk,AV.low,AV.low1];exact bp _ _
 ·rw [dg aq] at hB;simp only [fF] at hB;simp [go_sem,ah];rw [← hB];exact ⟨rfl,rfl,rfl⟩
theorem AI:∀ (ws:List Wd) (out:List Nat),(∀ w,w ∈ ws→sf w)→(fF out ws).1.length≤out.length+60003*ws.length
 | [],out,_=>by simp [fF]
 | w :: r,out,h=>by
  have hw:=(h w aw).1;have hl:=pK w;unfold fF
  split
  ·have:=AI r (out ++ (dk w).1) (fun w hw=>h w (by simp [hw]));simp only [b_,List.length_cons] at this ⊢;omega
  ·exact Nat.zero_le _
theorem E8:∀ (ws:List Wd) (out:List Nat),(fF out ws).2=0 ∨ fF out ws=([],1)
 | [],out=>.inl rfl
 | w :: r,out=>by
  unfold fF
  split
  ·exact E8 r _
  ·exact .inr rfl
def rF (ws:List Wd) (rest:List Nat):List Nat × Bool:=((fF [] ws).1 ++ rest,decide ((fF [] ws).2=0∧(fF [] ws).1.length+rest.length≤300))
theorem rX (ws:List Wd) (rest:List Nat) (hw:∀ w,w ∈ ws→sf w) (hl:ws.length≤10000) (hr:rest.length≤100000):av Tryz.prog 15 [.d (.ro 2 (ws.map jh)),.d (nb rest)] (fun r=>r=.tup [.d (nb (rF ws rest).1),.d (.bool (rF ws rest).2)]):=by
 refine bK Tryz.func15 Tryz.ntmps15 (rs:=[.tmp 4,.tmp 5]) a9 ?_;have hbl:=AI ws [] hw;have h01:=E8 ws [];have hown:=G4 ws hw hl;unfold rF;generalize fF [] ws=B at *;obtain ⟨b,e⟩:=B;simp only [List.length_nil,Nat.zero_add] at *;simp [go_sem];refine jy [] hown rfl (aj (.deep a9) aD) (fun ρ=>by simp [AV.renL,AV.ren]) ?_;rintro r hp' (⟨rfl,rfl,h0⟩ | ⟨hB,rfl⟩)
 ·refine ⟨[(1000,0)],rfl,?_⟩;simp [go_sem,bQ,bI,h0,Blk.ren,aR,dU,AV.renL,AV.ren,bO,aC,nb,cC,aH];have wi:IntKind.i64.wrap ((b.length:Int)+(rest.length:Int))=(b.length:Int)+(rest.length:Int):=IntWalk.i64_in _ aq;rw [wi];refine ⟨aq,?_⟩;rw [jS];have hd:decide ((b.length:Int)+(rest.length:Int)≤300)=decide (b.length+rest.length≤300):=decide_eq_decide.2 aq;rw [hd,← b_,← List.map_append];exact dB (ap (ak (aU (L:=b ++ rest) rfl rfl trivial)) (ap (bc trivial) bz)) rfl a9 rfl
 ·cases hB
  refine ⟨[],rfl,?_⟩;simp [go_sem,bQ,bI,Blk.ren,aR,dU,AV.renL,AV.ren,bO,aC,nb,cC,aH];refine ⟨aq,?_⟩;exact dB (ap (ak (aU (L:=rest) rfl rfl trivial)) (ap (bc trivial) bz)) rfl a9 rfl
end Go.Proofs.YtmfnimjnneflnaaGreat
namespace Go.Sha
open Go.Proofs.YtmfnimjnneflnaaGreat Go.Am
def tP:Tn:=⟨2,[⟨z32,0,0,[]⟩],[(5,[])],0⟩
def AK:CsF:=⟨tP,0,[(7,[])],z32,[],[],[],[],0⟩
def XA:List AV:=[.d (.int .u32 0),.nil,.nil,.d (.int .u32 0),.d (.int .i64 0),.nil] ++ (aP z32 .nil .nil ++ [.nil,.nil,.d (.int .i64 0)])
end Go.Sha
namespace Go.Proofs.YtmfnimjnneflnaaGreat
open Go.Am Go.Sha
theorem Lo {hp:Hp} {I:Nat→Prop} {c:List AV} {d:List DV} (h2:CellsR hp I c d):∀ b:List DV,CellsR hp I (b.map .d ++ c) (b ++ d)
 | []=>h2
 | y :: r=>.cons (.d y) (Lo h2 r)
theorem Xh:eH Tryz.prog 36=some XA:=by kernel_rfl
attribute [go_sem] Xh
theorem Lp:av Tryz.prog 50 [.d (.ro 1 [])] (fun r=>r=.d (.int .i64 1)):=by
 refine bK Tryz.func50 Tryz.ntmps50 (rs:=[.tmp 2]) a9 ?_;simp [go_sem];refine bL [] (tW [] [] aw ⟨aw,aw⟩) rfl (aj (.one (ak (.nil 1))) (aj (.deep a9) aD)) ?_;rw [show [] ++ pO []=[0] from rfl];simp [go_sem,aC,nb];exact aa a9 rfl
theorem C6:av Tryz.prog 49 [] (fun r=>r=.agg (eS tP 0 [(7,[])])):=by
 refine bK Tryz.func49 Tryz.ntmps49 (rs:=[.cell 0 28]) aw ?_;simp [go_sem]
 refine tf (cs':=eS tP 0 [(7,[])]) (ap (bc trivial) (ap (ak (gA (rows:=[cb z32 ++ [AV.d (DV.int IntKind.u32 0),AV.d (DV.int IntKind.u32 0),AV.nil]]) rfl trivial rfl (RowsR.cons ?_ .nil) rfl (by intro r hr;simp [tP] at hr;subst hr;rfl)))
  (ap (ak (gA (rows:=[[AV.d (DV.int IntKind.u64 5),AV.nil]]) rfl trivial rfl (RowsR.cons (.cons (.d _) (.cons (.nil 1) .nil)) .nil) rfl (by intro r hr;simp [tP] at hr;subst hr;rfl)))
  (ap (bc trivial) (ap (bc trivial) (ap (ak (gA (rows:=[[AV.d (DV.int IntKind.u64 7),AV.nil]]) rfl trivial rfl (RowsR.cons (.cons (.d _) (.cons (.nil 1) .nil)) .nil) rfl (by intro r hr;simp at hr;subst hr;rfl))) bz)))))) rfl (by simp [AV.deep,AV.deep1,eS]) rfl
 exact Lo (d:=[.ro 1 []]) (.cons (.nil 1) .nil) (cd z32 ++ [.int .u32 0,.int .u32 0])
theorem rG:CsOk AK where
 t:=⟨⟨by decide,by decide,fun i hi=>by
  have:i=⟨z32,0,0,[]⟩:=by simpa [AK,tP] using hi
  subst this
  exact ⟨rfl,by decide,by decide⟩,by decide⟩,by decide,by decide,by decide,fun i hi=>by
  have:i=⟨z32,0,0,[]⟩:=by simpa [AK,tP] using hi
  subst this
  exact ⟨by decide,by decide⟩⟩
 cc:=⟨by decide,by decide⟩
 cb:=fun o ho=>by
  have:o=(7,[]):=by simpa [AK] using ho
  subst this;exact ⟨fun x hx=>(by cases hx),by decide⟩
 ob:=fun o ho=>by
  have:o=(5,[]):=by simpa [AK,tP] using ho
  subst this;exact fun x hx=>(by cases hx)
 i:=rfl
 ib:=fun x hx=>by
  have:x=0:=by simpa [AK,z32] using hx
  omega
 s:=by decide
 p:=by decide
 pl:=by decide
 a:=by decide
 b:=⟨by decide,by decide⟩
theorem Pq:cf AK.t AK.n AK.coins=0:=by decide
theorem G5 {hp:Hp} {I:Nat→Prop}:Snap hp I (.agg (eS tP 0 [(7,[])] ++ (aP z32 .nil .nil ++ [.nil,.nil,.d (.int .i64 0)]))) (.agg (bV AK)) :=
 .agg ⟨rfl,qQ (eS tP 0 [(7,[])]) (fun v hv=>by simp [eS] at hv;rcases hv with rfl | rfl | rfl | rfl | rfl | rfl <;> trivial)
  (qQ (cb z32) (bZ _) (ap (ak (.nil 32)) (ap (ak (.nil 1)) (ap (ak (.nil 1)) (ap (ak (.nil 1)) (ap (bc trivial) bz))))))⟩
theorem yx {s:List Nat} {p:List (Int × Int) × Int} (hs:bytes s) (hl:s.length≤1000) (h:∀ x,pT x s [] 0=p) :
  av Tryz.prog 17 [.agg (bV AK),.d (nb s),.d (.ro 1 [])] (fun v=>v=mZ p):=by
 obtain ⟨sg,hsg⟩:=Qm;obtain ⟨out,hout⟩:=E5 AK.inner AK.path rG.i rG.ib rG.p rG.pl;obtain ⟨msg,hm⟩:=Ln AK rG hsg hout s hs aq;have h1:=AH AK rG.i s [] _ (hm [] ⟨aw,aw,aw,aw⟩)
 have e:qp AK (xK AK sg msg out) s []=p:=by
  unfold qp;rw [if_neg (by rw [Pq];omega)];exact h _
 rw [e] at h1;exact h1
theorem iL:av Tryz.prog 14 [] (fun r=>r=.d (.bool true)):=by
 refine bK Tryz.func14 Tryz.ntmps14 (rs:=[.tmp 0]) aw ?_;have ra:=yx (s:=[81,99,82,103,83,104,82,156]) (fun x hx=>by simp at hx;omega) (by decide) Xc;have rb:=yx (s:=[81,81]) (fun x hx=>by simp at hx;omega) (by decide) Xd;have rc:=yx (s:=[0,99,255,104,81]) (fun x hx=>by simp at hx;omega) (by decide) Xe;have zl:XA.length=43:=rfl;have z43:List.drop 43 XA=[]:=rfl;simp [go_sem];refine ag C6 aw ?_;have hcs:=fun (hp:Hp) (I:Nat→Prop)=>G5 (hp:=hp) (I:=I);have zd:List.drop 6 XA=aP z32 .nil .nil ++ [.nil,.nil,.d (.int .i64 0)]:=rfl;have sl:(eS tP 0 [(7,[])]).length=6:=rfl;have st:List.take 6 (eS tP 0 [(7,[])])=eS tP 0 [(7,[])]:=rfl;have rl:(aP z32 .nil .nil ++ [AV.nil,AV.nil,AV.d (.int .i64 0)]).length=37:=rfl;generalize aP z32 .nil .nil ++ [AV.nil,AV.nil,AV.d (.int .i64 0)]=R at *;have tl:(eS tP 0 [(7,[])] ++ R).length=43:=by rw [b_,sl,rl]
 generalize eS tP 0 [(7,[])]=S at *;have tt:List.take 43 (S ++ R)=S ++ R:=cA aq;generalize hT:S ++ R=T at *;simp [go_sem,zl,sl,st,zd,rl,hT,tl,tt,z43,aC];refine bL [192] ra rfl (aj (hcs _ _) (aj (.one (ak (aU (L:=[81,99,82,103,83,104,82,156]) rfl rfl aw))) (aj (.one (ak (.nil 1))) aD))) ?_;unfold mZ;simp [go_sem,zl,sl,st,zd,rl,hT,tl,tt,z43,aC];refine bL [448] rb rfl (aj (hcs _ _) (aj (.one (ak (aU (L:=[81,81]) rfl rfl aw))) (aj (.one (ak (.nil 1))) aD))) ?_;unfold mZ;simp [go_sem,zl,sl,st,zd,rl,hT,tl,tt,z43,aC];refine bL [704] rc rfl (aj (hcs _ _) (aj (.one (ak (aU (L:=[0,99,255,104,81]) rfl rfl aw))) (aj (.one (ak (.nil 1))) aD))) ?_;unfold mZ;simp [go_sem];refine bL [] Lp rfl (aj (.one (ak (.nil 1))) aD) ?_;simp [go_sem];exact aa a9 rfl
structure CsIn (c:CsF):Prop where
 t:c.t.ok
 cb:∀ o,o ∈ c.coins→bytes o.2∧o.1<18446744073709551616
 ob:∀ o,o ∈ c.t.outs→bytes o.2
 i:c.inner.length=32
 ib:bytes c.inner
 p:∀ p,p ∈ c.path→p.length=32
 sb:bytes c.script
 st:∀ x,x ∈ c.start→bytes x
 b:fJ c.bud
theorem Qo {c:CsF} (h:CsIn c) (hs:o4 c=true):CsOk c∧c.script.length≤300∧(StOk c.start []∧c.start.length≤12∧∀ x,x ∈ c.start→x.length≤600):=by
 simp only [o4,qZ,Bool.and_eq_true,decide_eq_true_eq,dM,d9] at hs;obtain ⟨⟨a1,a2,a3⟩,b1,b2,b3,b4,b5⟩:=hs
 exact ⟨⟨VJ h.t a1,⟨a2,fun o ho=>⟨(h.cb o ho).2,a3 o ho⟩⟩,h.cb,h.ob,h.i,h.ib,aq,h.p,aq,aq,h.b⟩,b1,
  ⟨aq,aw,fun x hx=>⟨by have:=b5 x hx;omega,h.st x hx⟩,aw⟩,b3,b5⟩
theorem Uj {c:CsF} (h:CsIn c) (hs:o4 c=true):∃ (sg:aS→aS→aS→Bool) (out:aS→aS × Int),Pm sg∧E4 c.inner c.path out∧∀ s:List Nat,bytes s→s.length≤100000→∃ msg:aS,∀ start:List (List Nat),StOk start [] →
  av Tryz.prog 17 [.agg (bV c),.d (nb s),.d (.ro 1 (start.map bJ))] (fun v=>v=mZ (qp c (xK c sg msg out) s start)):=by
 obtain ⟨hk,_⟩:=Qo h hs;obtain ⟨sg,hsg⟩:=Qm;obtain ⟨out,hout⟩:=E5 c.inner c.path h.i h.ib h.p hk.pl;refine ⟨sg,out,hsg,hout,fun s hb hl=>?_⟩;obtain ⟨msg,hm⟩:=Ln c hk hsg hout s hb hl;exact ⟨msg,fun start hst=>AH c h.i s start _ (hm start hst)⟩
theorem uH:∀ (ws:List Wd) (out:List Nat),bytes out→(∀ w,w ∈ ws→sf w∧bytes w.2)→bytes (fF out ws).1
 | [],out,h,_=>h
 | w :: r,out,h,hw=>by
  unfold fF
  split
  ·refine uH r _ ?_ (fun w hw'=>hw w (by simp [hw']));intro y hy;rcases cL.1 hy with hy | hy
   ·exact h y hy
   ·exact tG (hw w aw).1.2 (hw w aw).2 y hy
  ·intro y hy
   cases hy
theorem rY {ws:List Wd} {rest:List Nat} (hr:bytes rest) (hw:∀ w,w ∈ ws→sf w∧bytes w.2):bytes (rF ws rest).1:=by
 intro y hy;rcases cL.1 hy with hy | hy
 ·exact uH ws [] (fun y hy=>by cases hy) hw y hy
 ·exact hr y hy
theorem Lq {n:Nat} {ds:List DV} (h:kS Tryz.prog (n+4) 33 ds):∃ (inner:List Nat) (ps:List (List Nat)) (x:List Nat),ds=cd inner ++ [c7 ps,nb x]∧inner.length=32∧bytes inner∧(∀ p,p ∈ ps→p.length=32)∧bytes x:=by
 rw [kS] at h;simp only [Tryz.underlying33,List.map_cons,List.map_nil] at h;obtain ⟨a,b,rfl,ha,ha2,a',b',rfl,hb,hb2,a3,b3,rfl,hc,hc2,rfl⟩:=h;obtain ⟨inner,rfl,h1,h2⟩:=BF ha2;rw [show Tryz.prog.cellsOf 30=1 by kernel_rfl] at hb;rw [show Tryz.prog.cellsOf 31=1 by kernel_rfl] at hc
 match a',hb,hb2,a3,hc,hc2 with
 | [y],_,hb2,[z],_,hc2 =>
  obtain ⟨ps,rfl,h3⟩:=NB hb2;obtain ⟨x,rfl,h4,h5⟩:=mI hc2;exact ⟨inner,ps,x,aw,h1,h2,fun p hp=>(h3 p hp).1,h5⟩
theorem E9 {n:Nat} {ds:List DV} (h:kS Tryz.prog (n+1) 3 ds):∃ x:Int,ds=[.int .i64 x]∧-9223372036854775808≤x∧x<9223372036854775808:=by
 rw [kS] at h;simp only [Tryz.underlying3] at h;obtain ⟨x,rfl,hx⟩:=h;have hx':-9223372036854775808≤x∧x<9223372036854775808:=by simp [IntKind.has,IntKind.min,IntKind.max,IntKind.signed,IntKind.bits] at hx;omega
 exact ⟨x,rfl,hx'⟩
theorem Uk {n:Nat} {ds:List DV} (h:kS Tryz.prog (n+7) 28 ds):∃ (t:Tn) (m:Int) (coins:List (Nat × List Nat)),ds.map .d=eS t m coins∧t.ok∧(∀ o,o ∈ t.outs→bytes o.2)∧∀ o,o ∈ coins→o.1<18446744073709551616∧bytes o.2:=by
 rw [kS] at h;simp only [Tryz.underlying28,List.map_cons,List.map_nil] at h;obtain ⟨a,b,rfl,ha,ha2,a',b',rfl,hb,hb2,a3,b3,rfl,hc,hc2,rfl⟩:=h;obtain ⟨t,h1,h2,h3,_⟩:=VN ha2;obtain ⟨m,rfl,_⟩:=E9 hb2;obtain ⟨os,rfl,hos⟩:=D1 hc2;refine ⟨t,m,os,?_,h2,h3,hos⟩;rw [List.map_append,h1];rfl
theorem Lr {n:Nat} {a:AV} (h:Dv Tryz.prog (n+8) 36 a):∃ c:CsF,a=.agg (bV c)∧CsIn c:=by
 unfold Dv at h;simp only [Tryz.underlying36] at h;obtain ⟨ds,rfl,h⟩:=h;rw [kS] at h;simp only [Tryz.underlying36,List.map_cons,List.map_nil] at h;obtain ⟨a,b,rfl,ha,ha2,a',b',rfl,hb,hb2,a3,b3,rfl,hc,hc2,a4,b4,rfl,hd,hd2,a5,b5,rfl,he,he2,rfl⟩:=h;obtain ⟨t,m,coins,hS,h2,h3,h4⟩:=Uk ha2;obtain ⟨inner,ps,x,rfl,k1,k2,k3,k4⟩:=Lq hb2;rw [show Tryz.prog.cellsOf 34=1 by kernel_rfl] at hc;rw [show Tryz.prog.cellsOf 31=1 by kernel_rfl] at hd;obtain ⟨bud,rfl,b1⟩:=E9 he2
 match a3,hc,hc2,a4,hd,hd2 with
 | [y],_,hc2,[z],_,hd2 =>
  obtain ⟨start,rfl,h5⟩:=vS hc2;obtain ⟨annex,rfl,_,h6⟩:=mI hd2;refine ⟨⟨t,m,coins,inner,ps,x,start,annex,bud⟩,?_,⟨h2,fun o ho=>⟨(h4 o ho).2,(h4 o ho).1⟩,h3,k1,k2,k3,k4,h5,b1⟩⟩;rw [List.map_append,hS];simp [bV,qo,aP,lr]
end Go.Proofs.YtmfnimjnneflnaaGreat
namespace Go.Sha
open Go.Proofs.YtmfnimjnneflnaaGreat Go.Am
theorem AL {x:Rx} {s:List Nat} {f a:Nat} {r:Rn} (h:r.e ≠ 0):fc x s f a r=r:=by
 cases f with
 | zero=>rfl
 | succ f=>rw [fc,if_neg (fun q=>h q.2)]
theorem Ls {b:List Nat} {n k:Nat} (h:fB b=some (n,k)):1≤k:=by
 cases b with
 | nil=>cases h
 | cons op r =>
  rw [o5] at h
  split at h
  ·cases h;omega
  ·split at h
   ·split at h
    ·cases h;omega
    ·cases h
   ·split at h
    ·split at h
     ·cases h;omega
     ·cases h
    ·cases h;omega
theorem Fa {s:List Nat} {a b:Nat} {w:Wd} (h:gq s a=some (w,b)):a<b∧w.1=(s.drop a).headD 0:=by
 unfold gq at h
 cases ht:fB (s.drop a) with
 | none=>rw [ht] at h;cases h
 | some p =>
  obtain ⟨n,k⟩:=p;rw [ht] at h;simp only at h
  split at h
  ·cases h
  ·have:=Ls ht
   cases h
   exact ⟨aq,rfl⟩
theorem AM (x:Rx) (s:List Nat):∀ (f g a:Nat) (r:Rn),s.length - a<f→s.length - a<g→fc x s f a r=fc x s g a r
 | 0,_,_,_,h,_=>by omega
 | _+1,0,_,_,_,h=>by omega
 | f+1,g+1,a,r,h1,h2=>by
  rw [fc,fc]
  split
  ·rename_i hc
   cases hn:gq s a with
   | none=>rfl
   | some p =>
    obtain ⟨w,b⟩:=p;have:=(Fa hn).1;have hl:=hc.1;exact AM x s f g b _ aq aq
  ·rfl
theorem Lt (A s:List Nat) (a:Nat):gq (A ++ s) (A.length+a)=(gq s a).map fun p=>(p.1,A.length+p.2):=by
 have hd:(A ++ s).drop (A.length+a)=s.drop a:=by rw [← List.drop_drop,List.drop_left]
 unfold gq;rw [hd]
 cases fB (s.drop a) with
 | none=>rfl
 | some p =>
  obtain ⟨n,h⟩:=p;simp only
  split
  ·rfl
  ·simp only [Option.map_some];congr 2;omega
theorem Fb (x:Rx) (A s:List Nat):∀ (f a:Nat) (r:Rn),fc x (A ++ s) f (A.length+a) r=fc x s f a r
 | 0,_,_=>rfl
 | f+1,a,r=>by
  rw [fc,fc,Lt];have hc:(A.length+a<(A ++ s).length∧r.e=0) ↔ (a<s.length∧r.e=0):=by rw [b_];omega
  by_cases h:a<s.length∧r.e=0
  ·rw [if_pos h,if_pos (hc.2 h)]
   cases gq s a with
   | none=>rfl
   | some p =>
    obtain ⟨w,b⟩:=p;exact Fb x A s f b _
  ·rw [if_neg h,if_neg (fun q=>h (hc.1 q))]
theorem Fe (w:Wd):0<(dk w).1.length:=by
 unfold dk
 split
 ·exact Nat.succ_pos _
 ·split
  ·exact Nat.succ_pos _
  ·split
   ·exact Nat.succ_pos _
   ·exact Nat.succ_pos _
def fg (x:Rx) (r:Rn) (w:Wd):Rn:=if r.e=0 then jZ x w r else r
theorem Lu {x:Rx} {s:List Nat} {f:Nat} {r:Rn} {w:Wd} (hb:w.2.length≤65535) (hw:(dk w).2=true):fc x ((dk w).1 ++ s) (f+1) 0 r=fc x s f 0 (fg x r w):=by
 have hl:=Fe w;by_cases hr:r.e=0
 ·have hn:=Lm (s:=(dk w).1 ++ s) (a:=0) (rest:=s) hb hw rfl;rw [fc,if_pos ⟨by rw [b_];omega,hr⟩,hn,Nat.zero_add];have:=Fb x (dk w).1 s f 0 (jZ x w r);rw [Nat.add_zero] at this;unfold fg;rw [if_pos hr];exact this
 ·unfold fg;rw [if_neg hr,AL hr,AL hr]
def gj (ws:List Wd):List Nat:=(ws.map fun w=>(dk w).1).flatten
def Ul (ws:List Wd):Prop:=∀ w,w ∈ ws→w.2.length≤65535∧(dk w).2=true
theorem Ff:∀ (ws:List Wd) (out:List Nat),Ul ws→fF out ws=(out ++ gj ws,0)
 | [],out,_=>by simp [fF,gj]
 | w :: r,out,h=>by
  unfold fF;rw [if_pos (h w aw).2,Ff r _ (fun v hv=>h v (by simp [hv]))];simp [gj]
theorem AN (x:Rx) (s:List Nat):∀ (ws:List Wd) (f:Nat) (r:Rn),Ul ws→fc x (gj ws ++ s) (f+ws.length) 0 r=fc x s f 0 (ws.foldl (fg x) r)
 | [],f,r,_=>by simp [gj]
 | w :: ws,f,r,h=>by
  have hw:=h w aw;have e:gj (w :: ws) ++ s=(dk w).1 ++ (gj ws ++ s):=by simp [gj]
  rw [e,List.length_cons,← Nat.add_assoc,Lu hw.1 hw.2,AN x s ws f _ (fun v hv=>h v (by simp [hv]))];rfl
theorem Px (ws:List Wd):ws.length≤(gj ws).length:=by
 induction ws with
 | nil=>simp [gj]
 | cons w ws ih =>
  have hl:=Fe w;have e:gj (w :: ws)=(dk w).1 ++ gj ws:=by simp [gj]
  rw [e,b_,List.length_cons];omega
theorem wH (x:Rx) (s:List Nat) (ws:List Wd) (r:Rn) (h:Ul ws):fc x (gj ws ++ s) ((gj ws ++ s).length+1) 0 r=fc x s (s.length+1) 0 (ws.foldl (fg x) r):=by
 have hl:=Px ws;have e:(gj ws ++ s).length+1=((gj ws).length - ws.length+s.length+1)+ws.length:=by rw [b_];omega
 rw [e,AN x s ws _ r h];exact AM x s _ _ 0 _ aq aq
def o6 (op:Nat):Bool:=op == 172 || op == 173 || op == 186 || op == 187
theorem Um (x:Rx) (m:aS) (op:Nat) (r:Rn) (h:o6 op=false):uK { x with msg:=m } op r=uK x op r:=by
 simp only [o6,Bool.or_eq_false_iff,beq_eq_false_iff_ne] at h;obtain ⟨⟨⟨h1,h2⟩,h3⟩,h4⟩:=h;unfold uK
 split
 ·rfl
 ·split
  ·unfold pS;simp only;rw [if_neg h1,if_neg h2,if_neg h3,if_neg h1,if_neg h2,if_neg h3]
  ·split
   ·rfl
   ·split
    ·rfl
    ·split
     ·rfl
     ·split
      ·rfl
      ·rfl
theorem Fg (x:Rx) (m:aS) (w:Wd) (r:Rn) (h:o6 w.1=false):jZ { x with msg:=m } w r=jZ x w r:=by
 unfold jZ;rw [Um x m w.1 r h]
theorem Fh (x:Rx) (m:aS) (s:List Nat) (hs:∀ b,b ∈ s→o6 b=false):∀ (f a:Nat) (r:Rn),fc { x with msg:=m } s f a r=fc x s f a r
 | 0,_,_=>rfl
 | f+1,a,r=>by
  rw [fc,fc]
  split
  ·rename_i hc
   cases hn:gq s a with
   | none=>rfl
   | some p =>
    obtain ⟨w,b⟩:=p;have hw:=(Fa hn).2
    have hm:w.1 ∈ s:=by
     rw [hw,List.drop_eq_getElem_cons hc.1];exact List.getElem_mem hc.1
    simp only;rw [Fg x m w r (hs _ hm),Fh x m s hs f b _]
  ·rfl
def cG (w:Wd):Bool:=decide (w.2.length≤100) && ((dk w).2 && ((cM w).isSome || (decide (105≤w.1) && decide (w.1≤126)) || (decide (172≤w.1) && decide (w.1≤173)) || (decide (177≤w.1) && decide (w.1≤179))))
theorem xR:∀ op:Nat,op<256→((105≤op∧op≤126) ∨ (172≤op∧op≤173) ∨ (177≤op∧op≤179))→nT op=true:=by decide +kernel
theorem G6 {x:Rx} {w:Wd} {r:Rn} (h:cG w=true) (hi:0<fx r):jZ x w r=r:=by
 simp only [cG,Bool.and_eq_true,Bool.or_eq_true,decide_eq_true_eq] at h;obtain ⟨_,_,h⟩:=h
 have hb:kX w.1 r=none∧¬ (!nT w.1 && (cM w).isNone)=true:=by
  by_cases hp:(cM w).isSome=true
  ·have ho:w.1≤96:=by
    unfold cM at hp
    split at hp
    ·omega
    ·split at hp
     ·omega
     ·split at hp
      ·omega
      ·cases hp
   refine ⟨?_,?_⟩
   ·unfold kX;rw [if_neg aq,if_neg aq,if_neg aq]
   ·rw [Option.isNone_eq_false_iff.2 hp];simp
  ·have h2:(105≤w.1∧w.1≤126) ∨ (172≤w.1∧w.1≤173) ∨ (177≤w.1∧w.1≤179):=by
    rcases h with ((h | h) | h) | h
    ·exact absurd h hp
    ·exact .inl h
    ·exact .inr (.inl h)
    ·exact .inr (.inr h)
   refine ⟨?_,?_⟩
   ·unfold kX;rw [if_neg aq,if_neg aq,if_neg aq]
   ·rw [xR w.1 aq h2];simp
 unfold jZ;rw [if_neg hb.2,hb.1];simp only;rw [if_pos hi]
theorem wI {x:Rx}:∀ (l:List Wd) {r:Rn},(∀ w,w ∈ l→cG w=true)→(r.e=0→0<fx r)→l.foldl (fg x) r=r
 | [],_,_,_=>rfl
 | w :: l,r,h,hi=>by
  have e:fg x r w=r:=by
   unfold fg
   split
   ·rename_i he;exact G6 (h w aw) (hi he)
   ·rfl
  rw [List.foldl_cons,e];exact wI l (fun v hv=>h v (by simp [hv])) hi
theorem Y9 (x:Rx) (r:Rn) (hi:fx r=0):jZ x (0,[]) r=c6 [] r:=G2 (t:=[]) x r aw hi
theorem Lx (x:Rx) (start:List (List Nat)) (bud k:Int) (r:Rn) (hr:r=[(0,[]),(99,[])].foldl (fg x) (au k ⟨start,[],[],bud,[],0⟩)):r.e=0→0<fx r:=by
 intro he;simp only [List.foldl_cons,List.foldl_nil] at hr;by_cases h0:(au k ⟨start,[],[],bud,[],0⟩).e=0
 ·rw [(Xf h0).1] at hr
  have e1:fg x ⟨start,[],[],bud,[],0⟩ (0,[])=c6 [] ⟨start,[],[],bud,[],0⟩:=by
   unfold fg;rw [if_pos rfl,Y9 x _ rfl]
  rw [e1] at hr;by_cases h1:(c6 [] ⟨start,[],[],bud,[],0⟩).e=0
  ·rw [(Xg h1).2] at hr
   have e2:fg x ⟨start ++ [[]],[],[],bud,[],0⟩ (99,[])=ki false ⟨start,[],[],bud,[],0⟩:=by
    unfold fg;rw [if_pos rfl]
    have hb:kX 99 ⟨start ++ [[]],[],[],bud,[],0⟩=some (ki false ⟨start,[],[],bud,[],0⟩):=by
     have ht:bm ⟨start ++ [[]],[],[],bud,[],0⟩=([],⟨start,[],[],bud,[],0⟩):=by
      unfold bm;rw [if_pos rfl,if_neg aw];simp only [List.getLastD_concat,List.dropLast_concat]
     unfold kX kW;rw [if_pos (.inl rfl),ht];simp [fx]
    unfold jZ;simp only [hb];rfl
   have hr:r=fg x ⟨start ++ [[]],[],[],bud,[],0⟩ (99,[]):=hr;rw [e2] at hr;subst hr;exact Nat.one_pos
  ·exfalso;unfold fg at hr;rw [if_neg h1] at hr;subst hr;exact h1 he
 ·exfalso;have e1:fg x (au k ⟨start,[],[],bud,[],0⟩) (0,[])=au k ⟨start,[],[],bud,[],0⟩:=by unfold fg;rw [if_neg h0]
  rw [e1] at hr;unfold fg at hr;rw [if_neg h0] at hr;subst hr;exact h0 he
end Go.Sha
namespace Go.Sha
open Go.Proofs.YtmfnimjnneflnaaGreat Go.Am
def jg (L:List Wd):List Wd:=[(0,[]),(99,[])] ++ (L ++ [(104,[])])
def kg:List Wd:=[(0,[]),(99,[]),(104,[])]
theorem uI (x:Rx) (m:aS) (w:Wd) (h:o6 w.1=false) (r:Rn):fg { x with msg:=m } r w=fg x r w:=by
 unfold fg;rw [Fg x m w r h]
theorem Py {L:List Wd} (h:∀ w,w ∈ L→cG w=true):Ul L:=by
 intro w hw;have:=h w hw;simp only [cG,Bool.and_eq_true,decide_eq_true_eq] at this;exact ⟨aq,this.2.1⟩
theorem AO {L:List Wd} (h:∀ w,w ∈ L→cG w=true):Ul (jg L):=by
 intro w hw;simp only [jg,cL,et,List.mem_nil_iff,or_false] at hw;rcases hw with (rfl | rfl) | hw | rfl
 ·exact ⟨Nat.zero_le _,rfl⟩
 ·exact ⟨Nat.zero_le _,rfl⟩
 ·exact Py h w hw
 ·exact ⟨Nat.zero_le _,rfl⟩
theorem wJ:Ul kg:=by
 intro w hw;simp only [kg,et,List.mem_nil_iff,or_false] at hw;rcases hw with rfl | rfl | rfl <;> exact ⟨Nat.zero_le _,rfl⟩
theorem G7 (x:Rx) (m:aS) (L:List Wd) (h:∀ w,w ∈ L→cG w=true) (start:List (List Nat)) (bud k:Int) :
  (jg L).foldl (fg { x with msg:=m }) (au k ⟨start,[],[],bud,[],0⟩)=kg.foldl (fg x) (au k ⟨start,[],[],bud,[],0⟩):=by
 have e:kg=[(0,[]),(99,[])] ++ [(104,[])]:=rfl;rw [jg,e,List.foldl_append,List.foldl_append,List.foldl_append];have hi:=Lx { x with msg:=m } start bud k _ rfl;rw [wI L h hi];have s0:=fun r=>uI x m (0,[]) rfl r;have s1:=fun r=>uI x m (99,[]) rfl r;have s2:=fun r=>uI x m (104,[]) rfl r;simp only [List.foldl_cons,List.foldl_nil,s0,s1,s2]
theorem G8 (x:Rx) (m:aS) (L:List Wd) (h:∀ w,w ∈ L→cG w=true) (rest:List Nat) (hr:∀ b,b ∈ rest→o6 b=false) (start:List (List Nat)) (bud:Int) :
  pT { x with msg:=m } (gj (jg L) ++ rest) start bud=pT x (gj kg ++ rest) start bud:=by
 unfold pT;rw [wH _ rest _ _ (AO h),wH _ rest _ _ wJ,G7 x m L h,Fh x m rest hr]
end Go.Sha
namespace Go.Proofs.YtmfnimjnneflnaaGreat
open Go.Am Go.Sha
theorem Fj (x:Rx) (h1:x.h1=bo) (h2:x.h2=dN) (hx:∀ s o0 o1 bk,(x.trg s o0 o1 bk).1.length≤2) {s:aS} (hb:bytes s):∀ (f a:Nat) (r:Rn),a≤s.length→RnOk r a→RnOk (fc x s f a r) s.length
 | 0,a,r,ha,h=>jf h ha
 | f+1,a,r,ha,h=>by
  rw [fc]
  split
  ·rename_i hc
   cases hq:gq s a with
   | none=>exact jf (lR h (eG h.st h.bd 2)) ha
   | some p =>
    obtain ⟨w,b⟩:=p;obtain ⟨n1,n2,n3,n4,n5⟩:=yq hb hc.1 hq;exact Fj x h1 h2 hx hb f b _ n2 (jf (CZ h x h1 h2 hx w n3 n4) aq)
  ·exact jf h ha
theorem Pz (r:Rn):(sn r).cl=r.cl:=by
 have f1:∀ (x:Int) (q:Rn),(au x q).cl=q.cl:=fun x q=>by unfold au;split <;> rfl
 unfold sn;simp only
 split
 ·split
  ·exact f1 _ _
  ·rw [f1,f1]
 ·split
  ·rfl
  ·exact f1 _ _
theorem Ly (c:CsF) (sg:aS→aS→aS→Bool) (msg:aS) (out:aS→aS × Int) {s:List Nat} {start:List (List Nat)} (hb:bytes s) (hst:StOk start []) (hbd:fJ c.bud):(qp c (xK c sg msg out) s start).1.length≤2*s.length:=by
 unfold qp
 split
 ·exact Nat.zero_le _
 ·unfold pT;simp only
  split
  ·have h0:RnOk ⟨start,[],[],c.bud,[],0⟩ 0:=⟨hst,hbd,aw,aw⟩;have h1:=lR h0 (eG h0.st h0.bd (fl start []));have:=(Fj (xK c sg msg out) rfl rfl (fun s o0 o1 bk=>rE _ _ _ _ _ _ _ _) hb (s.length+1) 0 _ (Nat.zero_le _) h1).cl;rw [Pz];exact this
  ·exact Nat.zero_le _
theorem C7 (s:List Nat) (hl:s.length≤100000):av Tryz.prog 23 [.d (nb s)] (fun r=>r=.d (.bool (s.any o6))):=by
 refine bK Tryz.func23 Tryz.ntmps23 (rs:=[.tmp 2]) a9 ?_;generalize hX:s.any o6=X;simp [go_sem,nb]
 refine ax (fun k:Nat=>⟨[(0,.d (nb s)),(3,.d (.int .i64 (k:Int)))],[],1000⟩)
  (fun k=>k≤s.length∧(s.drop k).any o6=X) (fun k=>s.length - k) 0 ⟨aq,hX⟩ (by
   simp [ay,ai,fv,lk,AV.low,AV.low1,nb]) ?_
 rintro k ⟨hk,ho⟩;simp [go_sem,nb];refine ⟨fun h=>?_,fun h=>?_⟩
 ·obtain ⟨o,ho1,hd⟩:=bu (l:=s) (k:=k) aq;have w3:=aA (k:=k) aq;rw [hd,List.any_cons] at ho;by_cases hx:o6 o=true
  ·rw [hx,Bool.true_or] at ho;subst ho;simp only [o6,Bool.or_eq_true,beq_iff_eq] at hx;rcases hx with ((rfl | rfl) | rfl) | rfl
   all_goals
    simp [go_sem,ho1];exact aa (v:=.d (.bool true)) trivial rfl
  ·have hx':o6 o=false:=by simpa using hx
   rw [hx',Bool.false_or] at ho;simp only [o6,Bool.or_eq_false_iff,beq_eq_false_iff_ne] at hx';obtain ⟨⟨⟨h1,h2⟩,h3⟩,h4⟩:=hx';have i1:¬ (o:Int)=172:=aq;have i2:¬ (o:Int)=173:=aq;have i3:¬ (o:Int)=186:=aq;have i4:¬ (o:Int)=187:=aq;simp [go_sem,ho1,i1,i2,i3,i4,w3];refine al (k+1) ⟨aq,ho⟩ aq ?_;simp [ay,ai,fv,lk,AV.low,AV.low1,nb]
 ·have hkl:k=s.length:=aq;subst hkl;rw [List.drop_length,List.any_nil] at ho;subst ho;simp [go_sem];exact aa (v:=.d (.bool false)) trivial rfl
theorem ZY:dG Tryz.prog 8 55=some [some .i64,some .u64]:=by kernel_rfl
theorem ZZ:Tryz.prog.eqGuardType Tryz.prog.depth 55=false:=by kernel_rfl
theorem G9 (l:List (Int × Int)) (hl:l.length≤100000):av Tryz.prog 24 [.d (.ro 2 (l.map dm)),.d (.ro 2 (l.map dm))] (fun r=>r=.d (.bool true)):=by
 refine bK Tryz.func24 Tryz.ntmps24 (rs:=[.tmp 4]) a9 ?_;simp [go_sem]
 refine ax (fun k:Nat=>⟨[(0,.d (.ro 2 (l.map dm))),(1,.d (.ro 2 (l.map dm))),(5,.d (.int .i64 (k:Int)))],[],1000⟩)
  (fun k=>k≤l.length) (fun k=>l.length - k) 0 aq (by
   simp [ay,ai,fv,lk,AV.low,AV.low1]) ?_
 rintro k hk;simp [go_sem];refine ⟨fun h=>?_,fun h=>?_⟩
 ·obtain ⟨o,ho1,hd⟩:=bu (l:=l) (k:=k) aq;have w3:=aA (k:=k) aq;refine b7 [0,1,2,3,4,5,6,7,8] [] 0 (k:=9) ?_;intro G hG;simp [go_sem,ho1,dm,ZY,ZZ,L1.k];refine hG _ _ ?_;clear hG G;simp [go_sem,w3];refine al (k+1) aq aq ?_;simp [ay,ai,fv,lk,AV.low,AV.low1]
 ·exact aa (v:=.d (.bool true)) trivial rfl
theorem Ha (b:List Nat) (hl:b.length≤140737488351232):av Tryz.prog 52 [.d (nb b)] (fun r=>r=.d (nb b)):=by
 refine bK Tryz.func52 Tryz.ntmps52 (rs:=[.tmp 2]) a9 ?_;simp only [go_sem,nb,Nat.reduceEqDiff,Nat.reduceAdd,Nat.reduceLT,↓reduceIte];intro t hb
 cases t with
 | true =>
  have h0:b=[]:=List.eq_nil_of_length_eq_zero (by simpa using hb rfl);subst h0;simp only [go_sem,Nat.reduceEqDiff,Nat.reduceAdd,Nat.reduceLT,↓reduceIte];exact dj (.inr ⟨_,rfl,.nil 1⟩) a9 rfl
 | false =>
  simp [go_sem,cC,aH];refine ⟨aq,dj (ak (aU (L:=b) rfl rfl trivial)) a9 rfl⟩
theorem C9 (w:Wd) (h8:w.1<256) (hl:w.2.length≤140737488351232):av Tryz.prog 21 [.agg (sK w)] (fun v=>v=B8 (cM w)):=by
 by_cases hs:w.2.length≤100000
 ·exact oL w h8 hs
 refine bK Tryz.func21 Tryz.ntmps21 (rs:=[.tmp 2,.tmp 3]) (by intro v hv;simp at hv;subst hv;exact ii _) ?_;obtain ⟨op,b⟩:=w;simp only at h8 hl;simp [go_sem,sK];by_cases h1:op≤77
 ·have h1i:(op:Int)≤77:=aq;have h1j:¬ (77:Int)<(op:Int):=aq;have hv:cM (op,b)=some b:=by simp [cM,h1]
  rw [hv];simp [go_sem,h1,h1i,h1j];have hc:=Ha b aq;refine ag hc a9 ?_;simp [go_sem,ah];exact aK rfl (v8 (some b))
 ·have h1i:¬ (op:Int)≤77:=aq;have h1j:(77:Int)<(op:Int):=aq;by_cases h2:op=79
  ·subst h2;have hv:cM (79,b)=some [129]:=by simp [cM]
   rw [hv];simp [go_sem,ah];exact gQ (L:=[129]) rfl rfl rfl
  ·have h2i:¬ (op:Int)=79:=aq;by_cases h3:80<op
   ·have h3i:(80:Int)<(op:Int):=aq;have h3j:¬ (op:Int)≤80:=aq;by_cases h4:op≤96
    ·have h4i:(op:Int)≤96:=aq;have h4j:¬ (96:Int)<(op:Int):=aq;have hv:cM (op,b)=some [op - 80]:=by simp [cM,h1,h2,h3,h4]
     have w1:IntKind.u8.wrap ((op:Int) - 80)=((op - 80:Nat):Int):=by rw [FT];omega
     rw [hv];simp [go_sem,h1,h1i,h1j,h2,h2i,h3,h3i,h3j,h4,h4i,h4j,w1,ah];generalize op - 80=q at *;exact gQ (L:=[q]) rfl rfl rfl
    ·have h4i:¬ (op:Int)≤96:=aq;have h4j:(96:Int)<(op:Int):=aq;have hv:cM (op,b)=none:=by simp [cM,h1,h2,h3,h4]
     rw [hv];simp [go_sem,h1,h1i,h1j,h2,h2i,h3,h3i,h3j,h4,h4i,h4j,ah];exact nG rfl
   ·have h3i:¬ (80:Int)<(op:Int):=aq;have h3j:(op:Int)≤80:=aq;have hv:cM (op,b)=none:=by simp [cM,h1,h2,h3]
    rw [hv];simp [go_sem,h1,h1i,h1j,h2,h2i,h3,h3i,h3j,ah];exact nG rfl
theorem PC {n:Nat} {ds:List DV} (h:ga Tryz.prog (n+3) 42 ds):∃ w:Wd,ds=jh w∧w.1<256∧bytes w.2∧w.2.length≤140737488351232:=by
 rw [ga] at h;simp only [Tryz.underlying42,List.map_cons,List.map_nil] at h;obtain ⟨a,b,rfl,ha,ha2,a',b',rfl,hb,hb2,rfl⟩:=h;rw [ga] at ha2;simp only [Tryz.underlying5] at ha2;obtain ⟨x,rfl,hx⟩:=ha2;have hx':0≤x∧x<256:=by simp [IntKind.has,IntKind.min,IntKind.max,IntKind.signed,IntKind.bits] at hx;omega
 rw [show Tryz.prog.cellsOf 31=1 by kernel_rfl] at hb
 match a',hb,hb2 with
 | [y],_,hb2 =>
  obtain ⟨bs,rfl,_,h5⟩:=mI (mB _ _ _ hb2);rw [ga] at hb2;simp only [Tryz.underlying31] at hb2;obtain ⟨es,he,⟨_,hz⟩,_⟩:=hb2;rw [show Tryz.prog.bytesOf 5=1 by kernel_rfl,Nat.mul_one] at hz
  have hl:es.length=bs.length:=by
   simp only [nb,List.cons.injEq,DV.ro.injEq,and_true] at he;rw [← he.2,List.length_map]
  refine ⟨(x.toNat,bs),?_,by show x.toNat<256;omega,h5,by rw [hl] at hz;exact hz⟩;show [DV.int .u8 x,nb bs]=[DV.int .u8 ((x.toNat:Nat):Int),nb bs];rw [show ((x.toNat:Nat):Int)=x by omega]
theorem He {n:Nat} {a:AV} (h:oo Tryz.prog (n+4) 44 a):∃ l:List Wd,a=.d (.ro 2 (l.map jh))∧∀ w,w ∈ l→w.1<256∧bytes w.2∧w.2.length≤140737488351232:=by
 unfold oo at h;simp only [Tryz.underlying44] at h;obtain ⟨d,rfl,h⟩:=h;rw [ga] at h;simp only [Tryz.underlying44] at h;obtain ⟨es,he,hl,hr⟩:=h
 obtain ⟨l,rfl,hl2⟩:=om (enc:=jh) (R:=fun w=>w.1<256∧bytes w.2∧w.2.length≤140737488351232) (es:=es) (fun r hr'=>by
  obtain ⟨w,rfl,q⟩:=PC (hr r hr').1
  exact ⟨w,rfl,q⟩)
 refine ⟨l,?_,hl2⟩;rw [show Tryz.prog.cellsOf 42=2 by kernel_rfl] at he
 cases he
 rfl
def PD:List (List AV):=[[.d (.int .u8 0),.nil],[.d (.int .u8 99),.nil]]
def LA (l:List Wd):List (List AV):=PD ++ l.map pJ
theorem lT (l:List Wd):(LA l).length=2+l.length:=by simp [LA,PD];omega
theorem iU (n:Nat) (l:List Wd):∀ r,r ∈ LA l→∀ v,v ∈ r→v.low1 n:=by
 intro r hr v hv;simp only [LA,PD,cL,et,List.mem_nil_iff,or_false,List.mem_map] at hr;rcases hr with (rfl | rfl) | ⟨w,_,rfl⟩
 ·simp only [et,List.mem_nil_iff,or_false] at hv;rcases hv with rfl | rfl <;> trivial
 ·simp only [et,List.mem_nil_iff,or_false] at hv;rcases hv with rfl | rfl <;> trivial
 ·simp only [pJ,et,List.mem_nil_iff,or_false] at hv;rcases hv with rfl | rfl <;> trivial
theorem qq (l:List Wd) (w:Wd):LA l ++ [[.d (.int .u8 (w.1:Int)),.d (nb w.2)]]=LA (l ++ [w]):=by simp [LA,pJ]
theorem AP {hp:Hp} {I:Nat→Prop}:∀ L:List Wd,RowsR hp I (L.map pJ) (L.map jh)
 | []=>.nil
 | w :: r=>.cons (.cons (.d _) (.cons (.d _) .nil)) (AP r)
theorem LC {hp:Hp} {I:Nat→Prop} (L:List Wd):RowsR hp I (LA L ++ [[.d (.int .u8 104),.nil]]) ((jg L).map jh):=by
 have e:(jg L).map jh=([(0,[]),(99,[])].map jh ++ L.map jh) ++ [(104,[])].map jh:=by simp [jg]
 rw [e];exact RowsR.append (RowsR.append (RowsR.cons (.cons (.d _) (.cons (.nil 1) .nil)) (RowsR.cons (.cons (.d _) (.cons (.nil 1) .nil)) .nil)) (AP L)) (RowsR.cons (.cons (.d _) (.cons (.nil 1) .nil)) .nil)
theorem Hf {hp:Hp} {I:Nat→Prop}:RowsR hp I [[.d (.int .u8 0),.nil],[.d (.int .u8 99),.nil],[.d (.int .u8 104),.nil]] (kg.map jh) :=
 RowsR.cons (.cons (.d _) (.cons (.nil 1) .nil)) (RowsR.cons (.cons (.d _) (.cons (.nil 1) .nil)) (RowsR.cons (.cons (.d _) (.cons (.nil 1) .nil)) .nil))
theorem Fo (ws:List Wd):∀ r,r ∈ ws.map jh→r.length=2:=by
 intro r hr;simp only [List.mem_map] at hr;obtain ⟨w,_,rfl⟩:=hr;rfl
theorem wK {ws:List Wd} (h:Ul ws) (rest:List Nat):rF ws rest=(gj ws ++ rest,decide ((gj ws).length+rest.length≤300)):=by
 unfold rF;rw [Ff ws [] h,List.nil_append];simp
theorem Xi (c:CsF) (l:List Wd):∀ v,v ∈ [AV.agg (bV c),.d (.ro 2 (l.map jh))]→v.deep:=by
 intro v hv;simp only [et,List.mem_nil_iff,or_false] at hv;rcases hv with rfl | rfl
 ·exact nP c _ aw
 ·trivial
theorem LD (c:CsF) (l:List Wd) (h:CsIn c) (hlw:∀ w,w ∈ l→w.1<256∧bytes w.2∧w.2.length≤140737488351232):av Tryz.prog 5 [.agg (bV c),.d (.ro 2 (l.map jh))] (fun r=>r=.d (.bool true)):=by
 refine bK Tryz.func5 Tryz.ntmps5 (rs:=[.tmp 4]) (Xi c l) ?_;have hi:=h.i;have hl:=uG hi;have htk:List.take 43 (bV c)=bV c:=cA aq;have hSm:=G0 c h.t hi;have hSd:=nP c
 cases hs:o4 c with
 | false =>
  rw [hs] at hSm;generalize bV c=Q at *;simp [go_sem,hl,htk];refine ag hSm hSd ?_;simp [go_sem];refine ag iL aw ?_;simp [go_sem,ah];exact aa (v:=.d (.bool true)) trivial rfl
 | true =>
 rw [hs] at hSm;by_cases ct:l.length≤12
 case neg =>
  have i1:(12:Int)<(l.length:Int):=aq;generalize bV c=Q at *;simp [go_sem,hl,htk];refine ag hSm hSd ?_;simp [go_sem,i1];refine ag iL aw ?_;simp [go_sem,ah];exact aa (v:=.d (.bool true)) trivial rfl
 have i1:¬ (12:Int)<(l.length:Int):=aq;obtain ⟨hk,hsl,hst,_⟩:=Qo h hs;obtain ⟨sg,out,hsg,hout,hrun⟩:=Uj h hs;have h39:=E7 hi;have h40:(bV c)[40]?=some (.d (.ro 1 (c.start.map bJ))):=mY hi 0;have g39:∀ h:39<(bV c).length,(bV c)[39]'h=AV.d (nb c.script):=fun h=>(List.getElem_of_getElem? h39).2;have g40:∀ h:40<(bV c).length,(bV c)[40]'h=AV.d (.ro 1 (c.start.map bJ)):=fun h=>(List.getElem_of_getElem? h40).2;have hkd:=fun s start=>Qn c s start;have hlow:=fun N=>AG N c;generalize hQ:bV c=Q at *;simp [go_sem,hl,htk];refine ag hSm hSd ?_;simp [go_sem,i1]
 refine ax (fun k:Nat=>⟨[(1,.d (.ro 2 (l.map jh))),(2,.ptr 0 0 0 1),(5,.own 384 0 (2+((l.take k).filter cG).length) (2+((l.take k).filter cG).length)),(6,.d (.int .i64 (k:Int)))],
   [(384,⟨42,2,LA ((l.take k).filter cG)⟩),(0,⟨36,43,[Q]⟩)],9000⟩)
  (fun k=>k≤l.length) (fun k=>l.length - k) 0 aq (by
   simp [ay,ai,fv,lk,AV.low,AV.low1,hl,LA,PD]
   exact hlow 9000) ?_
 rintro k hk
 have hfl:((l.take k).filter cG).length≤12:=by
  have h1:=List.length_filter_le cG (l.take k);rw [List.length_take] at h1;omega
 simp [go_sem];refine ⟨fun hkl=>?_,fun hkl=>?_⟩
 ·obtain ⟨w,hw1,hd⟩:=bu (l:=l) (k:=k) hkl;obtain ⟨q1,q2,q3⟩:=hlw w (cr hw1);have hps:=C9 w q1 q3
  have hdw:∀ v,v ∈ [AV.agg (sK w)]→v.deep:=by
   intro v hv;simp at hv;subst hv;exact ii w
  have hrow:jh w=[.int .u8 (w.1:Int),nb w.2]:=rfl;have w3:=aA (k:=k) aq;have htk1:l.take (k+1)=l.take k ++ [w]:=by rw [List.take_add_one,hw1];rfl
  have hpA:B8 (cM w)=.tup [.d (nb ((cM w).getD [])),.d (.bool (cM w).isSome)]:=by cases cM w <;> rfl
  rw [hpA] at hps;simp [go_sem,hw1,hrow];refine ag hps hdw ?_;by_cases c1:w.2.length≤100
  ·have hmay:=NF w aq q1;have j1:(w.2.length:Int)≤100:=aq;simp [go_sem,hw1,hrow,nb,j1]
   cases hly:(dk w).2 with
   | false =>
    have hke:cG w=false:=by simp [cG,hly]
    rw [hly] at hmay;refine ag hmay hdw ?_;simp [go_sem,hw1,hrow,nb,j1,w3];refine al (k+1) aq aq ?_;rw [htk1,List.filter_append];simp [ay,ai,fv,lk,AV.low,AV.low1,hl,hke];exact ⟨iU 9000 _,hlow 9000⟩
   | true =>
   rw [hly] at hmay;refine ag hmay hdw ?_
   cases hpw:(cM w).isSome with
   | true =>
    have hke:cG w=true:=by simp [cG,hly,hpw];omega
    simp [go_sem,hw1,hrow,nb,j1,w3,hpw];refine ⟨lT _,aq,?_⟩;refine al (k+1) aq aq ?_;rw [htk1,List.filter_append];simp [ay,ai,fv,lk,AV.low,AV.low1,hl,hke];exact ⟨aq,⟨qq _ _,iU 9000 _⟩,hlow 9000⟩
   | false =>
   have hcs:w.1≤104 ∨ (105≤w.1∧w.1≤126) ∨ (127≤w.1∧w.1≤171) ∨ (172≤w.1∧w.1≤173) ∨ (174≤w.1∧w.1≤176) ∨ (177≤w.1∧w.1≤179) ∨ 180≤w.1:=aq;rcases hcs with hc | hc | hc | hc | hc | hc | hc
   ·have a105:¬ 105≤w.1:=aq;have b105:¬ (105:Int)≤(w.1:Int):=aq;have a172:¬ 172≤w.1:=aq;have b172:¬ (172:Int)≤(w.1:Int):=aq;have a177:¬ 177≤w.1:=aq;have b177:¬ (177:Int)≤(w.1:Int):=aq;have hke:cG w=false:=by simp [cG,hly,c1,hpw];omega
    simp [go_sem,hw1,hrow,nb,j1,w3,hpw,a105,b105,a172,b172,a177,b177];refine al (k+1) aq aq ?_;rw [htk1,List.filter_append];simp [ay,ai,fv,lk,AV.low,AV.low1,hl,hke];exact ⟨iU 9000 _,hlow 9000⟩
   ·have a105:105≤w.1:=aq;have b105:(105:Int)≤(w.1:Int):=aq;have a126:w.1≤126:=aq;have b126:(w.1:Int)≤126:=aq;have a172:¬ 172≤w.1:=aq;have b172:¬ (172:Int)≤(w.1:Int):=aq;have a177:¬ 177≤w.1:=aq;have b177:¬ (177:Int)≤(w.1:Int):=aq;have hke:cG w=true:=by simp [cG,hly,c1,hpw,a105,a126,a172,a177]
    simp [go_sem,hw1,hrow,nb,j1,w3,hpw,a105,b105,a126,b126,a172,b172,a177,b177];refine ⟨lT _,aq,?_⟩;refine al (k+1) aq aq ?_;rw [htk1,List.filter_append];simp [ay,ai,fv,lk,AV.low,AV.low1,hl,hke];exact ⟨aq,⟨qq _ _,iU 9000 _⟩,hlow 9000⟩
   ·have a105:105≤w.1:=aq;have b105:(105:Int)≤(w.1:Int):=aq;have a126:¬ w.1≤126:=aq;have b126:¬ (w.1:Int)≤126:=aq;have a172:¬ 172≤w.1:=aq;have b172:¬ (172:Int)≤(w.1:Int):=aq;have a177:¬ 177≤w.1:=aq;have b177:¬ (177:Int)≤(w.1:Int):=aq;have hke:cG w=false:=by simp [cG,hly,c1,hpw];omega
    simp [go_sem,hw1,hrow,nb,j1,w3,hpw,a105,b105,a126,b126,a172,b172,a177,b177];refine al (k+1) aq aq ?_;rw [htk1,List.filter_append];simp [ay,ai,fv,lk,AV.low,AV.low1,hl,hke];exact ⟨iU 9000 _,hlow 9000⟩
   ·have a105:105≤w.1:=aq;have b105:(105:Int)≤(w.1:Int):=aq;have a126:¬ w.1≤126:=aq;have b126:¬ (w.1:Int)≤126:=aq;have a172:172≤w.1:=aq;have b172:(172:Int)≤(w.1:Int):=aq;have a173:w.1≤173:=aq;have b173:(w.1:Int)≤173:=aq;have a177:¬ 177≤w.1:=aq;have b177:¬ (177:Int)≤(w.1:Int):=aq;have hke:cG w=true:=by simp [cG,hly,c1,hpw,a105,a126,a172,a173,a177]
    simp [go_sem,hw1,hrow,nb,j1,w3,hpw,a105,b105,a126,b126,a172,b172,a173,b173,a177,b177];refine ⟨lT _,aq,?_⟩;refine al (k+1) aq aq ?_;rw [htk1,List.filter_append];simp [ay,ai,fv,lk,AV.low,AV.low1,hl,hke];exact ⟨aq,⟨qq _ _,iU 9000 _⟩,hlow 9000⟩
   ·have a105:105≤w.1:=aq;have b105:(105:Int)≤(w.1:Int):=aq;have a126:¬ w.1≤126:=aq;have b126:¬ (w.1:Int)≤126:=aq;have a172:172≤w.1:=aq;have b172:(172:Int)≤(w.1:Int):=aq;have a173:¬ w.1≤173:=aq;have b173:¬ (w.1:Int)≤173:=aq;have a177:¬ 177≤w.1:=aq;have b177:¬ (177:Int)≤(w.1:Int):=aq;have hke:cG w=false:=by simp [cG,hly,c1,hpw];omega
    simp [go_sem,hw1,hrow,nb,j1,w3,hpw,a105,b105,a126,b126,a172,b172,a173,b173,a177,b177];refine al (k+1) aq aq ?_;rw [htk1,List.filter_append];simp [ay,ai,fv,lk,AV.low,AV.low1,hl,hke];exact ⟨iU 9000 _,hlow 9000⟩
   ·have a105:105≤w.1:=aq;have b105:(105:Int)≤(w.1:Int):=aq;have a126:¬ w.1≤126:=aq;have b126:¬ (w.1:Int)≤126:=aq;have a172:172≤w.1:=aq;have b172:(172:Int)≤(w.1:Int):=aq;have a173:¬ w.1≤173:=aq;have b173:¬ (w.1:Int)≤173:=aq;have a177:177≤w.1:=aq;have b177:(177:Int)≤(w.1:Int):=aq;have a179:w.1≤179:=aq;have b179:(w.1:Int)≤179:=aq;have hke:cG w=true:=by simp [cG,hly,c1,hpw,a105,a126,a172,a173,a177,a179]
    simp [go_sem,hw1,hrow,nb,j1,w3,hpw,a105,b105,a126,b126,a172,b172,a173,b173,a177,b177,a179,b179];refine ⟨lT _,aq,?_⟩;refine al (k+1) aq aq ?_;rw [htk1,List.filter_append];simp [ay,ai,fv,lk,AV.low,AV.low1,hl,hke];exact ⟨aq,⟨qq _ _,iU 9000 _⟩,hlow 9000⟩
   ·have a105:105≤w.1:=aq;have b105:(105:Int)≤(w.1:Int):=aq;have a126:¬ w.1≤126:=aq;have b126:¬ (w.1:Int)≤126:=aq;have a172:172≤w.1:=aq;have b172:(172:Int)≤(w.1:Int):=aq;have a173:¬ w.1≤173:=aq;have b173:¬ (w.1:Int)≤173:=aq;have a177:177≤w.1:=aq;have b177:(177:Int)≤(w.1:Int):=aq;have a179:¬ w.1≤179:=aq;have b179:¬ (w.1:Int)≤179:=aq;have hke:cG w=false:=by simp [cG,hly,c1,hpw];omega
    simp [go_sem,hw1,hrow,nb,j1,w3,hpw,a105,b105,a126,b126,a172,b172,a173,b173,a177,b177,a179,b179];refine al (k+1) aq aq ?_;rw [htk1,List.filter_append];simp [ay,ai,fv,lk,AV.low,AV.low1,hl,hke];exact ⟨iU 9000 _,hlow 9000⟩
  ·have hke:cG w=false:=by simp [cG];omega
   have j1:¬ (w.2.length:Int)≤100:=aq;simp [go_sem,hw1,hrow,nb,j1,w3];refine al (k+1) aq aq ?_;rw [htk1,List.filter_append];simp [ay,ai,fv,lk,AV.low,AV.low1,hl,hke];exact ⟨iU 9000 _,hlow 9000⟩
 ·have hke:k=l.length:=aq;subst hke;rw [List.take_length] at hfl ⊢;have hL:∀ w,w ∈ l.filter cG→cG w=true:=fun w hw=>(List.mem_filter.1 hw).2
  have hLw:∀ w,w ∈ l.filter cG→w.1<256∧bytes w.2∧w.2.length≤100:=fun w hw=>by
   obtain ⟨q1,q2,_⟩:=hlw w (List.mem_filter.1 hw).1;have:=hL w hw;simp only [cG,Bool.and_eq_true,decide_eq_true_eq] at this;exact ⟨q1,q2,this.1⟩
  generalize l.filter cG=L at *
  have hw1:∀ w,w ∈ jg L→sf w∧bytes w.2:=by
   intro w hw;simp only [jg,cL,et,List.mem_nil_iff,or_false] at hw;rcases hw with (rfl | rfl) | hw | rfl
   ·exact ⟨⟨Nat.zero_le _,by show 0<256;omega⟩,fun y hy=>(by cases hy)⟩
   ·exact ⟨⟨Nat.zero_le _,by show 99<256;omega⟩,fun y hy=>(by cases hy)⟩
   ·obtain ⟨q1,q2,q3⟩:=hLw w hw;exact ⟨⟨aq,q1⟩,q2⟩
   ·exact ⟨⟨Nat.zero_le _,by show 104<256;omega⟩,fun y hy=>(by cases hy)⟩
  have hw2:∀ w,w ∈ kg→sf w∧bytes w.2:=by
   intro w hw;simp only [kg,et,List.mem_nil_iff,or_false] at hw;rcases hw with rfl | rfl | rfl
   ·exact ⟨⟨Nat.zero_le _,by show 0<256;omega⟩,fun y hy=>(by cases hy)⟩
   ·exact ⟨⟨Nat.zero_le _,by show 99<256;omega⟩,fun y hy=>(by cases hy)⟩
   ·exact ⟨⟨Nat.zero_le _,by show 104<256;omega⟩,fun y hy=>(by cases hy)⟩
  have hi1:(jg L).length=3+L.length:=by simp [jg];omega
  have f1:=rX (jg L) c.script (fun w hw=>(hw1 w hw).1) aq aq;have f2:=rX kg c.script (fun w hw=>(hw2 w hw).1) (by decide) aq;have b1:=rY h.sb hw1;have b2:=rY h.sb hw2;rw [wK (AO hL)] at f1 b1;rw [wK wJ] at f2 b2;simp only at f1 f2 b1 b2;have hsg22:=C7 c.script aq;simp [go_sem,hl,h39,g39];refine ⟨lT L,aq,?_⟩;refine bL [384] f1 rfl (aj (.one (ak (gA (rows:=LA L ++ [[.d (.int .u8 104),.nil]]) rfl aw (by simp [lT]) ?_ (by simp [hi1];omega) (Fo _)))) (aj (.deep trivial) aD)) ?_
  ·rw [List.drop_zero,cA (by simp [lT])];exact LC L
  simp [go_sem,aC,hl,h39,g39];refine bL [9704] f2 rfl (aj (.one (ak (gA (rows:=[[.d (.int .u8 0),.nil],[.d (.int .u8 99),.nil],[.d (.int .u8 104),.nil]]) rfl aw rfl Hf rfl (Fo _)))) (aj (.deep trivial) aD)) ?_;clear f1 f2 hw1 hw2;by_cases o1:(gj (jg L)).length+c.script.length≤300
  case neg =>
   simp [go_sem,aC,o1];refine ag iL aw ?_;simp [go_sem,ah];exact aa (v:=.d (.bool true)) trivial rfl
  by_cases o2:(gj kg).length+c.script.length≤300
  case neg =>
   simp [go_sem,aC,o1,o2];refine ag iL aw ?_;simp [go_sem,ah];exact aa (v:=.d (.bool true)) trivial rfl
  simp [go_sem,aC,o1,o2,hl,h39,g39];refine ag hsg22 a9 ?_
  cases hsn:c.script.any o6 with
  | true =>
   simp [go_sem];refine ag iL aw ?_;simp [go_sem,ah];exact aa (v:=.d (.bool true)) trivial rfl
  | false =>
  have hbad:∀ b,b ∈ c.script→o6 b=false:=fun b hb=>by
   have:=List.any_eq_false.1 hsn b hb
   simpa using this
  obtain ⟨m1,r1⟩:=hrun _ b1 (by rw [b_];omega);obtain ⟨m2,r2⟩:=hrun _ b2 (by rw [b_];omega);have r1:=r1 c.start hst;have r2:=r2 c.start hst;have hd1:=hkd (gj (jg L) ++ c.script) c.start;have hd2:=hkd (gj kg ++ c.script) c.start
  have hsame:qp c (xK c sg m1 out) (gj (jg L) ++ c.script) c.start=qp c (xK c sg m2 out) (gj kg ++ c.script) c.start:=by
   unfold qp;have e1:¬ 1000<(gj (jg L) ++ c.script).length:=by rw [b_];omega
   have e2:¬ 1000<(gj kg ++ c.script).length:=by rw [b_];omega
   by_cases hc:cf c.t c.n c.coins=0
   ·rw [if_neg (fun q=>q.elim (fun h=>h hc) e1),if_neg (fun q=>q.elim (fun h=>h hc) e2)];exact G8 (xK c sg m2 out) m1 L hL c.script hbad c.start c.bud
   ·rw [if_pos (.inl hc),if_pos (.inl hc)]
  have hlen:=Ly c sg m2 out b2 hst h.b;rw [hsame] at r1
  have hln:(qp c (xK c sg m2 out) (gj kg ++ c.script) c.start).1.length≤100000:=by
   rw [b_] at hlen;omega
  generalize qp c (xK c sg m2 out) (gj kg ++ c.script) c.start=p at *;obtain ⟨cl,e⟩:=p;have hsm:=G9 cl hln;unfold mZ at r1 r2;simp only at r1 r2;simp [go_sem,hl,htk,h40,g40];refine ag r1 hd1 ?_;simp [go_sem,hl,htk,h40,g40];refine ag r2 hd2 ?_;simp [go_sem];refine ag iL aw ?_;simp [go_sem];refine ag hsm a9 ?_;simp [go_sem,ah];exact aa (v:=.d (.bool true)) trivial rfl
end Go.Proofs.YtmfnimjnneflnaaGreat
