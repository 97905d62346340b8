/-
 Part 14 of what the claim rests on.
-/
import Derived.Test.YtmfnimjnneflnaaGreatH12
set_option linter.unusedVariables false
set_option linter.unusedSimpArgs false
set_option maxRecDepth 100000
set_option maxHeartbeats 16000000
namespace Go.Proofs.YtmfnimjnneflnaaGreat
open Go.Am Go.Sha
theorem WT (x:Rx):mi x [81,99,82,103,83,104,82,156] [] 0=([],0):=by kernel_rfl
theorem WU (x:Rx):mi x [81,81] [] 0=([],25):=by kernel_rfl
theorem WV (x:Rx):mi x [0,99,255,104,81] [] 0=([],10):=by kernel_rfl
end Go.Proofs.YtmfnimjnneflnaaGreat
namespace Go.Sha
open Go.Proofs.YtmfnimjnneflnaaGreat Go.Am
structure CsF where
 t:Tn
 n:Int
 coins:List (Nat × List Nat)
 inner:List Nat
 path:List (List Nat)
 script:List Nat
 start:List (List Nat)
 annex:List Nat
 bud:Int
def qh (c:CsF):List AV:=[.d (.ro 1 (c.start.map bE)),.d (nb c.annex),.d (.int .i64 c.bud)]
def bM (c:CsF):List AV:=eS c.t c.n c.coins ++ (aT c.inner (.d (c8 c.path)) (.d (nb c.script)) ++ qh c)
def mZ (c:CsF):Bool:=qR c.t c.coins && (decide (c.script.length≤300) && (decide (c.path.length≤12) && (decide (c.start.length≤12) && (decide (c.annex.length≤300) && c.start.all fun x=>decide (x.length≤600)))))
end Go.Sha
namespace Go.Proofs.YtmfnimjnneflnaaGreat
open Go.Am Go.Sha
theorem uO {inner:List Nat} (hi:inner.length=32) (a b:AV):(aT inner a b).length=34:=by simp [aT,am,hi]
theorem uz {c:CsF} (hi:c.inner.length=32):(bM c).length=43:=by simp [bM,eS,uO hi,qh]
theorem GF {c:CsF} (hi:c.inner.length=32):List.drop 6 (bM c)=aT c.inner (.d (c8 c.path)) (.d (nb c.script)) ++ qh c:=rfl
theorem yv {c:CsF}:List.take 6 (bM c)=eS c.t c.n c.coins:=rfl
theorem KV {c:CsF} (hi:c.inner.length=32):List.take 34 (List.drop 6 (bM c))=aT c.inner (.d (c8 c.path)) (.d (nb c.script)):=by
 rw [GF hi,List.take_append,uO hi,cA (by rw [uO hi];omega)];simp
theorem na {c:CsF} (hi:c.inner.length=32) (k:Nat):(bM c)[k+40]?=(qh c)[k]?:=by
 rw [bM,dz (by simp [eS]),dz (by simp [eS,uO hi])];congr 1;simp [eS,uO hi]
theorem AD {inner:List Nat} (hi:inner.length=32) (a b:AV) (l:List AV) (k:Nat) (hk:k<2):(aT inner a b ++ l)[k+32]?=[a,b][k]?:=by
 rw [List.getElem?_append_left (by rw [uO hi];omega),aT,dz (by rw [am,hi];omega),am,hi,Nat.add_sub_cancel]
theorem OQ {c:CsF} (hi:c.inner.length=32):(bM c)[38]?=some (.d (c8 c.path)):=AD (l:=qh c) hi _ _ 0 aq
theorem OR {c:CsF} (hi:c.inner.length=32):(bM c)[39]?=some (.d (nb c.script)):=AD (l:=qh c) hi _ _ 1 aq
theorem AE (N:Nat) (c:CsF):∀ v,v ∈ bM c→v.low1 N:=by
 intro v hv;simp only [bM,eS,aT,cb,qh,cL,et,List.mem_nil_iff,or_false,List.mem_map] at hv;rcases hv with (rfl | rfl | rfl | rfl | rfl | rfl) | (⟨x,_,rfl⟩ | rfl | rfl) | rfl | rfl | rfl <;> trivial
theorem nQ (c:CsF):∀ v,v ∈ [AV.agg (bM c)]→v.deep:=by
 intro v hv;simp only [et,List.mem_nil_iff,or_false] at hv;subst hv;intro v hv;simp only [bM,eS,aT,cb,qh,cL,et,List.mem_nil_iff,or_false,List.mem_map] at hv;rcases hv with (rfl | rfl | rfl | rfl | rfl | rfl) | (⟨x,_,rfl⟩ | rfl | rfl) | rfl | rfl | rfl <;> trivial
theorem GG (c:CsF) (ht:c.t.ok) (hi:c.inner.length=32):ax Tryz.prog 13 [.agg (bM c)] (fun r=>r=.d (.bool (mZ c))):=by
 refine bN Tryz.func13 Tryz.ntmps13 (rs:=[.tmp 2]) (nQ c) ?_;have hl:=uz hi;have h6:=yv (c:=c);have h38:=OQ hi;have h39:=OR hi;have h40:(bM c)[40]?=some (.d (.ro 1 (c.start.map bE))):=na hi 0;have h41:(bM c)[41]?=some (.d (nb c.annex)):=na hi 1;have hSm:=F4 c.t c.n c.coins ht;have hSd:=AA c.t c.n c.coins;have hlow:=fun N=>AE N c;have htk:List.take 43 (bM c)=bM c:=cA aq;generalize hX:mZ c=X;unfold mZ at hX;generalize eS c.t c.n c.coins=S at *;generalize bM c=Q at *;simp [go_sem,hl,htk,h6,h38,h39,h40,h41];refine ag hSm hSd ?_;generalize qR c.t c.coins=W at *
 cases W
 ·simp at hX;subst hX;simp [go_sem];exact aa a9 rfl
 by_cases c1:c.script.length≤300
 case neg =>
  have i1:300<(c.script.length:Int):=aq;have:X=false:=by rw [← hX];simp [c1]
  subst this;simp [go_sem,i1,h38,h39,h40,h41,nb];exact aa a9 rfl
 have i1:¬ 300<(c.script.length:Int):=aq;by_cases c2:c.path.length≤12
 case neg =>
  have i2:12<(c.path.length:Int):=aq;have:X=false:=by rw [← hX];simp [c2]
  subst this;simp [go_sem,i1,i2,h38,h39,h40,h41,nb,c8];exact aa a9 rfl
 have i2:¬ 12<(c.path.length:Int):=aq;by_cases c3:c.start.length≤12
 case neg =>
  have i3:12<(c.start.length:Int):=aq;have:X=false:=by rw [← hX];simp [c3]
  subst this;simp [go_sem,i1,i2,i3,h38,h39,h40,h41,nb,c8];exact aa a9 rfl
 have i3:¬ 12<(c.start.length:Int):=aq;by_cases c4:c.annex.length≤300
 case neg =>
  have i4:300<(c.annex.length:Int):=aq;have:X=false:=by rw [← hX];simp [c4]
  subst this;simp [go_sem,i1,i2,i3,i4,h38,h39,h40,h41,nb,c8];exact aa a9 rfl
 have i4:¬ 300<(c.annex.length:Int):=aq;have e:X=c.start.all fun x=>decide (x.length≤600):=by rw [← hX];simp [c1,c2,c3,c4]
 simp [go_sem,i1,i2,i3,i4,h38,h39,h40,h41,nb,c8]
 refine ar (fun k:Nat=>⟨[(1,.ptr 0 0 0 1),(3,.d (.int .i64 (k:Int)))],[(0,⟨36,43,[Q]⟩)],4000⟩)
  (fun k=>k≤c.start.length∧((c.start.drop k).all fun x=>decide (x.length≤600))=X) (fun k=>c.start.length - k) 0 ⟨aq,e.symm⟩ (by
   simp [aA,ai,fv,lk,AV.low,AV.low1,hl]
   exact hlow _) ?_
 rintro k ⟨hk,ho⟩;have g40:∀ h:40<Q.length,Q[40]'h=AV.d (.ro 1 (c.start.map bE)):=fun h=>(List.getElem_of_getElem? h40).2;simp [go_sem,g40,hl];refine ⟨fun h=>?_,fun h=>?_⟩
 ·obtain ⟨o,ho1,hd⟩:=bm (l:=c.start) (k:=k) aq;have w3:=ay (k:=k) aq;have hrow:=Iy ho1;by_cases hx:o.length≤600
  ·have j1:¬ 600<(o.length:Int):=aq;have j2:(o.length:Int)≤600:=aq;simp [go_sem,ho1,hrow,bE,nb,j1,j2,w3,g40,hl];refine ao (k+1) ⟨aq,fl hd ho (by simpa using hx)⟩ aq ?_;simp [aA,ai,fv,lk,AV.low,AV.low1,hl];exact hlow _
  ·have j1:600<(o.length:Int):=aq;have j2:¬ (o.length:Int)≤600:=aq;have:=ed hd ho (by simpa using hx);subst this;simp [go_sem,ho1,hrow,bE,nb,j1,j2,g40,hl];exact aa a9 rfl
 ·have hkl:k=c.start.length:=aq;subst hkl;have:=fq ho;subst this;simp [go_sem];exact aa a9 rfl
end Go.Proofs.YtmfnimjnneflnaaGreat
namespace Go.Sha
open Go.Proofs.YtmfnimjnneflnaaGreat Go.Am
theorem uA (op:Nat) (r:List Nat):ij (op :: r)=if 0<op∧op≤75 then some (op,1) else if op=76 then (match r with | a :: _=>some (a,2) | []=>none) else if op=77 then (match r with | a :: b :: _=>some (a+256*b,3) | _=>none) else some (0,1):=rfl
theorem GH {t:List Nat} (h:t.length≤65535):eH (bI t)=some t:=by
 have g:∀ x:List Nat,x.length≤65535→eH (fh x)=some x:=fun x hx=>by
  unfold eH fh;rw [if_pos];simp only
  split
  ·omega
  ·split <;> omega
 match t with
 | []=>rfl
 | [c] =>
  rw [show bI [c]=if 1≤c∧c≤16 then (80+c,[]) else if c=129 then (79,[]) else fh [c] from rfl]
  split
  ·rename_i hc;have n1:¬ 80+c≤77:=aq;have n2:¬ 80+c=79:=aq;have n3:80<80+c∧80+c≤96:=aq;show (if 80+c≤77 then some [] else if 80+c=79 then some [129] else if 80<80+c∧80+c≤96 then some [80+c - 80] else none)=_;rw [if_neg n1,if_neg n2,if_pos n3,Nat.add_sub_cancel_left]
  ·split
   ·rename_i hc;subst hc;rfl
   ·exact g [c] aw
 | a :: b :: r=>exact g _ h
theorem OS {t:List Nat}:(bI t).1≤96:=by
 have g:∀ x:List Nat,(fh x).1≤96:=fun x=>by
  unfold fh;simp only
  split
  ·omega
  ·split <;> omega
 unfold bI
 split
 ·split
  ·simp only;omega
  ·split
   ·simp only;omega
   ·exact g _
 ·exact g _
theorem GI {t:List Nat} (x:Rx) (r:Rn) (h:t.length≤65535) (hi:gG r=0):mh x (bI t) r=dy t r:=by
 have hp:=GH h;have ho:=OS (t:=t);have hs:rK (bI t)=true:=by unfold rK;rw [hp];simp
 have hb:mR (bI t).1 r=none:=by
  unfold mR;rw [if_neg aq,if_neg aq,if_neg aq]
 unfold mh;rw [hp,hb,if_neg aw,hs];simp [hi]
theorem OT {op:Nat} (x:Rx) (r:Rn) (h:ma op=true) (h2:104<op) (hi:gG r=0):mh x (op,[]) r=oL x op r:=by
 have hp:eH (op,[])=none:=by
  unfold eH;rw [if_neg (by simp only;omega),if_neg (by simp only;omega),if_neg (by simp only;omega)]
 have hb:mR op r=none:=by
  unfold mR;rw [if_neg aq,if_neg aq,if_neg aq]
 unfold mh;rw [hp];simp only [hb,h];simp [hi]
theorem KW {s rest:List Nat} {a:Nat} {w:Wd} (hb:w.2.length≤65535) (hw:(cT w).2=true) (hd:s.drop a=(cT w).1 ++ rest):mQ s a=some (w,a+(cT w).1.length):=by
 obtain ⟨op,b⟩:=w
 have ht:∀ (n h:Nat) (jw:List Nat),ij (s.drop a)=some (n,h)→s.drop a=jw ++ (b ++ rest)→jw.length=h→b.length=n→(s.drop a).headD 0=op→mQ s a=some ((op,b),a+h+n):=by
  intro n h jw h1 h2 h3 h4 h5;unfold mQ;rw [h1];simp only;rw [if_neg (by rw [h2];simp only [b_];omega),h5]
  have:((s.drop a).drop h).take n=b:=by
   rw [h2,← h3,List.drop_left,← h4,List.take_left]
  rw [this]
 unfold cT at hw hd ⊢;by_cases c1:0<op∧op≤75
 ·rw [if_pos c1] at hw hd ⊢;simp only [decide_eq_true_eq] at hw;have e:s.drop a=op :: (b ++ rest):=hd;have:=ht op 1 [op] (by rw [e,uA,if_pos c1]) e rfl hw (by rw [e];rfl);rw [this];simp only [List.length_cons];congr 2;omega
 ·rw [if_neg c1] at hw hd ⊢;by_cases c2:op=76
  ·subst c2;rw [if_pos rfl] at hw hd ⊢;simp only [decide_eq_true_eq] at hw;have e8:t8 b.length=b.length:=Pi aq;have e:s.drop a=[76,b.length] ++ (b ++ rest):=by rw [hd];simp [e8]
   have:=ht b.length 2 [76,b.length] (by rw [e];rfl) e rfl rfl (by rw [e];rfl);rw [this];simp only [List.length_cons];congr 2;omega
  ·rw [if_neg c2] at hw hd ⊢;by_cases c3:op=77
   ·subst c3;rw [if_pos rfl] at hw hd ⊢;simp only [decide_eq_true_eq] at hw;have e:s.drop a=[77,t8 b.length,t8 (dW 8 b.length)] ++ (b ++ rest):=by rw [hd];simp
    have e8:t8 b.length+256*t8 (dW 8 b.length)=b.length:=by
     unfold t8 dW;simp only [Nat.reducePow];omega
    have:=ht b.length 3 [77,t8 b.length,t8 (dW 8 b.length)] (by rw [e];show some (t8 b.length+256*t8 (dW 8 b.length),3)=_;rw [e8]) e rfl rfl (by rw [e];rfl);rw [this];simp only [List.length_cons];congr 2;omega
   ·rw [if_neg c3] at hw hd ⊢;simp only [decide_eq_true_eq] at hw;have hb0:b=[]:=List.eq_nil_of_length_eq_zero hw;subst hb0;have e:s.drop a=[op] ++ ([] ++ rest):=by rw [hd];simp
    have:=ht 0 1 [op] (by rw [e,List.cons_append,uA,if_neg c1,if_neg c2,if_neg c3]) e rfl rfl (by rw [e];rfl);rw [this];rfl
theorem KX {r:Rn} (h:(kV r).e=0):r.e=0:=by
 by_cases hr:r.e=0
 ·exact hr
 ·exfalso;have f:∀ (x:Int) (q:Rn),q.e ≠ 0→(az x q).e ≠ 0:=fun x q hq=>by unfold az;rw [if_neg hq];exact hq
  revert h;unfold kV;simp only
  split
  ·split
   ·exact f _ _ hr
   ·exact f _ _ (f _ _ hr)
  ·split
   ·exact hr
   ·exact f _ _ hr
theorem AG {x:Rx} {s rest:List Nat} {f a:Nat} {r:Rn} {w:Wd} (h:(kV (jW x s (f+1) a r)).e=0) (hb:w.2.length≤65535) (hw:(cT w).2=true) (hd:s.drop a=(cT w).1 ++ rest) :
  r.e=0∧(kV (jW x s f (a+(cT w).1.length) (mh x w r))).e=0∧kV (jW x s (f+1) a r)=kV (jW x s f (a+(cT w).1.length) (mh x w r)):=by
 have hn:=KW hb hw hd
 have hl:0<(cT w).1.length:=by
  unfold cT
  split
  ·exact Nat.succ_pos _
  ·split
   ·exact Nat.succ_pos _
   ·split
    ·exact Nat.succ_pos _
    ·exact Nat.succ_pos _
 have ha:a<s.length:=by
  have:=congrArg List.length hd;rw [e_,b_] at this;omega
 rw [jW] at h ⊢;by_cases hr:r.e=0
 ·rw [if_pos ⟨ha,hr⟩,hn] at h ⊢;exact ⟨hr,h,rfl⟩
 ·rw [if_neg (fun q=>hr q.2)] at h;exact absurd (KX h) hr
theorem GK {x:Rx} {s:List Nat} {start:List (List Nat)} {bud:Int} (h:(mi x s start bud).2=0):(kV (jW x s (s.length+1) 0 (az (fj start []) ⟨start,[],[],bud,[],0⟩))).e=0:=by
 unfold mi at h;simp only at h
 split at h
 ·assumption
 ·exact h
theorem WW {k e:Int} {m a:List be} {br:List Bool} {bud:Int} {cl:List (Int × Int)} (h:(az k ⟨m,a,br,bud,cl,e⟩).e=0):az k ⟨m,a,br,bud,cl,e⟩=⟨m,a,br,bud,cl,0⟩∧k=0:=by
 unfold az at h ⊢
 split at h
 ·rename_i he;rw [if_pos he];simp only at h;subst h;exact ⟨rfl,rfl⟩
 ·exact absurd h ‹_›
theorem PZ {b:be} {r:Rn} (h:(dy b r).e=0):r.e=0∧dy b r={ r with main:=r.main ++ [b] }:=by
 have he:r.e=0:=by
  unfold dy at h
  split at h
  ·assumption
  ·exact h
 refine ⟨he,?_⟩;unfold dy at h ⊢;rw [if_pos he] at h ⊢
 split
 ·rfl
 ·rename_i hc;exfalso;rw [if_neg hc] at h;unfold az at h;rw [if_pos he] at h;exact hc h
end Go.Sha
namespace Go.Sha
open Go.Proofs.YtmfnimjnneflnaaGreat Go.Am
def xK (c:CsF) (sg:be→be→be→Bool) (msg:be) (out:be→be × Int):Rx :=
 ⟨bq,dU,sg,msg,(c.t.lock:Int),(c.t.ver:Int),(((c.t.ins[c.n.toNat]?.map Ip.seq).getD 0:Nat):Int),OF c.t c.n.toNat,oJ c.t c.n c.coins,fun s o0 o1 bk=>uy c.t c.n c.coins o0 o1 bk (out s).1 (out s).2⟩
def uB (c:CsF) (x:Rx) (s:List Nat) (start:List (List Nat)):List (Int × Int) × Int:=if bL c.t c.n c.coins ≠ 0 ∨ 1000<s.length then ([],1) else mi x s start c.bud
def lh (p:List (Int × Int) × Int):AV:=.tup [.d (.ro 2 (p.1.map eF)),.d (.int .i64 p.2)]
end Go.Sha
namespace Go.Proofs.YtmfnimjnneflnaaGreat
open Go.Am Go.Sha
structure CsOk (c:CsF):Prop where
 t:Sm c.t
 cc:YO c.coins
 cb:∀ o,o ∈ c.coins→bytes o.2∧o.1<18446744073709551616
 ob:∀ o,o ∈ c.t.outs→bytes o.2
 i:c.inner.length=32
 ib:bytes c.inner
 s:c.script.length≤1000
 p:∀ p,p ∈ c.path→p.length=32
 pl:c.path.length≤1000
 a:c.annex.length≤1000
 b:fZ c.bud
theorem TR (t:Tn) (n:Int) (coins:List (Nat × List Nat)) (inner:List Nat) (path:List (List Nat)) (s annex:List Nat) (start:List be) (bud:Int) (ht:Sm t) (hc:coins.length≤1000) (hi:inner.length=32) (h:bL t n coins=1) :
  ax Tryz.prog 53 [.agg (eS t n coins),cO inner path s,.d (.ro 1 (start.map bE)),.d (nb annex),.d (.int .i64 bud)] (fun v=>v=.tup [.d (.ro 2 []),.d (.int .i64 1)]):=by
 have hck:=kT t n coins ht hc;have hlf:(aT inner (AV.d (c8 path)) (AV.d (nb s))).length=34:=uO hi _ _;have hlt:List.take 34 (aT inner (AV.d (c8 path)) (AV.d (nb s)))=aT inner (AV.d (c8 path)) (AV.d (nb s)):=cA (by rw [hlf];omega);have hdS:∀ v,v ∈ [AV.agg (eS t n coins)]→v.deep:=AA t n coins;rw [h] at hck;simp only [eS] at hck hdS
 refine bN Tryz.func53 Tryz.ntmps53 (rs:=[.tmp 10,.tmp 11]) (by
  intro v hv;simp at hv;rcases hv with rfl | rfl | rfl | rfl | rfl
  ·simp [AV.deep,AV.deep1,eS]
  ·exact cX inner path s _ (List.mem_singleton.2 rfl)
  ·trivial
  ·trivial
  ·trivial) ?_
 simp [go_sem,cO,eS,hlf,hlt];refine ag hck hdS ?_;simp [go_sem,ah];exact dC (cs':=[.d (.ro 2 []),.d (.int .i64 1)]) (ap (ak (.nil 2)) (ap (bc trivial) bz)) rfl a9 rfl
theorem KY (c:CsF) (hk:CsOk c) {sg:be→be→be→Bool} {out:be→be × Int} (hsg:OP sg) (hout:EX c.inner c.path out) (s:List Nat) (hs:bytes s) (hl:s.length≤100000):∃ msg:be,∀ start:List (List Nat),StOk start [] →
  ax Tryz.prog 53 [.agg (eS c.t c.n c.coins),cO c.inner c.path s,.d (.ro 1 (start.map bE)),.d (nb c.annex),.d (.int .i64 c.bud)] (fun v=>v=lh (uB c (xK c sg msg out) s start)):=by
 by_cases hn:0≤c.n
 ·obtain ⟨n,hn'⟩:∃ n:Nat,c.n=(n:Int):=⟨c.n.toNat,aq⟩;obtain ⟨msg,hx⟩:=TQ ⟨c.t,n,c.coins,c.inner,c.path,s,c.annex⟩ ⟨hk.t,hk.cc,hk.cb,hk.ob,hk.i,hk.ib,hl,hk.p,hk.pl,hk.a⟩ hsg hout;refine ⟨msg,fun start hst=>?_⟩
  have hr:=TC ⟨c.t,n,c.coins,c.inner,c.path,s,c.annex⟩ (xK c sg msg out) start c.bud hk.t (by have:=hk.cc.1;show c.coins.length≤1000;omega) hk.i hs hst hk.b (fun hc _=>by
   have:=hx hc (xK c sg msg out) (by unfold xK;rw [hn'];rfl)
   exact this) (fun s o0 o1 bk=>wC _ _ _ _ _ _ _ _)
  have e:Gt ⟨c.t,n,c.coins,c.inner,c.path,s,c.annex⟩ (xK c sg msg out) start c.bud=lh (uB c (xK c sg msg out) s start):=by
   unfold Gt uB;rw [hn'];simp only
   split
   ·rfl
   ·rfl
  rw [e,← hn'] at hr;exact hr
 ·have hc:bL c.t c.n c.coins=1:=by
   rcases rj c.t c.n c.coins with h | h
   ·exfalso;unfold bL at h
    split at h
    ·cases h
    ·rename_i hq;simp only [not_or,Int.not_lt,Int.not_le] at hq;omega
   ·exact h
  refine ⟨[],fun start hst=>?_⟩;have:=TR c.t c.n c.coins c.inner c.path s c.annex start c.bud hk.t (by have:=hk.cc.1;omega) hk.i hc;have e:uB c (xK c sg [] out) s start=([],1):=if_pos (.inl (by rw [hc];omega));rw [e];exact this
theorem wE {inner:List Nat} (hi:inner.length=32) (a b v:AV):(aT inner a b).set 33 v=aT inner a v:=by
 unfold aT;rw [List.set_append_right _ _ (by rw [am,hi];omega),am,hi];rfl
theorem GL {inner:List Nat} (hi:inner.length=32) (a b v:AV):List.take 33 (aT inner a b) ++ v :: List.drop 34 (aT inner a b)=aT inner a v:=by
 rw [← wE hi a b v,List.set_eq_take_append_cons_drop,if_pos (by rw [uO hi];omega)]
theorem P0 (c:CsF) (s:List Nat) (start:List (List Nat)):∀ v,v ∈ [AV.agg (bM c),.d (nb s),.d (.ro 1 (start.map bE))]→v.deep:=by
 intro v hv;simp only [et,List.mem_nil_iff,or_false] at hv;rcases hv with rfl | rfl | rfl
 ·exact nQ c _ aw
 ·trivial
 ·trivial
theorem AH (c:CsF) (hi:c.inner.length=32) (s:List Nat) (start:List (List Nat)) (p:List (Int × Int) × Int)
  (h:ax Tryz.prog 53 [.agg (eS c.t c.n c.coins),cO c.inner c.path s,.d (.ro 1 (start.map bE)),.d (nb c.annex),.d (.int .i64 c.bud)] (fun v=>v=lh p)) :
  ax Tryz.prog 17 [.agg (bM c),.d (nb s),.d (.ro 1 (start.map bE))] (fun v=>v=lh p):=by
 refine bN Tryz.func17 Tryz.ntmps17 (rs:=[.tmp 6,.tmp 7]) (P0 c s start) ?_;have hl:=uz hi;have h6:=yv (c:=c);have h34:=KV hi;have h41:(bM c)[41]?=some (.d (nb c.annex)):=na hi 1;have h42:(bM c)[42]?=some (.d (.int .i64 c.bud)):=na hi 2;have g41:∀ h:41<(bM c).length,(bM c)[41]'h=AV.d (nb c.annex):=fun h=>(List.getElem_of_getElem? h41).2;have g42:∀ h:42<(bM c).length,(bM c)[42]'h=AV.d (.int .i64 c.bud):=fun h=>(List.getElem_of_getElem? h42).2;have hSd:=AA c.t c.n c.coins;have hlf:=uO hi (.d (c8 c.path)) (.d (nb c.script));have hls:=wE hi (.d (c8 c.path)) (.d (nb c.script)) (.d (nb s));have hls2:=GL hi (.d (c8 c.path)) (.d (nb c.script)) (.d (nb s));have hlf2:=uO hi (.d (c8 c.path)) (.d (nb s));have htk2:List.take 34 (aT c.inner (.d (c8 c.path)) (.d (nb s)))=aT c.inner (.d (c8 c.path)) (.d (nb s)):=cA aq
 have hdd:∀ v,v ∈ [.agg (eS c.t c.n c.coins),cO c.inner c.path s,.d (.ro 1 (start.map bE)),.d (nb c.annex),.d (.int .i64 c.bud)]→v.deep:=by
  intro v hv;simp only [et,List.mem_nil_iff,or_false] at hv;rcases hv with rfl | rfl | rfl | rfl | rfl
  ·exact hSd _ aw
  ·exact cX c.inner c.path s _ (List.mem_singleton.2 rfl)
  ·trivial
  ·trivial
  ·trivial
 have zl:(aT z32 .nil .nil).length=34:=rfl;have zd:List.drop 34 (aT z32 .nil .nil)=[]:=rfl;have htk:List.take 43 (bM c)=bM c:=cA aq;unfold cO at h hdd;generalize eS c.t c.n c.coins=S at *;generalize bM c=Q at *;generalize aT c.inner (.d (c8 c.path)) (.d (nb c.script))=L at *;generalize aT c.inner (.d (c8 c.path)) (.d (nb s))=M at *;simp [go_sem,hl,htk,h6,h34,g41,g42,h41,h42,hlf,hls,hls2,hlf2,htk2,zl,zd];refine ag h hdd ?_;unfold lh;simp [go_sem,ah];exact aa a9 rfl
theorem GM (ws:List Wd) (hw:∀ w,w ∈ ws→ta w) (hl:ws.length≤10000):cj Tryz.prog 51 0 [] [.d (.ro 2 (ws.map rS))]
  (fun r hp'=>((eu [] ws).2=0∧r=.tup [.own 1000 0 (eu [] ws).1.length (eu [] ws).1.length,.d (.int .i64 0)]∧lk 1000 hp'=some ⟨5,1,rb (eu [] ws).1⟩) ∨ ((eu [] ws)=([],1)∧r=.tup [.nil,.d (.int .i64 1)])):=by
 refine al Tryz.func51 (by kernel_rfl) rfl Tryz.ntmps51 (rs:=[.tmp 2,.tmp 3]) rfl (dR rfl) (by decide) ?_;generalize hB:eu [] ws=B;simp only [go_sem,Nat.reduceEqDiff,Nat.reduceAdd,Nat.reduceLT,↓reduceIte,Nat.reduceMul]
 refine ar (fun t:Nat × List Nat=>⟨[(4,.own 1000 0 t.2.length t.2.length),(9,.d (.ro 2 (ws.map rS))),(10,.d (.int .i64 (ws.length:Int))),(11,.d (.int .i64 (t.1:Int)))],[(1000,⟨5,1,rb t.2⟩)],1001⟩)
  (fun t=>t.1≤ws.length∧t.2.length≤60003*t.1∧eu t.2 (ws.drop t.1)=B) (fun t=>ws.length - t.1) (0,[]) ⟨aq,aw,hB⟩ (by
   simp [aA,ai,fv,lk,AV.low,AV.low1,rb]) ?_
 clear hB;rintro ⟨k,out⟩ ⟨hk,ho,hB⟩;simp only at hk ho hB;simp only [go_sem,Nat.reduceEqDiff,Nat.reduceAdd,Nat.reduceLT,↓reduceIte,Nat.reduceMul];refine ⟨fun h=>?_,fun h=>?_⟩
 ·obtain ⟨w,hw1,hd⟩:=bm (l:=ws) (k:=k) aq;obtain ⟨q1,q2⟩:=hw w (cr hw1);rw [hd] at hB;simp only [eu] at hB;have hll:=pH w;have hrow:rS w=[.int .u8 (w.1:Int),nb w.2]:=rfl;simp [go_sem,hw1,hrow];refine ag (Iw w q1 q2) (by intro v hv;simp at hv;subst hv;exact s8 w) ?_
  cases hok:(cT w).2 with
  | false =>
   simp [go_sem,ah];rw [hok,if_neg aw] at hB;exact hB.symm
  | true =>
   rw [hok,if_pos rfl] at hB;have w3:=ay (k:=k) aq;generalize (cT w).1=L at *;simp [go_sem,nb,cB,aG,iH,w3];refine ⟨aq,?_⟩;refine ao (k+1,out ++ L) ⟨by simp only;omega,by simp only [b_];omega,hB⟩ (by simp only;omega) ?_;simp [aA,ai,fv,lk,AV.low,AV.low1];exact bg _ _
 ·rw [dg aq] at hB;simp only [eu] at hB;simp [go_sem,ah];rw [← hB];exact ⟨rfl,rfl,rfl⟩
theorem AI:∀ (ws:List Wd) (out:List Nat),(∀ w,w ∈ ws→ta w)→(eu out ws).1.length≤out.length+60003*ws.length
 | [],out,_=>by simp [eu]
 | w :: r,out,h=>by
  have hw:=(h w aw).1;have hl:=pH w;unfold eu
  split
  ·have:=AI r (out ++ (cT w).1) (fun w hw=>h w (by simp [hw]));simp only [b_,List.length_cons] at this ⊢;omega
  ·exact Nat.zero_le _
theorem EZ:∀ (ws:List Wd) (out:List Nat),(eu out ws).2=0 ∨ eu out ws=([],1)
 | [],out=>.inl rfl
 | w :: r,out=>by
  unfold eu
  split
  ·exact EZ r _
  ·exact .inr rfl
def lR (ws:List Wd) (rest:List Nat):List Nat × Bool:=((eu [] ws).1 ++ rest,decide ((eu [] ws).2=0∧(eu [] ws).1.length+rest.length≤300))
theorem AK (ws:List Wd) (rest:List Nat) (hw:∀ w,w ∈ ws→ta w) (hl:ws.length≤10000) (hr:rest.length≤100000):ax Tryz.prog 15 [.d (.ro 2 (ws.map rS)),.d (nb rest)] (fun r=>r=.tup [.d (nb (lR ws rest).1),.d (.bool (lR ws rest).2)]):=by
 refine bN Tryz.func15 Tryz.ntmps15 (rs:=[.tmp 4,.tmp 5]) a9 ?_;have hbl:=AI ws [] hw;have h01:=EZ ws [];have hown:=GM ws hw hl;unfold lR;generalize eu [] ws=B at *;obtain ⟨b,e⟩:=B;simp only [List.length_nil,Nat.zero_add] at *;simp [go_sem];refine gP [] hown rfl (aj (.deep a9) aD) (fun ρ=>by simp [AV.renL,AV.ren]) ?_;rintro r hp' (⟨rfl,rfl,h0⟩ | ⟨hB,rfl⟩)
 ·refine ⟨[(1000,0)],rfl,?_⟩;simp [go_sem,bP,bA,h0,Blk.ren,aL,cF,AV.renL,AV.ren,bR,aE,nb,cB,aG];have wi:IntKind.i64.wrap ((b.length:Int)+(rest.length:Int))=(b.length:Int)+(rest.length:Int):=IntWalk.i64_in _ aq;rw [wi];refine ⟨aq,?_⟩;rw [iH];have hd:decide ((b.length:Int)+(rest.length:Int)≤300)=decide (b.length+rest.length≤300):=decide_eq_decide.2 aq;rw [hd,← b_,← List.map_append];exact dC (ap (ak (aM (L:=b ++ rest) rfl rfl trivial)) (ap (bc trivial) bz)) rfl a9 rfl
 ·cases hB
  refine ⟨[],rfl,?_⟩;simp [go_sem,bP,bA,Blk.ren,aL,cF,AV.renL,AV.ren,bR,aE,nb,cB,aG];refine ⟨aq,?_⟩;exact dC (ap (ak (aM (L:=rest) rfl rfl trivial)) (ap (bc trivial) bz)) rfl a9 rfl
end Go.Proofs.YtmfnimjnneflnaaGreat
namespace Go.Sha
open Go.Proofs.YtmfnimjnneflnaaGreat Go.Am
def tP:Tn:=⟨2,[⟨z32,0,0,[]⟩],[(5,[])],0⟩
def AL:CsF:=⟨tP,0,[(7,[])],z32,[],[],[],[],0⟩
def Xj:List AV:=[.d (.int .u32 0),.nil,.nil,.d (.int .u32 0),.d (.int .i64 0),.nil] ++ (aT z32 .nil .nil ++ [.nil,.nil,.d (.int .i64 0)])
end Go.Sha
namespace Go.Proofs.YtmfnimjnneflnaaGreat
open Go.Am Go.Sha
theorem KZ {hp:Hp} {I:Nat→Prop} {c:List AV} {d:List DV} (h2:CellsR hp I c d):∀ b:List DV,CellsR hp I (b.map .d ++ c) (b ++ d)
 | []=>h2
 | y :: r=>.cons (.d y) (KZ h2 r)
theorem WX:eR Tryz.prog 36=some Xj:=by kernel_rfl
attribute [go_sem] WX
theorem K0:ax Tryz.prog 50 [.d (.ro 1 [])] (fun r=>r=.d (.int .i64 1)):=by
 refine bN Tryz.func50 Tryz.ntmps50 (rs:=[.tmp 2]) a9 ?_;simp [go_sem];refine bO [] (tH [] [] aw ⟨aw,aw⟩) rfl (aj (.one (ak (.nil 1))) (aj (.deep a9) aD)) ?_;rw [show [] ++ kR []=[0] from rfl];simp [go_sem,aE,nb];exact aa a9 rfl
theorem C0:ax Tryz.prog 49 [] (fun r=>r=.agg (eS tP 0 [(7,[])])):=by
 refine bN Tryz.func49 Tryz.ntmps49 (rs:=[.cell 0 28]) aw ?_;simp [go_sem]
 refine sV (cs':=eS tP 0 [(7,[])]) (ap (bc trivial) (ap (ak (iE (rows:=[cb z32 ++ [AV.d (DV.int IntKind.u32 0),AV.d (DV.int IntKind.u32 0),AV.nil]]) rfl trivial rfl (RowsR.cons ?_ .nil) rfl (by intro r hr;simp [tP] at hr;subst hr;rfl)))
  (ap (ak (iE (rows:=[[AV.d (DV.int IntKind.u64 5),AV.nil]]) rfl trivial rfl (RowsR.cons (.cons (.d _) (.cons (.nil 1) .nil)) .nil) rfl (by intro r hr;simp [tP] at hr;subst hr;rfl)))
  (ap (bc trivial) (ap (bc trivial) (ap (ak (iE (rows:=[[AV.d (DV.int IntKind.u64 7),AV.nil]]) rfl trivial rfl (RowsR.cons (.cons (.d _) (.cons (.nil 1) .nil)) .nil) rfl (by intro r hr;simp at hr;subst hr;rfl))) bz)))))) rfl (by simp [AV.deep,AV.deep1,eS]) rfl
 exact KZ (d:=[.ro 1 []]) (.cons (.nil 1) .nil) (cd z32 ++ [.int .u32 0,.int .u32 0])
theorem rp:CsOk AL where
 t:=⟨⟨by decide,by decide,fun i hi=>by
  have:i=⟨z32,0,0,[]⟩:=by simpa [AL,tP] using hi
  subst this
  exact ⟨rfl,by decide,by decide⟩,by decide⟩,by decide,by decide,by decide,fun i hi=>by
  have:i=⟨z32,0,0,[]⟩:=by simpa [AL,tP] using hi
  subst this
  exact ⟨by decide,by decide⟩⟩
 cc:=⟨by decide,by decide⟩
 cb:=fun o ho=>by
  have:o=(7,[]):=by simpa [AL] using ho
  subst this;exact ⟨fun x hx=>(by cases hx),by decide⟩
 ob:=fun o ho=>by
  have:o=(5,[]):=by simpa [AL,tP] using ho
  subst this;exact fun x hx=>(by cases hx)
 i:=rfl
 ib:=fun x hx=>by
  have:x=0:=by simpa [AL,z32] using hx
  omega
 s:=by decide
 p:=by decide
 pl:=by decide
 a:=by decide
 b:=⟨by decide,by decide⟩
theorem OU:bL AL.t AL.n AL.coins=0:=by decide
theorem GN {hp:Hp} {I:Nat→Prop}:Snap hp I (.agg (eS tP 0 [(7,[])] ++ (aT z32 .nil .nil ++ [.nil,.nil,.d (.int .i64 0)]))) (.agg (bM AL)) :=
 .agg ⟨rfl,qI (eS tP 0 [(7,[])]) (fun v hv=>by simp [eS] at hv;rcases hv with rfl | rfl | rfl | rfl | rfl | rfl <;> trivial)
  (qI (cb z32) (cg _) (ap (ak (.nil 32)) (ap (ak (.nil 1)) (ap (ak (.nil 1)) (ap (ak (.nil 1)) (ap (bc trivial) bz))))))⟩
theorem yw {s:List Nat} {p:List (Int × Int) × Int} (hs:bytes s) (hl:s.length≤1000) (h:∀ x,mi x s [] 0=p) :
  ax Tryz.prog 17 [.agg (bM AL),.d (nb s),.d (.ro 1 [])] (fun v=>v=lh p):=by
 obtain ⟨sg,hsg⟩:=PY;obtain ⟨out,hout⟩:=EY AL.inner AL.path rp.i rp.ib rp.p rp.pl;obtain ⟨msg,hm⟩:=KY AL rp hsg hout s hs aq;have h1:=AH AL rp.i s [] _ (hm [] ⟨aw,aw,aw,aw⟩)
 have e:uB AL (xK AL sg msg out) s []=p:=by
  unfold uB;rw [if_neg (by rw [OU];omega)];exact h _
 rw [e] at h1;exact h1
theorem iN:ax Tryz.prog 14 [] (fun r=>r=.d (.bool true)):=by
 refine bN Tryz.func14 Tryz.ntmps14 (rs:=[.tmp 0]) aw ?_;have ra:=yw (s:=[81,99,82,103,83,104,82,156]) (fun x hx=>by simp at hx;omega) (by decide) WT;have rb:=yw (s:=[81,81]) (fun x hx=>by simp at hx;omega) (by decide) WU;have rc:=yw (s:=[0,99,255,104,81]) (fun x hx=>by simp at hx;omega) (by decide) WV;have zl:Xj.length=43:=rfl;have z43:List.drop 43 Xj=[]:=rfl;simp [go_sem];refine ag C0 aw ?_;have hcs:=fun (hp:Hp) (I:Nat→Prop)=>GN (hp:=hp) (I:=I);have zd:List.drop 6 Xj=aT z32 .nil .nil ++ [.nil,.nil,.d (.int .i64 0)]:=rfl;have sl:(eS tP 0 [(7,[])]).length=6:=rfl;have st:List.take 6 (eS tP 0 [(7,[])])=eS tP 0 [(7,[])]:=rfl;have rl:(aT z32 .nil .nil ++ [AV.nil,AV.nil,AV.d (.int .i64 0)]).length=37:=rfl;generalize aT z32 .nil .nil ++ [AV.nil,AV.nil,AV.d (.int .i64 0)]=R at *;have tl:(eS tP 0 [(7,[])] ++ R).length=43:=by rw [b_,sl,rl]
 generalize eS tP 0 [(7,[])]=S at *;have tt:List.take 43 (S ++ R)=S ++ R:=cA aq;generalize hT:S ++ R=T at *;simp [go_sem,zl,sl,st,zd,rl,hT,tl,tt,z43,aE];refine bO [192] ra rfl (aj (hcs _ _) (aj (.one (ak (aM (L:=[81,99,82,103,83,104,82,156]) rfl rfl aw))) (aj (.one (ak (.nil 1))) aD))) ?_;unfold lh;simp [go_sem,zl,sl,st,zd,rl,hT,tl,tt,z43,aE];refine bO [448] rb rfl (aj (hcs _ _) (aj (.one (ak (aM (L:=[81,81]) rfl rfl aw))) (aj (.one (ak (.nil 1))) aD))) ?_;unfold lh;simp [go_sem,zl,sl,st,zd,rl,hT,tl,tt,z43,aE];refine bO [704] rc rfl (aj (hcs _ _) (aj (.one (ak (aM (L:=[0,99,255,104,81]) rfl rfl aw))) (aj (.one (ak (.nil 1))) aD))) ?_;unfold lh;simp [go_sem];refine bO [] K0 rfl (aj (.one (ak (.nil 1))) aD) ?_;simp [go_sem];exact aa a9 rfl
structure CsIn (c:CsF):Prop where
 t:c.t.ok
 cb:∀ o,o ∈ c.coins→bytes o.2∧o.1<18446744073709551616
 ob:∀ o,o ∈ c.t.outs→bytes o.2
 i:c.inner.length=32
 ib:bytes c.inner
 p:∀ p,p ∈ c.path→p.length=32
 sb:bytes c.script
 st:∀ x,x ∈ c.start→bytes x
 b:fZ c.bud
theorem K1 {c:CsF} (h:CsIn c) (hs:mZ c=true):CsOk c∧c.script.length≤300∧(StOk c.start []∧c.start.length≤12∧∀ x,x ∈ c.start→x.length≤600):=by
 simp only [mZ,qR,Bool.and_eq_true,decide_eq_true_eq,cq,d9] at hs;obtain ⟨⟨a1,a2,a3⟩,b1,b2,b3,b4,b5⟩:=hs
 exact ⟨⟨Vt h.t a1,⟨a2,fun o ho=>⟨(h.cb o ho).2,a3 o ho⟩⟩,h.cb,h.ob,h.i,h.ib,aq,h.p,aq,aq,h.b⟩,b1,
  ⟨aq,aw,fun x hx=>⟨by have:=b5 x hx;omega,h.st x hx⟩,aw⟩,b3,b5⟩
theorem TS {c:CsF} (h:CsIn c) (hs:mZ c=true):∃ (sg:be→be→be→Bool) (out:be→be × Int),OP sg∧EX c.inner c.path out∧∀ s:List Nat,bytes s→s.length≤100000→∃ msg:be,∀ start:List (List Nat),StOk start [] →
  ax Tryz.prog 17 [.agg (bM c),.d (nb s),.d (.ro 1 (start.map bE))] (fun v=>v=lh (uB c (xK c sg msg out) s start)):=by
 obtain ⟨hk,_⟩:=K1 h hs;obtain ⟨sg,hsg⟩:=PY;obtain ⟨out,hout⟩:=EY c.inner c.path h.i h.ib h.p hk.pl;refine ⟨sg,out,hsg,hout,fun s hb hl=>?_⟩;obtain ⟨msg,hm⟩:=KY c hk hsg hout s hb hl;exact ⟨msg,fun start hst=>AH c h.i s start _ (hm start hst)⟩
theorem uC:∀ (ws:List Wd) (out:List Nat),bytes out→(∀ w,w ∈ ws→ta w∧bytes w.2)→bytes (eu out ws).1
 | [],out,h,_=>h
 | w :: r,out,h,hw=>by
  unfold eu
  split
  ·refine uC r _ ?_ (fun w hw'=>hw w (by simp [hw']));intro y hy;rcases cL.1 hy with hy | hy
   ·exact h y hy
   ·exact tj (hw w aw).1.2 (hw w aw).2 y hy
  ·intro y hy
   cases hy
theorem C2 {t:List Nat} (h:bytes t):bytes (bI t).2:=by
 unfold bI
 split
 ·split
  ·intro y hy;cases hy
  ·split
   ·intro y hy;cases hy
   ·exact h
 ·exact h
theorem AM {ws:List Wd} {rest:List Nat} (hr:bytes rest) (hw:∀ w,w ∈ ws→ta w∧bytes w.2):bytes (lR ws rest).1:=by
 intro y hy;rcases cL.1 hy with hy | hy
 ·exact uC ws [] (fun y hy=>by cases hy) hw y hy
 ·exact hr y hy
theorem WY (c:CsF) (t:List Nat):∀ v,v ∈ [AV.agg (bM c),.d (nb t)]→v.deep:=by
 intro v hv;simp only [et,List.mem_nil_iff,or_false] at hv;rcases hv with rfl | rfl
 ·exact nQ c _ aw
 ·trivial
theorem K2 {n:Nat} {ds:List DV} (h:iq Tryz.prog (n+4) 33 ds):∃ (inner:List Nat) (ps:List (List Nat)) (x:List Nat),ds=cd inner ++ [c8 ps,nb x]∧inner.length=32∧bytes inner∧(∀ p,p ∈ ps→p.length=32)∧bytes x:=by
 rw [iq] at h;simp only [Tryz.underlying33,List.map_cons,List.map_nil] at h;obtain ⟨a,b,rfl,ha,ha2,a',b',rfl,hb,hb2,a3,b3,rfl,hc,hc2,rfl⟩:=h;obtain ⟨inner,rfl,h1,h2⟩:=BB ha2;rw [show Tryz.prog.cellsOf 30=1 by kernel_rfl] at hb;rw [show Tryz.prog.cellsOf 31=1 by kernel_rfl] at hc
 match a',hb,hb2,a3,hc,hc2 with
 | [y],_,hb2,[z],_,hc2 =>
  obtain ⟨ps,rfl,h3⟩:=M4 hb2;obtain ⟨x,rfl,h4,h5⟩:=mJ hc2;exact ⟨inner,ps,x,aw,h1,h2,fun p hp=>(h3 p hp).1,h5⟩
theorem E0 {n:Nat} {ds:List DV} (h:iq Tryz.prog (n+1) 3 ds):∃ x:Int,ds=[.int .i64 x]∧-9223372036854775808≤x∧x<9223372036854775808:=by
 rw [iq] at h;simp only [Tryz.underlying3] at h;obtain ⟨x,rfl,hx⟩:=h;have hx':-9223372036854775808≤x∧x<9223372036854775808:=by simp [IntKind.has,IntKind.min,IntKind.max,IntKind.signed,IntKind.bits] at hx;omega
 exact ⟨x,rfl,hx'⟩
theorem TT {n:Nat} {ds:List DV} (h:iq Tryz.prog (n+7) 28 ds):∃ (t:Tn) (m:Int) (coins:List (Nat × List Nat)),ds.map .d=eS t m coins∧t.ok∧(∀ o,o ∈ t.outs→bytes o.2)∧∀ o,o ∈ coins→o.1<18446744073709551616∧bytes o.2:=by
 rw [iq] at h;simp only [Tryz.underlying28,List.map_cons,List.map_nil] at h;obtain ⟨a,b,rfl,ha,ha2,a',b',rfl,hb,hb2,a3,b3,rfl,hc,hc2,rfl⟩:=h;obtain ⟨t,h1,h2,h3,_⟩:=Vx ha2;obtain ⟨m,rfl,_⟩:=E0 hb2;obtain ⟨os,rfl,hos⟩:=DR hc2;refine ⟨t,m,os,?_,h2,h3,hos⟩;rw [List.map_append,h1];rfl
theorem K3 {n:Nat} {a:AV} (h:rB Tryz.prog (n+8) 36 a):∃ c:CsF,a=.agg (bM c)∧CsIn c:=by
 unfold rB at h;simp only [Tryz.underlying36] at h;obtain ⟨ds,rfl,h⟩:=h;rw [iq] at h;simp only [Tryz.underlying36,List.map_cons,List.map_nil] at h;obtain ⟨a,b,rfl,ha,ha2,a',b',rfl,hb,hb2,a3,b3,rfl,hc,hc2,a4,b4,rfl,hd,hd2,a5,b5,rfl,he,he2,rfl⟩:=h;obtain ⟨t,m,coins,hS,h2,h3,h4⟩:=TT ha2;obtain ⟨inner,ps,x,rfl,k1,k2,k3,k4⟩:=K2 hb2;rw [show Tryz.prog.cellsOf 34=1 by kernel_rfl] at hc;rw [show Tryz.prog.cellsOf 31=1 by kernel_rfl] at hd;obtain ⟨bud,rfl,b1⟩:=E0 he2
 match a3,hc,hc2,a4,hd,hd2 with
 | [y],_,hc2,[z],_,hd2 =>
  obtain ⟨start,rfl,h5⟩:=vK hc2;obtain ⟨annex,rfl,_,h6⟩:=mJ hd2;refine ⟨⟨t,m,coins,inner,ps,x,start,annex,bud⟩,?_,⟨h2,fun o ho=>⟨(h4 o ho).2,(h4 o ho).1⟩,h3,k1,k2,k3,k4,h5,b1⟩⟩;rw [List.map_append,hS];simp [bM,qh,aT,lr]
theorem OV {n:Nat} {a:AV} (h:rB Tryz.prog (n+2) 31 a):∃ x:List Nat,a=.d (nb x)∧bytes x:=by
 obtain ⟨d,rfl,t⟩:=M7 Tryz.underlying31 aw aw h;obtain ⟨x,rfl,_,h2⟩:=mJ t;exact ⟨x,rfl,h2⟩
end Go.Proofs.YtmfnimjnneflnaaGreat
namespace Go.Sha
open Go.Proofs.YtmfnimjnneflnaaGreat Go.Am
theorem OW {t rest:List Nat} {op:Nat} (hop:104<op) (hok:(eu [] [bI t,(op,[])]).2=0):(cT (bI t)).2=true∧(cT (op,[])).2=true∧(cT (op,[])).1=[op]∧(eu [] [bI t,(op,[])]).1=(cT (bI t)).1 ++ [op]:=by
 have e3:cT (op,[])=([op],true):=by
  unfold cT;rw [if_neg (by simp only;omega),if_neg (by simp only;omega),if_neg (by simp only;omega)];rfl
 unfold eu at hok ⊢
 split at hok
 ·rename_i h1;rw [if_pos h1];unfold eu;rw [e3,if_pos rfl];exact ⟨h1,rfl,rfl,rfl⟩
 ·cases hok
theorem GO {x:Rx} {t rest:List Nat} {op:Nat} {start:List (List Nat)} {bud:Int} (ht:t.length≤60000) (hop:104<op) (hn:ma op=true) (hok:(eu [] [bI t,(op,[])]).2=0)
  (h:(mi x ((eu [] [bI t,(op,[])]).1 ++ rest) start bud).2=0):(oL x op ⟨start ++ [t],[],[],bud,[],0⟩).e=0 ∧
   (rest=[]→(mi x ((eu [] [bI t,(op,[])]).1 ++ rest) start bud).1=(oL x op ⟨start ++ [t],[],[],bud,[],0⟩).cl):=by
 obtain ⟨e1,e4,e3,e2⟩:=OW (rest:=rest) hop hok;rw [e2] at h ⊢;have h0:=GK h
 have hpl:(bI t).2.length≤65535:=by
  have g:(fh t).2.length=t.length:=rfl;unfold bI
  split
  ·split
   ·exact Nat.zero_le _
   ·split
    ·exact Nat.zero_le _
    ·exact (by omega:1≤65535)
  ·omega
 have hlen:((cT (bI t)).1 ++ [op] ++ rest).length=((cT (bI t)).1.length+rest.length)+1:=by simp only [b_,List.length_cons,List.length_nil];omega
 have hru:(mi x ((cT (bI t)).1 ++ [op] ++ rest) start bud).1=(kV (jW x ((cT (bI t)).1 ++ [op] ++ rest) (((cT (bI t)).1 ++ [op] ++ rest).length+1) 0 (az (fj start []) ⟨start,[],[],bud,[],0⟩))).cl:=by
  unfold mi;simp only;rw [if_pos h0]
 rw [hru];clear hru;rw [hlen] at h0 ⊢;generalize hf:(cT (bI t)).1.length+rest.length=f at *;obtain ⟨a1,a2,a3⟩:=AG (w:=bI t) (rest:=[op] ++ rest) h0 hpl e1 (by rw [List.drop_zero,cD]);obtain ⟨b1,b2,b3⟩:=AG (w:=(op,[])) (rest:=rest) a2 (Nat.zero_le _) e4 (by rw [cD,Nat.zero_add,List.drop_left,e3]);rw [a3,b3];rw [(WW a1).1,GI x _ aq rfl] at b1 b2 ⊢;have hp:=(PZ b1).2;rw [hp,OT x _ hn hop rfl] at b2 ⊢
 have hz:(oL x op ⟨start ++ [t],[],[],bud,[],0⟩).e=0:=by
  by_cases hz:(oL x op ⟨start ++ [t],[],[],bud,[],0⟩).e=0
  ·exact hz
  ·exfalso
   cases f with
   | zero=>exact hz (KX b2)
   | succ f =>
    rw [jW,if_neg (fun q=>hz q.2)] at b2;exact hz (KX b2)
 refine ⟨hz,fun hr=>?_⟩;subst hr
 have hst:∀ (f:Nat) (r:Rn),jW x ((cT (bI t)).1 ++ [op] ++ []) f (0+(cT (bI t)).1.length+(cT (op,[])).1.length) r=r:=fun f r=>by
  cases f with
  | zero=>rfl
  | succ f =>
   rw [jW,if_neg];intro q;have:=q.1;simp only [b_,List.length_cons,List.length_nil,e3] at this;omega
 show (kV (jW x ((cT (bI t)).1 ++ [op] ++ []) f (0+(cT (bI t)).1.length+(cT (op,[])).1.length) (oL x op ⟨start ++ [t],[],[],bud,[],0⟩))).cl=_;rw [hst];generalize oL x op ⟨start ++ [t],[],[],bud,[],0⟩=r;have f1:∀ (x:Int) (q:Rn),(az x q).cl=q.cl:=fun x q=>by unfold az;split <;> rfl
 unfold kV;simp only
 split
 ·split
  ·exact f1 _ _
  ·rw [f1,f1]
 ·split
  ·rfl
  ·exact f1 _ _
theorem OX {k:Int} {r:Rn} (hk:k ≠ 0) (h:(az k r).e=0):False:=by
 unfold az at h
 split at h
 ·exact hk h
 ·rename_i q;exact q h
theorem TU:ma 188=true:=by decide
end Go.Sha
namespace Go.Proofs.YtmfnimjnneflnaaGreat
open Go.Am Go.Sha
theorem GP {c:CsF} (h:CsIn c) (hs:mZ c=true) (t:List Nat) (op:Nat) (ht:t.length≤300) (htb:bytes t) (hop:104<op∧op<256) (hn:ma op=true) (rest:List Nat) (hr:rest.length≤1000) (hrb:bytes rest) :
  ∃ (s:List Nat) (ok:Bool) (p:List (Int × Int) × Int),ax Tryz.prog 15 [.d (.ro 2 [rS (bI t),[.int .u8 (op:Int),nb []]]),.d (nb rest)] (fun r=>r=.tup [.d (nb s),.d (.bool ok)]) ∧
   (ok=true→ax Tryz.prog 17 [.agg (bM c),.d (nb s),.d (.ro 1 (c.start.map bE))] (fun v=>v=lh p) ∧
    (p.2=0→bL c.t c.n c.coins=0∧∃ sg msg out,(oL (xK c sg msg out) op ⟨c.start ++ [t],[],[],c.bud,[],0⟩).e=0∧(rest=[]→p.1=(oL (xK c sg msg out) op ⟨c.start ++ [t],[],[],c.bud,[],0⟩).cl))∧(p.2 ≠ 0→p.1=[])):=by
 obtain ⟨hk,hsl,hst,_⟩:=K1 h hs;obtain ⟨sg,out,hsg,hout,hrun⟩:=TS h hs
 have hws:∀ w,w ∈ [bI t,(op,[])]→ta w∧bytes w.2:=by
  intro w hw;simp only [et,List.mem_nil_iff,or_false] at hw;rcases hw with rfl | rfl
  ·exact ⟨pI aq htb,C2 htb⟩
  ·exact ⟨⟨Nat.zero_le _,hop.2⟩,fun y hy=>(by cases hy)⟩
 have hscr:=AK [bI t,(op,[])] rest (fun w hw=>(hws w hw).1) aw aq;have hfb:=AM hrb hws
 cases hf:(lR [bI t,(op,[])] rest).2 with
 | false =>
  rw [hf] at hscr;exact ⟨_,false,([],0),hscr,fun q=>absurd q aw⟩
 | true =>
  rw [hf] at hscr;have hf':=hf;simp only [lR,decide_eq_true_eq] at hf'
  have hfl:(lR [bI t,(op,[])] rest).1.length≤300:=by
   show ((eu [] [bI t,(op,[])]).1 ++ rest).length≤_;rw [b_];omega
  obtain ⟨msg,hR⟩:=hrun _ hfb aq;refine ⟨_,true,_,hscr,fun _=>⟨hR c.start hst,fun he=>?_,fun he=>?_⟩⟩
  rotate_left
  ·generalize xK c sg msg out=x at *;unfold uB at he ⊢
   split at he
   ·rename_i hq;rw [if_pos hq]
   ·rename_i hq;rw [if_neg hq];unfold mi at he ⊢;simp only at he ⊢
    split at he
    ·exact absurd rfl he
    ·rename_i h2;rw [if_neg h2]
  have hc:bL c.t c.n c.coins=0∧¬ 1000<(lR [bI t,(op,[])] rest).1.length:=by
   unfold uB at he
   split at he
   ·cases he
   ·rename_i hq;simp only [not_or,ne_eq,Classical.not_not] at hq;exact hq
  have e:uB c (xK c sg msg out) (lR [bI t,(op,[])] rest).1 c.start=mi (xK c sg msg out) ((eu [] [bI t,(op,[])]).1 ++ rest) c.start c.bud:=by
   unfold uB;rw [if_neg (by rw [hc.1];omega)];rfl
  rw [e] at he ⊢;obtain ⟨z1,z2⟩:=GO (rest:=rest) aq hop.1 hn hf'.1 he;exact ⟨hc.1,sg,msg,out,z1,z2⟩
theorem OY {hp:Hp} {ids:List Nat} {id:Nat} {w:Wd} {op:Int} (hb:lk id hp=some ⟨42,2,[se w,[AV.d (.int .u8 op),AV.nil]]⟩) (hI:id ∈ ids):Snap hp (fun id=>id ∈ ids) (.own id 0 2 2) (.d (.ro 2 [rS w,[.int .u8 op,nb []]])) :=
 .one (ak (iE (rows:=[se w,[AV.d (.int .u8 op),AV.nil]]) hb hI rfl (RowsR.cons (.cons (.d _) (.cons (.d _) .nil)) (RowsR.cons (.cons (.d _) (.cons (.nil 1) .nil)) .nil)) rfl (by intro r hr;simp at hr;rcases hr with rfl | rfl <;> rfl)))
end Go.Proofs.YtmfnimjnneflnaaGreat
namespace Go.Sha
open Go.Proofs.YtmfnimjnneflnaaGreat Go.Am
theorem GQ {x:Rx} {hs:List Nat} {start:List (List Nat)} {bud:Int} (h:(oL x 188 ⟨start ++ [hs],[],[],bud,[],0⟩).e=0) :
  ∃ o:Int,(x.rcv hs o).2.2=0∧(oL x 188 ⟨start ++ [hs],[],[],bud,[],0⟩).cl=[((x.rcv hs o).1,(x.rcv hs o).2.1)]:=by
 have hx:oL x 188 ⟨start ++ [hs],[],[],bud,[],0⟩=xP x ⟨start ++ [hs],[],[],bud,[],0⟩:=rfl;rw [hx] at h ⊢
 have ht:bo ⟨start ++ [hs],[],[],bud,[],0⟩=(hs,⟨start,[],[],bud,[],0⟩):=by
  unfold bo;rw [if_pos rfl,if_neg aw];simp only [List.getLastD_concat,List.dropLast_concat]
 unfold xP at *;rw [ht] at h ⊢;simp only at h ⊢;have hc:=EE 4 ⟨start,[],[],bud,[],0⟩;generalize ee 4 ⟨start,[],[],bud,[],0⟩=p at *;obtain ⟨o,r⟩:=p;simp only at h hc ⊢;by_cases he:r.e=0
 ·rw [if_pos he] at h ⊢;refine ⟨o,?_⟩;unfold xO at h ⊢;rw [if_pos he] at h ⊢;obtain ⟨h1,h2⟩:=PZ h;rw [h2];have h3:(az (x.rcv hs o).2.2 r).e=0:=h1;refine ⟨?_,?_⟩
  ·by_cases hz:(x.rcv hs o).2.2=0
   ·exact hz
   ·exact (OX hz h3).elim
  ·show r.cl ++ _=_;rw [hc];rfl
 ·rw [if_neg he] at h;exact absurd h he
theorem OZ {t:Tn} {n:Int} {coins:List (Nat × List Nat)} {rec:List Nat} {out:Int} (h:(oJ t n coins rec out).2.2=0) :
  ∃ (k:Nat) (o:Nat × List Nat),t.outs[k]?=some o∧tc o.2=rec∧(oJ t n coins rec out).1=(k:Int)∧(oJ t n coins rec out).2.1=(((coins[n.toNat]?.map (·.1)).getD 0:Nat):Int):=by
 unfold oJ at h ⊢
 split at h
 ·simp at h
 ·rename_i hc;rw [if_neg hc]
  cases ho:t.outs[out.toNat]? with
  | none=>rw [ho] at h;simp at h
  | some o =>
   rw [ho] at h;simp only at h ⊢
   split at h
   ·rename_i h0;rw [if_pos h0]
    split at h
    ·rename_i hr;rw [if_pos hr];exact ⟨out.toNat,o,ho,hr,by show out=_;omega,rfl⟩
    ·simp at h
   ·simp at h
end Go.Sha
namespace Go.Proofs.YtmfnimjnneflnaaGreat
open Go.Am Go.Sha
theorem O0 {t:Tn} {n:Int} {coins:List (Nat × List Nat)} (h:bL t n coins=0):kD t=0∧coins.length=t.ins.length∧0≤n∧n<(coins.length:Int):=by
 unfold bL at h
 split at h
 ·cases h
 ·rename_i hq;simp only [not_or,Int.not_lt,Int.not_le,ne_eq,Classical.not_not] at hq;exact ⟨hq.1,hq.2.1,hq.2.2.1,hq.2.2.2.1⟩
theorem GR (c:CsF) (t:List Nat) (h:CsIn c) (htb:bytes t):ax Tryz.prog 4 [.agg (bM c),.d (nb t)] (fun r=>r=.d (.bool true)):=by
  refine bN Tryz.func4 Tryz.ntmps4 (rs:=[.tmp 4]) (WY c t) ?_;have hi:=h.i;have hl:=uz hi;have htk:List.take 43 (bM c)=bM c:=cA aq;have h6:=yv (c:=c);have hSm:=GG c h.t hi;have hSd:=nQ c;have hSd6:=AA c.t c.n c.coins
  cases hs:mZ c with
  | false =>
    rw [hs] at hSm;generalize bM c=Q at *;simp [go_sem,hl,htk];refine ag hSm hSd ?_;simp [go_sem];refine ag iN aw ?_;simp [go_sem,ah];exact aa a9 rfl
  | true =>
  rw [hs] at hSm;obtain ⟨hk,hsl,hst,_⟩:=K1 h hs;have hCk:=BM c.t c.n c.coins hk.t (by have:=hk.cc.1;omega);by_cases hc0:bL c.t c.n c.coins=0
  case neg =>
    generalize bL c.t c.n c.coins=ck at *;generalize eS c.t c.n c.coins=S at *;generalize bM c=Q at *;simp [go_sem,hl,htk];refine ag hSm hSd ?_;simp [go_sem,hl,htk,h6];refine ag hCk hSd6 ?_;simp [go_sem,hc0];refine ag iN aw ?_;simp [go_sem,ah];exact aa a9 rfl
  obtain ⟨_,d2,d3,d4⟩:=O0 hc0;rw [hc0] at hCk;by_cases ct:t.length≤100
  case neg =>
    have i1:(100:Int)<(t.length:Int):=aq;generalize eS c.t c.n c.coins=S at *;generalize bM c=Q at *;simp [go_sem,hl,htk];refine ag hSm hSd ?_;simp [go_sem,hl,htk,h6];refine ag hCk hSd6 ?_;simp [go_sem,nb,i1];refine ag iN aw ?_;simp [go_sem,ah];exact aa a9 rfl
  have i1:¬ (100:Int)<(t.length:Int):=aq;obtain ⟨s,ok,p,f1,g1⟩:=GP h hs t 188 aq htb ⟨aq,aq⟩ TU [] aw (fun y hy=>by cases hy);have hpu:=xi t aq htb;have h40:(bM c)[40]?=some (.d (.ro 1 (c.start.map bE))):=na hi 0;have g40:∀ h:40<(bM c).length,(bM c)[40]'h=AV.d (.ro 1 (c.start.map bE)):=fun h=>(List.getElem_of_getElem? h40).2;have hkd:=fun s start=>P0 c s start;obtain ⟨k,hkn⟩:∃ k:Nat,c.n=(k:Int):=⟨c.n.toNat,aq⟩;have hkl:k<c.coins.length:=aq;have hki:c.coins[k]?=some (c.coins[k]):=cm hkl;have e2:(bM c)[2]?=some (.d (.ro 2 (c.t.outs.map eO))):=rfl;have e4:(bM c)[4]?=some (.d (.int .i64 (k:Int))):=by rw [← hkn];rfl
  have e5:(bM c)[5]?=some (.d (.ro 2 (c.coins.map eO))):=rfl;have l2:∀ h:2<(bM c).length,(bM c)[2]'h=_:=fun h=>(List.getElem_of_getElem? e2).2;have l4:∀ h:4<(bM c).length,(bM c)[4]'h=_:=fun h=>(List.getElem_of_getElem? e4).2;have l5:∀ h:5<(bM c).length,(bM c)[5]'h=_:=fun h=>(List.getElem_of_getElem? e5).2
  have a1:ok=true→p.2=0→∃ (j:Nat) (o:Nat × List Nat),c.t.outs[j]?=some o∧tc o.2=t∧p.1=[((j:Int),(c.coins[k].1:Int))]:=by
    intro q1 q2;obtain ⟨_,sg,msg,out,z,zc⟩:=(g1 q1).2.1 q2;obtain ⟨o,y1,y2⟩:=GQ z;obtain ⟨j,oo,y3,y4,y5,y6⟩:=OZ (t:=c.t) (n:=c.n) (coins:=c.coins) (rec:=t) (out:=o) y1;refine ⟨j,oo,y3,y4,?_⟩;rw [zc rfl,y2];have hr:(xK c sg msg out).rcv t o=oJ c.t c.n c.coins t o:=rfl;rw [hr,y5,y6,hkn,Int.toNat_natCast,hki];rfl
  have a0:ok=true→p.2 ≠ 0→p.1=[]:=fun q=>(g1 q).2.2;have b1:ok=true→ax Tryz.prog 17 [.agg (bM c),.d (nb s),.d (.ro 1 (c.start.map bE))] (fun v=>v=lh p):=fun q=>(g1 q).1;clear g1;obtain ⟨cl,er⟩:=p;simp only at a0 a1;unfold lh at b1;simp only at b1;have hob:=h.ob;generalize hQ:bM c=Q at *;generalize eS c.t c.n c.coins=S at *;generalize bI t=w1 at *;have w1l:(se w1).length=2:=rfl;have w1t:List.take 2 (se w1)=se w1:=rfl;simp [go_sem,hl,htk];refine ag hSm hSd ?_;simp [go_sem,hl,htk,h6];refine ag hCk hSd6 ?_;simp [go_sem,nb,i1];refine ag hpu a9 ?_;simp [go_sem,hl,htk,w1l,w1t];refine bO [608] f1 rfl (aj (OY rfl aw) (aj (.one (ak (.nil 1))) aD)) ?_;simp [go_sem,aE]
  cases ok with
  | false =>
    simp [go_sem];refine ag iN aw ?_;simp [go_sem,ah];exact aa a9 rfl
  | true =>
  have b1:=b1 rfl;have a1:=a1 rfl;have a0:=a0 rfl;have hd1:=hkd s c.start;simp [go_sem,hl,htk,h40,g40];refine ag b1 hd1 ?_;by_cases z1:er=0
  case neg =>
    have hcl:=a0 z1;subst hcl;simp [go_sem,z1];refine ag iN aw ?_;simp [go_sem,ah];exact aa a9 rfl
  subst z1;obtain ⟨j,o,x1,x2,rfl⟩:=a1 rfl;have xl:j<c.t.outs.length:=(ci.1 x1).1;have j1:¬ (j:Int)<0:=aq;have j2:¬ (c.t.outs.length:Int)≤(j:Int):=aq;have j3:¬ c.t.outs.length≤j:=aq;simp [go_sem];refine cf [0,1,2,3,4,5,6,7,8,9,10,11,12,13,14,15,16,17,18,19,20,21,22,23,24,25,26,27,28,29,30,31,32,33,34,35,36,37] [] 0 (k:=38) ?_;intro G hG;simp [go_sem,hl,eF,e2,e4,e5,l2,l4,l5,hki,j1,j2,j3,eO];refine hG _ _ ?_;clear hG G;simp [go_sem];have hrh:=ti o.2 (by have:=hk.t.2.2.2.1 o (cr x1);omega);have hRl:=tf o.2;have hRb:bytes (tc o.2):=gl _;rw [x2] at hrh hRl hRb;refine d0 [0,1,2,3,4,5,6,7,8,9,10] [11,12,13] [0,1,2,3,4,5,6,7,8,9,10] (.alt (a_ [11,12,13]) (bt 12 (a_ [11,13]))) ⟨[(2,.ptr 0 0 0 1),(1,.d (nb t)),(9,.ptr 2880 0 0 1)],[(2880,⟨29,32,[cb t]⟩),(0,⟨36,43,[Q]⟩)],9000⟩ (k:=14) ?h3 ?hq
  case h3 =>
    intro G hG;simp (config := { maxSteps := 3000000 }) [go_sem,hl,e2,l2,x1,eO,j1,j2,j3]
    repeat' first
      | apply And.intro
      | (refine ag hrh a9 ?_
         simp (config := { maxSteps := 3000000 }) [go_sem,am,hRl])
      | (refine hG _ _ (cv ⟨by simp [ai,fv,lk,AV.low,AV.low1,nb],?_,aw⟩)
         intro p hp;simp only [et,List.mem_nil_iff,or_false] at hp;rcases hp with rfl | rfl
         · refine ⟨.inl (by simp [lk,am,hRl,au hRl,cn]),by show 2880<9000;omega,?_⟩
           intro r hr v hv;simp only [et,List.mem_nil_iff,or_false] at hr;subst hr;obtain ⟨y,_,rfl⟩:=List.mem_map.1 hv
           trivial
         · refine ⟨.inl (by simp [lk]),by show 0<9000;omega,?_⟩
           intro r hr v hv;simp only [et,List.mem_nil_iff,or_false] at hr;subst hr;rw [← hQ] at hv
           exact AE _ c v hv)
  case hq =>
    refine cf [] [(0,[1,2,3,4,5,6,7,8])] 1 (k:=9) ?_;intro G hG;have hx1:=fS hRl;rw [cB] at hx1;simp [go_sem] at hx1;simp [go_sem,hRl,hx1];refine ag iN aw ?_;simp [go_sem,hRl,hx1];refine Rl t 5 hRb (by simp [go_sem]) (by simp [go_sem]) Tryz.underlying5 ?_;simp [go_sem,nb];refine xk t 5 hRb (by simp [go_sem]) (by simp [go_sem]) Tryz.underlying5 ?_;simp [go_sem];refine hG _ _ ?_;clear hG G;simp [go_sem,ah];exact aa (v:=.d (.bool true)) trivial rfl
end Go.Proofs.YtmfnimjnneflnaaGreat
