/-
 Part 14 of what the claim rests on.
-/
import Derived.Test.YtmfnimjnneflnaaGreatG12
set_option linter.unusedVariables false
set_option linter.unusedSimpArgs false
set_option maxRecDepth 100000
set_option maxHeartbeats 16000000
namespace Go.Proofs.YtmfnimjnneflnaaGreat
open Go.Am Go.Sha
theorem W5 (x:Rx):mo x [81,99,82,103,83,104,82,156] [] 0=([],0):=by kernel_rfl
theorem W6 (x:Rx):mo x [81,81] [] 0=([],25):=by kernel_rfl
theorem W7 (x:Rx):mo x [0,99,255,104,81] [] 0=([],10):=by kernel_rfl
end Go.Proofs.YtmfnimjnneflnaaGreat
namespace Go.Sha
open Go.Proofs.YtmfnimjnneflnaaGreat Go.Am
structure CsF where
 t:Tn
 n:Int
 coins:List (Nat × List Nat)
 inner:List Nat
 path:List (List Nat)
 script:List Nat
 start:List (List Nat)
 annex:List Nat
 bud:Int
def qk (c:CsF):List AV:=[.d (.ro 1 (c.start.map bD)),.d (nb c.annex),.d (.int .i64 c.bud)]
def bw (c:CsF):List AV:=eS c.t c.n c.coins ++ (aT c.inner (.d (da c.path)) (.d (nb c.script)) ++ qk c)
def nf (c:CsF):Bool:=qT c.t c.coins && (decide (c.script.length≤300) && (decide (c.path.length≤12) && (decide (c.start.length≤12) && (decide (c.annex.length≤300) && c.start.all fun x=>decide (x.length≤600)))))
end Go.Sha
namespace Go.Proofs.YtmfnimjnneflnaaGreat
open Go.Am Go.Sha
theorem uK {inner:List Nat} (hi:inner.length=32) (a b:AV):(aT inner a b).length=34:=by simp [aT,am,hi]
theorem uq {c:CsF} (hi:c.inner.length=32):(bw c).length=43:=by simp [bw,eS,uK hi,qk]
theorem GO {c:CsF} (hi:c.inner.length=32):List.drop 6 (bw c)=aT c.inner (.d (da c.path)) (.d (nb c.script)) ++ qk c:=rfl
theorem yt {c:CsF}:List.take 6 (bw c)=eS c.t c.n c.coins:=rfl
theorem K4 {c:CsF} (hi:c.inner.length=32):List.take 34 (List.drop 6 (bw c))=aT c.inner (.d (da c.path)) (.d (nb c.script)):=by
 rw [GO hi,List.take_append,uK hi,cx (by rw [uK hi];omega)];simp
theorem nh {c:CsF} (hi:c.inner.length=32) (k:Nat):(bw c)[k+40]?=(qk c)[k]?:=by
 rw [bw,dn (by simp [eS]),dn (by simp [eS,uK hi])];congr 1;simp [eS,uK hi]
theorem AC {inner:List Nat} (hi:inner.length=32) (a b:AV) (l:List AV) (k:Nat) (hk:k<2):(aT inner a b ++ l)[k+32]?=[a,b][k]?:=by
 rw [List.getElem?_append_left (by rw [uK hi];omega),aT,dn (by rw [am,hi];omega),am,hi,Nat.add_sub_cancel]
theorem OY {c:CsF} (hi:c.inner.length=32):(bw c)[38]?=some (.d (da c.path)):=AC (l:=qk c) hi _ _ 0 aq
theorem E4 {c:CsF} (hi:c.inner.length=32):(bw c)[39]?=some (.d (nb c.script)):=AC (l:=qk c) hi _ _ 1 aq
theorem K5 (N:Nat) (c:CsF):∀ v,v ∈ bw c→v.low1 N:=by
 intro v hv;simp only [bw,eS,aT,cb,qk,cD,d_,List.mem_nil_iff,or_false,List.mem_map] at hv;rcases hv with (rfl | rfl | rfl | rfl | rfl | rfl) | (⟨x,_,rfl⟩ | rfl | rfl) | rfl | rfl | rfl <;> trivial
theorem nU (c:CsF):∀ v,v ∈ [AV.agg (bw c)]→v.deep:=by
 intro v hv;simp only [d_,List.mem_nil_iff,or_false] at hv;subst hv;intro v hv;simp only [bw,eS,aT,cb,qk,cD,d_,List.mem_nil_iff,or_false,List.mem_map] at hv;rcases hv with (rfl | rfl | rfl | rfl | rfl | rfl) | (⟨x,_,rfl⟩ | rfl | rfl) | rfl | rfl | rfl <;> trivial
theorem GP (c:CsF) (ht:c.t.ok) (hi:c.inner.length=32):ax Tryz.prog 13 [.agg (bw c)] (fun r=>r=.d (.bool (nf c))):=by
 refine bO Tryz.func13 Tryz.ntmps13 (rs:=[.tmp 2]) (nU c) ?_;have hl:=uq hi;have h6:=yt (c:=c);have h38:=OY hi;have h39:=E4 hi;have h40:(bw c)[40]?=some (.d (.ro 1 (c.start.map bD))):=nh hi 0;have h41:(bw c)[41]?=some (.d (nb c.annex)):=nh hi 1;have hSm:=Gg c.t c.n c.coins ht;have hSd:=Az c.t c.n c.coins;have hlow:=fun N=>K5 N c;have htk:List.take 43 (bw c)=bw c:=cx aq;generalize hX:nf c=X;unfold nf at hX;generalize eS c.t c.n c.coins=S at *;generalize bw c=Q at *;simp [go_sem,hl,htk,h6,h38,h39,h40,h41];refine ag hSm hSd ?_;generalize qT c.t c.coins=W at *
 cases W
 ·simp at hX;subst hX;simp [go_sem];exact aa a9 rfl
 by_cases c1:c.script.length≤300
 case neg =>
  have i1:300<(c.script.length:Int):=aq;have:X=false:=by rw [← hX];simp [c1]
  subst this;simp [go_sem,i1,h38,h39,h40,h41,nb];exact aa a9 rfl
 have i1:¬ 300<(c.script.length:Int):=aq;by_cases c2:c.path.length≤12
 case neg =>
  have i2:12<(c.path.length:Int):=aq;have:X=false:=by rw [← hX];simp [c2]
  subst this;simp [go_sem,i1,i2,h38,h39,h40,h41,nb,da];exact aa a9 rfl
 have i2:¬ 12<(c.path.length:Int):=aq;by_cases c3:c.start.length≤12
 case neg =>
  have i3:12<(c.start.length:Int):=aq;have:X=false:=by rw [← hX];simp [c3]
  subst this;simp [go_sem,i1,i2,i3,h38,h39,h40,h41,nb,da];exact aa a9 rfl
 have i3:¬ 12<(c.start.length:Int):=aq;by_cases c4:c.annex.length≤300
 case neg =>
  have i4:300<(c.annex.length:Int):=aq;have:X=false:=by rw [← hX];simp [c4]
  subst this;simp [go_sem,i1,i2,i3,i4,h38,h39,h40,h41,nb,da];exact aa a9 rfl
 have i4:¬ 300<(c.annex.length:Int):=aq;have e:X=c.start.all fun x=>decide (x.length≤600):=by rw [← hX];simp [c1,c2,c3,c4]
 simp [go_sem,i1,i2,i3,i4,h38,h39,h40,h41,nb,da]
 refine ar (fun k:Nat=>⟨[(1,.ptr 0 0 0 1),(3,.d (.int .i64 (k:Int)))],[(0,⟨36,43,[Q]⟩)],4000⟩)
  (fun k=>k≤c.start.length∧((c.start.drop k).all fun x=>decide (x.length≤600))=X) (fun k=>c.start.length - k) 0 ⟨aq,e.symm⟩ (by
   simp [aA,ai,fv,lk,AV.low,AV.low1,hl]
   exact hlow _) ?_
 rintro k ⟨hk,ho⟩;have g40:∀ h:40<Q.length,Q[40]'h=AV.d (.ro 1 (c.start.map bD)):=fun h=>(List.getElem_of_getElem? h40).2;simp [go_sem,g40,hl];refine ⟨fun h=>?_,fun h=>?_⟩
 ·obtain ⟨o,ho1,hd⟩:=bm (l:=c.start) (k:=k) aq;have w3:=az (k:=k) aq;have hrow:=II ho1;by_cases hx:o.length≤600
  ·have j1:¬ 600<(o.length:Int):=aq;have j2:(o.length:Int)≤600:=aq;simp [go_sem,ho1,hrow,bD,nb,j1,j2,w3,g40,hl];refine ao (k+1) ⟨aq,fx hd ho (by simpa using hx)⟩ aq ?_;simp [aA,ai,fv,lk,AV.low,AV.low1,hl];exact hlow _
  ·have j1:600<(o.length:Int):=aq;have j2:¬ (o.length:Int)≤600:=aq;have:=ef hd ho (by simpa using hx);subst this;simp [go_sem,ho1,hrow,bD,nb,j1,j2,g40,hl];exact aa a9 rfl
 ·have hkl:k=c.start.length:=aq;subst hkl;have:=fy ho;subst this;simp [go_sem];exact aa a9 rfl
end Go.Proofs.YtmfnimjnneflnaaGreat
namespace Go.Sha
open Go.Proofs.YtmfnimjnneflnaaGreat Go.Am
theorem uu (op:Nat) (r:List Nat):io (op :: r)=if 0<op∧op≤75 then some (op,1) else if op=76 then (match r with | a :: _=>some (a,2) | []=>none) else if op=77 then (match r with | a :: b :: _=>some (a+256*b,3) | _=>none) else some (0,1):=rfl
theorem GQ {t:List Nat} (h:t.length≤65535):eK (bz t)=some t:=by
 have g:∀ x:List Nat,x.length≤65535→eK (fj x)=some x:=fun x hx=>by
  unfold eK fj;rw [if_pos];simp only
  split
  ·omega
  ·split <;> omega
 match t with
 | []=>rfl
 | [c] =>
  rw [show bz [c]=if 1≤c∧c≤16 then (80+c,[]) else if c=129 then (79,[]) else fj [c] from rfl]
  split
  ·rename_i hc;have n1:¬ 80+c≤77:=aq;have n2:¬ 80+c=79:=aq;have n3:80<80+c∧80+c≤96:=aq;show (if 80+c≤77 then some [] else if 80+c=79 then some [129] else if 80<80+c∧80+c≤96 then some [80+c - 80] else none)=_;rw [if_neg n1,if_neg n2,if_pos n3,Nat.add_sub_cancel_left]
  ·split
   ·rename_i hc;subst hc;rfl
   ·exact g [c] aw
 | a :: b :: r=>exact g _ h
theorem OZ {t:List Nat}:(bz t).1≤96:=by
 have g:∀ x:List Nat,(fj x).1≤96:=fun x=>by
  unfold fj;simp only
  split
  ·omega
  ·split <;> omega
 unfold bz
 split
 ·split
  ·simp only;omega
  ·split
   ·simp only;omega
   ·exact g _
 ·exact g _
theorem GR {t:List Nat} (x:Rx) (r:Rn) (h:t.length≤65535) (hi:gJ r=0):mn x (bz t) r=dA t r:=by
 have hp:=GQ h;have ho:=OZ (t:=t);have hs:rL (bz t)=true:=by unfold rL;rw [hp];simp
 have hb:mU (bz t).1 r=none:=by
  unfold mU;rw [if_neg aq,if_neg aq,if_neg aq]
 unfold mn;rw [hp,hb,if_neg aw,hs];simp [hi]
theorem O0 {op:Nat} (x:Rx) (r:Rn) (h:lN op=true) (h2:104<op) (hi:gJ r=0):mn x (op,[]) r=oe x op r:=by
 have hp:eK (op,[])=none:=by
  unfold eK;rw [if_neg (by simp only;omega),if_neg (by simp only;omega),if_neg (by simp only;omega)]
 have hb:mU op r=none:=by
  unfold mU;rw [if_neg aq,if_neg aq,if_neg aq]
 unfold mn;rw [hp];simp only [hb,h];simp [hi]
theorem K6 {s rest:List Nat} {a:Nat} {w:Wd} (hb:w.2.length≤65535) (hw:(cK w).2=true) (hd:s.drop a=(cK w).1 ++ rest):mT s a=some (w,a+(cK w).1.length):=by
 obtain ⟨op,b⟩:=w
 have ht:∀ (n h:Nat) (jB:List Nat),io (s.drop a)=some (n,h)→s.drop a=jB ++ (b ++ rest)→jB.length=h→b.length=n→(s.drop a).headD 0=op→mT s a=some ((op,b),a+h+n):=by
  intro n h jB h1 h2 h3 h4 h5;unfold mT;rw [h1];simp only;rw [if_neg (by rw [h2];simp only [b_];omega),h5]
  have:((s.drop a).drop h).take n=b:=by
   rw [h2,← h3,List.drop_left,← h4,List.take_left]
  rw [this]
 unfold cK at hw hd ⊢;by_cases c1:0<op∧op≤75
 ·rw [if_pos c1] at hw hd ⊢;simp only [decide_eq_true_eq] at hw;have e:s.drop a=op :: (b ++ rest):=hd;have:=ht op 1 [op] (by rw [e,uu,if_pos c1]) e rfl hw (by rw [e];rfl);rw [this];simp only [List.length_cons];congr 2;omega
 ·rw [if_neg c1] at hw hd ⊢;by_cases c2:op=76
  ·subst c2;rw [if_pos rfl] at hw hd ⊢;simp only [decide_eq_true_eq] at hw;have e8:t8 b.length=b.length:=Pl aq;have e:s.drop a=[76,b.length] ++ (b ++ rest):=by rw [hd];simp [e8]
   have:=ht b.length 2 [76,b.length] (by rw [e];rfl) e rfl rfl (by rw [e];rfl);rw [this];simp only [List.length_cons];congr 2;omega
  ·rw [if_neg c2] at hw hd ⊢;by_cases c3:op=77
   ·subst c3;rw [if_pos rfl] at hw hd ⊢;simp only [decide_eq_true_eq] at hw;have e:s.drop a=[77,t8 b.length,t8 (dY 8 b.length)] ++ (b ++ rest):=by rw [hd];simp
    have e8:t8 b.length+256*t8 (dY 8 b.length)=b.length:=by
     unfold t8 dY;simp only [Nat.reducePow];omega
    have:=ht b.length 3 [77,t8 b.length,t8 (dY 8 b.length)] (by rw [e];show some (t8 b.length+256*t8 (dY 8 b.length),3)=_;rw [e8]) e rfl rfl (by rw [e];rfl);rw [this];simp only [List.length_cons];congr 2;omega
   ·rw [if_neg c3] at hw hd ⊢;simp only [decide_eq_true_eq] at hw;have hb0:b=[]:=List.eq_nil_of_length_eq_zero hw;subst hb0;have e:s.drop a=[op] ++ ([] ++ rest):=by rw [hd];simp
    have:=ht 0 1 [op] (by rw [e,List.cons_append,uu,if_neg c1,if_neg c2,if_neg c3]) e rfl rfl (by rw [e];rfl);rw [this];rfl
theorem K7 {r:Rn} (h:(lg r).e=0):r.e=0:=by
 by_cases hr:r.e=0
 ·exact hr
 ·exfalso;have f:∀ (x:Int) (q:Rn),q.e ≠ 0→(ay x q).e ≠ 0:=fun x q hq=>by unfold ay;rw [if_neg hq];exact hq
  revert h;unfold lg;simp only
  split
  ·split
   ·exact f _ _ hr
   ·exact f _ _ (f _ _ hr)
  ·split
   ·exact hr
   ·exact f _ _ hr
theorem AD {x:Rx} {s rest:List Nat} {f a:Nat} {r:Rn} {w:Wd} (h:(lg (j6 x s (f+1) a r)).e=0) (hb:w.2.length≤65535) (hw:(cK w).2=true) (hd:s.drop a=(cK w).1 ++ rest) :
  r.e=0∧(lg (j6 x s f (a+(cK w).1.length) (mn x w r))).e=0∧lg (j6 x s (f+1) a r)=lg (j6 x s f (a+(cK w).1.length) (mn x w r)):=by
 have hn:=K6 hb hw hd
 have hl:0<(cK w).1.length:=by
  unfold cK
  split
  ·exact Nat.succ_pos _
  ·split
   ·exact Nat.succ_pos _
   ·split
    ·exact Nat.succ_pos _
    ·exact Nat.succ_pos _
 have ha:a<s.length:=by
  have:=congrArg List.length hd;rw [et,b_] at this;omega
 rw [j6] at h ⊢;by_cases hr:r.e=0
 ·rw [if_pos ⟨ha,hr⟩,hn] at h ⊢;exact ⟨hr,h,rfl⟩
 ·rw [if_neg (fun q=>hr q.2)] at h;exact absurd (K7 h) hr
theorem GU {x:Rx} {s:List Nat} {start:List (List Nat)} {bud:Int} (h:(mo x s start bud).2=0):(lg (j6 x s (s.length+1) 0 (ay (fw start []) ⟨start,[],[],bud,[],0⟩))).e=0:=by
 unfold mo at h;simp only at h
 split at h
 ·assumption
 ·exact h
theorem W8 {k e:Int} {m a:List be} {br:List Bool} {bud:Int} {cl:List (Int × Int)} (h:(ay k ⟨m,a,br,bud,cl,e⟩).e=0):ay k ⟨m,a,br,bud,cl,e⟩=⟨m,a,br,bud,cl,0⟩∧k=0:=by
 unfold ay at h ⊢
 split at h
 ·rename_i he;rw [if_pos he];simp only at h;subst h;exact ⟨rfl,rfl⟩
 ·exact absurd h ‹_›
theorem W9 {b:be} {r:Rn} (h:(dA b r).e=0):r.e=0∧dA b r={ r with main:=r.main ++ [b] }:=by
 have he:r.e=0:=by
  unfold dA at h
  split at h
  ·assumption
  ·exact h
 refine ⟨he,?_⟩;unfold dA at h ⊢;rw [if_pos he] at h ⊢
 split
 ·rfl
 ·rename_i hc;exfalso;rw [if_neg hc] at h;unfold ay at h;rw [if_pos he] at h;exact hc h
end Go.Sha
namespace Go.Sha
open Go.Proofs.YtmfnimjnneflnaaGreat Go.Am
def xK (c:CsF) (sg:be→be→be→Bool) (msg:be) (out:be→be × Int):Rx :=
 ⟨bq,dW,sg,msg,(c.t.lock:Int),(c.t.ver:Int),(((c.t.ins[c.n.toNat]?.map Ip.seq).getD 0:Nat):Int),ON c.t c.n.toNat,uG c.t c.n c.coins,fun s o0 o1 bk=>uo c.t c.n c.coins o0 o1 bk (out s).1 (out s).2⟩
def uv (c:CsF) (x:Rx) (s:List Nat) (start:List (List Nat)):List (Int × Int) × Int:=if bM c.t c.n c.coins ≠ 0 ∨ 1000<s.length then ([],1) else mo x s start c.bud
def kE (p:List (Int × Int) × Int):AV:=.tup [.d (.ro 2 (p.1.map fl)),.d (.int .i64 p.2)]
end Go.Sha
namespace Go.Proofs.YtmfnimjnneflnaaGreat
open Go.Am Go.Sha
structure CsOk (c:CsF):Prop where
 t:Sm c.t
 cc:YX c.coins
 cb:∀ o,o ∈ c.coins→bytes o.2∧o.1<18446744073709551616
 ob:∀ o,o ∈ c.t.outs→bytes o.2
 i:c.inner.length=32
 ib:bytes c.inner
 s:c.script.length≤1000
 p:∀ p,p ∈ c.path→p.length=32
 pl:c.path.length≤1000
 a:c.annex.length≤1000
 b:gh c.bud
theorem TT (t:Tn) (n:Int) (coins:List (Nat × List Nat)) (inner:List Nat) (path:List (List Nat)) (s annex:List Nat) (start:List be) (bud:Int) (ht:Sm t) (hc:coins.length≤1000) (hi:inner.length=32) (h:bM t n coins=1) :
  ax Tryz.prog 53 [.agg (eS t n coins),cQ inner path s,.d (.ro 1 (start.map bD)),.d (nb annex),.d (.int .i64 bud)] (fun v=>v=.tup [.d (.ro 2 []),.d (.int .i64 1)]):=by
 have hck:=kY t n coins ht hc;have hlf:(aT inner (AV.d (da path)) (AV.d (nb s))).length=34:=uK hi _ _;have hlt:List.take 34 (aT inner (AV.d (da path)) (AV.d (nb s)))=aT inner (AV.d (da path)) (AV.d (nb s)):=cx (by rw [hlf];omega);have hdS:∀ v,v ∈ [AV.agg (eS t n coins)]→v.deep:=Az t n coins;rw [h] at hck;simp only [eS] at hck hdS
 refine bO Tryz.func53 Tryz.ntmps53 (rs:=[.tmp 10,.tmp 11]) (by
  intro v hv;simp at hv;rcases hv with rfl | rfl | rfl | rfl | rfl
  ·simp [AV.deep,AV.deep1,eS]
  ·exact cX inner path s _ (List.mem_singleton.2 rfl)
  ·trivial
  ·trivial
  ·trivial) ?_
 simp [go_sem,cQ,eS,hlf,hlt];refine ag hck hdS ?_;simp [go_sem,ah];exact dD (cs':=[.d (.ro 2 []),.d (.int .i64 1)]) (ap (ak (.nil 2)) (ap (bc trivial) bB)) rfl a9 rfl
theorem K8 (c:CsF) (hk:CsOk c) {sg:be→be→be→Bool} {out:be→be × Int} (hsg:OX sg) (hout:E2 c.inner c.path out) (s:List Nat) (hs:bytes s) (hl:s.length≤100000):∃ msg:be,∀ start:List (List Nat),StOk start [] →
  ax Tryz.prog 53 [.agg (eS c.t c.n c.coins),cQ c.inner c.path s,.d (.ro 1 (start.map bD)),.d (nb c.annex),.d (.int .i64 c.bud)] (fun v=>v=kE (uv c (xK c sg msg out) s start)):=by
 by_cases hn:0≤c.n
 ·obtain ⟨n,hn'⟩:∃ n:Nat,c.n=(n:Int):=⟨c.n.toNat,aq⟩;obtain ⟨msg,hx⟩:=TS ⟨c.t,n,c.coins,c.inner,c.path,s,c.annex⟩ ⟨hk.t,hk.cc,hk.cb,hk.ob,hk.i,hk.ib,hl,hk.p,hk.pl,hk.a⟩ hsg hout;refine ⟨msg,fun start hst=>?_⟩
  have hr:=TE ⟨c.t,n,c.coins,c.inner,c.path,s,c.annex⟩ (xK c sg msg out) start c.bud hk.t (by have:=hk.cc.1;show c.coins.length≤1000;omega) hk.i hs hst hk.b (fun hc _=>by
   have:=hx hc (xK c sg msg out) (by unfold xK;rw [hn'];rfl)
   exact this) (fun s o0 o1 bk=>wm _ _ _ _ _ _ _ _)
  have e:GB ⟨c.t,n,c.coins,c.inner,c.path,s,c.annex⟩ (xK c sg msg out) start c.bud=kE (uv c (xK c sg msg out) s start):=by
   unfold GB uv;rw [hn'];simp only
   split
   ·rfl
   ·rfl
  rw [e,← hn'] at hr;exact hr
 ·have hc:bM c.t c.n c.coins=1:=by
   rcases rm c.t c.n c.coins with h | h
   ·exfalso;unfold bM at h
    split at h
    ·cases h
    ·rename_i hq;simp only [not_or,Int.not_lt,Int.not_le] at hq;omega
   ·exact h
  refine ⟨[],fun start hst=>?_⟩;have:=TT c.t c.n c.coins c.inner c.path s c.annex start c.bud hk.t (by have:=hk.cc.1;omega) hk.i hc;have e:uv c (xK c sg [] out) s start=([],1):=if_pos (.inl (by rw [hc];omega));rw [e];exact this
theorem wo {inner:List Nat} (hi:inner.length=32) (a b v:AV):(aT inner a b).set 33 v=aT inner a v:=by
 unfold aT;rw [List.set_append_right _ _ (by rw [am,hi];omega),am,hi];rfl
theorem GV {inner:List Nat} (hi:inner.length=32) (a b v:AV):List.take 33 (aT inner a b) ++ v :: List.drop 34 (aT inner a b)=aT inner a v:=by
 rw [← wo hi a b v,List.set_eq_take_append_cons_drop,if_pos (by rw [uK hi];omega)]
theorem P2 (c:CsF) (s:List Nat) (start:List (List Nat)):∀ v,v ∈ [AV.agg (bw c),.d (nb s),.d (.ro 1 (start.map bD))]→v.deep:=by
 intro v hv;simp only [d_,List.mem_nil_iff,or_false] at hv;rcases hv with rfl | rfl | rfl
 ·exact nU c _ aw
 ·trivial
 ·trivial
theorem AE (c:CsF) (hi:c.inner.length=32) (s:List Nat) (start:List (List Nat)) (p:List (Int × Int) × Int)
  (h:ax Tryz.prog 53 [.agg (eS c.t c.n c.coins),cQ c.inner c.path s,.d (.ro 1 (start.map bD)),.d (nb c.annex),.d (.int .i64 c.bud)] (fun v=>v=kE p)) :
  ax Tryz.prog 17 [.agg (bw c),.d (nb s),.d (.ro 1 (start.map bD))] (fun v=>v=kE p):=by
 refine bO Tryz.func17 Tryz.ntmps17 (rs:=[.tmp 6,.tmp 7]) (P2 c s start) ?_;have hl:=uq hi;have h6:=yt (c:=c);have h34:=K4 hi;have h41:(bw c)[41]?=some (.d (nb c.annex)):=nh hi 1;have h42:(bw c)[42]?=some (.d (.int .i64 c.bud)):=nh hi 2;have g41:∀ h:41<(bw c).length,(bw c)[41]'h=AV.d (nb c.annex):=fun h=>(List.getElem_of_getElem? h41).2;have g42:∀ h:42<(bw c).length,(bw c)[42]'h=AV.d (.int .i64 c.bud):=fun h=>(List.getElem_of_getElem? h42).2;have hSd:=Az c.t c.n c.coins;have hlf:=uK hi (.d (da c.path)) (.d (nb c.script));have hls:=wo hi (.d (da c.path)) (.d (nb c.script)) (.d (nb s));have hls2:=GV hi (.d (da c.path)) (.d (nb c.script)) (.d (nb s));have hlf2:=uK hi (.d (da c.path)) (.d (nb s));have htk2:List.take 34 (aT c.inner (.d (da c.path)) (.d (nb s)))=aT c.inner (.d (da c.path)) (.d (nb s)):=cx aq
 have hdd:∀ v,v ∈ [.agg (eS c.t c.n c.coins),cQ c.inner c.path s,.d (.ro 1 (start.map bD)),.d (nb c.annex),.d (.int .i64 c.bud)]→v.deep:=by
  intro v hv;simp only [d_,List.mem_nil_iff,or_false] at hv;rcases hv with rfl | rfl | rfl | rfl | rfl
  ·exact hSd _ aw
  ·exact cX c.inner c.path s _ (List.mem_singleton.2 rfl)
  ·trivial
  ·trivial
  ·trivial
 have zl:(aT z32 .nil .nil).length=34:=rfl;have zd:List.drop 34 (aT z32 .nil .nil)=[]:=rfl;have htk:List.take 43 (bw c)=bw c:=cx aq;unfold cQ at h hdd;generalize eS c.t c.n c.coins=S at *;generalize bw c=Q at *;generalize aT c.inner (.d (da c.path)) (.d (nb c.script))=L at *;generalize aT c.inner (.d (da c.path)) (.d (nb s))=M at *;simp [go_sem,hl,htk,h6,h34,g41,g42,h41,h42,hlf,hls,hls2,hlf2,htk2,zl,zd];refine ag h hdd ?_;unfold kE;simp [go_sem,ah];exact aa a9 rfl
theorem GW (ws:List Wd) (hw:∀ w,w ∈ ws→qN w) (hl:ws.length≤10000):cj Tryz.prog 51 0 [] [.d (.ro 2 (ws.map rT))]
  (fun r hp'=>((eB [] ws).2=0∧r=.tup [.own 1000 0 (eB [] ws).1.length (eB [] ws).1.length,.d (.int .i64 0)]∧lk 1000 hp'=some ⟨5,1,rb (eB [] ws).1⟩) ∨ ((eB [] ws)=([],1)∧r=.tup [.nil,.d (.int .i64 1)])):=by
 refine al Tryz.func51 (by kernel_rfl) rfl Tryz.ntmps51 (rs:=[.tmp 2,.tmp 3]) rfl (dT rfl) (by decide) ?_;generalize hB:eB [] ws=B;simp only [go_sem,Nat.reduceEqDiff,Nat.reduceAdd,Nat.reduceLT,↓reduceIte,Nat.reduceMul]
 refine ar (fun t:Nat × List Nat=>⟨[(4,.own 1000 0 t.2.length t.2.length),(9,.d (.ro 2 (ws.map rT))),(10,.d (.int .i64 (ws.length:Int))),(11,.d (.int .i64 (t.1:Int)))],[(1000,⟨5,1,rb t.2⟩)],1001⟩)
  (fun t=>t.1≤ws.length∧t.2.length≤60003*t.1∧eB t.2 (ws.drop t.1)=B) (fun t=>ws.length - t.1) (0,[]) ⟨aq,aw,hB⟩ (by
   simp [aA,ai,fv,lk,AV.low,AV.low1,rb]) ?_
 clear hB;rintro ⟨k,out⟩ ⟨hk,ho,hB⟩;simp only at hk ho hB;simp only [go_sem,Nat.reduceEqDiff,Nat.reduceAdd,Nat.reduceLT,↓reduceIte,Nat.reduceMul];refine ⟨fun h=>?_,fun h=>?_⟩
 ·obtain ⟨w,hw1,hd⟩:=bm (l:=ws) (k:=k) aq;obtain ⟨q1,q2⟩:=hw w (cr hw1);rw [hd] at hB;simp only [eB] at hB;have hll:=pK w;have hrow:rT w=[.int .u8 (w.1:Int),nb w.2]:=rfl;simp [go_sem,hw1,hrow];refine ag (IG w q1 q2) (by intro v hv;simp at hv;subst hv;exact s8 w) ?_
  cases hok:(cK w).2 with
  | false =>
   simp [go_sem,ah];rw [hok,if_neg aw] at hB;exact hB.symm
  | true =>
   rw [hok,if_pos rfl] at hB;have w3:=az (k:=k) aq;generalize (cK w).1=L at *;simp [go_sem,nb,cE,aG,iK,w3];refine ⟨aq,?_⟩;refine ao (k+1,out ++ L) ⟨by simp only;omega,by simp only [b_];omega,hB⟩ (by simp only;omega) ?_;simp [aA,ai,fv,lk,AV.low,AV.low1];exact bg _ _
 ·rw [c_ aq] at hB;simp only [eB] at hB;simp [go_sem,ah];rw [← hB];exact ⟨rfl,rfl,rfl⟩
theorem AG:∀ (ws:List Wd) (out:List Nat),(∀ w,w ∈ ws→qN w)→(eB out ws).1.length≤out.length+60003*ws.length
 | [],out,_=>by simp [eB]
 | w :: r,out,h=>by
  have hw:=(h w aw).1;have hl:=pK w;unfold eB
  split
  ·have:=AG r (out ++ (cK w).1) (fun w hw=>h w (by simp [hw]));simp only [b_,List.length_cons] at this ⊢;omega
  ·exact Nat.zero_le _
theorem E5:∀ (ws:List Wd) (out:List Nat),(eB out ws).2=0 ∨ eB out ws=([],1)
 | [],out=>.inl rfl
 | w :: r,out=>by
  unfold eB
  split
  ·exact E5 r _
  ·exact .inr rfl
def lX (ws:List Wd) (rest:List Nat):List Nat × Bool:=((eB [] ws).1 ++ rest,decide ((eB [] ws).2=0∧(eB [] ws).1.length+rest.length≤300))
theorem AH (ws:List Wd) (rest:List Nat) (hw:∀ w,w ∈ ws→qN w) (hl:ws.length≤10000) (hr:rest.length≤100000):ax Tryz.prog 15 [.d (.ro 2 (ws.map rT)),.d (nb rest)] (fun r=>r=.tup [.d (nb (lX ws rest).1),.d (.bool (lX ws rest).2)]):=by
 refine bO Tryz.func15 Tryz.ntmps15 (rs:=[.tmp 4,.tmp 5]) a9 ?_;have hbl:=AG ws [] hw;have h01:=E5 ws [];have hown:=GW ws hw hl;unfold lX;generalize eB [] ws=B at *;obtain ⟨b,e⟩:=B;simp only [List.length_nil,Nat.zero_add] at *;simp [go_sem];refine gQ [] hown rfl (aj (.deep a9) aD) (fun ρ=>by simp [AV.renL,AV.ren]) ?_;rintro r hp' (⟨rfl,rfl,h0⟩ | ⟨hB,rfl⟩)
 ·refine ⟨[(1000,0)],rfl,?_⟩;simp [go_sem,bP,bC,h0,Blk.ren,aL,cF,AV.renL,AV.ren,bR,aE,nb,cE,aG];have wi:IntKind.i64.wrap ((b.length:Int)+(rest.length:Int))=(b.length:Int)+(rest.length:Int):=IntWalk.i64_in _ aq;rw [wi];refine ⟨aq,?_⟩;rw [iK];have hd:decide ((b.length:Int)+(rest.length:Int)≤300)=decide (b.length+rest.length≤300):=decide_eq_decide.2 aq;rw [hd,← b_,← List.map_append];exact dD (ap (ak (aM (L:=b ++ rest) rfl rfl trivial)) (ap (bc trivial) bB)) rfl a9 rfl
 ·cases hB
  refine ⟨[],rfl,?_⟩;simp [go_sem,bP,bC,Blk.ren,aL,cF,AV.renL,AV.ren,bR,aE,nb,cE,aG];refine ⟨aq,?_⟩;exact dD (ap (ak (aM (L:=rest) rfl rfl trivial)) (ap (bc trivial) bB)) rfl a9 rfl
end Go.Proofs.YtmfnimjnneflnaaGreat
namespace Go.Sha
open Go.Proofs.YtmfnimjnneflnaaGreat Go.Am
def tP:Tn:=⟨2,[⟨z32,0,0,[]⟩],[(5,[])],0⟩
def AI:CsF:=⟨tP,0,[(7,[])],z32,[],[],[],[],0⟩
def Xs:List AV:=[.d (.int .u32 0),.nil,.nil,.d (.int .u32 0),.d (.int .i64 0),.nil] ++ (aT z32 .nil .nil ++ [.nil,.nil,.d (.int .i64 0)])
end Go.Sha
namespace Go.Proofs.YtmfnimjnneflnaaGreat
open Go.Am Go.Sha
theorem K9 {hp:Hp} {I:Nat→Prop} {c:List AV} {d:List DV} (h2:CellsR hp I c d):∀ b:List DV,CellsR hp I (b.map .d ++ c) (b ++ d)
 | []=>h2
 | y :: r=>.cons (.d y) (K9 h2 r)
theorem Xa:eV Tryz.prog 36=some Xs:=by kernel_rfl
attribute [go_sem] Xa
theorem Lc:ax Tryz.prog 50 [.d (.ro 1 [])] (fun r=>r=.d (.int .i64 1)):=by
 refine bO Tryz.func50 Tryz.ntmps50 (rs:=[.tmp 2]) a9 ?_;simp [go_sem];refine bN [] (tA [] [] aw ⟨aw,aw⟩) rfl (aj (.one (ak (.nil 1))) (aj (.deep a9) aD)) ?_;rw [show [] ++ kW []=[0] from rfl];simp [go_sem,aE,nb];exact aa a9 rfl
theorem C2:ax Tryz.prog 49 [] (fun r=>r=.agg (eS tP 0 [(7,[])])):=by
 refine bO Tryz.func49 Tryz.ntmps49 (rs:=[.cell 0 28]) aw ?_;simp [go_sem]
 refine sU (cs':=eS tP 0 [(7,[])]) (ap (bc trivial) (ap (ak (iH (rows:=[cb z32 ++ [AV.d (DV.int IntKind.u32 0),AV.d (DV.int IntKind.u32 0),AV.nil]]) rfl trivial rfl (RowsR.cons ?_ .nil) rfl (by intro r hr;simp [tP] at hr;subst hr;rfl)))
  (ap (ak (iH (rows:=[[AV.d (DV.int IntKind.u64 5),AV.nil]]) rfl trivial rfl (RowsR.cons (.cons (.d _) (.cons (.nil 1) .nil)) .nil) rfl (by intro r hr;simp [tP] at hr;subst hr;rfl)))
  (ap (bc trivial) (ap (bc trivial) (ap (ak (iH (rows:=[[AV.d (DV.int IntKind.u64 7),AV.nil]]) rfl trivial rfl (RowsR.cons (.cons (.d _) (.cons (.nil 1) .nil)) .nil) rfl (by intro r hr;simp at hr;subst hr;rfl))) bB)))))) rfl (by simp [AV.deep,AV.deep1,eS]) rfl
 exact K9 (d:=[.ro 1 []]) (.cons (.nil 1) .nil) (cd z32 ++ [.int .u32 0,.int .u32 0])
theorem ry:CsOk AI where
 t:=⟨⟨by decide,by decide,fun i hi=>by
  have:i=⟨z32,0,0,[]⟩:=by simpa [AI,tP] using hi
  subst this
  exact ⟨rfl,by decide,by decide⟩,by decide⟩,by decide,by decide,by decide,fun i hi=>by
  have:i=⟨z32,0,0,[]⟩:=by simpa [AI,tP] using hi
  subst this
  exact ⟨by decide,by decide⟩⟩
 cc:=⟨by decide,by decide⟩
 cb:=fun o ho=>by
  have:o=(7,[]):=by simpa [AI] using ho
  subst this;exact ⟨fun x hx=>(by cases hx),by decide⟩
 ob:=fun o ho=>by
  have:o=(5,[]):=by simpa [AI,tP] using ho
  subst this;exact fun x hx=>(by cases hx)
 i:=rfl
 ib:=fun x hx=>by
  have:x=0:=by simpa [AI,z32] using hx
  omega
 s:=by decide
 p:=by decide
 pl:=by decide
 a:=by decide
 b:=⟨by decide,by decide⟩
theorem O1:bM AI.t AI.n AI.coins=0:=by decide
theorem GX {hp:Hp} {I:Nat→Prop}:Snap hp I (.agg (eS tP 0 [(7,[])] ++ (aT z32 .nil .nil ++ [.nil,.nil,.d (.int .i64 0)]))) (.agg (bw AI)) :=
 .agg ⟨rfl,qL (eS tP 0 [(7,[])]) (fun v hv=>by simp [eS] at hv;rcases hv with rfl | rfl | rfl | rfl | rfl | rfl <;> trivial)
  (qL (cb z32) (cg _) (ap (ak (.nil 32)) (ap (ak (.nil 1)) (ap (ak (.nil 1)) (ap (ak (.nil 1)) (ap (bc trivial) bB))))))⟩
theorem yu {s:List Nat} {p:List (Int × Int) × Int} (hs:bytes s) (hl:s.length≤1000) (h:∀ x,mo x s [] 0=p) :
  ax Tryz.prog 17 [.agg (bw AI),.d (nb s),.d (.ro 1 [])] (fun v=>v=kE p):=by
 obtain ⟨sg,hsg⟩:=P1;obtain ⟨out,hout⟩:=E3 AI.inner AI.path ry.i ry.ib ry.p ry.pl;obtain ⟨msg,hm⟩:=K8 AI ry hsg hout s hs aq;have h1:=AE AI ry.i s [] _ (hm [] ⟨aw,aw,aw,aw⟩)
 have e:uv AI (xK AI sg msg out) s []=p:=by
  unfold uv;rw [if_neg (by rw [O1];omega)];exact h _
 rw [e] at h1;exact h1
theorem eH:ax Tryz.prog 14 [] (fun r=>r=.d (.bool true)):=by
 refine bO Tryz.func14 Tryz.ntmps14 (rs:=[.tmp 0]) aw ?_;have ra:=yu (s:=[81,99,82,103,83,104,82,156]) (fun x hx=>by simp at hx;omega) (by decide) W5;have rb:=yu (s:=[81,81]) (fun x hx=>by simp at hx;omega) (by decide) W6;have rc:=yu (s:=[0,99,255,104,81]) (fun x hx=>by simp at hx;omega) (by decide) W7;have zl:Xs.length=43:=rfl;have z43:List.drop 43 Xs=[]:=rfl;simp [go_sem];refine ag C2 aw ?_;have hcs:=fun (hp:Hp) (I:Nat→Prop)=>GX (hp:=hp) (I:=I);have zd:List.drop 6 Xs=aT z32 .nil .nil ++ [.nil,.nil,.d (.int .i64 0)]:=rfl;have sl:(eS tP 0 [(7,[])]).length=6:=rfl;have st:List.take 6 (eS tP 0 [(7,[])])=eS tP 0 [(7,[])]:=rfl;have rl:(aT z32 .nil .nil ++ [AV.nil,AV.nil,AV.d (.int .i64 0)]).length=37:=rfl;generalize aT z32 .nil .nil ++ [AV.nil,AV.nil,AV.d (.int .i64 0)]=R at *;have tl:(eS tP 0 [(7,[])] ++ R).length=43:=by rw [b_,sl,rl]
 generalize eS tP 0 [(7,[])]=S at *;have tt:List.take 43 (S ++ R)=S ++ R:=cx aq;generalize hT:S ++ R=T at *;simp [go_sem,zl,sl,st,zd,rl,hT,tl,tt,z43,aE];refine bN [192] ra rfl (aj (hcs _ _) (aj (.one (ak (aM (L:=[81,99,82,103,83,104,82,156]) rfl rfl aw))) (aj (.one (ak (.nil 1))) aD))) ?_;unfold kE;simp [go_sem,zl,sl,st,zd,rl,hT,tl,tt,z43,aE];refine bN [448] rb rfl (aj (hcs _ _) (aj (.one (ak (aM (L:=[81,81]) rfl rfl aw))) (aj (.one (ak (.nil 1))) aD))) ?_;unfold kE;simp [go_sem,zl,sl,st,zd,rl,hT,tl,tt,z43,aE];refine bN [704] rc rfl (aj (hcs _ _) (aj (.one (ak (aM (L:=[0,99,255,104,81]) rfl rfl aw))) (aj (.one (ak (.nil 1))) aD))) ?_;unfold kE;simp [go_sem];refine bN [] Lc rfl (aj (.one (ak (.nil 1))) aD) ?_;simp [go_sem];exact aa a9 rfl
structure CsIn (c:CsF):Prop where
 t:c.t.ok
 cb:∀ o,o ∈ c.coins→bytes o.2∧o.1<18446744073709551616
 ob:∀ o,o ∈ c.t.outs→bytes o.2
 i:c.inner.length=32
 ib:bytes c.inner
 p:∀ p,p ∈ c.path→p.length=32
 sb:bytes c.script
 st:∀ x,x ∈ c.start→bytes x
 b:gh c.bud
theorem Ld {c:CsF} (h:CsIn c) (hs:nf c=true):CsOk c∧c.script.length≤300∧(StOk c.start []∧c.start.length≤12∧∀ x,x ∈ c.start→x.length≤600):=by
 simp only [nf,qT,Bool.and_eq_true,decide_eq_true_eq,cp,d7] at hs;obtain ⟨⟨a1,a2,a3⟩,b1,b2,b3,b4,b5⟩:=hs
 exact ⟨⟨VC h.t a1,⟨a2,fun o ho=>⟨(h.cb o ho).2,a3 o ho⟩⟩,h.cb,h.ob,h.i,h.ib,aq,h.p,aq,aq,h.b⟩,b1,
  ⟨aq,aw,fun x hx=>⟨by have:=b5 x hx;omega,h.st x hx⟩,aw⟩,b3,b5⟩
theorem TU {c:CsF} (h:CsIn c) (hs:nf c=true):∃ (sg:be→be→be→Bool) (out:be→be × Int),OX sg∧E2 c.inner c.path out∧∀ s:List Nat,bytes s→s.length≤100000→∃ msg:be,∀ start:List (List Nat),StOk start [] →
  ax Tryz.prog 17 [.agg (bw c),.d (nb s),.d (.ro 1 (start.map bD))] (fun v=>v=kE (uv c (xK c sg msg out) s start)):=by
 obtain ⟨hk,_⟩:=Ld h hs;obtain ⟨sg,hsg⟩:=P1;obtain ⟨out,hout⟩:=E3 c.inner c.path h.i h.ib h.p hk.pl;refine ⟨sg,out,hsg,hout,fun s hb hl=>?_⟩;obtain ⟨msg,hm⟩:=K8 c hk hsg hout s hb hl;exact ⟨msg,fun start hst=>AE c h.i s start _ (hm start hst)⟩
theorem uw:∀ (ws:List Wd) (out:List Nat),bytes out→(∀ w,w ∈ ws→qN w∧bytes w.2)→bytes (eB out ws).1
 | [],out,h,_=>h
 | w :: r,out,h,hw=>by
  unfold eB
  split
  ·refine uw r _ ?_ (fun w hw'=>hw w (by simp [hw']));intro y hy;rcases cD.1 hy with hy | hy
   ·exact h y hy
   ·exact ta (hw w aw).1.2 (hw w aw).2 y hy
  ·intro y hy
   cases hy
theorem C3 {t:List Nat} (h:bytes t):bytes (bz t).2:=by
 unfold bz
 split
 ·split
  ·intro y hy;cases hy
  ·split
   ·intro y hy;cases hy
   ·exact h
 ·exact h
theorem AK {ws:List Wd} {rest:List Nat} (hr:bytes rest) (hw:∀ w,w ∈ ws→qN w∧bytes w.2):bytes (lX ws rest).1:=by
 intro y hy;rcases cD.1 hy with hy | hy
 ·exact uw ws [] (fun y hy=>by cases hy) hw y hy
 ·exact hr y hy
theorem Le {n:Nat} {ds:List DV} (h:iC Tryz.prog (n+4) 33 ds):∃ (inner:List Nat) (ps:List (List Nat)) (x:List Nat),ds=cd inner ++ [da ps,nb x]∧inner.length=32∧bytes inner∧(∀ p,p ∈ ps→p.length=32)∧bytes x:=by
 rw [iC] at h;simp only [Tryz.underlying33,List.map_cons,List.map_nil] at h;obtain ⟨a,b,rfl,ha,ha2,a',b',rfl,hb,hb2,a3,b3,rfl,hc,hc2,rfl⟩:=h;obtain ⟨inner,rfl,h1,h2⟩:=Bz ha2;rw [show Tryz.prog.cellsOf 30=1 by kernel_rfl] at hb;rw [show Tryz.prog.cellsOf 31=1 by kernel_rfl] at hc
 match a',hb,hb2,a3,hc,hc2 with
 | [y],_,hb2,[z],_,hc2 =>
  obtain ⟨ps,rfl,h3⟩:=Nh hb2;obtain ⟨x,rfl,h4,h5⟩:=pF hc2;exact ⟨inner,ps,x,aw,h1,h2,fun p hp=>(h3 p hp).1,h5⟩
theorem E6 {n:Nat} {ds:List DV} (h:iC Tryz.prog (n+1) 3 ds):∃ x:Int,ds=[.int .i64 x]∧-9223372036854775808≤x∧x<9223372036854775808:=by
 rw [iC] at h;simp only [Tryz.underlying3] at h;obtain ⟨x,rfl,hx⟩:=h;have hx':-9223372036854775808≤x∧x<9223372036854775808:=by simp [IntKind.has,IntKind.min,IntKind.max,IntKind.signed,IntKind.bits] at hx;omega
 exact ⟨x,rfl,hx'⟩
theorem TV {n:Nat} {ds:List DV} (h:iC Tryz.prog (n+7) 28 ds):∃ (t:Tn) (m:Int) (coins:List (Nat × List Nat)),ds.map .d=eS t m coins∧t.ok∧(∀ o,o ∈ t.outs→bytes o.2)∧∀ o,o ∈ coins→o.1<18446744073709551616∧bytes o.2:=by
 rw [iC] at h;simp only [Tryz.underlying28,List.map_cons,List.map_nil] at h;obtain ⟨a,b,rfl,ha,ha2,a',b',rfl,hb,hb2,a3,b3,rfl,hc,hc2,rfl⟩:=h;obtain ⟨t,h1,h2,h3,_⟩:=VG ha2;obtain ⟨m,rfl,_⟩:=E6 hb2;obtain ⟨os,rfl,hos⟩:=DY hc2;refine ⟨t,m,os,?_,h2,h3,hos⟩;rw [List.map_append,h1];rfl
theorem Lh {n:Nat} {a:AV} (h:sV Tryz.prog (n+8) 36 a):∃ c:CsF,a=.agg (bw c)∧CsIn c:=by
 unfold sV at h;simp only [Tryz.underlying36] at h;obtain ⟨ds,rfl,h⟩:=h;rw [iC] at h;simp only [Tryz.underlying36,List.map_cons,List.map_nil] at h;obtain ⟨a,b,rfl,ha,ha2,a',b',rfl,hb,hb2,a3,b3,rfl,hc,hc2,a4,b4,rfl,hd,hd2,a5,b5,rfl,he,he2,rfl⟩:=h;obtain ⟨t,m,coins,hS,h2,h3,h4⟩:=TV ha2;obtain ⟨inner,ps,x,rfl,k1,k2,k3,k4⟩:=Le hb2;rw [show Tryz.prog.cellsOf 34=1 by kernel_rfl] at hc;rw [show Tryz.prog.cellsOf 31=1 by kernel_rfl] at hd;obtain ⟨bud,rfl,b1⟩:=E6 he2
 match a3,hc,hc2,a4,hd,hd2 with
 | [y],_,hc2,[z],_,hd2 =>
  obtain ⟨start,rfl,h5⟩:=vG hc2;obtain ⟨annex,rfl,_,h6⟩:=pF hd2;refine ⟨⟨t,m,coins,inner,ps,x,start,annex,bud⟩,?_,⟨h2,fun o ho=>⟨(h4 o ho).2,(h4 o ho).1⟩,h3,k1,k2,k3,k4,h5,b1⟩⟩;rw [List.map_append,hS];simp [bw,qk,aT,lB]
end Go.Proofs.YtmfnimjnneflnaaGreat
namespace Go.Sha
open Go.Proofs.YtmfnimjnneflnaaGreat Go.Am
theorem O2 {t rest:List Nat} {op:Nat} (hop:104<op) (hok:(eB [] [bz t,(op,[])]).2=0):(cK (bz t)).2=true∧(cK (op,[])).2=true∧(cK (op,[])).1=[op]∧(eB [] [bz t,(op,[])]).1=(cK (bz t)).1 ++ [op]:=by
 have e3:cK (op,[])=([op],true):=by
  unfold cK;rw [if_neg (by simp only;omega),if_neg (by simp only;omega),if_neg (by simp only;omega)];rfl
 unfold eB at hok ⊢
 split at hok
 ·rename_i h1;rw [if_pos h1];unfold eB;rw [e3,if_pos rfl];exact ⟨h1,rfl,rfl,rfl⟩
 ·cases hok
theorem GY {x:Rx} {t rest:List Nat} {op:Nat} {start:List (List Nat)} {bud:Int} (ht:t.length≤60000) (hop:104<op) (hn:lN op=true) (hok:(eB [] [bz t,(op,[])]).2=0)
  (h:(mo x ((eB [] [bz t,(op,[])]).1 ++ rest) start bud).2=0):(oe x op ⟨start ++ [t],[],[],bud,[],0⟩).e=0 ∧
   (rest=[]→(mo x ((eB [] [bz t,(op,[])]).1 ++ rest) start bud).1=(oe x op ⟨start ++ [t],[],[],bud,[],0⟩).cl):=by
 obtain ⟨e1,e4,e3,e2⟩:=O2 (rest:=rest) hop hok;rw [e2] at h ⊢;have h0:=GU h
 have hpl:(bz t).2.length≤65535:=by
  have g:(fj t).2.length=t.length:=rfl;unfold bz
  split
  ·split
   ·exact Nat.zero_le _
   ·split
    ·exact Nat.zero_le _
    ·exact (by omega:1≤65535)
  ·omega
 have hlen:((cK (bz t)).1 ++ [op] ++ rest).length=((cK (bz t)).1.length+rest.length)+1:=by simp only [b_,List.length_cons,List.length_nil];omega
 have hru:(mo x ((cK (bz t)).1 ++ [op] ++ rest) start bud).1=(lg (j6 x ((cK (bz t)).1 ++ [op] ++ rest) (((cK (bz t)).1 ++ [op] ++ rest).length+1) 0 (ay (fw start []) ⟨start,[],[],bud,[],0⟩))).cl:=by
  unfold mo;simp only;rw [if_pos h0]
 rw [hru];clear hru;rw [hlen] at h0 ⊢;generalize hf:(cK (bz t)).1.length+rest.length=f at *;obtain ⟨a1,a2,a3⟩:=AD (w:=bz t) (rest:=[op] ++ rest) h0 hpl e1 (by rw [List.drop_zero,cA]);obtain ⟨b1,b2,b3⟩:=AD (w:=(op,[])) (rest:=rest) a2 (Nat.zero_le _) e4 (by rw [cA,Nat.zero_add,List.drop_left,e3]);rw [a3,b3];rw [(W8 a1).1,GR x _ aq rfl] at b1 b2 ⊢;have hp:=(W9 b1).2;rw [hp,O0 x _ hn hop rfl] at b2 ⊢
 have hz:(oe x op ⟨start ++ [t],[],[],bud,[],0⟩).e=0:=by
  by_cases hz:(oe x op ⟨start ++ [t],[],[],bud,[],0⟩).e=0
  ·exact hz
  ·exfalso
   cases f with
   | zero=>exact hz (K7 b2)
   | succ f =>
    rw [j6,if_neg (fun q=>hz q.2)] at b2;exact hz (K7 b2)
 refine ⟨hz,fun hr=>?_⟩;subst hr
 have hst:∀ (f:Nat) (r:Rn),j6 x ((cK (bz t)).1 ++ [op] ++ []) f (0+(cK (bz t)).1.length+(cK (op,[])).1.length) r=r:=fun f r=>by
  cases f with
  | zero=>rfl
  | succ f =>
   rw [j6,if_neg];intro q;have:=q.1;simp only [b_,List.length_cons,List.length_nil,e3] at this;omega
 show (lg (j6 x ((cK (bz t)).1 ++ [op] ++ []) f (0+(cK (bz t)).1.length+(cK (op,[])).1.length) (oe x op ⟨start ++ [t],[],[],bud,[],0⟩))).cl=_;rw [hst];generalize oe x op ⟨start ++ [t],[],[],bud,[],0⟩=r;have f1:∀ (x:Int) (q:Rn),(ay x q).cl=q.cl:=fun x q=>by unfold ay;split <;> rfl
 unfold lg;simp only
 split
 ·split
  ·exact f1 _ _
  ·rw [f1,f1]
 ·split
  ·rfl
  ·exact f1 _ _
theorem yv {k:Int} {r:Rn} (hk:k ≠ 0) (h:(ay k r).e=0):False:=by
 unfold ay at h
 split at h
 ·exact hk h
 ·rename_i q;exact q h
theorem GZ (m:List (List Nat)) (b:List Nat) (bud:Int):kZ ⟨m ++ [b],[],[],bud,[],0⟩=(b,⟨m ++ [b],[],[],bud,[],0⟩):=by
 unfold kZ;rw [if_neg aw];simp only [List.getLastD_concat]
theorem AL {n:Int} {m:List (List Nat)} {bud:Int} (h1:-9223372036854775808≤n) (h2:n<9223372036854775808) (h:(jh ⟨m ++ [c8 n],[],[],bud,[],0⟩).2.e=0):(jh ⟨m ++ [c8 n],[],[],bud,[],0⟩).1=n:=by
 unfold jh at *;rw [GZ] at *;simp only [if_true] at *
 cases hd:fq 5 (c8 n) with
 | none =>
  rw [hd] at h;exact (yv aq h).elim
 | some k =>
  have:=FU h1 h2 hd;simp only [this]
theorem TW:lN 178=true:=by decide
theorem TX:lN 177=true:=by decide
theorem G0 {x:Rx} {n:Int} {start:List (List Nat)} {bud:Int} (h0:0≤n) (h1:n<65536) (h:(oe x 178 ⟨start ++ [c8 n],[],[],bud,[],0⟩).e=0):¬ x.ver<2∧iP 31 x.seq=false∧iP 22 x.seq=false∧¬ x.seq % 65536<n:=by
 have hx:oe x 178 ⟨start ++ [c8 n],[],[],bud,[],0⟩=xM x ⟨start ++ [c8 n],[],[],bud,[],0⟩:=rfl;rw [hx] at h;have b31:iP 31 n=false:=by unfold iP;simp only [decide_eq_false_iff_not];rw [Int.fdiv_eq_ediv_of_nonneg _ aq];omega
 have b22:iP 22 n=false:=by unfold iP;simp only [decide_eq_false_iff_not];rw [Int.fdiv_eq_ediv_of_nonneg _ aq];omega
 unfold xM at h;simp only at h;by_cases he:(jh ⟨start ++ [c8 n],[],[],bud,[],0⟩).2.e=0
 ·rw [AL aq aq he,b31,b22] at h;simp only [Bool.false_eq_true,if_false] at h
  split at h
  ·exact (yv aq h).elim
  ·rename_i hq;simp only [Bool.or_eq_true,decide_eq_true_eq,not_or,Bool.not_eq_true,bne_iff_ne,ne_eq,Classical.not_not] at hq;obtain ⟨⟨⟨q1,q2⟩,q3⟩,q4⟩:=hq;refine ⟨q1,q2,q3.symm,?_⟩;have:n % 65536=n:=Int.emod_eq_of_lt h0 h1;omega
 ·exfalso;have f:∀ (x:Int) (q:Rn),q.e ≠ 0→(ay x q).e ≠ 0:=fun x q hq=>by unfold ay;rw [if_neg hq];exact hq
  split at h
  ·exact he h
  ·split at h
   ·exact f _ _ he h
   ·exact he h
theorem G1 {x:Rx} {n:Int} {start:List (List Nat)} {bud:Int} (h1:-9223372036854775808≤n) (h2:n<9223372036854775808) (h:(oe x 177 ⟨start ++ [c8 n],[],[],bud,[],0⟩).e=0):n≤x.lock∧(n<500000000 ↔ x.lock<500000000):=by
 have hx:oe x 177 ⟨start ++ [c8 n],[],[],bud,[],0⟩=pQ x ⟨start ++ [c8 n],[],[],bud,[],0⟩:=rfl;rw [hx] at h;unfold pQ at h;simp only at h;by_cases he:(jh ⟨start ++ [c8 n],[],[],bud,[],0⟩).2.e=0
 ·rw [AL h1 h2 he] at h
  split at h
  ·exact (yv aq h).elim
  ·rename_i hq;simp only [Bool.or_eq_true,decide_eq_true_eq,not_or,Bool.not_eq_true,bne_iff_ne,ne_eq,Classical.not_not,decide_eq_decide] at hq;obtain ⟨⟨q1,q2⟩,q3⟩:=hq;exact ⟨aq,q1⟩
 ·exfalso;have f:∀ (x:Int) (q:Rn),q.e ≠ 0→(ay x q).e ≠ 0:=fun x q hq=>by unfold ay;rw [if_neg hq];exact hq
  split at h
  ·exact f _ _ he h
  ·exact he h
end Go.Sha
namespace Go.Proofs.YtmfnimjnneflnaaGreat
open Go.Am Go.Sha
theorem yw (n:Nat) (m:Nat) (h:n<4294967296) (hm:m<4294967296):Go.bits .and .u32 (n:Int) (m:Int)=((n &&& m:Nat):Int):=by
 show IntKind.u32.wrap (((BitVec.ofInt 32 (n:Int)) &&& (BitVec.ofInt 32 (m:Int))).toNat:Int)=_;rw [BitVec.toNat_and,BitVec.toNat_ofInt,BitVec.toNat_ofInt];have e1:((n:Int) % (2 ^ 32:Nat)).toNat=n:=aq;have e2:((m:Int) % (2 ^ 32:Nat)).toNat=m:=aq;rw [e1,e2];have:n &&& m≤m:=Nat.and_le_right;rw [Iu];omega
theorem TY {n:Nat} (h:n<4294967296) (hb:iP 31 (n:Int)=false):Go.bits .and .u32 (n:Int) 2147483648=0:=by
 unfold iP at hb;rw [Int.fdiv_eq_ediv_of_nonneg _ aq] at hb;simp only [decide_eq_false_iff_not] at hb;have:=yw n (2 ^ 31) h aq;rw [yg,Nat.testBit_eq_decide_div_mod_eq,decide_eq_false aq] at this;exact this
theorem TZ {n:Nat} (h:n<4294967296) (hb:iP 22 (n:Int)=false):Go.bits .and .u32 (n:Int) 4194304=0:=by
 unfold iP at hb;rw [Int.fdiv_eq_ediv_of_nonneg _ aq] at hb;simp only [decide_eq_false_iff_not] at hb;have:=yw n (2 ^ 22) h aq;rw [yg,Nat.testBit_eq_decide_div_mod_eq,decide_eq_false aq] at this;exact this
theorem T0 {n:Nat} (h:n<4294967296):Go.bits .and .u32 (n:Int) 65535=((n % 65536:Nat):Int):=by
 have:=yw n (2 ^ 16 - 1) h aq;rw [Nat.and_two_pow_sub_one_eq_mod] at this;exact this
theorem wy {c:CsF} (h:CsIn c) (hs:nf c=true) (t:List Nat) (op:Nat) (ht:t.length≤300) (htb:bytes t) (hop:104<op∧op<256) (hn:lN op=true) (rest:List Nat) (hr:rest.length≤1000) (hrb:bytes rest) :
  ∃ (s:List Nat) (ok:Bool) (p:List (Int × Int) × Int),ax Tryz.prog 15 [.d (.ro 2 [rT (bz t),[.int .u8 (op:Int),nb []]]),.d (nb rest)] (fun r=>r=.tup [.d (nb s),.d (.bool ok)]) ∧
   (ok=true→ax Tryz.prog 17 [.agg (bw c),.d (nb s),.d (.ro 1 (c.start.map bD))] (fun v=>v=kE p) ∧
    (p.2=0→bM c.t c.n c.coins=0∧∃ sg msg out,(oe (xK c sg msg out) op ⟨c.start ++ [t],[],[],c.bud,[],0⟩).e=0∧(rest=[]→p.1=(oe (xK c sg msg out) op ⟨c.start ++ [t],[],[],c.bud,[],0⟩).cl))∧(p.2 ≠ 0→p.1=[])):=by
 obtain ⟨hk,hsl,hst,_⟩:=Ld h hs;obtain ⟨sg,out,hsg,hout,hrun⟩:=TU h hs
 have hws:∀ w,w ∈ [bz t,(op,[])]→qN w∧bytes w.2:=by
  intro w hw;simp only [d_,List.mem_nil_iff,or_false] at hw;rcases hw with rfl | rfl
  ·exact ⟨mM aq htb,C3 htb⟩
  ·exact ⟨⟨Nat.zero_le _,hop.2⟩,fun y hy=>(by cases hy)⟩
 have hscr:=AH [bz t,(op,[])] rest (fun w hw=>(hws w hw).1) aw aq;have hfb:=AK hrb hws
 cases hf:(lX [bz t,(op,[])] rest).2 with
 | false =>
  rw [hf] at hscr;exact ⟨_,false,([],0),hscr,fun q=>absurd q aw⟩
 | true =>
  rw [hf] at hscr;have hf':=hf;simp only [lX,decide_eq_true_eq] at hf'
  have hfl:(lX [bz t,(op,[])] rest).1.length≤300:=by
   show ((eB [] [bz t,(op,[])]).1 ++ rest).length≤_;rw [b_];omega
  obtain ⟨msg,hR⟩:=hrun _ hfb aq;refine ⟨_,true,_,hscr,fun _=>⟨hR c.start hst,fun he=>?_,fun he=>?_⟩⟩
  rotate_left
  ·generalize xK c sg msg out=x at *;unfold uv at he ⊢
   split at he
   ·rename_i hq;rw [if_pos hq]
   ·rename_i hq;rw [if_neg hq];unfold mo at he ⊢;simp only at he ⊢
    split at he
    ·exact absurd rfl he
    ·rename_i h2;rw [if_neg h2]
  have hc:bM c.t c.n c.coins=0∧¬ 1000<(lX [bz t,(op,[])] rest).1.length:=by
   unfold uv at he
   split at he
   ·cases he
   ·rename_i hq;simp only [not_or,ne_eq,Classical.not_not] at hq;exact hq
  have e:uv c (xK c sg msg out) (lX [bz t,(op,[])] rest).1 c.start=mo (xK c sg msg out) ((eB [] [bz t,(op,[])]).1 ++ rest) c.start c.bud:=by
   unfold uv;rw [if_neg (by rw [hc.1];omega)];rfl
  rw [e] at he ⊢;obtain ⟨z1,z2⟩:=GY (rest:=rest) aq hop.1 hn hf'.1 he;exact ⟨hc.1,sg,msg,out,z1,z2⟩
theorem E7 {hp:Hp} {ids:List Nat} {id:Nat} {w:Wd} {op:Int} (hb:lk id hp=some ⟨42,2,[pJ w,[AV.d (.int .u8 op),AV.nil]]⟩) (hI:id ∈ ids):Snap hp (fun id=>id ∈ ids) (.own id 0 2 2) (.d (.ro 2 [rT w,[.int .u8 op,nb []]])) :=
 .one (ak (iH (rows:=[pJ w,[AV.d (.int .u8 op),AV.nil]]) hb hI rfl (RowsR.cons (.cons (.d _) (.cons (.d _) .nil)) (RowsR.cons (.cons (.d _) (.cons (.nil 1) .nil)) .nil)) rfl (by intro r hr;simp at hr;rcases hr with rfl | rfl <;> rfl)))
theorem Xb (c:CsF) (n:Int):∀ v,v ∈ [AV.agg (bw c),.d (.int .i64 n)]→v.deep:=by
 intro v hv;simp only [d_,List.mem_nil_iff,or_false] at hv;rcases hv with rfl | rfl
 ·exact nU c _ aw
 ·trivial
theorem T8 {t:Tn} {n:Int} {coins:List (Nat × List Nat)} (h:bM t n coins=0):kK t=0∧coins.length=t.ins.length∧0≤n∧n<(coins.length:Int):=by
 unfold bM at h
 split at h
 ·cases h
 ·rename_i hq;simp only [not_or,Int.not_lt,Int.not_le,ne_eq,Classical.not_not] at hq;exact ⟨hq.1,hq.2.1,hq.2.2.1,hq.2.2.2.1⟩
theorem G2 (c:CsF) (n:Int) (h:CsIn c) (n1:-9223372036854775808≤n) (n2:n<9223372036854775808):ax Tryz.prog 6 [.agg (bw c),.d (.int .i64 n)] (fun r=>r=.d (.bool true)):=by
 refine bO Tryz.func6 Tryz.ntmps6 (rs:=[.tmp 4]) (Xb c n) ?_;have hi:=h.i;have hl:=uq hi;have htk:List.take 43 (bw c)=bw c:=cx aq;have h6:=yt (c:=c);have hSm:=GP c h.t hi;have hSd:=nU c;have hSd6:=Az c.t c.n c.coins
 cases hs:nf c with
 | false =>
  rw [hs] at hSm;generalize bw c=Q at *;simp [go_sem,hl,htk];refine ag hSm hSd ?_;simp [go_sem];refine ag eH aw ?_;simp [go_sem,ah];exact aa a9 rfl
 | true =>
 rw [hs] at hSm;obtain ⟨hk,hsl,hst,_⟩:=Ld h hs;have hCk:=BM c.t c.n c.coins hk.t (by have:=hk.cc.1;omega);by_cases hc0:bM c.t c.n c.coins=0
 case neg =>
  generalize bM c.t c.n c.coins=ck at *;generalize eS c.t c.n c.coins=S at *;generalize bw c=Q at *;simp [go_sem,hl,htk];refine ag hSm hSd ?_;simp [go_sem,hl,htk,h6];refine ag hCk hSd6 ?_;simp [go_sem,hc0];refine ag eH aw ?_;simp [go_sem,ah];exact aa a9 rfl
 obtain ⟨_,d2,d3,d4⟩:=T8 hc0;rw [hc0] at hCk;by_cases hn:n<0
 case pos =>
  generalize eS c.t c.n c.coins=S at *;generalize bw c=Q at *;simp [go_sem,hl,htk];refine ag hSm hSd ?_;simp [go_sem,hl,htk,h6];refine ag hCk hSd6 ?_;simp [go_sem,hn];refine ag eH aw ?_;simp [go_sem,ah];exact aa a9 rfl
 obtain ⟨s1,ok1,p1,f1,g1⟩:=wy h hs (c8 (n % 65536)) 178 (by have:=fX (n % 65536);omega) (dF _) ⟨aq,aq⟩ TW c.script aq h.sb;obtain ⟨s2,ok2,p2,f2,g2⟩:=wy h hs (c8 n) 177 (by have:=fX n;omega) (dF _) ⟨aq,aq⟩ TX c.script aq h.sb;have hN1:=DF (n % 65536) aq aq;have hN2:=DF n n1 n2;have h39:=E4 hi;have h40:(bw c)[40]?=some (.d (.ro 1 (c.start.map bD))):=nh hi 0;have g39:∀ h:39<(bw c).length,(bw c)[39]'h=AV.d (nb c.script):=fun h=>(List.getElem_of_getElem? h39).2;have g40:∀ h:40<(bw c).length,(bw c)[40]'h=AV.d (.ro 1 (c.start.map bD)):=fun h=>(List.getElem_of_getElem? h40).2;have hkd:=fun s start=>P2 c s start;obtain ⟨k,hkn⟩:∃ k:Nat,c.n=(k:Int):=⟨c.n.toNat,aq⟩;have hkl:k<c.t.ins.length:=aq;have hki:c.t.ins[k]?=some (c.t.ins[k]):=cm hkl;have hio:=h.t.2.2.1 _ (List.getElem_mem hkl);have e0:(bw c)[0]?=some (.d (.int .u32 (c.t.ver:Int))):=rfl;have e1:(bw c)[1]?=some (.d (.ro 35 (c.t.ins.map eI))):=rfl;have e3:(bw c)[3]?=some (.d (.int .u32 (c.t.lock:Int))):=rfl;have e4:(bw c)[4]?=some (.d (.int .i64 (k:Int))):=by rw [← hkn];rfl
 have e00:(bw c).head?=some (.d (.int .u32 (c.t.ver:Int))):=rfl;have l0:∀ h:0<(bw c).length,(bw c)[0]'h=_:=fun h=>(List.getElem_of_getElem? e0).2;have l1:∀ h:1<(bw c).length,(bw c)[1]'h=_:=fun h=>(List.getElem_of_getElem? e1).2;have l3:∀ h:3<(bw c).length,(bw c)[3]'h=_:=fun h=>(List.getElem_of_getElem? e3).2;have l4:∀ h:4<(bw c).length,(bw c)[4]'h=_:=fun h=>(List.getElem_of_getElem? e4).2
 have a1:ok1=true→p1.2=0→¬ (c.t.ver:Int)<2∧iP 31 ((c.t.ins[k].seq:Nat):Int)=false∧iP 22 ((c.t.ins[k].seq:Nat):Int)=false∧¬ ((c.t.ins[k].seq:Nat):Int) % 65536<n % 65536:=by
  intro q1 q2;obtain ⟨_,sg,msg,out,z,_⟩:=(g1 q1).2.1 q2;have:=G0 (x:=xK c sg msg out) aq aq z
  have hsq:(xK c sg msg out).seq=((c.t.ins[k].seq:Nat):Int):=by
   show (((c.t.ins[c.n.toNat]?.map Ip.seq).getD 0:Nat):Int)=_;rw [hkn,Int.toNat_natCast,hki];rfl
  rw [hsq] at this;exact this
 have a2:ok2=true→p2.2=0→n≤(c.t.lock:Int)∧(n<500000000 ↔ (c.t.lock:Int)<500000000):=by
  intro q1 q2;obtain ⟨_,sg,msg,out,z,_⟩:=(g2 q1).2.1 q2;exact G1 (x:=xK c sg msg out) n1 n2 z
 have b1:ok1=true→ax Tryz.prog 17 [.agg (bw c),.d (nb s1),.d (.ro 1 (c.start.map bD))] (fun v=>v=kE p1):=fun q=>(g1 q).1;have b2:ok2=true→ax Tryz.prog 17 [.agg (bw c),.d (nb s2),.d (.ro 1 (c.start.map bD))] (fun v=>v=kE p2):=fun q=>(g2 q).1;clear g1 g2;generalize c.t.ins[k]=i at *;obtain ⟨cl1,er1⟩:=p1;obtain ⟨cl2,er2⟩:=p2;simp only at a1 a2;unfold kE at b1 b2;simp only at b1 b2;have i16:=CQ n n1 n2;generalize hQ:bw c=Q at *;generalize eS c.t c.n c.coins=S at *;generalize bz (c8 (n % 65536))=w1 at *;generalize bz (c8 n)=w2 at *;have w1l:(pJ w1).length=2:=rfl;have w1t:List.take 2 (pJ w1)=pJ w1:=rfl;have w2l:(pJ w2).length=2:=rfl;have w2t:List.take 2 (pJ w2)=pJ w2:=rfl;simp [go_sem,hl,htk];refine ag hSm hSd ?_;simp [go_sem,hl,htk,h6];refine ag hCk hSd6 ?_;simp [go_sem,hn];refine cf [0,1,3,5,6,7] [(2,[]),(4,[]),(8,[9,10,11,12,13])] 3 (k:=14) ?_;intro G hG;simp [go_sem,hl,htk,h39,g39,i16];refine ag hN1 a9 ?_;simp [go_sem,hl,htk,h39,g39,w1l,w1t];refine bN [608] f1 rfl (aj (E7 rfl aw) (aj (.deep trivial) aD)) ?_;simp [go_sem,aE];refine hG _ _ ?_;clear hG G;simp [go_sem];refine cf [0,2,4,5,6] [(1,[]),(3,[]),(7,[8,9,10,11,12])] 3 (k:=13) ?_;intro G hG;simp [go_sem,hl,htk,h39,g39];refine ag hN2 a9 ?_;simp [go_sem,hl,htk,h39,g39,w2l,w2t];refine bN [1024] f2 rfl (aj (E7 rfl aw) (aj (.deep trivial) aD)) ?_;simp [go_sem,aE];refine hG _ _ ?_;clear hG G f1 f2 hN1 hN2
 cases ok1 with
 | false =>
  simp [go_sem];refine ag eH aw ?_;simp [go_sem,ah];exact aa a9 rfl
 | true =>
 cases ok2 with
 | false =>
  simp [go_sem];refine ag eH aw ?_;simp [go_sem,ah];exact aa a9 rfl
 | true =>
 have b1:=b1 rfl;have b2:=b2 rfl;have a1:=a1 rfl;have a2:=a2 rfl;have hd1:=hkd s1 c.start;have hd2:=hkd s2 c.start;simp [go_sem,hl,htk,h40,g40];refine ag b1 hd1 ?_;by_cases z1:er1=0
 ·subst z1;obtain ⟨y1,y2,y3,y4⟩:=a1 rfl;have u1:=TY hio.2.2 y2;have u2:=TZ hio.2.2 y3;have u3:Go.bits .and .u32 (i.seq:Int) 65535=(i.seq:Int) % 65536:=by rw [T0 hio.2.2];omega
  have w1:IntKind.i64.wrap ((i.seq:Int) % 65536)=(i.seq:Int) % 65536:=IntWalk.i64_in _ aq
  have h33:(eI i)[33]?=some (.int .u32 (i.seq:Int)):=by
   unfold eI;rw [dn (by rw [gZ,hio.1];omega),gZ,hio.1];rfl
  simp [go_sem,hl,htk,e0,e00,e1,e4,l0,l1,l4,hki,h33,y1,u1,u2,u3,w1,i16,y4];simp [go_sem,hl,htk,h40,g40];refine ag b2 hd2 ?_;by_cases z2:er2=0
  ·subst z2;obtain ⟨x1,x2⟩:=a2 rfl;have hlk:=h.t.2.1;have wl:IntKind.i64.wrap (c.t.lock:Int)=(c.t.lock:Int):=IntWalk.i64_in _ aq;simp [go_sem,hl,htk,e3,l3,wl];refine ag eH aw ?_;simp [go_sem,x1,x2,ah];exact aa a9 rfl
  ·simp [go_sem,z2,hl,htk,e3,l3];refine ag eH aw ?_;simp [go_sem,z2,ah];exact aa a9 rfl
 ·simp [go_sem,z1,hl,htk,h40,g40];refine ag b2 hd2 ?_;by_cases z2:er2=0
  ·subst z2;obtain ⟨x1,x2⟩:=a2 rfl;have hlk:=h.t.2.1;have wl:IntKind.i64.wrap (c.t.lock:Int)=(c.t.lock:Int):=IntWalk.i64_in _ aq;simp [go_sem,hl,htk,e3,l3,wl];refine ag eH aw ?_;simp [go_sem,x1,x2,ah];exact aa a9 rfl
  ·simp [go_sem,z2,hl,htk,e3,l3];refine ag eH aw ?_;simp [go_sem,z2,ah];exact aa a9 rfl
end Go.Proofs.YtmfnimjnneflnaaGreat
