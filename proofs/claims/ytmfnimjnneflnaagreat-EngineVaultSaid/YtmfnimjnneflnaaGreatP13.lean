/-
 Part 14 of what the claim rests on.
-/
import Derived.Test.YtmfnimjnneflnaaGreatP12
set_option linter.unusedVariables false
set_option linter.unusedSimpArgs false
set_option maxRecDepth 100000
set_option maxHeartbeats 16000000
namespace Go.Proofs.YtmfnimjnneflnaaGreat
open Go.Am Go.Sha
theorem Xb(x:Rx):mn x [81,99,82,103,83,104,82,156] [] 0=([],0):=by kernel_rfl
theorem Xc(x:Rx):mn x [81,81] [] 0=([],25):=by kernel_rfl
theorem Xd(x:Rx):mn x [0,99,255,104,81] [] 0=([],10):=by kernel_rfl
end Go.Proofs.YtmfnimjnneflnaaGreat
namespace Go.Sha
open Go.Proofs.YtmfnimjnneflnaaGreat Go.Am
structure CsF where
 t:Tn
 n:Int
 coins:List (Nat×List Nat)
 inner:List Nat
 path:List (List Nat)
 script:List Nat
 start:List (List Nat)
 annex:List Nat
 bud:Int
def qk(c:CsF):List AV:=[.d (.ro 1 (c.start.map bC)),.d (nb c.annex),.d (.int .i64 c.bud)]
def bZ(c:CsF):List AV:=eS c.t c.n c.coins++(aL c.inner (.d (cH c.path)) (.d (nb c.script))++qk c)
def nc(c:CsF):Bool:=qV c.t c.coins&&(decide (c.script.length≤300)&&(decide (c.path.length≤12)&&(decide (c.start.length≤12)&&(decide (c.annex.length≤300)&&c.start.all fun x=>decide (x.length≤600)))))
end Go.Sha
namespace Go.Proofs.YtmfnimjnneflnaaGreat
open Go.Am Go.Sha
theorem sf{inner:List Nat}(hi:inner.length=32)(a b:AV):(aL inner a b).length=34:=by simp[aL,am,hi]
theorem uG{c:CsF}(hi:c.inner.length=32):(bZ c).length=43:=by simp[bZ,eS,sf hi,qk]
theorem GV{c:CsF}(hi:c.inner.length=32):List.drop 6 (bZ c)=aL c.inner (.d (cH c.path)) (.d (nb c.script))++qk c:=rfl
theorem yI{c:CsF}:List.take 6 (bZ c)=eS c.t c.n c.coins:=rfl
theorem AS{c:CsF}(hi:c.inner.length=32):List.take 34 (List.drop 6 (bZ c))=aL c.inner (.d (cH c.path)) (.d (nb c.script)):=by
 rw[GV hi,List.take_append,sf hi,cA (by rw[sf hi];omega)];simp
theorem nf{c:CsF}(hi:c.inner.length=32)(k:Nat):(bZ c)[k+40]?=(qk c)[k]?:=by
 rw[bZ,dz (by simp[eS]),dz (by simp[eS,sf hi])];congr 1;simp[eS,sf hi]
theorem AU{inner:List Nat}(hi:inner.length=32)(a b:AV)(l:List AV)(k:Nat)(hk:k<2):(aL inner a b++l)[k+32]?=[a,b][k]?:=by
 rw[List.getElem?_append_left (by rw[sf hi];omega),aL,dz (by rw[am,hi];omega),am,hi,Nat.add_sub_cancel]
theorem O4{c:CsF}(hi:c.inner.length=32):(bZ c)[38]?=some (.d (cH c.path)):=AU (l:=qk c) hi _ _ 0 aq
theorem O5{c:CsF}(hi:c.inner.length=32):(bZ c)[39]?=some (.d (nb c.script)):=AU (l:=qk c) hi _ _ 1 aq
theorem uH(N:Nat)(c:CsF):∀v,v∈bZ c→v.low1 N:=by
 intro v hv;simp only[bZ,eS,aL,cb,qk,cL,et,List.mem_nil_iff,or_false,List.mem_map]at hv;rcases hv with (rfl|rfl|rfl|rfl|rfl|rfl)|(⟨x,_,rfl⟩|rfl|rfl)|rfl|rfl|rfl<;>trivial
theorem nS(c:CsF):∀v,v∈[AV.agg (bZ c)]→v.deep:=by
 intro v hv;simp only[et,List.mem_nil_iff,or_false]at hv;subst hv;intro v hv;simp only[bZ,eS,aL,cb,qk,cL,et,List.mem_nil_iff,or_false,List.mem_map]at hv;rcases hv with (rfl|rfl|rfl|rfl|rfl|rfl)|(⟨x,_,rfl⟩|rfl|rfl)|rfl|rfl|rfl<;>trivial
theorem GW(c:CsF)(ht:c.t.ok)(hi:c.inner.length=32):ay Tryz.prog 13 [.agg (bZ c)] (fun r=>r=.d (.bool (nc c))):=by
 refine bL Tryz.func13 Tryz.ntmps13 (rs:=[.tmp 2]) (nS c) ?_;have hl:=uG hi;have h6:=yI (c:=c);have h38:=O4 hi;have h39:=O5 hi;have h40:(bZ c)[40]?=some (.d (.ro 1 (c.start.map bC))):=nf hi 0;have h41:(bZ c)[41]?=some (.d (nb c.annex)):=nf hi 1;have hSm:=Gl c.t c.n c.coins ht;have hSd:=AO c.t c.n c.coins;have hlow:=fun N=>uH N c;have htk:List.take 43 (bZ c)=bZ c:=cA aq;generalize hX:nc c=X;unfold nc at hX;generalize eS c.t c.n c.coins=S at *;generalize bZ c=Q at *;simp[go_sem,hl,htk,h6,h38,h39,h40,h41];refine ag hSm hSd ?_;generalize qV c.t c.coins=W at *
 cases W
 ·simp at hX;subst hX;simp[go_sem];exact aa a9 rfl
 by_cases c1:c.script.length≤300
 case neg =>
  have i1:300<(c.script.length:Int):=aq;have:X=false:=by rw[←hX];simp[c1]
  subst this;simp[go_sem,i1,h38,h39,h40,h41,nb];exact aa a9 rfl
 have i1:¬ 300<(c.script.length:Int):=aq;by_cases c2:c.path.length≤12
 case neg =>
  have i2:12<(c.path.length:Int):=aq;have:X=false:=by rw[←hX];simp[c2]
  subst this;simp[go_sem,i1,i2,h38,h39,h40,h41,nb,cH];exact aa a9 rfl
 have i2:¬ 12<(c.path.length:Int):=aq;by_cases c3:c.start.length≤12
 case neg =>
  have i3:12<(c.start.length:Int):=aq;have:X=false:=by rw[←hX];simp[c3]
  subst this;simp[go_sem,i1,i2,i3,h38,h39,h40,h41,nb,cH];exact aa a9 rfl
 have i3:¬ 12<(c.start.length:Int):=aq;by_cases c4:c.annex.length≤300
 case neg =>
  have i4:300<(c.annex.length:Int):=aq;have:X=false:=by rw[←hX];simp[c4]
  subst this;simp[go_sem,i1,i2,i3,i4,h38,h39,h40,h41,nb,cH];exact aa a9 rfl
 have i4:¬ 300<(c.annex.length:Int):=aq;have e:X=c.start.all fun x=>decide (x.length≤600):=by rw[←hX];simp[c1,c2,c3,c4]
 simp[go_sem,i1,i2,i3,i4,h38,h39,h40,h41,nb,cH]
 refine ar (fun k:Nat=>⟨[(1,.ptr 0 0 0 1),(3,.d (.int .i64 (k:Int)))],[(0,⟨36,43,[Q]⟩)],4000⟩)
  (fun k=>k≤c.start.length∧((c.start.drop k).all fun x=>decide (x.length≤600))=X) (fun k=>c.start.length-k) 0 ⟨aq,e.symm⟩ (by
   simp[aA,ai,fv,lk,AV.low,AV.low1,hl]
   exact hlow _) ?_
 rintro k⟨hk,ho⟩;have g40:∀h:40<Q.length,Q[40]'h=AV.d (.ro 1 (c.start.map bC)):=fun h=>(List.getElem_of_getElem? h40).2;simp[go_sem,g40,hl];refine⟨fun h=>?_,fun h=>?_⟩
 ·obtain⟨o,ho1,hd⟩:=bg (l:=c.start) (k:=k) aq;have w3:=ax (k:=k) aq;have hrow:=IL ho1;by_cases hx:o.length≤600
  ·have j1:¬ 600<(o.length:Int):=aq;have j2:(o.length:Int)≤600:=aq;simp[go_sem,ho1,hrow,bC,nb,j1,j2,w3,g40,hl];refine ao (k+1) ⟨aq,fw hd ho (by simpa using hx)⟩ aq ?_;simp[aA,ai,fv,lk,AV.low,AV.low1,hl];exact hlow _
  ·have j1:600<(o.length:Int):=aq;have j2:¬(o.length:Int)≤600:=aq;have:=ej hd ho (by simpa using hx);subst this;simp[go_sem,ho1,hrow,bC,nb,j1,j2,g40,hl];exact aa a9 rfl
 ·have hkl:k=c.start.length:=aq;subst hkl;have:=fx ho;subst this;simp[go_sem];exact aa a9 rfl
end Go.Proofs.YtmfnimjnneflnaaGreat
namespace Go.Sha
open Go.Proofs.YtmfnimjnneflnaaGreat Go.Am
theorem uI(op:Nat)(r:List Nat):im (op::r)=if 0<op∧op≤75 then some (op,1)else if op=76 then(match r with|a::_=>some (a,2) | []=>none)else if op=77 then(match r with|a::b::_=>some (a+256*b,3)|_=>none)else some (0,1):=rfl
theorem GX{t:List Nat}(h:t.length≤65535):eN (bo t)=some t:=by
 have g:∀x:List Nat,x.length≤65535→eN (fl x)=some x:=fun x hx=>by
  unfold eN fl;rw[if_pos];simp only
  split
  ·omega
  ·split<;>omega
 match t with
 |[]=>rfl
 | [c] =>
  rw[show bo [c]=if 1≤c∧c≤16 then(80+c,[])else if c=129 then(79,[])else fl [c]from rfl]
  split
  ·rename_i hc;have n1:¬ 80+c≤77:=aq;have n2:¬ 80+c=79:=aq;have n3:80<80+c∧80+c≤96:=aq;show(if 80+c≤77 then some []else if 80+c=79 then some [129]else if 80<80+c∧80+c≤96 then some [80+c-80]else none)=_;rw[if_neg n1,if_neg n2,if_pos n3,Nat.add_sub_cancel_left]
  ·split
   ·rename_i hc;subst hc;rfl
   ·exact g [c] aw
 |a::b::r=>exact g _ h
theorem O6{t:List Nat}:(bo t).1≤96:=by
 have g:∀x:List Nat,(fl x).1≤96:=fun x=>by
  unfold fl;simp only
  split
  ·omega
  ·split<;>omega
 unfold bo
 split
 ·split
  ·simp only;omega
  ·split
   ·simp only;omega
   ·exact g _
 ·exact g _
theorem GY{t:List Nat}(x:Rx)(r:Rn)(h:t.length≤65535)(hi:gG r=0):mj x (bo t) r=dB t r:=by
 have hp:=GX h;have ho:=O6 (t:=t);have hs:rQ (bo t)=true:=by unfold rQ;rw[hp];simp
 have hb:mT (bo t).1 r=none:=by
  unfold mT;rw[if_neg aq,if_neg aq,if_neg aq]
 unfold mj;rw[hp,hb,if_neg aw,hs];simp[hi]
theorem O7{op:Nat}(x:Rx)(r:Rn)(h:mh op=true)(h2:104<op)(hi:gG r=0):mj x (op,[]) r=pQ x op r:=by
 have hp:eN (op,[])=none:=by
  unfold eN;rw[if_neg (by simp only;omega),if_neg (by simp only;omega),if_neg (by simp only;omega)]
 have hb:mT op r=none:=by
  unfold mT;rw[if_neg aq,if_neg aq,if_neg aq]
 unfold mj;rw[hp];simp only[hb,h];simp[hi]
theorem K7{s rest:List Nat}{a:Nat}{w:Wd}(hb:w.2.length≤65535)(hw:(da w).2=true)(hd:s.drop a=(da w).1++rest):mS s a=some (w,a+(da w).1.length):=by
 obtain⟨op,b⟩:=w
 have ht:∀(n h:Nat)(jz:List Nat),im (s.drop a)=some (n,h)→s.drop a=jz++(b++rest)→jz.length=h→b.length=n→(s.drop a).headD 0=op→mS s a=some ((op,b),a+h+n):=by
  intro n h jz h1 h2 h3 h4 h5;unfold mS;rw[h1];simp only;rw[if_neg (by rw[h2];simp only[b_];omega),h5]
  have:((s.drop a).drop h).take n=b:=by
   rw[h2,←h3,List.drop_left,←h4,List.take_left]
  rw[this]
 unfold da at hw hd⊢;by_cases c1:0<op∧op≤75
 ·rw[if_pos c1]at hw hd⊢;simp only[decide_eq_true_eq]at hw;have e:s.drop a=op::(b++rest):=hd;have:=ht op 1 [op] (by rw[e,uI,if_pos c1]) e rfl hw (by rw[e];rfl);rw[this];simp only[List.length_cons];congr 2;omega
 ·rw [if_neg c1] at hw hd ⊢;by_cases c2:op=76
  ·subst c2;rw[if_pos rfl]at hw hd⊢;simp only[decide_eq_true_eq]at hw;have e8:t8 b.length=b.length:=PD aq;have e:s.drop a=[76,b.length]++(b++rest):=by rw[hd];simp[e8]
   have:=ht b.length 2 [76,b.length] (by rw[e];rfl) e rfl rfl (by rw[e];rfl);rw[this];simp only[List.length_cons];congr 2;omega
  ·rw[if_neg c2]at hw hd⊢;by_cases c3:op=77
   ·subst c3;rw[if_pos rfl]at hw hd⊢;simp only[decide_eq_true_eq]at hw;have e:s.drop a=[77,t8 b.length,t8 (d0 8 b.length)]++(b++rest):=by rw[hd];simp
    have e8:t8 b.length+256*t8 (d0 8 b.length)=b.length:=by
     unfold t8 d0;simp only[Nat.reducePow];omega
    have:=ht b.length 3 [77,t8 b.length,t8 (d0 8 b.length)] (by rw[e];show some (t8 b.length+256*t8 (d0 8 b.length),3)=_;rw[e8]) e rfl rfl (by rw[e];rfl);rw[this];simp only[List.length_cons];congr 2;omega
   ·rw[if_neg c3]at hw hd⊢;simp only[decide_eq_true_eq]at hw;have hb0:b=[]:=List.eq_nil_of_length_eq_zero hw;subst hb0;have e:s.drop a=[op]++([]++rest):=by rw[hd];simp
    have:=ht 0 1 [op] (by rw[e,List.cons_append,uI,if_neg c1,if_neg c2,if_neg c3]) e rfl rfl (by rw[e];rfl);rw[this];rfl
theorem K8{r:Rn}(h:(jD r).e=0):r.e=0:=by
 by_cases hr:r.e=0
 ·exact hr
 ·exfalso;have f:∀(x:Int)(q:Rn),q.e≠0→(az x q).e≠0:=fun x q hq=>by unfold az;rw[if_neg hq];exact hq
  revert h;unfold jD;simp only
  split
  ·split
   ·exact f _ _ hr
   ·exact f _ _ (f _ _ hr)
  ·split
   ·exact hr
   ·exact f _ _ hr
theorem AW{x:Rx}{s rest:List Nat}{f a:Nat}{r:Rn}{w:Wd}(h:(jD (jf x s (f+1) a r)).e=0)(hb:w.2.length≤65535)(hw:(da w).2=true)(hd:s.drop a=(da w).1++rest) :
  r.e=0∧(jD (jf x s f (a+(da w).1.length) (mj x w r))).e=0∧jD (jf x s (f+1) a r)=jD (jf x s f (a+(da w).1.length) (mj x w r)):=by
 have hn:=K7 hb hw hd
 have hl:0<(da w).1.length:=by
  unfold da
  split
  ·exact Nat.succ_pos _
  ·split
   ·exact Nat.succ_pos _
   ·split
    ·exact Nat.succ_pos _
    ·exact Nat.succ_pos _
 have ha:a<s.length:=by
  have:=congrArg List.length hd;rw[e_,b_]at this;omega
 rw[jf]at h⊢;by_cases hr:r.e=0
 ·rw[if_pos ⟨ha,hr⟩,hn]at h⊢;exact⟨hr,h,rfl⟩
 ·rw[if_neg (fun q=>hr q.2)]at h;exact absurd (K8 h) hr
theorem GZ{x:Rx}{s:List Nat}{start:List (List Nat)}{bud:Int}(h:(mn x s start bud).2=0):(jD (jf x s (s.length+1) 0 (az (fu start []) ⟨start,[],[],bud,[],0⟩))).e=0:=by
 unfold mn at h;simp only at h
 split at h
 ·assumption
 ·exact h
theorem Xe{k e:Int}{m a:List a8}{br:List Bool}{bud:Int}{cl:List (Int×Int)}(h:(az k ⟨m,a,br,bud,cl,e⟩).e=0):az k ⟨m,a,br,bud,cl,e⟩=⟨m,a,br,bud,cl,0⟩∧k=0:=by
 unfold az at h⊢
 split at h
 ·rename_i he;rw[if_pos he];simp only at h;subst h;exact⟨rfl,rfl⟩
 ·exact absurd h ‹_›
theorem Qb{b:a8}{r:Rn}(h:(dB b r).e=0):r.e=0∧dB b r={ r with main:=r.main++[b] }:=by
 have he:r.e=0:=by
  unfold dB at h
  split at h
  ·assumption
  ·exact h
 refine⟨he,?_⟩;unfold dB at h⊢;rw[if_pos he]at h⊢
 split
 ·rfl
 ·rename_i hc;exfalso;rw[if_neg hc]at h;unfold az at h;rw[if_pos he]at h;exact hc h
end Go.Sha
namespace Go.Sha
open Go.Proofs.YtmfnimjnneflnaaGreat Go.Am
def xK(c:CsF)(sg:a8→a8→a8→Bool)(msg:a8)(out:a8→a8×Int):Rx :=
 ⟨bu,dY,sg,msg,(c.t.lock:Int),(c.t.ver:Int),(((c.t.ins[c.n.toNat]?.map Ip.seq).getD 0:Nat):Int),OT c.t c.n.toNat,uU c.t c.n c.coins,fun s o0 o1 bk=>lW c.t c.n c.coins o0 o1 bk (out s).1 (out s).2⟩
def uY(c:CsF)(x:Rx)(s:List Nat)(start:List (List Nat)):List (Int×Int)×Int:=if bM c.t c.n c.coins≠0∨1000<s.length then([],1)else mn x s start c.bud
def lX(p:List (Int×Int)×Int):AV:=.tup [.d (.ro 2 (p.1.map cJ)),.d (.int .i64 p.2)]
end Go.Sha
namespace Go.Proofs.YtmfnimjnneflnaaGreat
open Go.Am Go.Sha
structure CsOk(c:CsF):Prop where
 t:Sm c.t
 cc:Y6 c.coins
 cb:∀o,o∈c.coins→bytes o.2∧o.1<18446744073709551616
 ob:∀o,o∈c.t.outs→bytes o.2
 i:c.inner.length=32
 ib:bytes c.inner
 s:c.script.length≤1000
 p:∀p,p∈c.path→p.length=32
 pl:c.path.length≤1000
 a:c.annex.length≤1000
 b:gi c.bud
theorem Ub(t:Tn)(n:Int)(coins:List (Nat×List Nat))(inner:List Nat)(path:List (List Nat))(s annex:List Nat)(start:List a8)(bud:Int)(ht:Sm t)(hc:coins.length≤1000)(hi:inner.length=32)(h:bM t n coins=1) :
  ay Tryz.prog 53 [.agg (eS t n coins),cM inner path s,.d (.ro 1 (start.map bC)),.d (nb annex),.d (.int .i64 bud)] (fun v=>v=.tup [.d (.ro 2 []),.d (.int .i64 1)]):=by
 have hck:=kX t n coins ht hc;have hlf:(aL inner (AV.d (cH path)) (AV.d (nb s))).length=34:=sf hi _ _;have hlt:List.take 34 (aL inner (AV.d (cH path)) (AV.d (nb s)))=aL inner (AV.d (cH path)) (AV.d (nb s)):=cA (by rw[hlf];omega);have hdS:∀v,v∈[AV.agg (eS t n coins)]→v.deep:=AO t n coins;rw[h]at hck;simp only[eS]at hck hdS
 refine bL Tryz.func53 Tryz.ntmps53 (rs:=[.tmp 10,.tmp 11]) (by
  intro v hv;simp at hv;rcases hv with rfl|rfl|rfl|rfl|rfl
  ·simp[AV.deep,AV.deep1,eS]
  ·exact cN inner path s _ (List.mem_singleton.2 rfl)
  ·trivial
  ·trivial
  ·trivial) ?_
 simp[go_sem,cM,eS,hlf,hlt];refine ag hck hdS ?_;simp[go_sem,ah];exact dE (cs':=[.d (.ro 2 []),.d (.int .i64 1)]) (ap (ak (.nil 2)) (ap (be trivial) bA)) rfl a9 rfl
theorem K9(c:CsF)(hk:CsOk c){sg:a8→a8→a8→Bool}{out:a8→a8×Int}(hsg:O3 sg)(hout:AQ c.inner c.path out)(s:List Nat)(hs:bytes s)(hl:s.length≤100000):∃msg:a8,∀start:List (List Nat),StOk start [] →
  ay Tryz.prog 53 [.agg (eS c.t c.n c.coins),cM c.inner c.path s,.d (.ro 1 (start.map bC)),.d (nb c.annex),.d (.int .i64 c.bud)] (fun v=>v=lX (uY c (xK c sg msg out) s start)):=by
 by_cases hn:0≤c.n
 ·obtain⟨n,hn'⟩:∃n:Nat,c.n=(n:Int):=⟨c.n.toNat,aq⟩;obtain⟨msg,hx⟩:=T9 ⟨c.t,n,c.coins,c.inner,c.path,s,c.annex⟩ ⟨hk.t,hk.cc,hk.cb,hk.ob,hk.i,hk.ib,hl,hk.p,hk.pl,hk.a⟩ hsg hout;refine⟨msg,fun start hst=>?_⟩
  have hr:=TS ⟨c.t,n,c.coins,c.inner,c.path,s,c.annex⟩ (xK c sg msg out) start c.bud hk.t (by have:=hk.cc.1;show c.coins.length≤1000;omega) hk.i hs hst hk.b (fun hc _=>by
   have:=hx hc (xK c sg msg out) (by unfold xK;rw[hn'];rfl)
   exact this) (fun s o0 o1 bk=>wM _ _ _ _ _ _ _ _)
  have e:GK ⟨c.t,n,c.coins,c.inner,c.path,s,c.annex⟩ (xK c sg msg out) start c.bud=lX (uY c (xK c sg msg out) s start):=by
   unfold GK uY;rw[hn'];simp only
   split
   ·rfl
   ·rfl
  rw[e,←hn']at hr;exact hr
 ·have hc:bM c.t c.n c.coins=1:=by
   rcases ru c.t c.n c.coins with h|h
   ·exfalso;unfold bM at h
    split at h
    ·cases h
    ·rename_i hq;simp only[not_or,Int.not_lt,Int.not_le]at hq;omega
   ·exact h
  refine⟨[],fun start hst=>?_⟩;have:=Ub c.t c.n c.coins c.inner c.path s c.annex start c.bud hk.t (by have:=hk.cc.1;omega) hk.i hc;have e:uY c (xK c sg [] out) s start=([],1):=if_pos (.inl (by rw[hc];omega));rw[e];exact this
theorem rC{inner:List Nat}(hi:inner.length=32)(a b v:AV):(aL inner a b).set 33 v=aL inner a v:=by
 unfold aL;rw[List.set_append_right _ _ (by rw[am,hi];omega),am,hi];rfl
theorem wO{inner:List Nat}(hi:inner.length=32)(a b v:AV):List.take 33 (aL inner a b)++v::List.drop 34 (aL inner a b)=aL inner a v:=by
 rw[←rC hi a b v,List.set_eq_take_append_cons_drop,if_pos (by rw[sf hi];omega)]
theorem Qc(c:CsF)(s:List Nat)(start:List (List Nat)):∀v,v∈[AV.agg (bZ c),.d (nb s),.d (.ro 1 (start.map bC))]→v.deep:=by
 intro v hv;simp only[et,List.mem_nil_iff,or_false]at hv;rcases hv with rfl|rfl|rfl
 ·exact nS c _ aw
 ·trivial
 ·trivial
theorem AX(c:CsF)(hi:c.inner.length=32)(s:List Nat)(start:List (List Nat))(p:List (Int×Int)×Int)
  (h:ay Tryz.prog 53 [.agg (eS c.t c.n c.coins),cM c.inner c.path s,.d (.ro 1 (start.map bC)),.d (nb c.annex),.d (.int .i64 c.bud)] (fun v=>v=lX p)) :
  ay Tryz.prog 17 [.agg (bZ c),.d (nb s),.d (.ro 1 (start.map bC))] (fun v=>v=lX p):=by
 refine bL Tryz.func17 Tryz.ntmps17 (rs:=[.tmp 6,.tmp 7]) (Qc c s start) ?_;have hl:=uG hi;have h6:=yI (c:=c);have h34:=AS hi;have h41:(bZ c)[41]?=some (.d (nb c.annex)):=nf hi 1;have h42:(bZ c)[42]?=some (.d (.int .i64 c.bud)):=nf hi 2;have g41:∀h:41<(bZ c).length,(bZ c)[41]'h=AV.d (nb c.annex):=fun h=>(List.getElem_of_getElem? h41).2;have g42:∀h:42<(bZ c).length,(bZ c)[42]'h=AV.d (.int .i64 c.bud):=fun h=>(List.getElem_of_getElem? h42).2;have hSd:=AO c.t c.n c.coins;have hlf:=sf hi (.d (cH c.path)) (.d (nb c.script));have hls:=rC hi (.d (cH c.path)) (.d (nb c.script)) (.d (nb s));have hls2:=wO hi (.d (cH c.path)) (.d (nb c.script)) (.d (nb s));have hlf2:=sf hi (.d (cH c.path)) (.d (nb s));have htk2:List.take 34 (aL c.inner (.d (cH c.path)) (.d (nb s)))=aL c.inner (.d (cH c.path)) (.d (nb s)):=cA aq
 have hdd:∀v,v∈[.agg (eS c.t c.n c.coins),cM c.inner c.path s,.d (.ro 1 (start.map bC)),.d (nb c.annex),.d (.int .i64 c.bud)]→v.deep:=by
  intro v hv;simp only[et,List.mem_nil_iff,or_false]at hv;rcases hv with rfl|rfl|rfl|rfl|rfl
  ·exact hSd _ aw
  ·exact cN c.inner c.path s _ (List.mem_singleton.2 rfl)
  ·trivial
  ·trivial
  ·trivial
 have zl:(aL z32 .nil .nil).length=34:=rfl;have zd:List.drop 34 (aL z32 .nil .nil)=[]:=rfl;have htk:List.take 43 (bZ c)=bZ c:=cA aq;unfold cM at h hdd;generalize eS c.t c.n c.coins=S at *;generalize bZ c=Q at *;generalize aL c.inner (.d (cH c.path)) (.d (nb c.script))=L at *;generalize aL c.inner (.d (cH c.path)) (.d (nb s))=M at *;simp[go_sem,hl,htk,h6,h34,g41,g42,h41,h42,hlf,hls,hls2,hlf2,htk2,zl,zd];refine ag h hdd ?_;unfold lX;simp[go_sem,ah];exact aa a9 rfl
theorem G0(ws:List Wd)(hw:∀w,w∈ws→qN w)(hl:ws.length≤10000):cj Tryz.prog 51 0 [] [.d (.ro 2 (ws.map pJ))]
  (fun r hp'=>((eu [] ws).2=0∧r=.tup [.own 1000 0 (eu [] ws).1.length (eu [] ws).1.length,.d (.int .i64 0)]∧lk 1000 hp'=some ⟨5,1,rb (eu [] ws).1⟩)∨((eu [] ws)=([],1)∧r=.tup [.nil,.d (.int .i64 1)])):=by
 refine al Tryz.func51 (by kernel_rfl) rfl Tryz.ntmps51 (rs:=[.tmp 2,.tmp 3]) rfl (dV rfl) (by decide) ?_;generalize hB:eu [] ws=B;simp only[go_sem,Nat.reduceEqDiff,Nat.reduceAdd,Nat.reduceLT,↓reduceIte,Nat.reduceMul]
 refine ar (fun t:Nat×List Nat=>⟨[(4,.own 1000 0 t.2.length t.2.length),(9,.d (.ro 2 (ws.map pJ))),(10,.d (.int .i64 (ws.length:Int))),(11,.d (.int .i64 (t.1:Int)))],[(1000,⟨5,1,rb t.2⟩)],1001⟩)
  (fun t=>t.1≤ws.length∧t.2.length≤60003*t.1∧eu t.2 (ws.drop t.1)=B) (fun t=>ws.length-t.1) (0,[]) ⟨aq,aw,hB⟩ (by
   simp[aA,ai,fv,lk,AV.low,AV.low1,rb]) ?_
 clear hB;rintro⟨k,out⟩⟨hk,ho,hB⟩;simp only at hk ho hB;simp only[go_sem,Nat.reduceEqDiff,Nat.reduceAdd,Nat.reduceLT,↓reduceIte,Nat.reduceMul];refine⟨fun h=>?_,fun h=>?_⟩
 ·obtain⟨w,hw1,hd⟩:=bg (l:=ws) (k:=k) aq;obtain⟨q1,q2⟩:=hw w (cr hw1);rw[hd]at hB;simp only[eu]at hB;have hll:=pK w;have hrow:pJ w=[.int .u8 (w.1:Int),nb w.2]:=rfl;simp[go_sem,hw1,hrow];refine ag (IJ w q1 q2) (by intro v hv;simp at hv;subst hv;exact tp w) ?_
  cases hok:(da w).2 with
  |false =>
   simp[go_sem,ah];rw[hok,if_neg aw]at hB;exact hB.symm
  |true =>
   rw[hok,if_pos rfl]at hB;have w3:=ax (k:=k) aq;generalize(da w).1=L at *;simp[go_sem,nb,cF,aG,iJ,w3];refine⟨aq,?_⟩;refine ao (k+1,out++L) ⟨by simp only;omega,by simp only[b_];omega,hB⟩ (by simp only;omega) ?_;simp[aA,ai,fv,lk,AV.low,AV.low1];exact bm _ _
 ·rw[dg aq]at hB;simp only[eu]at hB;simp[go_sem,ah];rw[←hB];exact⟨rfl,rfl,rfl⟩
theorem AY:∀(ws:List Wd)(out:List Nat),(∀w,w∈ws→qN w)→(eu out ws).1.length≤out.length+60003*ws.length
 |[],out,_=>by simp[eu]
 |w::r,out,h=>by
  have hw:=(h w aw).1;have hl:=pK w;unfold eu
  split
  ·have:=AY r (out++(da w).1) (fun w hw=>h w (by simp[hw]));simp only[b_,List.length_cons]at this⊢;omega
  ·exact Nat.zero_le _
theorem Fe:∀(ws:List Wd)(out:List Nat),(eu out ws).2=0∨eu out ws=([],1)
 |[],out=>.inl rfl
 |w::r,out=>by
  unfold eu
  split
  ·exact Fe r _
  ·exact .inr rfl
def o4(ws:List Wd)(rest:List Nat):List Nat×Bool:=((eu [] ws).1++rest,decide ((eu [] ws).2=0∧(eu [] ws).1.length+rest.length≤300))
theorem AZ(ws:List Wd)(rest:List Nat)(hw:∀w,w∈ws→qN w)(hl:ws.length≤10000)(hr:rest.length≤100000):ay Tryz.prog 15 [.d (.ro 2 (ws.map pJ)),.d (nb rest)] (fun r=>r=.tup [.d (nb (o4 ws rest).1),.d (.bool (o4 ws rest).2)]):=by
 refine bL Tryz.func15 Tryz.ntmps15 (rs:=[.tmp 4,.tmp 5]) a9 ?_;have hbl:=AY ws [] hw;have h01:=Fe ws [];have hown:=G0 ws hw hl;unfold o4;generalize eu [] ws=B at *;obtain⟨b,e⟩:=B;simp only[List.length_nil,Nat.zero_add]at *;simp[go_sem];refine gP [] hown rfl (aj (.deep a9) aD) (fun ρ=>by simp[AV.renL,AV.ren]) ?_;rintro r hp'(⟨rfl,rfl,h0⟩|⟨hB,rfl⟩)
 ·refine⟨[(1000,0)],rfl,?_⟩;simp[go_sem,bO,bB,h0,Blk.ren,aM,cG,AV.renL,AV.ren,bQ,aE,nb,cF,aG];have wi:IntKind.i64.wrap ((b.length:Int)+(rest.length:Int))=(b.length:Int)+(rest.length:Int):=IntWalk.i64_in _ aq;rw[wi];refine⟨aq,?_⟩;rw[iJ];have hd:decide ((b.length:Int)+(rest.length:Int)≤300)=decide (b.length+rest.length≤300):=decide_eq_decide.2 aq;rw[hd,←b_,←List.map_append];exact dE (ap (ak (aN (L:=b++rest) rfl rfl trivial)) (ap (be trivial) bA)) rfl a9 rfl
 ·cases hB
  refine⟨[],rfl,?_⟩;simp[go_sem,bO,bB,Blk.ren,aM,cG,AV.renL,AV.ren,bQ,aE,nb,cF,aG];refine⟨aq,?_⟩;exact dE (ap (ak (aN (L:=rest) rfl rfl trivial)) (ap (be trivial) bA)) rfl a9 rfl
end Go.Proofs.YtmfnimjnneflnaaGreat
namespace Go.Sha
open Go.Proofs.YtmfnimjnneflnaaGreat Go.Am
def tP:Tn:=⟨2,[⟨z32,0,0,[]⟩],[(5,[])],0⟩
def A0:CsF:=⟨tP,0,[(7,[])],z32,[],[],[],[],0⟩
def Xy:List AV:=[.d (.int .u32 0),.nil,.nil,.d (.int .u32 0),.d (.int .i64 0),.nil]++(aL z32 .nil .nil++[.nil,.nil,.d (.int .i64 0)])
end Go.Sha
namespace Go.Proofs.YtmfnimjnneflnaaGreat
open Go.Am Go.Sha
theorem Lc{hp:Hp}{I:Nat→Prop}{c:List AV}{d:List DV}(h2:CellsR hp I c d):∀b:List DV,CellsR hp I (b.map .d++c) (b++d)
 |[]=>h2
 |y::r=>.cons (.d y) (Lc h2 r)
theorem Xf:eW Tryz.prog 36=some Xy:=by kernel_rfl
attribute [go_sem] Xf
theorem Ld:ay Tryz.prog 50 [.d (.ro 1 [])] (fun r=>r=.d (.int .i64 1)):=by
 refine bL Tryz.func50 Tryz.ntmps50 (rs:=[.tmp 2]) a9 ?_;simp[go_sem];refine bN [] (tO [] [] aw ⟨aw,aw⟩) rfl (aj (.one (ak (.nil 1))) (aj (.deep a9) aD)) ?_;rw[show[]++kV []=[0]from rfl];simp[go_sem,aE,nb];exact aa a9 rfl
theorem Dj:ay Tryz.prog 49 [] (fun r=>r=.agg (eS tP 0 [(7,[])])):=by
 refine bL Tryz.func49 Tryz.ntmps49 (rs:=[.cell 0 28]) aw ?_;simp[go_sem]
 refine s9 (cs':=eS tP 0 [(7,[])]) (ap (be trivial) (ap (ak (iG (rows:=[cb z32++[AV.d (DV.int IntKind.u32 0),AV.d (DV.int IntKind.u32 0),AV.nil]]) rfl trivial rfl (RowsR.cons ?_ .nil) rfl (by intro r hr;simp[tP]at hr;subst hr;rfl)))
  (ap (ak (iG (rows:=[[AV.d (DV.int IntKind.u64 5),AV.nil]]) rfl trivial rfl (RowsR.cons (.cons (.d _) (.cons (.nil 1) .nil)) .nil) rfl (by intro r hr;simp[tP]at hr;subst hr;rfl)))
  (ap (be trivial) (ap (be trivial) (ap (ak (iG (rows:=[[AV.d (DV.int IntKind.u64 7),AV.nil]]) rfl trivial rfl (RowsR.cons (.cons (.d _) (.cons (.nil 1) .nil)) .nil) rfl (by intro r hr;simp at hr;subst hr;rfl))) bA)))))) rfl (by simp[AV.deep,AV.deep1,eS]) rfl
 exact Lc (d:=[.ro 1 []]) (.cons (.nil 1) .nil) (cd z32++[.int .u32 0,.int .u32 0])
theorem rD:CsOk A0 where
 t:=⟨⟨by decide,by decide,fun i hi=>by
  have:i=⟨z32,0,0,[]⟩:=by simpa[A0,tP]using hi
  subst this
  exact⟨rfl,by decide,by decide⟩,by decide⟩,by decide,by decide,by decide,fun i hi=>by
  have:i=⟨z32,0,0,[]⟩:=by simpa[A0,tP]using hi
  subst this
  exact⟨by decide,by decide⟩⟩
 cc:=⟨by decide,by decide⟩
 cb:=fun o ho=>by
  have:o=(7,[]):=by simpa[A0]using ho
  subst this;exact⟨fun x hx=>(by cases hx),by decide⟩
 ob:=fun o ho=>by
  have:o=(5,[]):=by simpa[A0,tP]using ho
  subst this;exact fun x hx=>(by cases hx)
 i:=rfl
 ib:=fun x hx=>by
  have:x=0:=by simpa[A0,z32]using hx
  omega
 s:=by decide
 p:=by decide
 pl:=by decide
 a:=by decide
 b:=⟨by decide,by decide⟩
theorem O8:bM A0.t A0.n A0.coins=0:=by decide
theorem G1{hp:Hp}{I:Nat→Prop}:Snap hp I (.agg (eS tP 0 [(7,[])]++(aL z32 .nil .nil++[.nil,.nil,.d (.int .i64 0)]))) (.agg (bZ A0)) :=
 .agg ⟨rfl,qM (eS tP 0 [(7,[])]) (fun v hv=>by simp[eS]at hv;rcases hv with rfl|rfl|rfl|rfl|rfl|rfl<;>trivial)
  (qM (cb z32) (cg _) (ap (ak (.nil 32)) (ap (ak (.nil 1)) (ap (ak (.nil 1)) (ap (ak (.nil 1)) (ap (be trivial) bA))))))⟩
theorem yJ{s:List Nat}{p:List (Int×Int)×Int}(hs:bytes s)(hl:s.length≤1000)(h:∀x,mn x s [] 0=p) :
  ay Tryz.prog 17 [.agg (bZ A0),.d (nb s),.d (.ro 1 [])] (fun v=>v=lX p):=by
 obtain⟨sg,hsg⟩:=Qa;obtain⟨out,hout⟩:=Fb A0.inner A0.path rD.i rD.ib rD.p rD.pl;obtain⟨msg,hm⟩:=K9 A0 rD hsg hout s hs aq;have h1:=AX A0 rD.i s [] _ (hm [] ⟨aw,aw,aw,aw⟩)
 have e:uY A0 (xK A0 sg msg out) s []=p:=by
  unfold uY;rw[if_neg (by rw[O8];omega)];exact h _
 rw[e]at h1;exact h1
theorem fD:ay Tryz.prog 14 [] (fun r=>r=.d (.bool true)):=by
 refine bL Tryz.func14 Tryz.ntmps14 (rs:=[.tmp 0]) aw ?_;have ra:=yJ (s:=[81,99,82,103,83,104,82,156]) (fun x hx=>by simp at hx;omega) (by decide) Xb;have rb:=yJ (s:=[81,81]) (fun x hx=>by simp at hx;omega) (by decide) Xc;have rc:=yJ (s:=[0,99,255,104,81]) (fun x hx=>by simp at hx;omega) (by decide) Xd;have zl:Xy.length=43:=rfl;have z43:List.drop 43 Xy=[]:=rfl;simp[go_sem];refine ag Dj aw ?_;have hcs:=fun(hp:Hp)(I:Nat→Prop)=>G1 (hp:=hp) (I:=I);have zd:List.drop 6 Xy=aL z32 .nil .nil++[.nil,.nil,.d (.int .i64 0)]:=rfl;have sl:(eS tP 0 [(7,[])]).length=6:=rfl;have st:List.take 6 (eS tP 0 [(7,[])])=eS tP 0 [(7,[])]:=rfl;have rl:(aL z32 .nil .nil++[AV.nil,AV.nil,AV.d (.int .i64 0)]).length=37:=rfl;generalize aL z32 .nil .nil++[AV.nil,AV.nil,AV.d (.int .i64 0)]=R at *;have tl:(eS tP 0 [(7,[])]++R).length=43:=by rw[b_,sl,rl]
 generalize eS tP 0 [(7,[])]=S at *;have tt:List.take 43 (S++R)=S++R:=cA aq;generalize hT:S++R=T at *;simp[go_sem,zl,sl,st,zd,rl,hT,tl,tt,z43,aE];refine bN [192] ra rfl (aj (hcs _ _) (aj (.one (ak (aN (L:=[81,99,82,103,83,104,82,156]) rfl rfl aw))) (aj (.one (ak (.nil 1))) aD))) ?_;unfold lX;simp[go_sem,zl,sl,st,zd,rl,hT,tl,tt,z43,aE];refine bN [448] rb rfl (aj (hcs _ _) (aj (.one (ak (aN (L:=[81,81]) rfl rfl aw))) (aj (.one (ak (.nil 1))) aD))) ?_;unfold lX;simp[go_sem,zl,sl,st,zd,rl,hT,tl,tt,z43,aE];refine bN [704] rc rfl (aj (hcs _ _) (aj (.one (ak (aN (L:=[0,99,255,104,81]) rfl rfl aw))) (aj (.one (ak (.nil 1))) aD))) ?_;unfold lX;simp[go_sem];refine bN [] Ld rfl (aj (.one (ak (.nil 1))) aD) ?_;simp[go_sem];exact aa a9 rfl
structure CsIn(c:CsF):Prop where
 t:c.t.ok
 cb:∀o,o∈c.coins→bytes o.2∧o.1<18446744073709551616
 ob:∀o,o∈c.t.outs→bytes o.2
 i:c.inner.length=32
 ib:bytes c.inner
 p:∀p,p∈c.path→p.length=32
 sb:bytes c.script
 st:∀x,x∈c.start→bytes x
 b:gi c.bud
theorem Le{c:CsF}(h:CsIn c)(hs:nc c=true):CsOk c∧c.script.length≤300∧(StOk c.start []∧c.start.length≤12∧∀x,x∈c.start→x.length≤600):=by
 simp only[nc,qV,Bool.and_eq_true,decide_eq_true_eq,cp,d9]at hs;obtain⟨⟨a1,a2,a3⟩,b1,b2,b3,b4,b5⟩:=hs
 exact⟨⟨VI h.t a1,⟨a2,fun o ho=>⟨(h.cb o ho).2,a3 o ho⟩⟩,h.cb,h.ob,h.i,h.ib,aq,h.p,aq,aq,h.b⟩,b1,
  ⟨aq,aw,fun x hx=>⟨by have:=b5 x hx;omega,h.st x hx⟩,aw⟩,b3,b5⟩
theorem Uc{c:CsF}(h:CsIn c)(hs:nc c=true):∃(sg:a8→a8→a8→Bool)(out:a8→a8×Int),O3 sg∧AQ c.inner c.path out∧∀s:List Nat,bytes s→s.length≤100000→∃msg:a8,∀start:List (List Nat),StOk start [] →
  ay Tryz.prog 17 [.agg (bZ c),.d (nb s),.d (.ro 1 (start.map bC))] (fun v=>v=lX (uY c (xK c sg msg out) s start)):=by
 obtain⟨hk,_⟩:=Le h hs;obtain⟨sg,hsg⟩:=Qa;obtain⟨out,hout⟩:=Fb c.inner c.path h.i h.ib h.p hk.pl;refine⟨sg,out,hsg,hout,fun s hb hl=>?_⟩;obtain⟨msg,hm⟩:=K9 c hk hsg hout s hb hl;exact⟨msg,fun start hst=>AX c h.i s start _ (hm start hst)⟩
theorem uJ:∀(ws:List Wd)(out:List Nat),bytes out→(∀w,w∈ws→qN w∧bytes w.2)→bytes (eu out ws).1
 |[],out,h,_=>h
 | w :: r,out,h,hw=>by
  unfold eu
  split
  ·refine uJ r _ ?_ (fun w hw'=>hw w (by simp[hw']));intro y hy;rcases cL.1 hy with hy|hy
   ·exact h y hy
   ·exact tw (hw w aw).1.2 (hw w aw).2 y hy
  ·intro y hy
   cases hy
theorem uK{t:List Nat}(h:bytes t):bytes (bo t).2:=by
 unfold bo
 split
 ·split
  ·intro y hy;cases hy
  ·split
   ·intro y hy;cases hy
   ·exact h
 ·exact h
theorem A3{ws:List Wd}{rest:List Nat}(hr:bytes rest)(hw:∀w,w∈ws→qN w∧bytes w.2):bytes (o4 ws rest).1:=by
 intro y hy;rcases cL.1 hy with hy|hy
 ·exact uJ ws [] (fun y hy=>by cases hy) hw y hy
 ·exact hr y hy
theorem Lh{n:Nat}{ds:List DV}(h:iw Tryz.prog (n+4) 33 ds):∃(inner:List Nat)(ps:List (List Nat))(x:List Nat),ds=cd inner++[cH ps,nb x]∧inner.length=32∧bytes inner∧(∀p,p∈ps→p.length=32)∧bytes x:=by
 rw[iw]at h;simp only[Tryz.underlying33,List.map_cons,List.map_nil]at h;obtain⟨a,b,rfl,ha,ha2,a',b',rfl,hb,hb2,a3,b3,rfl,hc,hc2,rfl⟩:=h;obtain⟨inner,rfl,h1,h2⟩:=BQ ha2;rw[show Tryz.prog.cellsOf 30=1 by kernel_rfl]at hb;rw[show Tryz.prog.cellsOf 31=1 by kernel_rfl]at hc
 match a',hb,hb2,a3,hc,hc2 with
 |[y],_,hb2,[z],_,hc2 =>
  obtain⟨ps,rfl,h3⟩:=Np hb2;obtain⟨x,rfl,h4,h5⟩:=mL hc2;exact⟨inner,ps,x,aw,h1,h2,fun p hp=>(h3 p hp).1,h5⟩
theorem Ff{n:Nat}{ds:List DV}(h:iw Tryz.prog (n+1) 3 ds):∃x:Int,ds=[.int .i64 x]∧-9223372036854775808≤x∧x<9223372036854775808:=by
 rw[iw]at h;simp only[Tryz.underlying3]at h;obtain⟨x,rfl,hx⟩:=h;have hx':-9223372036854775808≤x∧x<9223372036854775808:=by simp[IntKind.has,IntKind.min,IntKind.max,IntKind.signed,IntKind.bits]at hx;omega
 exact⟨x,rfl,hx'⟩
theorem Ud{n:Nat}{ds:List DV}(h:iw Tryz.prog (n+7) 28 ds):∃(t:Tn)(m:Int)(coins:List (Nat×List Nat)),ds.map .d=eS t m coins∧t.ok∧(∀o,o∈t.outs→bytes o.2)∧∀o,o∈coins→o.1<18446744073709551616∧bytes o.2:=by
 rw[iw]at h;simp only[Tryz.underlying28,List.map_cons,List.map_nil]at h;obtain⟨a,b,rfl,ha,ha2,a',b',rfl,hb,hb2,a3,b3,rfl,hc,hc2,rfl⟩:=h;obtain⟨t,h1,h2,h3,_⟩:=VM ha2;obtain⟨m,rfl,_⟩:=Ff hb2;obtain⟨os,rfl,hos⟩:=D9 hc2;refine⟨t,m,os,?_,h2,h3,hos⟩;rw[List.map_append,h1];rfl
theorem Lj{n:Nat}{a:AV}(h:rH Tryz.prog (n+8) 36 a):∃c:CsF,a=.agg (bZ c)∧CsIn c:=by
 unfold rH at h;simp only[Tryz.underlying36]at h;obtain⟨ds,rfl,h⟩:=h;rw[iw]at h;simp only[Tryz.underlying36,List.map_cons,List.map_nil]at h;obtain⟨a,b,rfl,ha,ha2,a',b',rfl,hb,hb2,a3,b3,rfl,hc,hc2,a4,b4,rfl,hd,hd2,a5,b5,rfl,he,he2,rfl⟩:=h;obtain⟨t,m,coins,hS,h2,h3,h4⟩:=Ud ha2;obtain⟨inner,ps,x,rfl,k1,k2,k3,k4⟩:=Lh hb2;rw[show Tryz.prog.cellsOf 34=1 by kernel_rfl]at hc;rw[show Tryz.prog.cellsOf 31=1 by kernel_rfl]at hd;obtain⟨bud,rfl,b1⟩:=Ff he2
 match a3,hc,hc2,a4,hd,hd2 with
 |[y],_,hc2,[z],_,hd2 =>
  obtain⟨start,rfl,h5⟩:=vY hc2;obtain⟨annex,rfl,_,h6⟩:=mL hd2;refine⟨⟨t,m,coins,inner,ps,x,start,annex,bud⟩,?_,⟨h2,fun o ho=>⟨(h4 o ho).2,(h4 o ho).1⟩,h3,k1,k2,k3,k4,h5,b1⟩⟩;rw[List.map_append,hS];simp[bZ,qk,aL,lv]
theorem O9{n:Nat}{a:AV}(h:rH Tryz.prog (n+2) 31 a):∃x:List Nat,a=.d (nb x)∧bytes x:=by
 obtain⟨d,rfl,t⟩:=DU Tryz.underlying31 aw aw h;obtain⟨x,rfl,_,h2⟩:=mL t;exact⟨x,rfl,h2⟩
end Go.Proofs.YtmfnimjnneflnaaGreat
namespace Go.Sha
open Go.Proofs.YtmfnimjnneflnaaGreat Go.Am
theorem Fg{k:Int}{r:Rn}(hk:k≠0)(h:(az k r).e=0):False:=by
 unfold az at h
 split at h
 ·exact hk h
 ·rename_i q;exact q h
end Go.Sha
namespace Go.Proofs.YtmfnimjnneflnaaGreat
open Go.Am Go.Sha
end Go.Proofs.YtmfnimjnneflnaaGreat
namespace Go.Sha
open Go.Proofs.YtmfnimjnneflnaaGreat Go.Am
theorem Ll{x:Rx}{s:List Nat}{f a:Nat}{r:Rn}(h:(jD (jf x s f a r)).e=0):r.e=0:=by
 cases f with
 |zero=>exact K8 h
 |succ f =>
  by_cases hr:r.e=0
  ·exact hr
  ·rw[jf,if_neg (fun q=>hr q.2)]at h;exact absurd (K8 h) hr
theorem Pe{t:List Nat}(h:t.length≤60000):(bo t).2.length≤65535:=by
 have g:(fl t).2.length=t.length:=rfl;unfold bo
 split
 ·split
  ·exact Nat.zero_le _
  ·split
   ·exact Nat.zero_le _
   ·exact(by omega:1≤65535)
 ·omega
theorem wP{x:Rx}{s rest t:List Nat}{f a:Nat}{m:List (List Nat)}{bud:Int}(h:(jD (jf x s (f+1) a ⟨m,[],[],bud,[],0⟩)).e=0)(ht:t.length≤60000)(e1:(da (bo t)).2=true)
  (hd:s.drop a=(da (bo t)).1++rest):jD (jf x s (f+1) a ⟨m,[],[],bud,[],0⟩)=jD (jf x s f (a+(da (bo t)).1.length) ⟨m++[t],[],[],bud,[],0⟩):=by
 obtain⟨a1,a2,a3⟩:=AW h (Pe ht) e1 hd;rw[GY x _ aq rfl]at a2 a3;have hp:=(Qb (Ll a2)).2;rw[hp]at a3;exact a3
theorem Ue(r:Rn):(jD r).cl=r.cl:=by
 have f1:∀(x:Int)(q:Rn),(az x q).cl=q.cl:=fun x q=>by unfold az;split<;>rfl
 unfold jD;simp only
 split
 ·split
  ·exact f1 _ _
  ·rw[f1,f1]
 ·split
  ·rfl
  ·exact f1 _ _
theorem A4{x:Rx}{a b:List Nat}{op:Nat}{start:List (List Nat)}{bud:Int}(ha:a.length≤60000)(hb:b.length≤60000)(hop:104<op)(hn:mh op=true)(hok:(eu [] [bo a,bo b,(op,[])]).2=0)
  (h:(mn x (eu [] [bo a,bo b,(op,[])]).1 start bud).2=0):(pQ x op ⟨start++[a]++[b],[],[],bud,[],0⟩).e=0 ∧
   (mn x (eu [] [bo a,bo b,(op,[])]).1 start bud).1=(pQ x op ⟨start++[a]++[b],[],[],bud,[],0⟩).cl:=by
 have e3:da (op,[])=([op],true):=by
  unfold da;rw[if_neg (by simp only;omega),if_neg (by simp only;omega),if_neg (by simp only;omega)];rfl
 have hE:(da (bo a)).2=true∧(da (bo b)).2=true∧(eu [] [bo a,bo b,(op,[])]).1=(da (bo a)).1++(da (bo b)).1++[op]:=by
  unfold eu at hok⊢
  split at hok
  ·rename_i h1;rw[if_pos h1];unfold eu at hok⊢
   split at hok
   ·rename_i h2;rw[if_pos h2];unfold eu;rw[e3,if_pos rfl];exact⟨h1,h2,rfl⟩
   ·cases hok
  ·cases hok
 obtain⟨e1,e2,e4⟩:=hE;rw[e4]at h⊢;generalize hA:(da (bo a)).1=A at *;generalize hB:(da (bo b)).1=B at *;have h0:=GZ h
 have hru:(mn x (A++B++[op]) start bud).1=(jD (jf x (A++B++[op]) ((A++B++[op]).length+1) 0 (az (fu start []) ⟨start,[],[],bud,[],0⟩))).cl:=by
  unfold mn;simp only;rw[if_pos h0]
 rw[hru];clear hru h;have h00:=Ll h0;have hf0:=(Xe h00).1;rw[hf0]at h0⊢
 have hla:0<A.length:=by
  rw[←hA];unfold da
  split
  ·exact Nat.succ_pos _
  ·split
   ·exact Nat.succ_pos _
   ·split
    ·exact Nat.succ_pos _
    ·exact Nat.succ_pos _
 obtain⟨f,hf⟩:∃f,(A++B++[op]).length+1=(f+1+1)+1:=⟨A.length+B.length-1,by simp only[b_,List.length_cons,List.length_nil];omega⟩;rw[hf]at h0⊢;have p1:=wP (f:=f+1+1) (t:=a) (rest:=B++[op]) h0 ha e1 (by rw[hA,List.drop_zero,cD]);rw[p1]at h0⊢;rw[hA,Nat.zero_add]at h0⊢;have p2:=wP (f:=f+1) (t:=b) (rest:=[op]) h0 hb e2 (by rw[hB,cD,List.drop_left]);rw[p2]at h0⊢;rw[hB]at h0⊢;obtain⟨b1,b2,b3⟩:=AW (f:=f) (w:=(op,[])) (rest:=[]) h0 (Nat.zero_le _) (by rw[e3]) (by rw[e3,←b_,List.drop_left];rfl);rw[b3];rw[O7 x _ hn hop rfl]at b2⊢;refine⟨Ll b2,?_⟩
 have hst:∀(f:Nat)(r:Rn),jf x (A++B++[op]) f (A.length+B.length+(da (op,[])).1.length) r=r:=fun f r=>by
  cases f with
  |zero=>rfl
  |succ f =>
   rw[jf,if_neg];intro q;have:=q.1;simp only[b_,List.length_cons,List.length_nil,e3]at this;omega
 rw[hst,Ue]
theorem o5(m:List (List Nat))(b:List Nat)(bud:Int):bp ⟨m++[b],[],[],bud,[],0⟩=(b,⟨m,[],[],bud,[],0⟩):=by
 unfold bp;rw[if_pos rfl,if_neg aw];simp only[List.getLastD_concat,List.dropLast_concat]
theorem uL(bud:Int):∀(k:Nat)(xs m:List (List Nat)),xs.length=k→cv k ⟨m++xs,[],[],bud,[],0⟩=(xs,⟨m,[],[],bud,[],0⟩)
 |0,xs,m,h=>by
  have:xs=[]:=List.eq_nil_of_length_eq_zero h;subst this;rw[List.append_nil];rfl
 | k+1,xs,m,h=>by
  rcases List.eq_nil_or_concat xs with rfl|⟨ys,y,rfl⟩
  ·simp at h
  ·rw[List.concat_eq_append]at h⊢;have hk:ys.length=k:=by simpa using h
   unfold cv;simp only;rw[←cD,o5];simp only;rw[uL bud k ys m hk]
theorem G2{x:Rx}{body:List Nat}{n:Nat}{start:List (List Nat)}{bud:Int}(hn:n≤3)(hs:start.length=3+n)(h:(pQ x 187 ⟨start++[body]++[dN (n:Int)],[],[],bud,[],0⟩).e=0) :
  ∃o t k:Int,(gZ (start.drop 3) body).2=0∧(x.trg (gZ (start.drop 3) body).1 o t k).2=0∧(pQ x 187 ⟨start++[body]++[dN (n:Int)],[],[],bud,[],0⟩).cl=(x.trg (gZ (start.drop 3) body).1 o t k).1:=by
 have hx:pQ x 187 ⟨start++[body]++[dN (n:Int)],[],[],bud,[],0⟩=xZ x ⟨start++[body]++[dN (n:Int)],[],[],bud,[],0⟩:=rfl;rw[hx]at h⊢
 have hd:fN 4 (dN (n:Int))=some (n:Int):=by
  have:n=0∨n=1∨n=2∨n=3:=aq;rcases this with rfl|rfl|rfl|rfl<;>rfl
 have h1:dP 4 ⟨start++[body]++[dN (n:Int)],[],[],bud,[],0⟩=((n:Int),⟨start++[body],[],[],bud,[],0⟩):=by
  unfold dP;rw[o5];simp only[if_true,hd]
 have h2:gr (n:Int) ⟨start,[],[],bud,[],0⟩=(start.drop 3,⟨start.take 3,[],[],bud,[],0⟩):=by
  have hq:¬((n:Int)<0∨(start.length:Int)<(n:Int)):=aq;unfold gr;simp only[if_neg hq,if_true,Int.toNat_natCast];have:=uL bud n (start.drop 3) (start.take 3) (by rw[e_];omega);rw[List.take_append_drop]at this;exact this
 unfold xZ at h⊢;rw[h1]at h⊢;simp only at h⊢;rw[o5]at h⊢;simp only at h⊢;rw[h2]at h⊢;simp only at h⊢;have c1:=sL 4 ⟨start.take 3,[],[],bud,[],0⟩;generalize dP 4 ⟨start.take 3,[],[],bud,[],0⟩=o at *;obtain⟨o,r1⟩:=o;simp only at h c1⊢;have c2:=sL 4 r1;generalize dP 4 r1=t at *;obtain⟨t,r2⟩:=t;simp only at h c2⊢;have c3:=sL 8 r2;generalize dP 8 r2=k at *;obtain⟨k,r3⟩:=k;simp only at h c3⊢;by_cases he:r3.e=0
 ·rw[if_pos he]at h⊢;by_cases hu:(gZ (start.drop 3) body).2=0
  ·rw[if_pos hu]at h⊢;refine⟨o,t,k,hu,?_⟩;unfold xY at h⊢;rw[if_pos he]at h⊢;obtain⟨q1,q2⟩:=Qb h;rw[q2];have q3:(az (x.trg (gZ (start.drop 3) body).1 o t k).2 r3).e=0:=q1;refine⟨?_,?_⟩
   ·by_cases hz:(x.trg (gZ (start.drop 3) body).1 o t k).2=0
    ·exact hz
    ·exact(Fg hz q3).elim
   ·show r3.cl++_=_;rw[c3,c2,c1];rfl
  ·rw[if_neg hu]at h;exact(Fg hu h).elim
 ·rw[if_neg he]at h;exact absurd h he
theorem Lm{t:Tn}{n:Int}{coins:List (Nat×List Nat)}{o0 o1 back:Int}{a:List Nat}{e:Int}(h:(lW t n coins o0 o1 back a e).2=0) :
  uE t o0 a e=true∧0≤back∧back≤((db coins n).1:Int)∧((back=0∧(lW t n coins o0 o1 back a e).1=[(o0,((db coins n).1:Int))]) ∨
   (uE t o1 (db coins n).2 0=true∧(lW t n coins o0 o1 back a e).1=[(o0,((db coins n).1:Int)-back),(o1,back)])):=by
 unfold lW at h⊢
 split at h
 ·simp at h
 ·rename_i h1;rw[if_neg h1]
  split at h
  ·simp at h
  ·rename_i h2;rw[if_neg h2];simp only[not_or,Bool.not_eq_false,Int.not_lt]at h2;refine⟨h2.1,h2.2.1,h2.2.2,?_⟩
   split at h
   ·rename_i h3;rw[if_pos h3];left;refine⟨h3.2,?_⟩;rw[h3.2];simp
   ·rename_i h3;rw[if_neg h3]
    split at h
    ·simp at h
    ·rename_i h4;rw[if_neg h4];simp only[not_or,Bool.not_eq_false]at h4;exact .inr ⟨h4.2,rfl⟩
theorem Ln{t:Tn}{o:Int}{a:List Nat}{e:Int}(h:uE t o a e=true):∃(k:Nat)(p:Nat×List Nat),o=(k:Int)∧t.outs[k]?=some p∧e=0∧p.2=a:=by
 unfold uE at h;simp only[Bool.and_eq_true,decide_eq_true_eq]at h;obtain⟨h0,h1⟩:=h
 cases hp:t.outs[o.toNat]? with
 |none=>rw[hp]at h1;cases h1
 |some p =>
  rw[hp]at h1;simp only[Bool.and_eq_true,decide_eq_true_eq]at h1;exact⟨o.toNat,p,aq,hp,h1.1,h1.2⟩
theorem Uf:mh 187=true:=by decide
end Go.Sha
namespace Go.Proofs.YtmfnimjnneflnaaGreat
open Go.Am Go.Sha
theorem G3{hp:Hp}{ids:List Nat}{id:Nat}{w v:Wd}{op:Int}(hb:lk id hp=some ⟨42,2,[oy w,oy v,[AV.d (.int .u8 op),AV.nil]]⟩)(hI:id∈ids):Snap hp (fun id=>id∈ids) (.own id 0 3 3) (.d (.ro 2 [pJ w,pJ v,[.int .u8 op,nb []]])) :=
 .one (ak (iG (rows:=[oy w,oy v,[AV.d (.int .u8 op),AV.nil]]) hb hI rfl (RowsR.cons (.cons (.d _) (.cons (.d _) .nil)) (RowsR.cons (.cons (.d _) (.cons (.d _) .nil)) (RowsR.cons (.cons (.d _) (.cons (.nil 1) .nil)) .nil))) rfl (by intro r hr;simp at hr;rcases hr with rfl|rfl|rfl<;>rfl)))
theorem A5{c:CsF}(h:CsIn c)(hs:nc c=true)(a b:List Nat)(op:Nat)(ha:a.length≤300)(hab:bytes a)(hb:b.length≤300)(hbb:bytes b)(hop:104<op∧op<256)(hn:mh op=true) :
  ∃ (s:List Nat) (ok:Bool) (p:List (Int × Int) × Int) (out:a8→a8 × Int),AQ c.inner c.path out∧ay Tryz.prog 15 [.d (.ro 2 [pJ (bo a),pJ (bo b),[.int .u8 (op:Int),nb []]]),.d (nb [])] (fun r=>r=.tup [.d (nb s),.d (.bool ok)]) ∧
   (ok=true→ay Tryz.prog 17 [.agg (bZ c),.d (nb s),.d (.ro 1 (c.start.map bC))] (fun v=>v=lX p) ∧
    (p.2=0→∃sg msg,(pQ (xK c sg msg out) op ⟨c.start++[a]++[b],[],[],c.bud,[],0⟩).e=0∧p.1=(pQ (xK c sg msg out) op ⟨c.start++[a]++[b],[],[],c.bud,[],0⟩).cl)∧(p.2≠0→p.1=[])):=by
 obtain⟨hk,hsl,hst,_⟩:=Le h hs;obtain⟨sg,out,hsg,hout,hrun⟩:=Uc h hs
 have hws:∀w,w∈[bo a,bo b,(op,[])]→qN w∧bytes w.2:=by
  intro w hw;simp only[et,List.mem_nil_iff,or_false]at hw;rcases hw with rfl|rfl|rfl
  ·exact⟨kU aq hab,uK hab⟩
  ·exact⟨kU aq hbb,uK hbb⟩
  ·exact⟨⟨Nat.zero_le _,hop.2⟩,fun y hy=>(by cases hy)⟩
 have hscr:=AZ [bo a,bo b,(op,[])] [] (fun w hw=>(hws w hw).1) aw aw;have hfb:=A3 (rest:=[]) (fun y hy=>by cases hy) hws;have hfe:(o4 [bo a,bo b,(op,[])] []).1=(eu [] [bo a,bo b,(op,[])]).1:=List.append_nil _
 cases hf:(o4 [bo a,bo b,(op,[])] []).2 with
 |false =>
  rw[hf]at hscr;exact⟨_,false,([],0),out,hout,hscr,fun q=>absurd q aw⟩
 | true =>
  rw[hf]at hscr;have hf':=hf;simp only[o4,decide_eq_true_eq]at hf';rw[hfe]at hscr hfb;obtain⟨msg,hR⟩:=hrun _ hfb aq;refine⟨_,true,_,out,hout,hscr,fun _=>⟨hR c.start hst,fun he=>?_,fun he=>?_⟩⟩
  rotate_left
  ·generalize xK c sg msg out=x at *;unfold uY at he⊢
   split at he
   ·rename_i hq;rw[if_pos hq]
   ·rename_i hq;rw[if_neg hq];unfold mn at he⊢;simp only at he⊢
    split at he
    ·exact absurd rfl he
    ·rename_i h2;rw[if_neg h2]
  have e:uY c (xK c sg msg out) (eu [] [bo a,bo b,(op,[])]).1 c.start=mn (xK c sg msg out) (eu [] [bo a,bo b,(op,[])]).1 c.start c.bud:=by
   unfold uY at he⊢
   split at he
   ·cases he
   ·rename_i hq;rw[if_neg hq]
  rw[e]at he⊢;obtain⟨z1,z2⟩:=A4 aq aq hop.1 hn hf'.1 he;exact⟨sg,msg,z1,z2⟩
theorem A6{c:CsF}{a:List Nat}{n:Nat}{p:List (Int×Int)×Int}{out:a8→a8×Int}{sg:a8→a8→a8→Bool}{msg:a8}(hn:n≤3)(hs:c.start.length=3+n)
  (h1:(pQ (xK c sg msg out) 187 ⟨c.start++[a]++[dN (n:Int)],[],[],c.bud,[],0⟩).e=0) (h2:p.1=(pQ (xK c sg msg out) 187 ⟨c.start++[a]++[dN (n:Int)],[],[],c.bud,[],0⟩).cl) :
  (gZ (c.start.drop 3) a).2=0∧∃(j:Nat)(o:Nat×List Nat),c.t.outs[j]?=some o∧(out (gZ (c.start.drop 3) a).1).2=0∧o.2=(out (gZ (c.start.drop 3) a).1).1 ∧
   (p.1=[((j:Int),((db c.coins c.n).1:Int))]∨∃(b:Nat)(i:Nat)(q:Nat×List Nat),b≤(db c.coins c.n).1∧c.t.outs[i]?=some q∧q.2=(db c.coins c.n).2∧p.1=[((j:Int),((db c.coins c.n).1:Int)-(b:Int)),((i:Int),(b:Int))]):=by
 obtain⟨o0,o1,bk,z1,z2,z3⟩:=G2 hn hs h1;refine⟨z1,?_⟩;rw[h2,z3];have hx:(xK c sg msg out).trg (gZ (c.start.drop 3) a).1 o0 o1 bk=lW c.t c.n c.coins o0 o1 bk (out (gZ (c.start.drop 3) a).1).1 (out (gZ (c.start.drop 3) a).1).2:=rfl;rw[hx]at z2⊢;obtain⟨y1,y2,y3,y4⟩:=Lm z2;obtain⟨j,o,rfl,q2,q3,q4⟩:=Ln y1;refine⟨j,o,q2,q3,q4,?_⟩;rcases y4 with ⟨_,y4⟩|⟨y5,y4⟩
 ·exact .inl y4
 ·obtain⟨i,q,rfl,u2,_,u4⟩:=Ln y5;obtain⟨b,rfl⟩:∃b:Nat,bk=(b:Int):=⟨bk.toNat,aq⟩;exact .inr ⟨b,i,q,aq,u2,u4,y4⟩
theorem Lo{t:Tn}{n:Int}{coins:List (Nat×List Nat)}{j:Nat}{o:Nat×List Nat}{a:List Nat}(hc:bM t n coins=0)(ho:t.outs[j]?=some o)(ha:o.2=a):rV t n coins (j:Int) (-1) 0 a 0=.tup [.d (.ro 2 [Ha (j:Int) ((db coins n).1:Int)]),.d (.int .i64 0)]:=by
 have h1:uE t (j:Int) a 0=true:=by
  unfold uE;rw[Int.toNat_natCast,ho];simp[ha]
 unfold rV;rw[if_neg aq,if_neg (by rw[h1];simp),if_pos ⟨rfl,rfl⟩];simp
theorem Xg(n:Int)(h1:-9223372036854775808≤n)(h2:n<9223372036854775808):Go.bits .and .i64 n 3=n%4:=by
 rw[show(3:Int)=((2 ^ 2-1:Nat):Int)from rfl,yu n _ h1 h2 aq,Nat.and_two_pow_sub_one_eq_mod];omega
theorem Pg{t:Tn}{n:Int}{coins:List (Nat×List Nat)}(h:bM t n coins=0):kH t=0∧coins.length=t.ins.length∧0≤n∧n<(coins.length:Int):=by
 unfold bM at h
 split at h
 ·cases h
 ·rename_i hq;simp only[not_or,Int.not_lt,Int.not_le,ne_eq,Classical.not_not]at hq;exact⟨hq.1,hq.2.1,hq.2.2.1,hq.2.2.2.1⟩
def qm(L:List (Int×Int))(k:Nat):Int:=((L.take k).map (·.2)).sum
theorem G4{L:List (Int×Int)}{k:Nat}{x:Int×Int}(h:L[k]?=some x):qm L (k+1)=qm L k+x.2:=by
 unfold qm;rw[List.take_add_one,h];simp
theorem Xh(c:CsF)(t:List Nat)(n:Int):∀v,v∈[AV.agg (bZ c),.d (nb t),.d (.int .i64 n)]→v.deep:=by
 intro v hv;simp only[et,List.mem_nil_iff,or_false]at hv;rcases hv with rfl|rfl|rfl
 ·exact nS c _ aw
 ·trivial
 ·trivial
theorem G5(c:CsF)(t:List Nat)(kk:Int)(h:CsIn c)(htb:bytes t)(n1:-9223372036854775808≤kk)(n2:kk<9223372036854775808):ay Tryz.prog 7 [.agg (bZ c),.d (nb t),.d (.int .i64 kk)] (fun r=>r=.d (.bool true)):=by
 refine bL Tryz.func7 Tryz.ntmps7 (rs:=[.tmp 6]) (Xh c t kk) ?_;have hi:=h.i;have hl:=uG hi;have htk:List.take 43 (bZ c)=bZ c:=cA aq;have h6:=yI (c:=c);have hSm:=GW c h.t hi;have hSd:=nS c;have hSd6:=AO c.t c.n c.coins;have i3:=Xg kk n1 n2;obtain⟨n,hn,hn3⟩:∃n:Nat,kk%4=(n:Int)∧n≤3:=⟨(kk%4).toNat,aq,aq⟩;rw[hn]at i3
 cases hs:nc c with
 |false =>
  rw[hs]at hSm;generalize bZ c=Q at *;simp[go_sem,hl,htk];refine ag hSm hSd ?_;simp[go_sem];refine ag fD aw ?_;simp[go_sem,ah];exact aa a9 rfl
 |true =>
 rw[hs]at hSm;obtain⟨hk,hsl,hst,hst2⟩:=Le h hs;have hCk:=B8 c.t c.n c.coins hk.t (by have:=hk.cc.1;omega);by_cases hc0:bM c.t c.n c.coins=0
 case neg =>
  generalize bM c.t c.n c.coins=ck at *;generalize eS c.t c.n c.coins=S at *;generalize bZ c=Q at *;simp[go_sem,hl,htk];refine ag hSm hSd ?_;simp[go_sem,hl,htk,h6];refine ag hCk hSd6 ?_;simp[go_sem,hc0];refine ag fD aw ?_;simp[go_sem,ah];exact aa a9 rfl
 obtain⟨_,d2,d3,d4⟩:=Pg hc0;rw[hc0]at hCk;by_cases ct:t.length≤100
 case neg =>
  have i1:(100:Int)<(t.length:Int):=aq;generalize eS c.t c.n c.coins=S at *;generalize bZ c=Q at *;simp[go_sem,hl,htk];refine ag hSm hSd ?_;simp[go_sem,hl,htk,h6];refine ag hCk hSd6 ?_;simp[go_sem,nb,i1];refine ag fD aw ?_;simp[go_sem,ah];exact aa a9 rfl
 have i1:¬(100:Int)<(t.length:Int):=aq;obtain⟨s,ok,p,out,hout,f1,g1⟩:=A5 h hs t (dN (n:Int)) 187 aq htb (by have:=hJ (n:Int);omega) (d5 _) ⟨aq,aq⟩ Uf;have hpu:=sx t aq htb;have hN:=Ns (n:Int) aq aq;have h40:(bZ c)[40]?=some (.d (.ro 1 (c.start.map bC))):=nf hi 0;have g40:∀h:40<(bZ c).length,(bZ c)[40]'h=AV.d (.ro 1 (c.start.map bC)):=fun h=>(List.getElem_of_getElem? h40).2;have hkd:=fun s start=>Qc c s start;have w3:IntKind.i64.wrap (3+(n:Int))=3+(n:Int):=IntWalk.i64_in _ aq;generalize hQ:bZ c=Q at *;generalize hS:eS c.t c.n c.coins=S at *;generalize hw1:bo t=w1 at *;generalize hw2:bo (dN (n:Int))=w2 at *;have w1l:(oy w1).length=2:=rfl;have w1t:List.take 2 (oy w1)=oy w1:=rfl;have w2l:(oy w2).length=2:=rfl;have w2t:List.take 2 (oy w2)=oy w2:=rfl;simp[go_sem,hl,htk,i3];refine ag hSm hSd ?_;simp[go_sem,hl,htk,h6];refine ag hCk hSd6 ?_;simp[go_sem,nb,i1];refine ag hpu a9 ?_;simp[go_sem,hl,htk,w1l,w1t];refine ag hN a9 ?_;simp[go_sem,hl,htk,w1l,w1t,w2l,w2t];refine bN [768] f1 rfl (aj (G3 rfl aw) (aj (.one (ak (.nil 1))) aD)) ?_;clear f1 hN hpu hw1 hw2 w1l w1t w2l w2t
 cases ok with
 |false =>
  simp[go_sem,aE];refine ag fD aw ?_;simp[go_sem,ah];exact aa a9 rfl
 |true =>
 obtain⟨b1,a1,a0⟩:=g1 rfl;clear g1;by_cases hsn:c.start.length=3+n
 case neg =>
  have q1:¬(c.start.length:Int)=3+(n:Int):=aq;simp[go_sem,aE,hl,htk,h40,g40,w3,q1];refine ag fD aw ?_;simp[go_sem,ah];exact aa a9 rfl
 have q1:(c.start.length:Int)=3+(n:Int):=aq;have hd1:=hkd s c.start;simp[go_sem,aE,hl,htk,h40,g40,w3,q1];have h34:=AS (c:=c) hi;rw[hQ]at h34;have zl:(aL z32 .nil .nil).length=34:=rfl;have zd:List.drop 34 (aL z32 .nil .nil)=[]:=rfl;have hlf:=sf hi (.d (cH c.path)) (.d (nb c.script));have hls:=rC hi (.d (cH c.path)) (.d (nb c.script)) (.d (nb s));have hls2:=wO hi (.d (cH c.path)) (.d (nb c.script)) (.d (nb s));have hlf2:=sf hi (.d (cH c.path)) (.d (nb s));have htk2:List.take 34 (aL c.inner (.d (cH c.path)) (.d (nb s)))=aL c.inner (.d (cH c.path)) (.d (nb s)):=cA aq;obtain⟨k,hkn⟩:∃k:Nat,c.n=(k:Int):=⟨c.n.toNat,aq⟩;have hkl:k<c.coins.length:=aq;have hki:c.coins[k]?=some (c.coins[k]):=cm hkl;have hca:db c.coins c.n=c.coins[k]:=by unfold db;rw[hkn,Int.toNat_natCast,hki];rfl
 have hcv:=hk.cb _ (List.getElem_mem hkl);have e2:Q[2]?=some (.d (.ro 2 (c.t.outs.map eO))):=by rw[←hQ];rfl
 have e4:Q[4]?=some (.d (.int .i64 (k:Int))):=by rw[←hQ,←hkn];rfl
 have e5:Q[5]?=some (.d (.ro 2 (c.coins.map eO))):=by rw[←hQ];rfl
 have l2:∀h:2<Q.length,Q[2]'h=_:=fun h=>(List.getElem_of_getElem? e2).2;have l4:∀h:4<Q.length,Q[4]'h=_:=fun h=>(List.getElem_of_getElem? e4).2;have l5:∀h:5<Q.length,Q[5]'h=_:=fun h=>(List.getElem_of_getElem? e5).2;have htS:List.take c.start.length (c.start.map bC)=c.start.map bC:=cA aw;obtain⟨L,er⟩:=p;unfold lX at b1;simp only at a1 a0 b1;refine ag b1 hd1 ?_;by_cases z1:er=0
 case neg =>
  have hcl:=a0 z1;subst hcl;simp[go_sem,z1];refine ag fD aw ?_;simp[go_sem,ah];exact aa a9 rfl
 subst z1;obtain⟨sg,msg,m1,m2⟩:=a1 rfl;obtain⟨u2,j,o,x1,x2,x3,x4⟩:=A6 (p:=(L,0)) hn3 hsn m1 m2;simp only at x4;clear m1 m2 a0 a1 b1;have hU:=tu (c.start.drop 3) t (by rw[e_];omega) (fun x hx=>⟨by have:=hst2.2 x (List.mem_of_mem_drop hx);omega,h.st x (List.mem_of_mem_drop hx)⟩) aq
 have hUl:(gZ (c.start.drop 3) t).1.length≤1000:=by
  unfold gZ at u2⊢
  split at u2
  ·cases u2
  ·split at u2
   ·cases u2
   ·rename_i hq;rw[if_neg hq];simp only;omega
 rw[u2]at hU;obtain⟨o1,o2⟩:=hout (gZ (c.start.drop 3) t).1 aq;generalize(gZ (c.start.drop 3) t).1=U at *;rw[x2,←x3]at o2;rw[←x3]at o1;rw[List.map_drop]at hU;have hTr:=uF c.t c.n c.coins c.inner c.path s U o.2 (j:Int) (-1) 0 0 hk.t (by have:=hk.cc.1;omega) hi o1 h.ob h.cb aq o2;rw[Lo hc0 x1 rfl,hS]at hTr
 have hTd:∀v,v∈[AV.agg S,cM c.inner c.path s,.d (nb U),.agg [.d (.int .i64 (j:Int)),.d (.int .i64 (-1))],.d (.int .i64 0)]→v.deep:=by
  intro v hv;simp only[et,List.mem_nil_iff,or_false]at hv;rcases hv with rfl|rfl|rfl|rfl|rfl
  ·exact hSd6 _ aw
  ·exact cN c.inner c.path s _ (List.mem_singleton.2 rfl)
  ·trivial
  ·intro v hv;simp only[et,List.mem_nil_iff,or_false]at hv;rcases hv with rfl|rfl<;>trivial
  ·trivial
 unfold cM at hTr hTd;have hl6:S.length=6:=by rw[←hS];rfl
 have hobj:=h.ob;rw[hca]at x4;generalize c.coins[k]=V at *;simp[go_sem,hl,htk,h40,g40,htS];refine⟨aq,?_⟩;refine ag hU a9 ?_;simp[go_sem,hl,htk,h34,hlf,hls,hls2,hlf2,htk2,zl,zd,e5,e4,l4,l5,hki,eO]
 have hL12:L.length=1∨L.length=2:=by
  rcases x4 with rfl|⟨b,i,q,_,_,_,rfl⟩
  ·exact .inl rfl
  ·exact .inr rfl
 have hsum:qm L L.length=(V.1:Int):=by
  rcases x4 with rfl|⟨b,i,q,_,_,_,rfl⟩
  ·simp[qm]
  ·simp[qm]
 have hwr:∀(k:Nat)(x:Int×Int),L[k]?=some x→IntKind.u64.wrap (qm L k+x.2)=qm L (k+1):=by
  intro k x hx;rw[←G4 hx,fW]
  have:0≤qm L (k+1)∧qm L (k+1)≤(V.1:Int):=by
   have hkx:=(ci.1 hx).1;rcases x4 with rfl|⟨b,i,q,hb,_,_,rfl⟩
   ·match k,hkx with
    |0,_=>simp[qm]
   ·match k,hkx with
    |0,_=>simp[qm];omega
    |1,_=>simp[qm]
  omega
 refine ar (fun k:Nat=>⟨[(3,.ptr 0 0 0 1),(14,.ptr 2080 0 0 1),(15,.ptr 2496 0 0 1),(12,.d (nb U)),(13,.d (.int .i64 0)),(10,.d (.ro 2 (L.map cJ))),(16,.d (.int .u64 (qm L k))),(17,.d (.int .i64 (k:Int)))],
   [(2496,⟨57,2,[[.d (.int .u64 (V.1:Int)),.d (nb V.2)]]⟩),(2080,⟨33,34,[aL c.inner (.d (cH c.path)) (.d (nb s))]⟩),(0,⟨36,43,[Q]⟩)],9000⟩)
  (fun k=>k≤L.length) (fun k=>L.length-k) 0 aq (by
   simp[aA,ai,fv,lk,AV.low,AV.low1,hl,hlf2];refine⟨rfl,?_,?_⟩
   ·exact rB 9000 c.inner _ _ trivial trivial
   ·rw[←hQ];exact uH 9000 c) ?_
 rintro m hm;simp[go_sem];refine⟨fun hml=>?_,fun hml=>?_⟩
 ·obtain⟨x,hx,hd⟩:=bg (l:=L) (k:=m) hml;have w4:=ax (k:=m) aq;have w5:=hwr m x hx;simp[go_sem,hx,cJ,w4,w5];refine ao (m+1) aq aq ?_;simp[aA,ai,fv,lk,AV.low,AV.low1,hl,hlf2];refine⟨?_,?_⟩
  ·exact rB 9000 c.inner _ _ trivial trivial
  ·rw[←hQ];exact uH 9000 c
 ·have hme:m=L.length:=aq;subst hme;simp only[hsum];simp[go_sem];refine b7 [0,1,2,3,4,5,6,7,8,9,10,11,12,13,14,15,16,17,18,19,20,21,22,23,24,25,26,27,28,29,30,31,32,33,34,35,36,37,38,39,40,41,42] [] 0 (k:=43) ?_;intro G hG;have xl:j<c.t.outs.length:=(ci.1 x1).1;have j1:¬(j:Int)<0:=aq;have j2:¬(c.t.outs.length:Int)≤(j:Int):=aq;have j3:¬c.t.outs.length≤j:=aq;have v0:IntKind.i64.wrap 0=0:=by decide
  have v1:IntKind.i64.wrap 1=1:=by decide
  rcases x4 with rfl|⟨b,i,q,hb,y1,y2,rfl⟩
  ·simp[go_sem,hl,cJ,e2,l2,j1,j2,j3,v0];refine hG _ _ ?_;clear hG G;simp[go_sem];refine b7 [0,1,2,3,4,5,6,7,8] [(9,[10,11,12,13,14])] 1 (k:=15) ?_;intro G hG;simp[go_sem,hl,hl6,h6,hlf2,htk2,cJ];refine ag hTr hTd ?_;simp[go_sem];refine hG _ _ ?_;clear hG G;simp[go_sem];refine b7 [] [(0,[1,2,3,4,5,6,7,8,9,10,11,12,13,14,15,16,17,18,19,20,21,22,23,24])] 1 (k:=25) ?_;intro G hG;simp[go_sem,cJ];refine ag fD aw ?_;simp[go_sem,ah];refine hG _ _ ?_;clear hG G;simp[go_sem,ah];exact aa (v:=.d (.bool true)) trivial rfl
  ·have yl:i<c.t.outs.length:=(ci.1 y1).1;have k1:¬(i:Int)<0:=aq;have k2:¬(c.t.outs.length:Int)≤(i:Int):=aq;have k3:¬c.t.outs.length≤i:=aq;simp[go_sem,hl,cJ,e2,l2,j1,j2,j3,k1,k2,k3,v1];refine hG _ _ ?_;clear hG G;simp[go_sem];refine b7 [0,1,2,3,4,5,6,7,8] [(9,[10,11,12,13,14])] 1 (k:=15) ?_;intro G hG;simp[go_sem,hl,hl6,h6,hlf2,htk2,cJ];refine ag hTr hTd ?_;simp[go_sem];refine hG _ _ ?_;clear hG G;simp[go_sem];refine b7 [] [(0,[1,2,3,4,5,6,7,8,9,10,11,12,13,14,15,16,17,18,19,20,21,22,23,24])] 1 (k:=25) ?_;intro G hG;simp[go_sem,cJ];refine ag fD aw ?_;have hqb:=hobj q (cr y1);simp[go_sem,hl,e2,l2,y1,k1,k2,k3,eO,nb];refine sy q.2 5 hqb (by simp[go_sem]) (by simp[go_sem]) Tryz.underlying5 ?_;simp[go_sem,nb];refine sy V.2 5 hcv.1 (by simp[go_sem]) (by simp[go_sem]) Tryz.underlying5 ?_;simp[go_sem,y2];refine hG _ _ ?_;clear hG G;simp[go_sem,ah];exact aa (v:=.d (.bool true)) trivial rfl
end Go.Proofs.YtmfnimjnneflnaaGreat
