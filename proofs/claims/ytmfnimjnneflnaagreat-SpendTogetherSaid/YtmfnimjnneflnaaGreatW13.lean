/-
 Part 14 of what the claim rests on.
-/
import Derived.Test.YtmfnimjnneflnaaGreatW12
set_option linter.unusedVariables false
set_option linter.unusedSimpArgs false
set_option maxRecDepth 100000
set_option maxHeartbeats 16000000
namespace Go.Proofs.YtmfnimjnneflnaaGreat
open Go.Am Go.Sha
end Go.Proofs.YtmfnimjnneflnaaGreat
namespace Go.Sha
open Go.Proofs.YtmfnimjnneflnaaGreat Go.Am
structure CsF where
 t:Tn
 n:Int
 coins:List (Nat×List Nat)
 inner:List Nat
 path:List (List Nat)
 script:List Nat
 start:List (List Nat)
 annex:List Nat
 bud:Int
end Go.Sha
namespace Go.Proofs.YtmfnimjnneflnaaGreat
open Go.Am Go.Sha
theorem Ut{inner:List Nat}(hi:inner.length=32)(a b:AV):(ay inner a b).length=34:=by simp[ay,ak,hi]
end Go.Proofs.YtmfnimjnneflnaaGreat
namespace Go.Sha
open Go.Proofs.YtmfnimjnneflnaaGreat Go.Am
end Go.Sha
namespace Go.Sha
open Go.Proofs.YtmfnimjnneflnaaGreat Go.Am
def xK(c:CsF)(sg:bg→bg→bg→Bool)(msg:bg)(out:bg→bg×Int):Rx :=
 ⟨aO,dR,sg,msg,(c.t.lock:Int),(c.t.ver:Int),(((c.t.ins[c.n.toNat]?.map Ip.seq).getD 0:Nat):Int),Pj c.t c.n.toNat,rE c.t c.n c.coins,fun s o0 o1 bk=>qJ c.t c.n c.coins o0 o1 bk (out s).1 (out s).2⟩
def A8(c:CsF)(x:Rx)(s:List Nat)(start:List (List Nat)):List (Int×Int)×Int:=if bJ c.t c.n c.coins≠0∨1000<s.length then([],1)else CH x s start c.bud
def Qy(p:List (Int×Int)×Int):AV:=.tup [.d (.ro 2 (p.1.map a8)),.d (.int .i64 p.2)]
end Go.Sha
namespace Go.Proofs.YtmfnimjnneflnaaGreat
open Go.Am Go.Sha
structure CsOk(c:CsF):Prop where
 t:Sm c.t
 cc:Qw c.coins
 cb:∀o,o∈c.coins→bytes o.2∧o.1<18446744073709551616
 ob:∀o,o∈c.t.outs→bytes o.2
 i:c.inner.length=32
 ib:bytes c.inner
 s:c.script.length≤1000
 p:∀p,p∈c.path→p.length=32
 pl:c.path.length≤1000
 a:c.annex.length≤1000
 b:gu c.bud
theorem Uu(t:Tn)(n:Int)(coins:List (Nat×List Nat))(inner:List Nat)(path:List (List Nat))(s annex:List Nat)(start:List bg)(bud:Int)(ht:Sm t)(hc:coins.length≤1000)(hi:inner.length=32)(h:bJ t n coins=1) :
  au Tryz.prog 53 [.agg (eS t n coins),de inner path s,.d (.ro 1 (start.map aP)),.d (nb annex),.d (.int .i64 bud)] (fun v=>v=.tup [.d (.ro 2 []),.d (.int .i64 1)]):=by
 have hck:=gA t n coins ht hc;have hlf:(ay inner (AV.d (dX path)) (AV.d (nb s))).length=34:=Ut hi _ _;have hlt:List.take 34 (ay inner (AV.d (dX path)) (AV.d (nb s)))=ay inner (AV.d (dX path)) (AV.d (nb s)):=cx (by rw[hlf];omega);have hdS:∀v,v∈[AV.agg (eS t n coins)]→v.deep:=mq t n coins;rw[h]at hck;simp only[eS]at hck hdS
 refine bC Tryz.func53 Tryz.ntmps53 (rs:=[.tmp 10,.tmp 11]) (by
  intro v hv;simp at hv;rcases hv with rfl|rfl|rfl|rfl|rfl
  ·simp[AV.deep,AV.deep1,eS]
  ·exact cH inner path s _ (List.mem_singleton.2 rfl)
  ·trivial
  ·trivial
  ·trivial) ?_
 simp[go_sem,de,eS,hlf,hlt];refine ag hck hdS ?_;simp[go_sem,ah];exact cB (cs':=[.d (.ro 2 []),.d (.int .i64 1)]) (ap (al (.nil 2)) (ap (aR trivial) bo)) rfl a9 rfl
theorem Uw(c:CsF)(hk:CsOk c){sg:bg→bg→bg→Bool}{out:bg→bg×Int}(hsg:Ur sg)(hout:Ls c.inner c.path out)(s:List Nat)(hs:bytes s)(hl:s.length≤100000):∃msg:bg,∀start:List (List Nat),StOk start [] →
  au Tryz.prog 53 [.agg (eS c.t c.n c.coins),de c.inner c.path s,.d (.ro 1 (start.map aP)),.d (nb c.annex),.d (.int .i64 c.bud)] (fun v=>v=Qy (A8 c (xK c sg msg out) s start)):=by
 by_cases hn:0≤c.n
 ·obtain⟨n,hn'⟩:∃n:Nat,c.n=(n:Int):=⟨c.n.toNat,aq⟩;obtain⟨msg,hx⟩:=Us ⟨c.t,n,c.coins,c.inner,c.path,s,c.annex⟩ ⟨hk.t,hk.cc,hk.cb,hk.ob,hk.i,hk.ib,hl,hk.p,hk.pl,hk.a⟩ hsg hout;refine⟨msg,fun start hst=>?_⟩
  have hr:=Uh ⟨c.t,n,c.coins,c.inner,c.path,s,c.annex⟩ (xK c sg msg out) start c.bud hk.t (by have:=hk.cc.1;show c.coins.length≤1000;omega) hk.i hs hst hk.b (fun hc _=>by
   have:=hx hc (xK c sg msg out) (by unfold xK;rw[hn'];rfl)
   exact this) (fun s o0 o1 bk=>rQ _ _ _ _ _ _ _ _)
  have e:G6 ⟨c.t,n,c.coins,c.inner,c.path,s,c.annex⟩ (xK c sg msg out) start c.bud=Qy (A8 c (xK c sg msg out) s start):=by
   unfold G6 A8;rw[hn'];simp only
   split
   ·rfl
   ·rfl
  rw[e,←hn']at hr;exact hr
 ·have hc:bJ c.t c.n c.coins=1:=by
   rcases oc c.t c.n c.coins with h|h
   ·exfalso;unfold bJ at h
    split at h
    ·cases h
    ·rename_i hq;simp only[not_or,Int.not_lt,Int.not_le]at hq;omega
   ·exact h
  refine⟨[],fun start hst=>?_⟩;have:=Uu c.t c.n c.coins c.inner c.path s c.annex start c.bud hk.t (by have:=hk.cc.1;omega) hk.i hc;have e:A8 c (xK c sg [] out) s start=([],1):=if_pos (.inl (by rw[hc];omega));rw[e];exact this
end Go.Proofs.YtmfnimjnneflnaaGreat
namespace Go.Sha
def A9(c:Int×Int):Prop:=0≤c.1∧c.1<9223372036854775808∧0≤c.2∧c.2<18446744073709551616
end Go.Sha
namespace Go.Proofs.YtmfnimjnneflnaaGreat
open Go.Am Go.Sha
def Pc(r:Rn):Prop:=∀c,c∈r.cl→A9 c
structure XP(x:Rx):Prop where
 r:∀h o,A9 ((x.rcv h o).1,(x.rcv h o).2.1)
 t:∀s o t k,∀c,c∈(x.trg s o t k).1→A9 c
theorem fB{r r':Rn}(h:Pc r)(e:r'.cl=r.cl):Pc r':=by unfold Pc at *;rw[e];exact h
theorem Lt{r:Rn}(h:Pc r)(l:List (Int×Int))(hl:∀c,c∈l→A9 c)(e:Int):Pc (u7 l e r):=by
 unfold u7
 split
 ·refine fB (r:={ aB e r with cl:=r.cl++l }) ?_ (KX _ _).cl;intro c hc;rcases cD.1 hc with q|q
  ·exact h c q
  ·exact hl c q
 ·exact h
theorem Ux{r:Rn}(h:Pc r){x:Rx}(hx:XP x):Pc (x8 x r):=by
 unfold x8;simp only;have h1:=fB h (jo r).cl;generalize bw r=p at *;have h2:=fB h1 (nk 4 p.2).cl
 split
 ·exact Lt h2 _ (fun c hc=>by
   simp only[d_,List.mem_nil_iff,or_false]at hc;subst hc
   exact hx.r _ _) _
 ·exact h2
theorem Uy{r:Rn}(hs:StOk r.main r.alt)(h:Pc r){x:Rx}(hx:XP x):Pc (x9 x r):=by
 unfold x9;simp only;have s1:=kP (most:=4) hs;have h1:=fB h (nk 4 r).cl;generalize dZ 4 r=p1 at *;have s2:=(dD s1).1;have h2:=fB h1 (jo p1.2).cl;generalize bw p1.2=p2 at *;obtain⟨_,_,_,l3⟩:=Dc s2 p1.1;have h3:=fB h2 l3.cl;generalize gP p1.1 p2.2=p3 at *;have h4:=fB h3 (nk 4 p3.2).cl;generalize dZ 4 p3.2=p4 at *;have h5:=fB h4 (nk 4 p4.2).cl;generalize dZ 4 p4.2=p5 at *;have h6:=fB h5 (nk 8 p5.2).cl;generalize dZ 8 p5.2=p6 at *
 split
 ·split
  ·exact Lt h6 _ (fun c hc=>hx.t _ _ _ _ c hc) _
  ·exact fB h6 (gr _ _).cl
 ·exact h6
theorem Xt{r:Rn}{k:Nat}(h:RnOk r k)(p:Pc r){x:Rx}(hx:XP x)(op:Nat):Pc (ve x op r):=by
 unfold ve
 split
 ·exact fB p (eK h.st h.bd 17).cl
 split
 ·exact fB p (Qs h.st h.bd x op).cl
 split
 ·exact fB p (K8 h.st h.bd x).cl
 split
 ·exact fB p (Qu h.st h.bd x).cl
 split
 ·exact fB p (Qv h.st h.bd x).cl
 split
 ·exact Uy h.st p hx
 split
 ·exact Ux p hx
 ·exact fB p (gr _ r).cl
theorem Lu{r:Rn}(p:Pc r):Pc (ku r).2:=by
 unfold ku
 split
 ·exact fB p (gr _ r).cl
 ·exact p
theorem Uz{r r':Rn}{k op:Nat}(h:RnOk r k)(p:Pc r)(hb:ox op r=some r'):Pc r':=by
 unfold ox at hb
 split at hb
 ·obtain rfl:=Option.some.inj hb
  split
  ·exact fB p (K7 h.st h.bd).cl
  ·exact p
 ·split at hb
  ·obtain rfl:=Option.some.inj hb;have h1:=Lu p;generalize ku r=q at *;obtain⟨o,r2⟩:=q
   cases o with
   |none=>exact h1
   |some b=>exact h1
  ·split at hb
   ·obtain rfl:=Option.some.inj hb;exact Lu p
   ·cases hb
theorem UA{r:Rn}{k:Nat}(h:RnOk r k)(p:Pc r){x:Rx}(hx:XP x)(w:Wd):Pc (qk x w r):=by
 unfold qk
 split
 ·exact fB p (gr _ r).cl
 ·cases hbr:ox w.1 r with
  |some r'=>exact Uz h p hbr
  | none =>
   simp only
   split
   ·exact p
   ·cases hp:fJ w with
    |none=>exact Xt h p hx w.1
    |some b =>
     simp only
     split
     ·exact fB p (KX b r).cl
     ·exact fB p (gr _ r).cl
theorem Lx(x:Rx)(hx:XP x)(h1:x.h1=aO)(h2:x.h2=dR)(hx2:∀s o0 o1 bk,(x.trg s o0 o1 bk).1.length≤2){s:bg}(hb:bytes s):∀(f a:Nat)(r:Rn),a≤s.length→RnOk r a→Pc r→Pc (o6 x s f a r)∧RnOk (o6 x s f a r) s.length
 |0,a,r,ha,h,p=>⟨p,ji h ha⟩
 | f+1,a,r,ha,h,p=>by
  rw[o6]
  split
  ·rename_i hc
   cases hq:qi s a with
   |none=>exact⟨fB p (gr 2 r).cl,ji (lZ h (eK h.st h.bd 2)) ha⟩
   |some q =>
    obtain⟨w,b⟩:=q;obtain⟨n1,n2,n3,n4,n5⟩:=yG hb hc.1 hq;exact Lx x hx h1 h2 hx2 hb f b _ n2 (ji (Dj h x h1 h2 hx2 w n3 n4) aq) (UA h p hx w)
  ·exact⟨p,ji h ha⟩
theorem PE(r:Rn):(sC r).cl=r.cl:=by
 have f1:∀(x:Int)(q:Rn),(aB x q).cl=q.cl:=fun x q=>by unfold aB;split<;>rfl
 unfold sC;simp only
 split
 ·split
  ·exact f1 _ _
  ·rw[f1,f1]
 ·split
  ·rfl
  ·exact f1 _ _
theorem Zj(c:CsF)(sg:bg→bg→bg→Bool)(msg:bg)(out:bg→bg×Int)(hc:Qw c.coins)(ho:c.t.outs.length≤6):XP (xK c sg msg out):=by
 have hcv:∀n:Int,0≤(((c.coins[n.toNat]?.map (·.1)).getD 0:Nat):Int)∧(((c.coins[n.toNat]?.map (·.1)).getD 0:Nat):Int)<18446744073709551616:=by
  intro n
  cases h:c.coins[n.toNat]? with
  |none=>simp
  |some o =>
   have:=(hc.2 o (cr h)).1;simp only[Option.map_some,Option.getD_some];omega
 have hca:(fA c.coins c.n).1<18446744073709551616:=by
  unfold fA
  cases h:c.coins[c.n.toNat]? with
  |none=>simp
  |some o=>exact(hc.2 o (cr h)).1
 refine⟨fun h o=>?_,fun s o0 o1 bk v hv=>?_⟩
 ·show A9 ((rE c.t c.n c.coins h o).1,(rE c.t c.n c.coins h o).2.1);have z:A9 (0,0):=⟨by decide,by decide,by decide,by decide⟩;unfold rE
  split
  ·exact z
  ·cases hq:c.t.outs[o.toNat]? with
   |none=>exact z
   | some p =>
    have hl:=(ci.1 hq).1;simp only
    split
    ·split
     ·exact⟨by show 0≤o;omega,by show o<_;omega,(hcv c.n).1,(hcv c.n).2⟩
     ·exact z
    ·exact z
 ·have hv:v∈(qJ c.t c.n c.coins o0 o1 bk (out s).1 (out s).2).1:=hv
  have on:∀(o:Int)(a:List Nat)(e:Int),yL c.t o a e=true→0≤o∧o<9223372036854775808:=by
   intro o a e h;unfold yL at h;simp only[Bool.and_eq_true,decide_eq_true_eq]at h;obtain⟨h0,h1⟩:=h
   cases hq:c.t.outs[o.toNat]? with
   |none=>rw[hq]at h1;cases h1
   |some p =>
    have hl:=(ci.1 hq).1;omega
  unfold qJ at hv
  split at hv
  ·cases hv
  ·split at hv
   ·cases hv
   ·rename_i h2;simp only[not_or,Bool.not_eq_false,Int.not_lt]at h2;obtain⟨a1,a2,a3⟩:=h2;have r0:=on _ _ _ a1
    split at hv
    ·simp only[d_,List.mem_nil_iff,or_false]at hv;subst hv;exact⟨r0.1,r0.2,by show 0≤_-bk;omega,by show _-bk<_;omega⟩
    ·split at hv
     ·cases hv
     ·rename_i h4;simp only[not_or,Bool.not_eq_false]at h4;have r1:=on _ _ _ h4.2;simp only[d_,List.mem_nil_iff,or_false]at hv;rcases hv with rfl|rfl
      ·exact⟨r0.1,r0.2,by show 0≤_-bk;omega,by show _-bk<_;omega⟩
      ·exact⟨r1.1,r1.2,by show 0≤bk;omega,by show bk<_;omega⟩
theorem UB(c:CsF)(hk:CsOk c)(sg:bg→bg→bg→Bool)(msg:bg)(out:bg→bg×Int){s:List Nat}{start:List (List Nat)}(hb:bytes s)(hst:StOk start []):(∀v,v∈(A8 c (xK c sg msg out) s start).1→A9 v)∧(A8 c (xK c sg msg out) s start).1.length≤2*s.length:=by
 unfold A8
 split
 ·exact⟨fun v hv=>(by cases hv),Nat.zero_le _⟩
 ·unfold CH;simp only
  split
  ·have h0:RnOk ⟨start,[],[],c.bud,[],0⟩ 0:=⟨hst,hk.b,aw,aw⟩;have h1:=lZ h0 (eK h0.st h0.bd (fu start []));have hp:Pc (aB (fu start []) ⟨start,[],[],c.bud,[],0⟩):=fB (r:=⟨start,[],[],c.bud,[],0⟩) (fun v hv=>(by cases hv)) (gr _ _).cl;obtain⟨q1,q2⟩:=Lx (xK c sg msg out) (Zj c sg msg out hk.cc hk.t.2.2.1) rfl rfl (fun s o0 o1 bk=>rQ _ _ _ _ _ _ _ _) hb (s.length+1) 0 _ (Nat.zero_le _) h1 hp;rw[PE];exact⟨q1,q2.cl⟩
  ·exact⟨fun v hv=>(by cases hv),Nat.zero_le _⟩
def Fz(c:List Nat):Prop:=33≤c.length∧(c.length-33)%32=0∧c.length≤289∧(c[0]?=some 192∨c[0]?=some 193)
theorem UC(m:Nat):∀(l:List Nat),l.length=32*m→∃ps:List (List Nat),l=ps.flatten∧(∀p,p∈ps→p.length=32)∧ps.length=m:=by
 induction m with
 |zero=>intro l h;exact⟨[],by simpa using h,aw,rfl⟩
 |succ m ih =>
  intro l h;obtain⟨ps,h1,h2,h3⟩:=ih (l.drop 32) (by rw[et];omega);refine⟨l.take 32::ps,by rw[List.flatten_cons,←h1,List.take_append_drop],fun p hp=>?_,by rw[List.length_cons,h3]⟩;rcases d_.1 hp with rfl|hp
  ·rw[List.length_take];omega
  ·exact h2 p hp
theorem UD{c:List Nat}(h:Fz c):∃(o:Bool)(inner:List Nat)(ps:List (List Nat)),c=mC o inner ps∧inner.length=32∧(∀p,p∈ps→p.length=32)∧ps.length≤8:=by
 obtain⟨h1,h2,h3,h4⟩:=h
 cases c with
 |nil=>simp at h1
 |cons b r =>
  rw[List.length_cons]at h1 h2 h3;obtain⟨ps,k1,k2,k3⟩:=UC ((r.length-32)/32) (r.drop 32) (by rw[et];omega);have hr:r.take 32++ps.flatten=r:=by rw[←k1,List.take_append_drop]
  have hl:(r.take 32).length=32:=by rw[List.length_take];omega
  rcases h4 with h4|h4
  ·exact⟨false,r.take 32,ps,by simp at h4;subst h4;unfold mC;rw[hr];rfl,hl,k2,aq⟩
  ·exact⟨true,r.take 32,ps,by simp at h4;subst h4;unfold mC;rw[hr];rfl,hl,k2,aq⟩
theorem Do:∀b:Nat,b<256→((Go.bits .andNot .u8 (b:Int) 1=192)↔(b=192∨b=193)):=by decide +kernel
def Dp:AV:=.tup [.agg (ay z32 .nil .nil),.d (.bool false),.d (.int .i64 26)]
theorem kR:Dp.deep:=by
 intro c hc;simp at hc;rcases hc with rfl|rfl|rfl
 ·exact .inr ⟨_,rfl,fun x hx=>by
   unfold ay at hx;rcases cD.1 hx with h|h
   ·exact bD _ _ h
   ·simp at h;subst h;trivial⟩
 ·exact .inl trivial
 ·exact .inl trivial
theorem Ly(c x:List Nat)(hc:bytes c)(hl:c.length≤1000000)(hx:x.length≤1000)(hb:¬Fz c):au Tryz.prog 119 [.d (nb c),.d (nb x)] (fun r=>r=Dp):=by
 refine bC Tryz.func119 Tryz.ntmps119 (rs:=[.cell 4 33,.tmp 5,.tmp 6]) a9 ?_;have w1:IntKind.i64.wrap ((c.length:Int)-33)=(c.length:Int)-33:=IntWalk.i64_in _ aq;have zlf:(ay z32 .nil .nil).length=34:=rfl;have lft:List.drop 34 (ay z32 .nil .nil)=[]:=rfl;have zt:List.take 34 (ay z32 .nil .nil)=ay z32 .nil .nil:=rfl;have i4:¬(1000<(x.length:Int)):=aq;by_cases a1:(c.length:Int)-33<0
 ·simp[go_sem,nb,w1,a1,zlf,lft,zt,ah];exact aa kR rfl
 by_cases a2':¬((c.length:Int)-33).tmod 32=0
 ·have a2:=a2';simp[go_sem,nb,w1,a1,a2,zlf,lft,zt,ah];exact aa kR rfl
 have a2:=Classical.not_not.1 a2';clear a2';by_cases a3:256<(c.length:Int)-33
 ·simp[go_sem,nb,w1,a1,a2,a3,zlf,lft,zt,ah];exact aa kR rfl
 ·have hpos:0<c.length:=aq;have h0:=cm hpos;generalize c[0]=b at h0;have hb8:b<256:=hc b (cr h0)
  have ha:¬Go.bits .andNot .u8 (b:Int) 1=192:=fun e=>hb ⟨aq,by
   rw[Int.tmod_eq_emod_of_nonneg aq]at a2;omega,aq,by
   rw[h0];rcases(Do b hb8).1 e with rfl|rfl<;>simp⟩
  simp[go_sem,nb,w1,a1,a2,a3,h0,ha,zlf,lft,zt,ah];exact aa kR rfl
def qK:AV:=.tup [.agg (ay z32 .nil .nil),.d (.int .i64 26)]
theorem iu:qK.deep:=by
 intro c hc;simp at hc;rcases hc with rfl|rfl
 ·exact .inr ⟨_,rfl,fun x hx=>by
   unfold ay at hx;rcases cD.1 hx with h|h
   ·exact bD _ _ h
   ·simp at h;subst h;trivial⟩
 ·exact .inl trivial
theorem Hi{inner x k kk:List Nat}{ps:List (List Nat)}{o is:Bool}{e:Int}(hi:inner.length=32)(hp32:∀p,p∈ps→p.length=32)(hps:ps.length≤8)(hx:x.length≤1000)(hk:k.length=32)(hkk:kk.length=32)(he:E1 e)(f:au Tryz.prog 92 [de inner ps x] (fun r=>r=.tup [.agg (cb k),.d (.bool is),.d (.int .i64 e)])) :
  au Tryz.prog 77 [.d (nb (mC o inner ps)),.d (nb x),.agg (cb kk)] (fun r=>r=if e=0∧k=kk∧is=o then .tup [.agg (ay inner (.d (dX ps)) (.d (nb x))),.d (.int .i64 0)]else qK):=by
 refine bC Tryz.func77 Tryz.ntmps77 (rs:=[.cell 6 33,.tmp 7]) (Ft _ _ _) ?_;have zd:List.drop 32 (cb z32)=[]:=fE rfl;have zlf:(ay z32 .nil .nil).length=34:=rfl;have lft:List.drop 34 (ay z32 .nil .nil)=[]:=rfl;have zt:List.take 34 (ay z32 .nil .nil)=ay z32 .nil .nil:=rfl;have f1:=Pq o hi hp32 hps hx;simp[go_sem,ak,hkk,am hkk];refine ag f1 a9 ?_;simp[go_sem,bQ hi,bP hi,zlf,lft];refine ag f (cH _ _ _) ?_;rcases he with rfl|rfl
 ·by_cases q:k=kk
  ·subst q
   cases o<;>cases is
   ·simp[go_sem,ak,hk,am hk,zd,nL,bQ hi,bP hi,zlf,lft,zt,ah];exact Fv rfl
   ·simp[go_sem,ak,hk,am hk,zd,nL,bQ hi,bP hi,zlf,lft,zt,ah];exact aa iu rfl
   ·simp[go_sem,ak,hk,am hk,zd,nL,bQ hi,bP hi,zlf,lft,zt,ah];exact aa iu rfl
   ·simp[go_sem,ak,hk,am hk,zd,nL,bQ hi,bP hi,zlf,lft,zt,ah];exact Fv rfl
  ·have q2:¬(List.map (fun(x:Nat)=>(x:Int)) k=List.map (fun(x:Nat)=>(x:Int)) kk):=fun h=>q (tK.1 h);simp[go_sem,ak,hk,hkk,am hk,am hkk,zd,nL,q,q2,zlf,lft,zt,ah];exact aa iu rfl
 ·simp[go_sem,ak,hk,hkk,am hk,am hkk,zd,nL,zlf,lft,zt,ah];exact aa iu rfl
theorem Hj(c x kk:List Nat)(hc:bytes c)(hl:c.length≤1000000)(hx:x.length≤1000)(hkk:kk.length=32)(hb:¬Fz c) :
  au Tryz.prog 77 [.d (nb c),.d (nb x),.agg (cb kk)] (fun r=>r=qK):=by
 refine bC Tryz.func77 Tryz.ntmps77 (rs:=[.cell 6 33,.tmp 7]) (Ft _ _ _) ?_;have zd:List.drop 32 (cb z32)=[]:=fE rfl;have zlf:(ay z32 .nil .nil).length=34:=rfl;have lft:List.drop 34 (ay z32 .nil .nil)=[]:=rfl;have zt:List.take 34 (ay z32 .nil .nil)=ay z32 .nil .nil:=rfl;simp[go_sem,ak,hkk,am hkk];refine ag (Ly c x hc hl hx hb) a9 ?_;simp[go_sem,Dp,zlf,lft,zt,ah];exact aa iu rfl
theorem LA(c x kk:List Nat)(hc:bytes c)(hl:c.length≤1000000)(hx:x.length≤1000)(hkk:kk.length=32) :
  ∃(inner:List Nat)(ps:List (List Nat))(e:Int),au Tryz.prog 77 [.d (nb c),.d (nb x),.agg (cb kk)] (fun r=>r=if e=0 then .tup [.agg (ay inner (.d (dX ps)) (.d (nb x))),.d (.int .i64 0)]else qK) ∧
   (e=0→inner.length=32∧bytes inner∧(∀p,p∈ps→p.length=32)∧ps.length≤8):=by
 by_cases h:Fz c
 ·obtain⟨o,inner,ps,rfl,h1,h2,h3⟩:=UD h;have hib:bytes inner:=fun y hy=>hc y (by unfold mC;exact cS _ (List.mem_append_left _ hy));obtain⟨k,is,e,k1,k2,k3,f,_⟩:=wO inner ps x h1 hib h2 aq aq;have:=Hi (o:=o) h1 h2 h3 hx k1 hkk k3 f;by_cases q:e=0∧k=kk∧is=o
  ·rw[if_pos q]at this;exact⟨inner,ps,0,by rw[if_pos rfl];exact this,fun _=>⟨h1,hib,h2,h3⟩⟩
  ·rw[if_neg q]at this;exact⟨[],[],1,by rw[if_neg aq];exact this,fun q=>absurd q aq⟩
 ·exact⟨[],[],1,by rw[if_neg aq];exact Hj c x kk hc hl hx hkk h,fun q=>absurd q aq⟩
def PG(ann:List Nat):Nat:=if ann=[]then 0 else 1
def UE(t:Tn)(n:Nat)(coins:List (Nat×List Nat))(ann:List Nat):List Nat :=
 [0,0]++le t.ver 4++le t.lock 4++aO (t.ins.map mD).flatten++aO (coins.map pq).flatten++aO (coins.map qG).flatten++aO (t.ins.map nl).flatten++aO (t.outs.map fY).flatten++[PG ann]++le n 4++A5 ann
theorem PH (t:Tn) (n:Int) (coins:List (Nat × List Nat)) (ann:List Nat) (ht:Sm t) (hc:Qw coins) (hal:ann.length≤1000) (c0:bJ t n coins=0) :
    au Tryz.prog 43 [.agg (eS t n coins),.d (nb []),.d (nb ann)] (fun r=>r=.tup [.agg (cb (eu df (UE t n.toNat coins ann))),.d (.int .i64 0)]):=by
  refine bC Tryz.func43 Tryz.ntmps43 (rs:=[.cell 6 29,.tmp 7]) (Ln t n coins [] ann) ?_;have hck:=gA t n coins ht (by have:=hc.1;omega);have hd1:=mq t n coins
  · rw [c0] at hck
    have hn:0≤n∧n<coins.length:=by
      unfold bJ at c0
      split at c0
      · cases c0
      · rename_i hx
        simp only[not_or,Int.not_lt,Int.not_le]at hx;exact⟨hx.2.2.1,hx.2.2.2.1⟩
    obtain⟨m,rfl⟩:∃m:Nat,n=(m:Int):=⟨n.toNat,aq⟩;rw[Int.toNat_natCast];obtain⟨hv,hlk,hi,ho⟩:=ht.1;have p1:=A4 t ht;have p2:=A3 coins hc.1 hc.2;have hmsg:UE t m coins ann=[0,0]++le t.ver 4++le t.lock 4++aO (t.ins.map mD).flatten++aO (coins.map pq).flatten++aO (coins.map qG).flatten++aO (t.ins.map nl).flatten++aO (t.outs.map fY).flatten++[PG ann]++le m 4++A5 ann:=rfl;generalize UE t m coins ann=M at *;have l1:=aJ (t.ins.map mD).flatten;have l2:=aJ (t.ins.map nl).flatten;have l3:=aJ (t.outs.map fY).flatten;have l4:=aJ (coins.map pq).flatten;have l5:=aJ (coins.map qG).flatten;generalize aO (t.ins.map mD).flatten=a at *;generalize aO (t.ins.map nl).flatten=b at *;generalize aO (t.outs.map fY).flatten=c at *;generalize aO (coins.map pq).flatten=x at *;generalize aO (coins.map qG).flatten=y at *;have hT:=s6 t;simp only[eT,eS]at hT hck hd1 p1;have hL:(cb a++cb b++cb c).length=96:=by simp[ak,l1,l2,l3]
    have hT2:List.take 96 (cb a++cb b++cb c)=cb a++cb b++cb c:=cx aq;have hE:cb (a++(b++c))=cb a++cb b++cb c:=by rw[nn,nn,cA]
    rw[hE]at p1;simp[go_sem,eS];refine ag hck hd1 ?_;simp[go_sem,nb];refine gj [512] (dH [0,0] t.ver aw hv) rfl (aj (.one (al (aM (L:=[0,0]) rfl rfl aw))) (aj (.deep a9) aC)) (fun ρ=>by simp[AV.renL,AV.ren]) ?_;rintro r hp'⟨I,rfl,h0⟩;refine⟨[(I,0)],by simp[cv,fi],?_⟩;generalize hA1:[0,0]++le t.ver 4=A1 at *;have hA1l:A1.length=6:=by rw[←hA1];simp[aQ]
    simp[go_sem,bU,bM,h0,Blk.ren,aV,dI,AV.renL,AV.ren,bT,aE];clear h0 hp';refine gj [640] (dH A1 t.lock aq hlk) rfl (aj (.one (al (aM rfl rfl aw))) (aj (.deep a9) aC)) (fun ρ=>by simp[AV.renL,AV.ren]) ?_;rintro r hp'⟨I,rfl,h0⟩;refine⟨[(I,0)],by simp[cv,fi],?_⟩;generalize hA2:A1++le t.lock 4=A2 at *;have hA2l:A2.length=10:=by rw[←hA2];simp[aQ,hA1l]
    simp[go_sem,bU,bM,h0,Blk.ren,aV,dI,AV.renL,AV.ren,bT,aE];clear h0 hp';have r0:List.take 32 (cb a++cb b++cb c)=cb a:=by rw[cA,←l1,←ak a,List.take_left]
    have r1:List.take 32 (List.drop 32 (cb a++cb b++cb c))=cb b:=by rw[cA,show List.drop 32 (cb a++(cb b++cb c))=cb b++cb c by rw[←l1,←ak a,List.drop_left],←l2,←ak b,List.take_left]
    have r2:List.take 32 (List.drop 64 (cb a++cb b++cb c))=cb c:=by
      rw[show List.drop 64 (cb a++cb b++cb c)=cb c by rw[show 64=(cb a++cb b).length by simp[ak,l1,l2],List.drop_left]];exact am l3
    generalize hR:cb a++cb b++cb c=R at *;refine ag p1 hT ?_;simp[go_sem,hL,hT2,uL,ak,oe];refine ag p2 a9 ?_;simp[go_sem,ak,l1,l2,l3,l4,l5,am l4,am l5,bA,hL,r0,r1,r2,rP];rw[yK (A:=cb a) (n:=32) (m:=64) (by rw[ak,l1]) aq,←cA (cb a) (cb x),kq (A:=cb a++cb x) (n:=64) (m:=96) (by simp[ak,l1,l4]) aq,kq (A:=cb a++cb x++cb y) (n:=96) (m:=128) (by simp[ak,l1,l4,l5]) aq,kq (A:=cb a++cb x++cb y++cb b) (n:=128) (m:=160) (by simp[ak,l1,l4,l5,l2]) aq,uM,List.append_nil];have hF:=fun k hk=>Qx (a:=a) (b:=x) (c:=y) (d:=b) (e:=c) k hk l1 l4 l5 l2 l3;have hG:cb a++cb x++cb y++cb b++cb c=cb (a++x++y++b++c):=by simp[nn]
    have hGl:(a++x++y++b++c).length=160:=by simp[l1,l4,l5,l2,l3]
    rw[hG]at hF⊢
    have hW:∀k,k<5→([a,x,y,b,c].getD k []).length=32:=by
      intro k hk
      match k,hk with
      |0,_=>exact l1
      |1,_=>exact l4
      |2,_=>exact l5
      |3,_=>exact l2
      |4,_=>exact l3
    have hS:∀k,k<5→([a,x,y,b,c].take (k+1)).flatten=([a,x,y,b,c].take k).flatten++[a,x,y,b,c].getD k []:=by
      intro k hk
      match k,hk with
      |0,_=>simp
      |1,_=>simp
      |2,_=>simp
      |3,_=>simp
      |4,_=>simp
    have hfin:A2++a++x++y++b++c=A2++([a,x,y,b,c].take 5).flatten:=by simp
    rw[hfin]at hmsg;clear hfin;generalize a++x++y++b++c=G at *;generalize[a,x,y,b,c]=HS at *
    refine av (fun u:Nat×List Nat=>⟨[(1,.d (nb [])),(2,.d (nb ann)),(3,.ptr 0 0 0 1),(6,.ptr 32 0 0 1),(8,.own 832 0 u.2.length u.2.length),(57,.agg (cb G)),(58,.d (.int .i64 (u.1:Int)))],
        [(832,⟨5,1,rb u.2⟩),(32,⟨29,32,[cb z32]⟩),(0,⟨28,6,[eS t m coins]⟩)],3000⟩)
      (fun u=>u.1≤5∧u.2.length=10+32*u.1∧u.2=A2++(HS.take u.1).flatten) (fun u=>5-u.1) (0,A2) ⟨aw,by simp;omega,aw⟩ (by
        simp[az,ai,fv,lk,AV.low,AV.low1,nb,eS]
        exact⟨aI _ _,bq _ _,aI _ _⟩) ?_
    rintro⟨k,B⟩⟨hk,hBl,hB⟩;simp only at hk hBl hB;simp only[eS];simp only[go_sem,Nat.reduceEqDiff,Nat.reduceAdd,Nat.reduceLT,↓reduceIte,Nat.reduceMul];refine⟨fun hlt=>?_,fun hlt=>?_⟩
    · have hk5:k<5:=aq
      have hw:=hW k hk5;have hs:=hS k hk5;have hf:=hF k hk5;have w3:=ax (k:=k) aq;have g1:32≤G.length-k*32:=aq;generalize HS.getD k []=w at *;have hx:=(eN hw).trans (cC w);simp[go_sem]at hx;simp[go_sem,hk5,hf,g1,ak,hw,bA,hx,aG,jZ,w3];refine⟨aq,aq,?_⟩;refine ao (k+1,B++w) ⟨by simp only;omega,by simp only[b_,hw];omega,by simp only;rw[hs,hB,cA]⟩ (by simp only;omega) ?_;simp[az,ai,fv,lk,AV.low,AV.low1,nb,eS,hw];exact⟨aI _ _,bq _ _,aI _ _⟩
    · have hk5:k=5:=aq
      subst hk5;rw[←hB]at hmsg;have wn:IntKind.u32.wrap (m:Int)=(m:Int):=by rw[IM];have:=hc.1;omega
      have hn8:m<4294967296:=by have:=hc.1;omega
      by_cases han:ann=[]
      · subst han
        have ha1:PG []=0:=rfl;have ha2:A5 []=[]:=rfl;rw[ha1,ha2,List.append_nil]at hmsg;simp[go_sem,nb];have hB1l:(B++[0]).length=B.length+1:=by simp
        have hB2l:(B++[0]++le m 4).length=B.length+5:=by simp[aQ]
        generalize hB2:B++[0]++le m 4=B2 at *;refine dh [0,1] [2,3,4,5,6,7,8] [0,1] (.alt (bt 2 (.alt (a_ [3,4,5,6,7,8]) (bt 4 (.alt (a_ [3,5,6,7,8]) (bt 5 (.alt (a_ [3,6,7,8]) (bt 6 (a_ [3,7,8])))))))) (bt 4 (.alt (bt 2 (.alt (a_ [3,5,6,7,8]) (bt 5 (.alt (a_ [3,6,7,8]) (bt 6 (a_ [3,7,8])))))) (bt 5 (.alt (bt 2 (.alt (a_ [3,6,7,8]) (bt 6 (a_ [3,7,8])))) (bt 6 (bt 2 (a_ [3,7,8])))))))) ⟨[(1,.d (nb [])),(2,.d (nb [])),(3,.ptr 0 0 0 1),(6,.ptr 32 0 0 1),(8,.own 3480 0 B2.length B2.length)],[(3480,⟨5,1,rb B2⟩),(32,⟨29,32,[cb z32]⟩)],6000⟩ (k:=9) ?h3 ?hq
        case h3 =>
          intro G hG
          have hW:∀(fr:Fr)(hp:Hp),(fv 1 fr=.d (nb [])∧fv 2 fr=.d (nb [])∧fv 3 fr=.ptr 0 0 0 1∧fv 6 fr=.ptr 32 0 0 1∧fv 8 fr=.own 3480 0 B2.length B2.length∧lk 3480 hp=some ⟨5,1,rb B2⟩∧lk 32 hp=some ⟨29,32,[cb z32]⟩)→G fr hp:=by
            rintro fr hp⟨q0,q1,q2,q3,q4,q5,q6⟩;refine hG _ _ (cf ⟨?_,?_,aw⟩)
            · simp[ai,AV.low,AV.low1,q0,q1,q2,q3,q4,nb]
            · simp [q5,q6]
              exact⟨bq _ _,aI _ _⟩
          have hrb:rb B++[[AV.d (DV.int IntKind.u8 0)]]=rb (B++[0]):=by simp[rb]
          have hp:=dH (B++[0]) m (by rw[hB1l];omega) hn8;rw[hB2]at hp;simp[go_sem,wn,aG,hrb]
          repeat' apply And.intro
          all_goals first
            |omega
            | (refine gj [832] hp rfl (aj (.one (al (aM hB1l rfl aw))) (aj (.deep a9) aC)) (fun ρ=>by simp [AV.renL,AV.ren]) ?_
               rintro r hp'⟨I,rfl,h0⟩;refine⟨[(I,0)],by simp[cv,fi],?_⟩;simp[go_sem,bU,bM,h0,Blk.ren,aV,dI,AV.renL,AV.ren,bT,aE];refine hW _ _ ?_
               simp[fv,lk,nb])
        case hq =>
          have hMl:M.length≤1000:=by rw[hmsg];omega
          simp[go_sem,nb,aG,←hmsg];refine bV [3480] (eV df _ rfl M (by simp[df]) aq) rfl (aj (.deep a9) (aj (.one (al (aM rfl rfl aw))) aC)) ?_;have hR:=aJ (aO df++(aO df++M));have hR':(eu df M).length=32:=hR;generalize eu df M=S at *;simp[go_sem,aE,hR',ak,am hR',bA,ah]
          exact aa (by
            intro c hc;simp only[d_,List.mem_nil_iff,or_false]at hc;rcases hc with rfl|rfl
            · exact .inr ⟨_,rfl,bD _⟩
            · exact .inl trivial) rfl
      · have hal0:¬ ann.length=0:=fun h=>han (List.length_eq_zero_iff.1 h)
        have hali:(0:Int)<(ann.length:Int):=aq;have halp:0<ann.length:=aq;have ha1:PG ann=1:=if_neg han;have ha2:A5 ann=aO (bY ann):=if_neg han;have hb3:bits BinOp.or IntKind.u8 0 1=1:=by decide
        rw[ha1,ha2]at hmsg;have hpb:=ew [] ann aw aq;have hsm:=jM (bY ann) (by have:=ke ann;omega);have hql:=aJ (bY ann);rw[show[]++(aL ann.length++ann)=bY ann from rfl]at hpb;generalize aO (bY ann)=Q at *;generalize bY ann=BA at *;simp[go_sem,nb,hali,halp];have hB1l:(B++[1]).length=B.length+1:=by simp
        have hB2l:(B++[1]++le m 4).length=B.length+5:=by simp[aQ]
        generalize hB2:B++[1]++le m 4=B2 at *;refine dh [0,1] [2,3,4,5,6,7,8] [0,1] (.alt (bt 2 (.alt (a_ [3,4,5,6,7,8]) (bt 4 (.alt (a_ [3,5,6,7,8]) (bt 5 (.alt (a_ [3,6,7,8]) (bt 6 (a_ [3,7,8])))))))) (bt 4 (.alt (bt 2 (.alt (a_ [3,5,6,7,8]) (bt 5 (.alt (a_ [3,6,7,8]) (bt 6 (a_ [3,7,8])))))) (bt 5 (.alt (bt 2 (.alt (a_ [3,6,7,8]) (bt 6 (a_ [3,7,8])))) (bt 6 (bt 2 (a_ [3,7,8])))))))) ⟨[(1,.d (nb [])),(2,.d (nb ann)),(3,.ptr 0 0 0 1),(6,.ptr 32 0 0 1),(8,.own 3576 0 B2.length B2.length)],[(3576,⟨5,1,rb B2⟩),(32,⟨29,32,[cb z32]⟩)],6000⟩ (k:=9) ?h3 ?hq
        case h3 =>
          intro G hG
          have hW:∀(fr:Fr)(hp:Hp),(fv 1 fr=.d (nb [])∧fv 2 fr=.d (nb ann)∧fv 3 fr=.ptr 0 0 0 1∧fv 6 fr=.ptr 32 0 0 1∧fv 8 fr=.own 3576 0 B2.length B2.length∧lk 3576 hp=some ⟨5,1,rb B2⟩∧lk 32 hp=some ⟨29,32,[cb z32]⟩)→G fr hp:=by
            rintro fr hp⟨q0,q1,q2,q3,q4,q5,q6⟩;refine hG _ _ (cf ⟨?_,?_,aw⟩)
            · simp[ai,AV.low,AV.low1,q0,q1,q2,q3,q4,nb]
            · simp [q5,q6]
              exact⟨bq _ _,aI _ _⟩
          have hrb:rb B++[[AV.d (DV.int IntKind.u8 1)]]=rb (B++[1]):=by simp[rb]
          have hp:=dH (B++[1]) m (by rw[hB1l];omega) hn8;rw[hB2]at hp;simp[go_sem,wn,hb3,aG,hrb]
          repeat' apply And.intro
          all_goals first
            |omega
            | (refine gj [832] hp rfl (aj (.one (al (aM hB1l rfl aw))) (aj (.deep a9) aC)) (fun ρ=>by simp [AV.renL,AV.ren]) ?_
               rintro r hp'⟨I,rfl,h0⟩;refine⟨[(I,0)],by simp[cv,fi],?_⟩;simp[go_sem,bU,bM,h0,Blk.ren,aV,dI,AV.renL,AV.ren,bT,aE];refine hW _ _ ?_
               simp[fv,lk,nb])
        case hq =>
          simp[go_sem,nb,hali,halp];refine bV [] hpb rfl (aj (.one (al (.nil 1))) (aj (.deep a9) aC)) ?_;simp[go_sem,aE];refine ag hsm a9 ?_;have hx:=(eN hql).trans (cC Q);simp[go_sem]at hx;simp[go_sem,nb,hql,ak,am hql,bA,hx,aG,jZ];have hMl:M.length≤1000:=by rw[hmsg,b_];omega
          refine⟨aq,?_⟩;refine bV [3576] (eV df _ rfl M (by simp[df]) aq) rfl (aj (.deep a9) (aj (.one (al (aM (L:=M) (by rw[hmsg,b_,hql]) (by rw[hmsg];rfl) aw))) aC)) ?_;have hR:=aJ (aO df++(aO df++M));have hR':(eu df M).length=32:=hR;generalize eu df M=S at *;simp[go_sem,aE,hR',ak,am hR',bA,ah]
          exact aa (by
            intro c hc;simp only[d_,List.mem_nil_iff,or_false]at hc;rcases hc with rfl|rfl
            · exact .inr ⟨_,rfl,bD _⟩
            · exact .inl trivial) rfl
theorem PI(t:Tn)(n:Int)(coins:List (Nat×List Nat))(ann:List Nat)(ht:Sm t)(hc:Qw coins)(hal:ann.length≤1000)(c0:bJ t n coins=0) :
  ∃q:List Nat,q.length=32∧bytes q∧au Tryz.prog 43 [.agg (eS t n coins),.d (nb []),.d (nb ann)] (fun r=>r=.tup [.agg (cb q),.d (.int .i64 0)]) :=
 ⟨_,aJ _,gn _,PH t n coins ann ht hc hal c0⟩
end Go.Proofs.YtmfnimjnneflnaaGreat
namespace Go.Sha
open Go.Proofs.YtmfnimjnneflnaaGreat Go.Am
def kA(s:List Nat):List Nat×Bool:=if s.length=34∧s[0]?=some 81∧s[1]?=some 32 then(s.drop 2,true)else(z32,false)
def kS(s:List Nat):Nat:=if s=[81,2,78,115]then 1 else if(kA s).2=true then 2 else 0
end Go.Sha
namespace Go.Proofs.YtmfnimjnneflnaaGreat
open Go.Am Go.Sha
theorem uN(s:List Nat):(kA s).1.length=32:=by
 unfold kA
 split
 ·rename_i h;rw[et,h.1]
 ·rfl
theorem uO(k:List Nat)(b:Bool):(AV.tup [.agg (cb k),.d (.bool b)]).deep:=by
 intro c hc;simp only[d_,List.mem_nil_iff,or_false]at hc;rcases hc with rfl|rfl
 ·exact .inr ⟨_,rfl,bD _⟩
 ·exact .inl trivial
theorem FA(s:List Nat)(hl:s.length≤100000):au Tryz.prog 76 [.d (nb s)] (fun r=>r=.tup [.agg (cb (kA s).1),.d (.bool (kA s).2)]):=by
 by_cases h1:s.length=34
 case neg =>
  have hv:kA s=(z32,false):=by unfold kA;rw[if_neg (fun q=>h1 q.1)]
  have i1:¬(s.length:Int)=34:=aq;rw[hv];refine bC Tryz.func76 Tryz.ntmps76 (rs:=[.cell 2 29,.tmp 3]) a9 ?_;simp[go_sem,nb,h1,i1,ak,sL,bA,ah];exact aa (uO z32 false) rfl
 match s,h1 with
 | a :: b :: r,h1 =>
  have hr:r.length=32:=by simpa using h1
  by_cases h2:a=81
  ·by_cases h3:b=32
   ·subst h2 h3;have hv:kA (81::32::r)=(r,true):=by unfold kA;rw[if_pos ⟨h1,rfl,rfl⟩];rfl
    rw[hv];exact IW r hr
   ·have hv:kA (a::b::r)=(z32,false):=by unfold kA;rw[if_neg (fun q=>h3 (by simpa using q.2.2))]
    have i3:¬(b:Int)=32:=aq;rw[hv];refine bC Tryz.func76 Tryz.ntmps76 (rs:=[.cell 2 29,.tmp 3]) a9 ?_;simp[go_sem,nb,hr,h2,h3,i3,ak,sL,bA,ah];exact aa (uO z32 false) rfl
  ·have hv:kA (a::b::r)=(z32,false):=by unfold kA;rw[if_neg (fun q=>h2 (by simpa using q.2.1))]
   have i2:¬(a:Int)=81:=aq;rw[hv];refine bC Tryz.func76 Tryz.ntmps76 (rs:=[.cell 2 29,.tmp 3]) a9 ?_;simp[go_sem,nb,hr,h2,i2,ak,sL,bA,ah];exact aa (uO z32 false) rfl
theorem PK(s:List Nat)(hb:bytes s):au Tryz.prog 120 [.d (nb s)] (fun r=>r=.d (.bool (decide (s=[81,2,78,115])))):=by
 refine bC Tryz.func120 Tryz.ntmps120 (rs:=[.tmp 2]) a9 ?_;simp[go_sem];refine bV [64] (fZ s [81,2,78,115] hb (fun x hx=>by simp at hx;omega)) rfl (aj (.deep trivial) (aj (.one (al (aM (L:=[81,2,78,115]) rfl rfl aw))) aC)) ?_;simp[go_sem,ah];exact aa (v:=.d (.bool (decide (s=[81,2,78,115])))) trivial rfl
theorem FB(s:List Nat)(hb:bytes s)(hl:s.length≤100000):au Tryz.prog 78 [.d (nb s)] (fun r=>r=.d (.int .i64 (kS s:Int))):=by
 refine bC Tryz.func78 Tryz.ntmps78 (rs:=[.tmp 2]) a9 ?_;have hk:=FA s hl;have hkl:=uN s;unfold kS;generalize kA s=K at *;obtain⟨k,o⟩:=K;simp only at hk hkl;simp[go_sem];refine ag (PK s hb) a9 ?_;by_cases h1:s=[81,2,78,115]
 ·simp[go_sem,h1,ah];exact aa (v:=.d (.int .i64 1)) trivial rfl
 ·simp[go_sem,h1];refine ag hk a9 ?_
  cases o
  ·simp[go_sem,h1,ak,hkl,am hkl,bA,ah];exact aa (v:=.d (.int .i64 0)) trivial rfl
  ·simp[go_sem,h1,ak,hkl,am hkl,bA,ah];exact aa (v:=.d (.int .i64 2)) trivial rfl
theorem LC(w:List (List Nat))(hw:Su w):au Tryz.prog 50 [.d (.ro 1 (w.map aP))] (fun r=>r=.d (.int .i64 ((je w).length:Int))):=by
 refine bC Tryz.func50 Tryz.ntmps50 (rs:=[.tmp 2]) a9 ?_;simp[go_sem];refine bV [] (ua [] w aw hw) rfl (aj (.one (al (.nil 1))) (aj (.deep a9) aC)) ?_;rw[List.nil_append];simp[go_sem,aE,nb];exact aa (v:=.d (.int .i64 ((je w).length:Int))) trivial rfl
end Go.Proofs.YtmfnimjnneflnaaGreat
namespace Go.Sha
def np(ws:List (List Nat)):List (List Nat):=if 2≤ws.length∧(ws.getLastD []).head?=some 80 then ws.dropLast else ws
end Go.Sha
namespace Go.Proofs.YtmfnimjnneflnaaGreat
open Go.Am Go.Sha
theorem lB(b:List Nat)(hl:b.length≤100000000000):au Tryz.prog 155 [.d (nb b)] (fun r=>r=.d (nb b)):=by
 refine bC Tryz.func155 Tryz.ntmps155 (rs:=[.tmp 2]) a9 ?_;simp only[go_sem,nb,Nat.reduceEqDiff,Nat.reduceAdd,Nat.reduceLT,↓reduceIte];intro t hb
 cases t with
 |true =>
  have h0:b=[]:=List.eq_nil_of_length_eq_zero (by simpa using hb rfl);subst h0;simp[go_sem,ah];exact cQ (al (.nil 1)) a9 rfl
 |false =>
  simp[go_sem,cC,aG,ah];refine⟨aq,?_⟩;exact cQ (al (aM rfl rfl trivial)) a9 rfl
def nq(ws:List (List Nat)):List Nat:=if 2≤ws.length∧(ws.getLastD []).head?=some 80 then ws.getLastD []else[]
/-- The loop behind: what is left is copied. -/
theorem Ba(ws:List (List Nat))(hn:ws.length≤1000)(hw:∀x,x∈ws→x.length≤100000) :
  au Tryz.prog 122 [.d (.ro 1 (ws.map aP))] (fun r=>r=.tup [.d (.ro 1 ((np ws).map aP)),.d (nb (nq ws))]):=by
 refine bC Tryz.func122 Tryz.ntmps122 (rs:=[.tmp 2,.tmp 3]) a9 ?_;by_cases hc:2≤ws.length∧(ws.getLastD []).head?=some 80
 ·have hA:np ws=ws.dropLast:=if_pos hc;have hX:nq ws=ws.getLastD []:=if_pos hc;rw[hA,hX];obtain⟨h2,h80⟩:=hc
  have hlast:ws[ws.length-1]?=some (ws.getLastD []):=by
   rw[List.getLastD_eq_getLast?,←List.getLast?_eq_getElem?]
   cases hq:ws.getLast? with
   |none=>rw[List.getLast?_eq_none_iff]at hq;subst hq;simp at h2
   |some x=>rfl
  have hxl:=hw _ (cr hlast);have hdl:ws.dropLast=ws.take (ws.length-1):=List.dropLast_eq_take;rw[hdl];generalize ws.getLastD []=x at *
  obtain⟨r,hr⟩:∃r,x=80::r:=by
   cases x with
   |nil=>simp at h80
   |cons a r=>simp at h80;subst h80;exact⟨r,rfl⟩
  have h2':(2:Int)≤(ws.length:Int):=aq;have w1:IntKind.i64.wrap ((ws.length:Int)-1)=((ws.length-1:Nat):Int):=by rw[IntWalk.i64_in _ aq];omega
  have hcl:=lB x aq;have hx0:0<x.length:=by rw[hr];simp
  have hx0':(0:Int)<(x.length:Int):=aq;have hx00:x[0]?=some 80:=by rw[hr];rfl
  have hx0g:∀h:0<x.length,x[0]=80:=fun h=>(ci.1 hx00).2;have hxs:∀y,y∈ws.take (ws.length-1)→y.length≤100000000000:=fun y hy=>by have:=hw y (List.mem_of_mem_take hy);omega
  have hxn:(ws.take (ws.length-1)).length≤1000:=by rw[List.length_take];omega
  have htk:(ws.map aP).take (ws.length-1)=(ws.take (ws.length-1)).map aP:=(List.map_take).symm;have hle:ws.length-1≤ws.length:=aq;have hle':((ws.length-1:Nat):Int)≤(ws.length:Int):=aq;simp[go_sem,h2,h2',w1,hlast,aP,nb,hx0,hx0',hx00,hx0g];refine ca [0,1,2,3,4,5,6,7,8] [(9,[10,11])] 1 (k:=12) ?_;intro G hG;simp[go_sem,w1,hlast,hle,hle'];refine ag hcl a9 ?_;simp[go_sem];refine hG _ _ ?_;clear hG G;simp[go_sem];rw[←List.map_take];have hlx:(ws.take (ws.length-1)).length=ws.length-1:=by rw[List.length_take];omega
  generalize ws.take (ws.length-1)=xs at *
  refine av (fun k:Nat=>⟨[(5,.d (nb x)),(7,.own 5000 0 k k),(44,.d (.ro 1 (xs.map aP))),(45,.d (.int .i64 (xs.length:Int))),(46,.d (.int .i64 (k:Int)))],[(5000,⟨31,1,(xs.take k).map fun x=>[AV.d (nb x)]⟩)],6000⟩)
   (fun k=>k≤xs.length) (fun k=>xs.length-k) 0 aq (by
    simp[az,ai,fv,lk,AV.low,AV.low1,aP,nb];omega) ?_
  intro k hk;simp only[go_sem,Nat.reduceEqDiff,Nat.reduceAdd,Nat.reduceLT,↓reduceIte,Nat.reduceMul];refine⟨fun h=>?_,fun h=>?_⟩
  ·obtain⟨y,hy1,hd⟩:=bp (l:=xs) (k:=k) aq;have w3:=ax (k:=k) aq;have hyc:=lB y (hxs y (cr hy1));have hms:=ej (f:=fun x=>[AV.d (nb x)]) hy1;have hmk:min k xs.length=k:=aq;simp[go_sem,hy1,aP,hmk];refine ag hyc a9 ?_;rw[List.map_take,List.map_take]at hms;simp[go_sem,w3,hmk,hms];refine⟨aq,?_⟩;refine ao (k+1) aq aq ?_;simp[az,ai,fv,lk,AV.low,AV.low1,aP,nb];intro r hr;obtain⟨x',_,rfl⟩:=List.mem_map.1 (List.mem_of_mem_take hr);intro v hv;simp at hv;subst hv;trivial
  ·have hk2:k=xs.length:=aq;subst hk2;simp[go_sem,ah];exact cB (ap (al (ja (ty:=31) (e:=1) (es:=xs.map aP) (by simp[lk,aP]) trivial aw (by intro r hr;obtain⟨x',_,rfl⟩:=List.mem_map.1 hr;rfl))) (ap (aR trivial) bo)) rfl a9 rfl
 ·have hA:np ws=ws:=if_neg hc;have hX:nq ws=[]:=if_neg hc;rw[hA,hX];have hxs:∀y,y∈ws→y.length≤100000000000:=fun y hy=>by have:=hw y hy;omega
  have hxn:ws.length≤1000:=hn;generalize hgo:ws=xs at *;by_cases h2:2≤xs.length
  ·have h2':(2:Int)≤(xs.length:Int):=aq;have w1:IntKind.i64.wrap ((xs.length:Int)-1)=((xs.length-1:Nat):Int):=by rw[IntWalk.i64_in _ aq];omega
   obtain⟨x,hlast⟩:∃x,xs[xs.length-1]?=some x:=⟨_,cm aq⟩;have hgl:xs.getLastD []=x:=by rw[List.getLastD_eq_getLast?,List.getLast?_eq_getElem?,hlast];rfl
   cases x with
   | nil =>
    simp[go_sem,h2,h2',w1,hlast,aP,nb]
    refine av (fun k:Nat=>⟨[(5,.nil),(7,.own 5000 0 k k),(44,.d (.ro 1 (xs.map aP))),(45,.d (.int .i64 (xs.length:Int))),(46,.d (.int .i64 (k:Int)))],[(5000,⟨31,1,(xs.take k).map fun x=>[AV.d (nb x)]⟩)],6000⟩)
     (fun k=>k≤xs.length) (fun k=>xs.length-k) 0 aq (by
      simp[az,ai,fv,lk,AV.low,AV.low1,aP,nb,hxn]) ?_
    intro k hk;simp only[go_sem,Nat.reduceEqDiff,Nat.reduceAdd,Nat.reduceLT,↓reduceIte,Nat.reduceMul];refine⟨fun h=>?_,fun h=>?_⟩
    ·obtain⟨y,hy1,hd⟩:=bp (l:=xs) (k:=k) aq;have w3:=ax (k:=k) aq;have hyc:=lB y (hxs y (cr hy1));have hms:=ej (f:=fun x=>[AV.d (nb x)]) hy1;have hmk:min k xs.length=k:=aq;simp[go_sem,hy1,aP,hmk];refine ag hyc a9 ?_;rw[List.map_take,List.map_take]at hms;simp[go_sem,w3,hmk,hms];refine⟨aq,?_⟩;refine ao (k+1) aq aq ?_;simp[az,ai,fv,lk,AV.low,AV.low1,aP,nb];intro r hr;obtain⟨x',_,rfl⟩:=List.mem_map.1 (List.mem_of_mem_take hr);intro v hv;simp at hv;subst hv;trivial
    ·have hk2:k=xs.length:=aq;subst hk2;simp[go_sem,ah];exact cB (ap (al (ja (ty:=31) (e:=1) (es:=xs.map aP) (by simp[lk,aP]) trivial aw (by intro r hr;obtain⟨x',_,rfl⟩:=List.mem_map.1 hr;rfl))) (ap (al (.nil 1)) bo)) rfl a9 rfl
   | cons c r =>
    have hc80:¬c=80:=fun e=>hc ⟨h2,by rw[hgl,e];rfl⟩;have hc80':¬(c:Int)=80:=aq;simp[go_sem,h2,h2',w1,hlast,aP,nb,hc80,hc80']
    refine av (fun k:Nat=>⟨[(5,.nil),(7,.own 5000 0 k k),(44,.d (.ro 1 (xs.map aP))),(45,.d (.int .i64 (xs.length:Int))),(46,.d (.int .i64 (k:Int)))],[(5000,⟨31,1,(xs.take k).map fun x=>[AV.d (nb x)]⟩)],6000⟩)
     (fun k=>k≤xs.length) (fun k=>xs.length-k) 0 aq (by
      simp[az,ai,fv,lk,AV.low,AV.low1,aP,nb,hxn]) ?_
    intro k hk;simp only[go_sem,Nat.reduceEqDiff,Nat.reduceAdd,Nat.reduceLT,↓reduceIte,Nat.reduceMul];refine⟨fun h=>?_,fun h=>?_⟩
    ·obtain⟨y,hy1,hd⟩:=bp (l:=xs) (k:=k) aq;have w3:=ax (k:=k) aq;have hyc:=lB y (hxs y (cr hy1));have hms:=ej (f:=fun x=>[AV.d (nb x)]) hy1;have hmk:min k xs.length=k:=aq;simp[go_sem,hy1,aP,hmk];refine ag hyc a9 ?_;rw[List.map_take,List.map_take]at hms;simp[go_sem,w3,hmk,hms];refine⟨aq,?_⟩;refine ao (k+1) aq aq ?_;simp[az,ai,fv,lk,AV.low,AV.low1,aP,nb];intro r hr;obtain⟨x',_,rfl⟩:=List.mem_map.1 (List.mem_of_mem_take hr);intro v hv;simp at hv;subst hv;trivial
    ·have hk2:k=xs.length:=aq;subst hk2;simp[go_sem,ah];exact cB (ap (al (ja (ty:=31) (e:=1) (es:=xs.map aP) (by simp[lk,aP]) trivial aw (by intro r hr;obtain⟨x',_,rfl⟩:=List.mem_map.1 hr;rfl))) (ap (al (.nil 1)) bo)) rfl a9 rfl
  ·have h2':¬(2:Int)≤(xs.length:Int):=aq;simp[go_sem,h2,h2']
   refine av (fun k:Nat=>⟨[(5,.nil),(7,.own 5000 0 k k),(44,.d (.ro 1 (xs.map aP))),(45,.d (.int .i64 (xs.length:Int))),(46,.d (.int .i64 (k:Int)))],[(5000,⟨31,1,(xs.take k).map fun x=>[AV.d (nb x)]⟩)],6000⟩)
    (fun k=>k≤xs.length) (fun k=>xs.length-k) 0 aq (by
     simp[az,ai,fv,lk,AV.low,AV.low1,aP,nb,hxn]) ?_
   intro k hk;simp only[go_sem,Nat.reduceEqDiff,Nat.reduceAdd,Nat.reduceLT,↓reduceIte,Nat.reduceMul];refine⟨fun h=>?_,fun h=>?_⟩
   ·obtain⟨y,hy1,hd⟩:=bp (l:=xs) (k:=k) aq;have w3:=ax (k:=k) aq;have hyc:=lB y (hxs y (cr hy1));have hms:=ej (f:=fun x=>[AV.d (nb x)]) hy1;have hmk:min k xs.length=k:=aq;simp[go_sem,hy1,aP,hmk];refine ag hyc a9 ?_;rw[List.map_take,List.map_take]at hms;simp[go_sem,w3,hmk,hms];refine⟨aq,?_⟩;refine ao (k+1) aq aq ?_;simp[az,ai,fv,lk,AV.low,AV.low1,aP,nb];intro r hr;obtain⟨x',_,rfl⟩:=List.mem_map.1 (List.mem_of_mem_take hr);intro v hv;simp at hv;subst hv;trivial
   ·have hk2:k=xs.length:=aq;subst hk2;simp[go_sem,ah];exact cB (ap (al (ja (ty:=31) (e:=1) (es:=xs.map aP) (by simp[lk,aP]) trivial aw (by intro r hr;obtain⟨x',_,rfl⟩:=List.mem_map.1 hr;rfl))) (ap (al (.nil 1)) bo)) rfl a9 rfl
theorem PL{w:List (List Nat)}(hw:Su w)(hb:∀x,x∈w→bytes x):(np w).length≤6∧(∀x,x∈np w→x.length≤600∧bytes x)∧(nq w).length≤600∧bytes (nq w):=by
 unfold np nq
 split
 ·rename_i h
  have hm:w.getLastD []∈w:=by
   rcases List.eq_nil_or_concat w with rfl|⟨v,x,rfl⟩
   ·simp at h
   ·simp
  exact⟨by have:=hw.1;simp;omega,fun x hx=>⟨hw.2 x (List.dropLast_subset w hx),hb x (List.dropLast_subset w hx)⟩,hw.2 _ hm,hb _ hm⟩
 ·exact⟨hw.1,fun x hx=>⟨hw.2 x hx,hb x hx⟩,Nat.zero_le _,fun y hy=>(by cases hy)⟩
theorem FC(t:Tn)(n:Int)(coins:List (Nat×List Nat))(key sig ann:List Nat):∀v,v∈[AV.agg (eS t n coins),.agg (cb key),.d (nb sig),.d (nb ann)]→v.deep:=by
 intro v hv;simp only[d_,List.mem_nil_iff,or_false]at hv;rcases hv with rfl|rfl|rfl|rfl
 ·exact mq t n coins _ aw
 ·exact bD _
 ·trivial
 ·trivial
theorem s7(t:Tn)(n:Int)(coins:List (Nat×List Nat)):List.take 6 (eS t n coins)=eS t n coins:=rfl
theorem yN(t:Tn)(n:Int)(coins:List (Nat×List Nat)):(eS t n coins).length=6:=rfl
theorem FD(t:Tn)(n:Nat)(coins:List (Nat×List Nat)):∀N,∀v,v∈eS t (n:Int) coins→v.low1 N:=by
 intro N v hv;simp[eS]at hv;rcases hv with rfl|rfl|rfl|rfl|rfl|rfl<;>trivial
theorem PM(k:List Nat)(e:Int):(AV.tup [.agg (cb k),.d (.int .i64 e)]).flat:=by
 intro c hc;simp only[d_,List.mem_nil_iff,or_false]at hc;rcases hc with rfl|rfl
 ·refine .inr ⟨_,rfl,?_⟩;intro x hx;simp only[cb,List.mem_map]at hx;obtain⟨y,_,rfl⟩:=hx
  trivial
 ·exact .inl trivial
theorem LD(t:Tn)(n:Int)(coins:List (Nat×List Nat))(key sig ann q:List Nat)(o:Bool)(hk:key.length=32)(q1:q.length=32)
  (hm:au Tryz.prog 43 [.agg (eS t n coins),.d (nb []),.d (nb ann)] (fun r=>r=.tup [.agg (cb q),.d (.int .i64 0)]))
  (hv:au Tryz.prog 156 [.agg (cb key),.d (nb q),.d (nb sig)] (fun v=>v=.d (.bool o))) :
  au Tryz.prog 123 [.agg (eS t n coins),.agg (cb key),.d (nb sig),.d (nb ann)] (fun r=>r=.d (.int .i64 (if o then 0 else 20))):=by
 refine bC Tryz.func123 Tryz.ntmps123 (rs:=[.tmp 8]) (FC t n coins key sig ann) ?_;have hl:=yN t n coins;have htk:=s7 t n coins;have hd1:=mq t n coins _ (List.mem_singleton.2 rfl);have hx1:=eN q1;rw[cC]at hx1;generalize eS t n coins=S at *;simp[go_sem,hl,htk,ak,hk];refine d6 hm rfl (aj (.deep hd1) (aj (.one (al (.nil 1))) (aj (.deep trivial) aC))) (PM q 0) ?_;simp[go_sem]at hx1;simp[go_sem,ak,q1,am q1,bA];refine ca [0,1,2,3,4,5] [(6,[7,8])] 1 (k:=9) ?_;intro G hG;simp[go_sem,ak,hk,am hk,q1];refine d6 hv rfl (aj (.deep (bD _)) (aj (.one (al (dW rfl trivial q1))) (aj (.deep trivial) aC))) trivial ?_
 cases o
 ·simp[go_sem];refine hG _ _ ?_;clear hG G;simp[go_sem,ah];exact aa (v:=.d (.int .i64 20)) trivial rfl
 ·simp[go_sem];refine hG _ _ ?_;clear hG G;simp[go_sem,ah];exact aa (v:=.d (.int .i64 0)) trivial rfl
def dp(p:List (Int×Int)×Int):AV:=.tup [.d (.ro 2 (p.1.map a8)),.d (.int .i64 p.2)]
theorem jL{Q:AV→Prop}{st:St}{e:Int}(hq:Q (dp ([],e))):dc Q (.tup [.nil,.d (.int .i64 e)]) st :=
 cB (cs':=[.d (.ro 2 []),.d (.int .i64 e)]) (ap (al (.nil 2)) (ap (aR trivial) bo)) rfl a9 hq
theorem FG(p:List (Int×Int)×Int):(dp p).deep:=by simp[dp,AV.deep,AV.deep1]
theorem qL(t:Tn)(n:Int)(coins:List (Nat×List Nat))(key:List Nat):∀v,v∈[AV.agg (eS t n coins),.agg (cb key)]→v.deep:=by
 intro v hv;simp only[d_,List.mem_nil_iff,or_false]at hv;rcases hv with rfl|rfl
 ·exact mq t n coins _ aw
 ·exact bD _
structure SpOk(t:Tn)(coins:List (Nat×List Nat)):Prop where
 sm:Sm t
 cc:Qw coins
 cb:∀o,o∈coins→bytes o.2
 ob:∀o,o∈t.outs→bytes o.2
 wb:∀i,i∈t.ins→∀x,x∈i.wit→bytes x
theorem Dq(t:Tn)(n:Nat)(coins:List (Nat×List Nat))(key:List Nat)(h:SpOk t coins)(hk:key.length=32)(hn:n<t.ins.length)(x X:List Nat)(e:Int)(i:Ip)(hii:t.ins[n]?=some i)(hW:np i.wit=[x])(hX:nq i.wit=X)
  (he:au Tryz.prog 123 [.agg (eS t (n:Int) coins),.agg (cb key),.d (nb x),.d (nb X)] (fun r=>r=.d (.int .i64 e))) :
  au Tryz.prog 80 [.agg (eS t (n:Int) coins),.agg (cb key)] (fun r=>r=dp ([],e)):=by
 have hi:=cm hn;have hii2:t.ins[n]=i:=(List.getElem_of_getElem? hii).2;have hio:=h.sm.1.2.2.1 _ (List.getElem_mem hn);have hiw:=h.sm.2.2.2.2 _ (List.getElem_mem hn);have hib:=h.wb _ (List.getElem_mem hn);rw[hii2]at hi hio hiw hib;clear hii2 hii;have hAn:=Ba i.wit (by have:=hiw.1;omega) (fun x hx=>by have:=hiw.2 x hx;omega);have h35:(eI i)[35]?=some (.ro 1 (i.wit.map aP))∨True:=.inr trivial;have hl:=yN t (n:Int) coins;have htk:=s7 t (n:Int) coins;have e1:(eS t (n:Int) coins)[1]?=some (.d (.ro 35 (t.ins.map eI))):=rfl;have e4:(eS t (n:Int) coins)[4]?=some (.d (.int .i64 (n:Int))):=rfl;have l1:∀h:1<(eS t (n:Int) coins).length,(eS t (n:Int) coins)[1]'h=_:=fun h=>(List.getElem_of_getElem? e1).2;have l4:∀h:4<(eS t (n:Int) coins).length,(eS t (n:Int) coins)[4]'h=_:=fun h=>(List.getElem_of_getElem? e4).2
 have h34:(eI i)[34]?=some (.ro 1 (i.wit.map aP)):=by
  unfold eI;rw[dn (by rw[cE,hio.1];omega),cE,hio.1];rfl
 have hinl:n<t.ins.length:=hn;have hkd:=FC t (n:Int) coins key x X;rw[hW,hX]at hAn;refine bC Tryz.func80 Tryz.ntmps80 (rs:=[.tmp 4,.tmp 5]) (qL t n coins key) ?_;generalize hS:eS t (n:Int) coins=S at *;simp[go_sem,hl,htk,e1,e4,l1,l4,hi,h34,ak,hk];refine ag hAn a9 ?_;simp[go_sem,hl,htk];refine ca [0,1,2,3,4,5] [(6,[7,8])] 1 (k:=9) ?_;intro G hG;simp[go_sem,hl,htk,ak,hk,am hk,aP];refine ag he hkd ?_;simp[go_sem];refine hG _ _ ?_;clear hG G;simp[go_sem,ah];exact jL rfl
theorem uP{s:List Nat}(h:bytes s):bytes (kA s).1:=by
 unfold kA
 split
 ·exact fun y hy=>h y (List.mem_of_mem_drop hy)
 ·intro y hy;have:y=0:=by simpa[z32]using hy
  omega
theorem Bc(s:List Nat):kS s=1∨(kS s=2∧(kA s).2=true)∨kS s=0:=by
 unfold kS
 split
 ·exact .inl rfl
 ·split
  ·rename_i h;exact .inr (.inl ⟨rfl,h⟩)
  ·exact .inr (.inr rfl)
theorem FH(t:Tn)(n:Nat)(coins:List (Nat×List Nat))(h:SpOk t coins)(p:List (Int×Int)×Int)
  (p3:∀o,bJ t (n:Int) coins=0→coins[n]?=some o→kS o.2=2→au Tryz.prog 80 [.agg (eS t (n:Int) coins),.agg (cb (kA o.2).1)] (fun r=>r=dp p)) :
  ∃p':List (Int×Int)×Int,(p'=p∨p'.1=[])∧(∀(o:Nat×List Nat)(i:Ip),bJ t (n:Int) coins=0→coins[n]?=some o→t.ins[n]?=some i→(kS o.2=1→p'=([],if i.wit=[]then 0 else 27))∧(kS o.2=0→p'=([],28)))∧(∀o,bJ t (n:Int) coins=0→coins[n]?=some o→kS o.2=2→p'=p)∧au Tryz.prog 41 [.agg (eS t (n:Int) coins)] (fun r=>r=dp p'):=by
 have hck:=gA t (n:Int) coins h.sm (by have:=h.cc.1;omega);have hd1:=mq t (n:Int) coins;have hl:=yN t (n:Int) coins;have htk:=s7 t (n:Int) coins;rcases oc t (n:Int) coins with c0|c0
 case inr =>
  refine⟨([],1),.inr rfl,fun o i q=>absurd q (by rw[c0];omega),fun o q=>absurd q (by rw[c0];omega),?_⟩;rw[c0]at hck;refine bC Tryz.func41 Tryz.ntmps41 (rs:=[.tmp 2,.tmp 3]) hd1 ?_;generalize eS t (n:Int) coins=S at *;simp[go_sem,hl,htk];refine ag hck hd1 ?_;simp[go_sem,ah];exact jL rfl
 rw[c0]at hck
 have hcx:coins.length=t.ins.length∧n<coins.length:=by
  unfold bJ at c0
  split at c0
  ·cases c0
  ·rename_i hq;simp only[not_or,Int.not_lt,Int.not_le,ne_eq,Classical.not_not]at hq;exact⟨hq.2.1,by have:=hq.2.2.2.1;omega⟩
 have hn:n<t.ins.length:=aq;have hi:=cm hn;have hio:=h.sm.1.2.2.1 _ (List.getElem_mem hn);have ho:=cm hcx.2;have hob:=h.cb _ (List.getElem_mem hcx.2);have hol:=(h.cc.2 _ (List.getElem_mem hcx.2)).2;generalize t.ins[n]=i at *;generalize coins[n]=o at *;have hog:∀hh:n<coins.length,coins[n]'hh=o:=fun hh=>(List.getElem_of_getElem? ho).2;have hig:∀hh:n<t.ins.length,t.ins[n]'hh=i:=fun hh=>(List.getElem_of_getElem? hi).2;have e1:(eS t (n:Int) coins)[1]?=some (.d (.ro 35 (t.ins.map eI))):=rfl;have e4:(eS t (n:Int) coins)[4]?=some (.d (.int .i64 (n:Int))):=rfl;have e5:(eS t (n:Int) coins)[5]?=some (.d (.ro 2 (coins.map eO))):=rfl;have l1:∀h:1<(eS t (n:Int) coins).length,(eS t (n:Int) coins)[1]'h=_:=fun h=>(List.getElem_of_getElem? e1).2;have l4:∀h:4<(eS t (n:Int) coins).length,(eS t (n:Int) coins)[4]'h=_:=fun h=>(List.getElem_of_getElem? e4).2;have l5:∀h:5<(eS t (n:Int) coins).length,(eS t (n:Int) coins)[5]'h=_:=fun h=>(List.getElem_of_getElem? e5).2
 have h34:(eI i)[34]?=some (.ro 1 (i.wit.map aP)):=by
  unfold eI;rw[dn (by rw[cE,hio.1];omega),cE,hio.1];rfl
 have hkf:=FB o.2 hob aq;have hks:=FA o.2 aq;have hkl:=uN o.2;have hkb:=uP hob;have p3:=p3 o c0 ho;have hud:=qL t n coins (kA o.2).1;have hcn:n<coins.length:=hcx.2;rcases Bc o.2 with k1|⟨k2,k3⟩|k0
 ·rw[k1]at hkf;by_cases hw:i.wit=[]
  ·refine⟨([],0),.inr rfl,fun o' i' _ ho' hi'=>by
    rw[ho]at ho';rw[hi]at hi';cases ho';cases hi'
    exact⟨fun _=>by rw[if_pos hw],fun q=>absurd q (by rw[k1];omega)⟩,fun o' _ ho' q=>absurd q (by rw[ho]at ho';cases ho';omega),?_⟩
   refine bC Tryz.func41 Tryz.ntmps41 (rs:=[.tmp 2,.tmp 3]) hd1 ?_;generalize eS t (n:Int) coins=S at *;simp[go_sem,hl,htk];refine ag hck hd1 ?_;simp[go_sem,hl,htk,e5,e4,l5,l4,ho,hog,hcn,eO];refine ag hkf a9 ?_;simp[go_sem,hl,e1,e4,l1,l4,hi,hig,hn,h34,hw,ah];exact jL rfl
  ·have hw0:¬i.wit.length=0:=fun q=>hw (List.length_eq_zero_iff.1 q);have hw1:0<i.wit.length:=aq;have hw2:(0:Int)<(i.wit.length:Int):=aq
   refine⟨([],27),.inr rfl,fun o' i' _ ho' hi'=>by
    rw[ho]at ho';rw[hi]at hi';cases ho';cases hi'
    exact⟨fun _=>by rw[if_neg hw],fun q=>absurd q (by rw[k1];omega)⟩,fun o' _ ho' q=>absurd q (by rw[ho]at ho';cases ho';omega),?_⟩
   refine bC Tryz.func41 Tryz.ntmps41 (rs:=[.tmp 2,.tmp 3]) hd1 ?_;generalize eS t (n:Int) coins=S at *;simp[go_sem,hl,htk];refine ag hck hd1 ?_;simp[go_sem,hl,htk,e5,e4,l5,l4,ho,hog,hcn,eO];refine ag hkf a9 ?_;simp[go_sem,hl,e1,e4,l1,l4,hi,hig,hn,h34,hw0,hw1,hw2,ah];exact jL rfl
 ·rw[k2]at hkf;rw[k3]at hks;have p3:=p3 k2
  refine⟨p,.inl rfl,fun o' i' _ ho' hi'=>by
   rw[ho]at ho';cases ho'
   exact⟨fun q=>absurd q (by rw[k2];omega),fun q=>absurd q (by rw[k2];omega)⟩,fun _ _ _ _=>rfl,?_⟩
  refine bC Tryz.func41 Tryz.ntmps41 (rs:=[.tmp 2,.tmp 3]) hd1 ?_;generalize eS t (n:Int) coins=S at *;generalize(kA o.2).1=K at *;simp[go_sem,hl,htk];refine ag hck hd1 ?_;simp[go_sem,hl,htk,e5,e4,l5,l4,ho,hog,hcn,eO];refine ag hkf a9 ?_;simp[go_sem];refine ag hks a9 ?_;simp[go_sem,hl,htk,ak,hkl,am hkl,bA];refine ag p3 hud ?_;unfold dp;simp[go_sem,ah];exact aa (FG p) rfl
 ·rw[k0]at hkf
  refine⟨([],28),.inr rfl,fun o' i' _ ho' hi'=>by
   rw[ho]at ho';cases ho'
   exact⟨fun q=>absurd q (by rw[k0];omega),fun _=>rfl⟩,fun o' _ ho' q=>absurd q (by rw[ho]at ho';cases ho';omega),?_⟩
  refine bC Tryz.func41 Tryz.ntmps41 (rs:=[.tmp 2,.tmp 3]) hd1 ?_;generalize eS t (n:Int) coins=S at *;simp[go_sem,hl,htk];refine ag hck hd1 ?_;simp[go_sem,hl,htk,e5,e4,l5,l4,ho,hog,hcn,eO];refine ag hkf a9 ?_;simp[go_sem,ah];exact jL rfl
end Go.Proofs.YtmfnimjnneflnaaGreat
namespace Go.Sha
def pv(V:Nat→List (Int×Int)×Int):Nat→Nat→List (Int×Int)→List (Int×Int)×Int
 |0,_,all=>(all,0)
 |k+1,i,all=>if(V i).2=0 then pv V k (i+1) (all++(V i).1)else([],(V i).2)
end Go.Sha
namespace Go.Proofs.YtmfnimjnneflnaaGreat
open Go.Am Go.Sha
theorem qM(t:Tn)(coins:List (Nat×List Nat)):∀v,v∈[AV.agg (eT t),.d (.ro 2 (coins.map eO))]→v.deep:=by simp[AV.deep,AV.deep1,eT]
def c8(t:Tn)(coins:List (Nat×List Nat))(V:Nat→List (Int×Int)×Int):List (Int×Int)×Int:=if bJ t 0 coins≠0 then([],1)else pv V t.ins.length 0 []
theorem kr(t:Tn)(n:Int)(coins:List (Nat×List Nat)):eS t n coins=[.d (.int .u32 (t.ver:Int)),.d (.ro 35 (t.ins.map eI)),.d (.ro 2 (t.outs.map eO)),.d (.int .u32 (t.lock:Int)),.d (.int .i64 n),.d (.ro 2 (coins.map eO))]:=rfl
theorem LF{hp:Hp}{I:Nat→Prop}{id n:Nat}{l:List (Int×Int)}(hb:lk id hp=some ⟨55,2,l.map LQ⟩)(hI:I id)(hn:l.length=n):SnapD hp I (.own id 0 n n) (.ro 2 (l.map a8)) :=
 ja (es:=l.map a8) (by rw[hb,List.map_map];rfl) hI (by simp[hn]) (fun r hr=>by
  rw[List.mem_map]at hr;obtain⟨w,_,rfl⟩:=hr
  rfl)
theorem wT(t:Tn)(coins:List (Nat×List Nat))(V:Nat→List (Int×Int)×Int)(h:SpOk t coins)(hV:∀n:Nat,au Tryz.prog 41 [.agg (eS t (n:Int) coins)] (fun r=>r=dp (V n)))(hL:∀n,(V n).1.length≤2000) :
  au Tryz.prog 39 [.agg (eT t),.d (.ro 2 (coins.map eO))] (fun r=>r=dp (c8 t coins V)):=by
 refine bC Tryz.func39 Tryz.ntmps39 (rs:=[.tmp 4,.tmp 5]) (qM t coins) ?_;have hck:=gA t 0 coins h.sm (by have:=h.cc.1;omega);have hd1:=mq t 0 coins;have h6:=h.sm.2.1;unfold c8;by_cases c0:bJ t 0 coins=0
 case neg =>
  rw[if_pos c0];generalize bJ t 0 coins=ck at *;simp only[kr]at hck hd1;simp[go_sem,eT];refine ag hck hd1 ?_;simp[go_sem,c0,ah];exact jL rfl
 rw[if_neg (fun q=>q c0)];rw[c0]at hck;generalize hR:pv V t.ins.length 0 []=R;simp only[kr]at hck hd1;simp[go_sem,eT];refine ag hck hd1 ?_;simp[go_sem]
 refine av (fun u:Nat×List (Int×Int)=>⟨[(2,.ptr 0 0 0 1),(6,.ptr 192 0 0 1),(7,.own 4000 0 u.2.length u.2.length),(19,.d (.int .i64 (t.ins.length:Int))),(20,.d (.int .i64 (u.1:Int)))],
   [(4000,⟨55,2,u.2.map LQ⟩),(192,⟨28,6,[eS t ((u.1-1:Nat):Int) coins]⟩),(0,⟨26,4,[eT t]⟩)],5000⟩)
  (fun u=>u.1≤t.ins.length∧u.2.length≤2000*u.1∧pv V (t.ins.length-u.1) u.1 u.2=R) (fun u=>t.ins.length-u.1) (0,[]) ⟨aw,aw,hR⟩ (by
   simp[az,ai,fv,lk,AV.low,AV.low1,eS,eT]) ?_
 rintro⟨k,all⟩⟨hk,ha,hR⟩;simp only at hk ha hR;simp only[kr,eT];simp[go_sem];refine⟨fun hkl=>?_,fun hkl=>?_⟩
 ·obtain⟨m,hm⟩:∃m,t.ins.length-k=m+1:=⟨t.ins.length-k-1,aq⟩;rw[hm]at hR;unfold pv at hR;have hv:=hV k;have hvl:=hL k;have hvd:=mq t (k:Int) coins;have w3:=ax (k:=k) aq;simp only[kr]at hv hvd;generalize V k=p at *;obtain⟨l,e⟩:=p;simp only at hR hvl;unfold dp at hv;refine ag hv hvd ?_;by_cases he:e=0
  ·subst he;rw[if_pos rfl]at hR;have hm2:List.map ((fun r=>List.map AV.d r)∘a8) l=l.map LQ:=rfl;simp[go_sem,hm2,w3];refine⟨aq,?_⟩;refine ao (k+1,all++l) ⟨by simp only;omega,by simp only[b_];omega,by simp only;rw[show t.ins.length-(k+1)=m by omega];exact hR⟩ (by simp only;omega) ?_;simp[az,ai,fv,lk,AV.low,AV.low1,eS,eT];rintro r(⟨a,b,_,rfl⟩|⟨a,b,_,rfl⟩)v hv<;>simp[LQ]at hv<;>rcases hv with rfl|rfl<;>trivial
  ·rw[if_neg he]at hR;subst hR;simp[go_sem,he,ah];exact jL rfl
 ·have hke:k=t.ins.length:=aq;subst hke;rw[Nat.sub_self]at hR;unfold pv at hR;subst hR;simp[go_sem,ah];exact cB (ap (al (LF (l:=all) rfl trivial rfl)) (ap (aR trivial) bo)) rfl a9 rfl
def yO(o:Nat×List Nat):Int×List Nat:=((o.1:Int),o.2)
theorem LG(l:List (Nat×List Nat)):l.map eO=(l.map yO).map rm:=by
 rw[List.map_map];rfl
def sF(t:Tn)(q:List (Int×Int)×Int):Int:=if q.2=0 then hJ (t.outs.map yO) q.1 else q.2
theorem Bd(V:Nat→List (Int×Int)×Int)(hL:∀n,(V n).1.length≤2000):∀(k i:Nat)(all:List (Int×Int)),(pv V k i all).1.length≤all.length+2000*k
 |0,i,all=>by simp[pv]
 |k+1,i,all=>by
  unfold pv
  split
  ·have:=Bd V hL k (i+1) (all++(V i).1);have:=hL i;simp only[b_]at *;omega
  ·exact Nat.zero_le _
theorem LH(t:Tn)(coins:List (Nat×List Nat))(q:List (Int×Int)×Int)(hq:q.1.length≤100000)(ho:t.outs.length≤6)
  (hc:au Tryz.prog 39 [.agg (eT t),.d (.ro 2 (coins.map eO))] (fun r=>r=dp q)) :
  au Tryz.prog 40 [.agg (eT t),.d (.ro 2 (coins.map eO))] (fun r=>r=.d (.int .i64 (sF t q))):=by
 refine bC Tryz.func40 Tryz.ntmps40 (rs:=[.tmp 4]) (qM t coins) ?_;have hcd:=qM t coins;obtain⟨l,e⟩:=q;have hs:=Gp (t.outs.map yO) l (by simp only at hq;omega) (by simp;omega);rw[←LG]at hs;unfold dp at hc;simp only at hc;simp only[eT]at hc hcd;unfold sF;generalize hJ (t.outs.map yO) l=S at *;simp[go_sem,eT];refine ag hc hcd ?_;by_cases he:e=0
 ·simp[go_sem,he];refine ag hs a9 ?_;simp[go_sem,ah];exact aa (v:=.d (.int .i64 S)) trivial rfl
 ·simp[go_sem,he,ah];exact aa (v:=.d (.int .i64 e)) trivial rfl
end Go.Proofs.YtmfnimjnneflnaaGreat
namespace Go.Sha
open Go.Proofs.YtmfnimjnneflnaaGreat Go.Am
def Z8:List AV:=[.d (.int .u32 0),.nil,.nil,.d (.int .u32 0),.d (.int .i64 0),.nil]++(ay z32 .nil .nil++[.nil,.nil,.d (.int .i64 0)])
end Go.Sha
namespace Go.Proofs.YtmfnimjnneflnaaGreat
open Go.Am Go.Sha
theorem Ds{hp:Hp}{I:Nat→Prop}{c:List AV}{d:List DV}(h2:CellsR hp I c d):∀b:List DV,CellsR hp I (b.map .d++c) (b++d)
 |[]=>h2
 |y::r=>.cons (.d y) (Ds h2 r)
theorem Xu:fa Tryz.prog 36=some Z8:=by kernel_rfl
attribute [go_sem] Xu
end Go.Proofs.YtmfnimjnneflnaaGreat
namespace Go.Sha
open Go.Proofs.YtmfnimjnneflnaaGreat Go.Am
def rR:List Nat:=[81,2,78,115]
def tQ(w:List (List Nat)):Tn:=⟨0,[⟨z32,0,0,w⟩],[],0⟩
end Go.Sha
namespace Go.Proofs.YtmfnimjnneflnaaGreat
open Go.Am Go.Sha
theorem yP(t:Tn)(o:Nat×List Nat)(i:Ip)(e:Int)(h:SpOk t [o])(hi:t.ins=[i])(ho:t.outs=[])(c0:bJ t 0 [o]=0)(hk:(kS o.2=1∧e=if i.wit=[]then 0 else 27)∨(kS o.2=0∧e=28)) :
  au Tryz.prog 40 [.agg (eT t),.d (.ro 2 ([o].map eO))] (fun r=>r=.d (.int .i64 e)):=by
 obtain⟨V,hV⟩:=Classical.axiomOfChoice (fun n:Nat=>FH t n [o] h ([],0) (fun o' _ ho' k2=>by
  have:o'=o:=by simpa using cr ho'
  subst this
  rcases hk with ⟨q,_⟩|⟨q,_⟩<;>omega))
 have hvl:∀n,(V n).1.length≤2000:=fun n=>by
  rcases(hV n).1 with q|q<;>rw[q]<;>exact Nat.zero_le _
 have hv0:V 0=([],e):=by
  obtain⟨_,k,_,_⟩:=hV 0;obtain⟨k1,k2⟩:=k o i c0 rfl (by rw[hi];rfl);rcases hk with ⟨q,rfl⟩|⟨q,rfl⟩
  ·exact k1 q
  ·exact k2 q
 have hcl:=wT t [o] V h (fun n=>(hV n).2.2.2) hvl
 have hq:c8 t [o] V=([],e):=by
  unfold c8;rw[if_neg (by rw[c0];omega),hi];show pv V 1 0 []=_;unfold pv;rw[hv0];simp only
  split
  ·rename_i he;subst he;rfl
  ·rfl
 rw[hq]at hcl;have:=LH t [o] ([],e) (Nat.zero_le _) (by rw[ho];simp) hcl
 have ha:sF t ([],e)=e:=by
  unfold sF;simp only
  split
  ·rename_i he;subst he;rw[ho];rfl
  ·rfl
 rw[ha]at this;exact this
theorem LI(w:List (List Nat))(s:List Nat)(hw:Su w)(hwb:∀x,x∈w→bytes x)(hs:s.length≤100)(hsb:bytes s):SpOk (tQ w) [(0,s)] where
 sm:=⟨⟨by show 0<4294967296;omega,by show 0<4294967296;omega,fun i hi=>by
  have:i=⟨z32,0,0,w⟩:=by simpa[tQ]using hi
  subst this
  exact⟨rfl,by show 0<4294967296;omega,by show 0<4294967296;omega⟩,fun o ho=>(by cases ho)⟩,by show 1≤6;omega,by show 0≤6;omega,fun o ho=>(by cases ho),fun i hi=>by
  have:i=⟨z32,0,0,w⟩:=by simpa[tQ]using hi
  subst this
  exact hw⟩
 cc:=⟨by show 1≤8;omega,fun o ho=>by
  have:o=(0,s):=by simpa using ho
  subst this
  exact⟨by show 0<_;omega,by show s.length≤1100;omega⟩⟩
 cb:=fun o ho=>by
  have:o=(0,s):=by simpa using ho
  subst this;exact hsb
 ob:=fun o ho=>(by cases ho)
 wb:=fun i hi=>by
  have:i=⟨z32,0,0,w⟩:=by simpa[tQ]using hi
  subst this;exact hwb
theorem LJ:bytes rR:=fun x hx=>by simp[rR]at hx;omega
theorem UF:au Tryz.prog 40 [.agg (eT (tQ [])),.d (.ro 2 ([(0,rR)].map eO))] (fun r=>r=.d (.int .i64 0)) :=
 yP (tQ []) (0,rR) ⟨z32,0,0,[]⟩ 0 (LI [] rR ⟨aw,aw⟩ aw (by decide) LJ) rfl rfl (by decide) (.inl ⟨by decide,rfl⟩)
theorem UG:au Tryz.prog 40 [.agg (eT (tQ [])),.d (.ro 2 ([(0,[])].map eO))] (fun r=>r=.d (.int .i64 28)) :=
 yP (tQ []) (0,[]) ⟨z32,0,0,[]⟩ 28 (LI [] [] ⟨aw,aw⟩ aw (by decide) (by intro x hx;cases hx)) rfl rfl (by decide) (.inr ⟨by decide,rfl⟩)
theorem UH:au Tryz.prog 40 [.agg (eT (tQ [[1]])),.d (.ro 2 ([(0,rR)].map eO))] (fun r=>r=.d (.int .i64 27)) :=
 yP (tQ [[1]]) (0,rR) ⟨z32,0,0,[[1]]⟩ 27 (LI [[1]] rR ⟨aw,aw⟩ (by intro x hx y hy;simp at hx;subst hx;simp at hy;omega) (by decide) LJ) rfl rfl (by decide) (.inl ⟨by decide,rfl⟩)
theorem px:au Tryz.prog 38 [] (fun r=>r=.d (.bool true)):=by
 refine bC Tryz.func38 Tryz.ntmps38 (rs:=[.tmp 0]) aw ?_;have sc:∀(hp:Hp),lk 32 hp=some ⟨5,1,rb rR⟩→SnapD hp (fun _=>True) (.own 32 0 4 4) (nb rR):=fun hp hb=>aM (L:=rR) rfl hb trivial
 have tx:∀(hp:Hp)(id:Nat),lk id hp=some ⟨68,35,[cb z32++[AV.d (.int .u32 0),AV.d (.int .u32 0),.nil]]⟩ →
   Snap hp (fun _=>True) (.agg [.d (.int .u32 0),.own id 0 1 1,.nil,.d (.int .u32 0)]) (.agg (eT (tQ []))):=fun hp id hb =>
  .agg ⟨rfl,ap (aR trivial) (ap (al (fh (rows:=[cb z32++[AV.d (.int .u32 0),AV.d (.int .u32 0),.nil]]) hb trivial rfl (RowsR.cons (Ds (d:=[.ro 1 []]) (.cons (.nil 1) .nil) (cd z32++[.int .u32 0,.int .u32 0])) .nil) rfl (by intro r hr;simp[tQ]at hr;subst hr;rfl)))
   (ap (al (.nil 2)) (ap (aR trivial) bo)))⟩
 simp[go_sem];refine d6 UF rfl (aj (tx _ _ rfl) (aj (.one (al (fh (rows:=[[.d (.int .u64 0),.own 32 0 4 4]]) rfl trivial rfl (RowsR.cons (.cons (.d _) (.cons (sc _ rfl) .nil)) .nil) rfl (by intro r hr;simp at hr;subst hr;rfl)))) aC)) trivial ?_;simp[go_sem];refine d6 UG rfl (aj (tx _ _ rfl) (aj (.one (al (fh (rows:=[[.d (.int .u64 0),.nil]]) rfl trivial rfl (RowsR.cons (.cons (.d _) (.cons (.nil 1) .nil)) .nil) rfl (by intro r hr;simp at hr;subst hr;rfl)))) aC)) trivial ?_;have e34:∀X:AV,List.take 34 (cb z32++[AV.d (.int .u32 0),AV.d (.int .u32 0),AV.nil])++X::List.drop 35 (cb z32++[AV.d (.int .u32 0),AV.d (.int .u32 0),AV.nil])=cb z32++[AV.d (.int .u32 0),AV.d (.int .u32 0),X]:=fun X=>rfl;have hkd:=FB rR LJ (by decide);rw[show kS rR=1 by decide]at hkd
 have tx3:∀(hp:Hp),lk 704 hp=some ⟨68,35,[cb z32++[AV.d (.int .u32 0),AV.d (.int .u32 0),.own 640 0 1 1]]⟩→lk 640 hp=some ⟨31,1,[[.own 608 0 1 1]]⟩→lk 608 hp=some ⟨5,1,[[.d (.int .u8 1)]]⟩ →
   Snap hp (fun _=>True) (.agg [.d (.int .u32 0),.own 704 0 1 1,.nil,.d (.int .u32 0)]) (.agg (eT (tQ [[1]]))):=fun hp hb hc hd =>
  .agg ⟨rfl,ap (aR trivial) (ap (al (fh (rows:=[cb z32++[AV.d (.int .u32 0),AV.d (.int .u32 0),.own 640 0 1 1]]) hb trivial rfl
    (RowsR.cons (Ds (d:=[.ro 1 [[nb [1]]]]) (.cons (fh (rows:=[[.own 608 0 1 1]]) hc trivial rfl (RowsR.cons (.cons (aM (L:=[1]) rfl hd trivial) .nil) .nil) rfl (by intro r hr;simp at hr;subst hr;rfl)) .nil) (cd z32++[.int .u32 0,.int .u32 0])) .nil) rfl (by intro r hr;simp[tQ]at hr;subst hr;rfl)))
   (ap (al (.nil 2)) (ap (aR trivial) bo)))⟩
 simp[go_sem,e34];refine d6 hkd rfl (aj (.one (al (sc _ rfl))) aC) trivial ?_;simp[go_sem];refine d6 UH rfl (aj (tx3 _ rfl rfl rfl) (aj (.one (al (fh (rows:=[[.d (.int .u64 0),.own 32 0 4 4]]) rfl trivial rfl (RowsR.cons (.cons (.d _) (.cons (sc _ rfl) .nil)) .nil) rfl (by intro r hr;simp at hr;subst hr;rfl)))) aC)) trivial ?_;simp[go_sem,ah];exact aa (v:=.d (.bool true)) trivial rfl
theorem LK(t:Tn)(n:Int)(coins:List (Nat×List Nat))(key sig ann:List Nat)(ht:Sm t)(hc:Qw coins)(hk:key.length=32)(hkb:bytes key)(hs:sig.length≤1000)(hsb:bytes sig)(ha:ann.length≤1000)(c0:bJ t n coins=0) :
  ∃e:Int,au Tryz.prog 123 [.agg (eS t n coins),.agg (cb key),.d (nb sig),.d (nb ann)] (fun r=>r=.d (.int .i64 e)):=by
 obtain⟨q,q1,q2,hm⟩:=PI t n coins ann ht hc ha c0;obtain⟨o,hv⟩:=wQ key q sig hk hkb hsb aq hs;exact⟨_,LD t n coins key sig ann q o hk q1 hm hv⟩
theorem Hk (t:Tn) (n:Nat) (coins:List (Nat × List Nat)) (key:List Nat) (h:SpOk t coins) (hk:key.length=32) (hkb:bytes key) (c0:bJ t (n:Int) coins=0) (hn:n<t.ins.length) :
    ∃p:List (Int×Int)×Int,(∀v,v∈p.1→A9 v)∧p.1.length≤2000∧au Tryz.prog 80 [.agg (eS t (n:Int) coins),.agg (cb key)] (fun r=>r=dp p):=by
  have hi:=cm hn;have hio:=h.sm.1.2.2.1 _ (List.getElem_mem hn);have hiw:=h.sm.2.2.2.2 _ (List.getElem_mem hn);have hib:=h.wb _ (List.getElem_mem hn);generalize t.ins[n]=i at *;have hAn:=Ba i.wit (by have:=hiw.1;omega) (fun x hx=>by have:=hiw.2 x hx;omega);obtain⟨a1,a2,a3,a4⟩:=PL hiw hib;have h35:(eI i)[35]?=some (.ro 1 (i.wit.map aP))∨True:=.inr trivial;have hl:=yN t (n:Int) coins;have htk:=s7 t (n:Int) coins;have e1:(eS t (n:Int) coins)[1]?=some (.d (.ro 35 (t.ins.map eI))):=rfl;have e4:(eS t (n:Int) coins)[4]?=some (.d (.int .i64 (n:Int))):=rfl;have l1:∀h:1<(eS t (n:Int) coins).length,(eS t (n:Int) coins)[1]'h=_:=fun h=>(List.getElem_of_getElem? e1).2;have l4:∀h:4<(eS t (n:Int) coins).length,(eS t (n:Int) coins)[4]'h=_:=fun h=>(List.getElem_of_getElem? e4).2
  have h34:(eI i)[34]?=some (.ro 1 (i.wit.map aP)):=by
    unfold eI;rw[dn (by rw[cE,hio.1];omega),cE,hio.1];rfl
  have hinl:n<t.ins.length:=hn;generalize hW:np i.wit=W at *;generalize hX:nq i.wit=X at *
  have hcase:W=[]∨(∃x,W=[x])∨∃v s c,W=v++[s,c]:=by
    rcases List.eq_nil_or_concat W with rfl|⟨v,x,rfl⟩
    · exact .inl rfl
    · rcases List.eq_nil_or_concat v with rfl | ⟨u,y,rfl⟩
      · exact .inr (.inl ⟨x,rfl⟩)
      · exact .inr (.inr ⟨u,y,x,aw⟩)
  rcases hcase with rfl|⟨x,rfl⟩|⟨v,s,c,rfl⟩
  · refine ⟨([],27),fun v hv=>(by cases hv),Nat.zero_le _,?_⟩
    refine bC Tryz.func80 Tryz.ntmps80 (rs:=[.tmp 4,.tmp 5]) (qL t n coins key) ?_;generalize hS:eS t (n:Int) coins=S at *;simp[go_sem,hl,htk,e1,e4,l1,l4,hi,h34,ak,hk];refine ag hAn a9 ?_;simp[go_sem,ah];exact jL rfl
  · obtain ⟨e,he⟩:=LK t (n:Int) coins key x X h.sm h.cc hk hkb (by have:=(a2 x aw).1;omega) (a2 x aw).2 aq c0
    exact⟨([],e),fun v hv=>(by cases hv),Nat.zero_le _,Dq t n coins key h hk hn x X e i hi hW hX he⟩
  · have hvl:(v ++ [s,c]).length=v.length+2:=by simp
    have hs:=a2 s aw;have hc:=a2 c aw;have hv6:v.length≤4:=aq;obtain⟨inner,ps,e,hck,hcl⟩:=LA c s key hc.2 aq aq hk
    have hck3:∀v,v∈[AV.d (nb c),.d (nb s),.agg (cb key)]→v.deep:=by
      intro v hv;simp only[d_,List.mem_nil_iff,or_false]at hv;rcases hv with rfl|rfl|rfl
      · trivial
      · trivial
      · exact bD _
    have q1:¬v.length+2=0:=aq;have q2:¬v.length+2=1:=aq;have q3:¬(v.length:Int)+2=0:=aq;have q4:¬(v.length:Int)+2=1:=aq;have w1:IntKind.i64.wrap ((v.length:Int)+2-1)=((v.length+1:Nat):Int):=by rw[IntWalk.i64_in _ aq];omega
    have w2:IntKind.i64.wrap ((v.length:Int)+2-2)=((v.length:Nat):Int):=by rw[IntWalk.i64_in _ aq];omega
    have w5:IntKind.i64.wrap (v.length:Int)=(v.length:Int):=IntWalk.i64_in _ aq;have n1:((v.length:Int)+1).toNat=v.length+1:=aq;have g1:(List.map aP (v++[s,c]))[v.length+1]?=some [nb c]:=by simp[aP]
    have g2:(List.map aP (v++[s,c]))[v.length]?=some [nb s]:=by simp[aP]
    have k1:(v++[s,c])[v.length+1]?=some c:=by simp
    have k2:(v++[s,c])[v.length]?=some s:=by simp
    have m1:∀h:v.length+1<(v++[s,c]).length,(v++[s,c])[v.length+1]'h=c:=fun h=>(List.getElem_of_getElem? k1).2;have m2:∀h:v.length<(v++[s,c]).length,(v++[s,c])[v.length]'h=s:=fun h=>(List.getElem_of_getElem? k2).2;have tk:List.take v.length (v++[s,c])=v:=by rw[List.take_left]
    generalize hWW:v++[s,c]=WW at *;by_cases he:e=0
    · subst he
      rw[if_pos rfl]at hck;obtain⟨x1,x2,x3,x4⟩:=hcl rfl;have hlb:=wy hiw;have hvs:StOk v []:=⟨aq,aw,fun y hy=>by have:=a2 y (by rw[←hWW];exact List.mem_append_left _ hy);exact⟨aq,this.2⟩,aw⟩
      let C:CsF:=⟨t,(n:Int),coins,inner,ps,s,v,X,50+((je i.wit).length:Int)⟩
      have hC:CsOk C:=⟨h.sm,h.cc,fun o ho=>⟨h.cb o ho,(h.cc.2 o ho).1⟩,h.ob,x1,x2,by show s.length≤1000;omega,x3,by show ps.length≤1000;omega,by show X.length≤1000;omega,⟨by show _≤50+((je i.wit).length:Int);omega,by show 50+((je i.wit).length:Int)<_;omega⟩⟩;obtain⟨sg,hsg⟩:=Xs;obtain⟨out,hout⟩:=PD inner ps x1 x2 x3 aq;obtain⟨msg,hm⟩:=Uw C hC hsg hout s hs.2 aq;have hrun:=hm v hvs;obtain⟨r1,r2⟩:=UB C hC sg msg out hs.2 hvs;generalize A8 C (xK C sg msg out) s v=P at *;refine⟨P,r1,aq,?_⟩;have hrun:au Tryz.prog 53 [.agg (eS t (n:Int) coins),.agg (ay inner (.d (dX ps)) (.d (nb s))),.d (.ro 1 (v.map aP)),.d (nb X),.d (.int .i64 (50+((je i.wit).length:Int)))] (fun v=>v=dp P):=hrun
      have hrd:∀y,y∈[AV.agg (eS t (n:Int) coins),.agg (ay inner (.d (dX ps)) (.d (nb s))),.d (.ro 1 (v.map aP)),.d (nb X),.d (.int .i64 (50+((je i.wit).length:Int)))]→y.deep:=by
        intro y hy;simp only[d_,List.mem_nil_iff,or_false]at hy;rcases hy with rfl|rfl|rfl|rfl|rfl
        · exact mq t (n:Int) coins _ aw
        · exact cH inner ps s _ (List.mem_singleton.2 rfl)
        · trivial
        · trivial
        · trivial
      have hsz:=LC i.wit hiw;have wz:IntKind.i64.wrap (50+((je i.wit).length:Int))=50+((je i.wit).length:Int):=IntWalk.i64_in _ aq;clear r1 r2 hm;refine bC Tryz.func80 Tryz.ntmps80 (rs:=[.tmp 4,.tmp 5]) (qL t n coins key) ?_;have hSl:=FD t n coins;generalize hS:eS t (n:Int) coins=S at *;simp[go_sem,hl,htk,e1,e4,l1,l4,hi,h34,ak,hk];refine ag hAn a9 ?_;have lft:List.take 34 (ay inner (.d (dX ps)) (.d (nb s)))=ay inner (.d (dX ps)) (.d (nb s)):=cx (by rw[Ut x1];omega);have zl:(ay z32 .nil .nil).length=34:=rfl;have zd:List.drop 34 (ay z32 .nil .nil)=[]:=rfl;have lfl:=Ut x1 (.d (dX ps)) (.d (nb s));simp[go_sem,hvl,q1,q2,q3,q4];refine dh [0,1,2,3,4,5,6,7,8,9,10] [11,15,16,17] [0,1,2,3,4,5,6,7,8,9,10,12,13,14] (.alt (.step 11 [12,13,14] true (bt 15 (bt 16 (a_ [17])))) (bt 15 (.step 11 [12,13,14] true (bt 16 (a_ [17]))))) ⟨[(2,.ptr 0 0 0 1),(3,.ptr 32 0 0 1),(6,.d (.ro 1 (i.wit.map aP))),(7,.d (.ro 1 (WW.map aP))),(8,.d (nb X)),(9,.d (.int .i64 ((v.length:Int)+2))),(10,.ptr 1376 0 0 1),(11,.d (.int .i64 0))],[(1376,⟨33,34,[ay inner (.d (dX ps)) (.d (nb s))]⟩),(32,⟨29,32,[cb key]⟩),(0,⟨28,6,[S]⟩)],9000⟩ (k:=18) ?h3 ?hq
      case h3 =>
        intro G hG;simp (config := { maxSteps := 3000000 }) [go_sem,hvl,w1,w2,w5,n1,m1,m2,aP,ak,hk,am hk]
        repeat' first
          |apply And.intro
          |omega
          | (refine ag hck hck3 ?_
             simp (config := { maxSteps := 3000000 }) [go_sem,zl,zd,lfl,lft])
          | (refine hG _ _ (cf ⟨by simp [ai,fv,lk,AV.low,AV.low1,nb],?_,aw⟩)
             intro p hp;simp only[d_,List.mem_nil_iff,or_false]at hp;rcases hp with rfl|rfl|rfl
             · refine ⟨.inl (by simp [lk,zl,zd,lfl,lft]),by show 1376<9000;omega,?_⟩
               intro r hr v hv;simp only[d_,List.mem_nil_iff,or_false]at hr;subst hr;exact cY 9000 inner (.d (dX ps)) (.d (nb s)) trivial trivial v hv
             · refine ⟨.inl (by simp [lk]),by show 32<9000;omega,?_⟩
               intro r hr v hv;simp only[d_,List.mem_nil_iff,or_false]at hr;subst hr;obtain⟨y,_,rfl⟩:=List.mem_map.1 hv
               trivial
             · refine ⟨.inl (by simp [lk]),by show 0<9000;omega,?_⟩
               intro r hr v hv;simp only[d_,List.mem_nil_iff,or_false]at hr;subst hr
               exact hSl 9000 v hv)
      case hq =>
        simp[go_sem];refine ca [0,1,2,3,4,5,6,7] [(8,[9]),(10,[11,12,13,14])] 2 (k:=15) ?_;intro G hG;simp[go_sem,hl,htk,lfl,lft,w5,hvl];refine⟨aq,?_⟩;refine ag hsz a9 ?_;simp[go_sem,wz];rw[←List.map_take,tk];refine ag hrun hrd ?_;unfold dp;simp[go_sem];refine hG _ _ ?_;clear hG G;simp[go_sem,ah];exact aa (FG P) rfl
    · refine ⟨([],26),fun v hv=>(by cases hv),Nat.zero_le _,?_⟩
      rw[if_neg he]at hck;unfold qK at hck;refine bC Tryz.func80 Tryz.ntmps80 (rs:=[.tmp 4,.tmp 5]) (qL t n coins key) ?_;have hSl:=FD t n coins;generalize hS:eS t (n:Int) coins=S at *;simp[go_sem,hl,htk,e1,e4,l1,l4,hi,h34,ak,hk];refine ag hAn a9 ?_;have zl:(ay z32 .nil .nil).length=34:=rfl;have zd:List.drop 34 (ay z32 .nil .nil)=[]:=rfl;have lfl:=zl;simp[go_sem,hvl,q1,q2,q3,q4];refine dh [0,1,2,3,4,5,6,7,8,9,10] [11,15,16,17] [0,1,2,3,4,5,6,7,8,9,10,12,13,14] (.alt (.step 11 [12,13,14] true (bt 15 (bt 16 (a_ [17])))) (bt 15 (.step 11 [12,13,14] true (bt 16 (a_ [17]))))) ⟨[(2,.ptr 0 0 0 1),(3,.ptr 32 0 0 1),(6,.d (.ro 1 (i.wit.map aP))),(7,.d (.ro 1 (WW.map aP))),(8,.d (nb X)),(9,.d (.int .i64 ((v.length:Int)+2))),(10,.ptr 1376 0 0 1),(11,.d (.int .i64 26))],[(1376,⟨33,34,[ay z32 .nil .nil]⟩),(32,⟨29,32,[cb key]⟩),(0,⟨28,6,[S]⟩)],9000⟩ (k:=18) ?h3 ?hq
      case h3 =>
        intro G hG;simp (config := { maxSteps := 3000000 }) [go_sem,hvl,w1,w2,w5,n1,m1,m2,aP,ak,hk,am hk]
        repeat' first
          |apply And.intro
          |omega
          | (refine ag hck hck3 ?_
             simp (config := { maxSteps := 3000000 }) [go_sem,zl,zd,lfl])
          | (refine hG _ _ (cf ⟨by simp [ai,fv,lk,AV.low,AV.low1,nb],?_,aw⟩)
             intro p hp;simp only[d_,List.mem_nil_iff,or_false]at hp;rcases hp with rfl|rfl|rfl
             · refine ⟨.inl (by simp [lk,zl,zd,lfl]),by show 1376<9000;omega,?_⟩
               intro r hr v hv;simp only[d_,List.mem_nil_iff,or_false]at hr;subst hr;exact cY 9000 z32 .nil .nil trivial trivial v hv
             · refine ⟨.inl (by simp [lk]),by show 32<9000;omega,?_⟩
               intro r hr v hv;simp only[d_,List.mem_nil_iff,or_false]at hr;subst hr;obtain⟨y,_,rfl⟩:=List.mem_map.1 hv
               trivial
             · refine ⟨.inl (by simp [lk]),by show 0<9000;omega,?_⟩
               intro r hr v hv;simp only[d_,List.mem_nil_iff,or_false]at hr;subst hr
               exact hSl 9000 v hv)
      case hq =>
        simp[go_sem,ah];exact jL rfl
theorem UI(t:Tn)(n:Nat)(coins:List (Nat×List Nat))(h:SpOk t coins) :
  ∃p:List (Int×Int)×Int,(∀v,v∈p.1→A9 v)∧p.1.length≤2000∧au Tryz.prog 41 [.agg (eS t (n:Int) coins)] (fun r=>r=dp p):=by
 have hu:∃p:List (Int×Int)×Int,(∀v,v∈p.1→A9 v)∧p.1.length≤2000∧∀o,bJ t (n:Int) coins=0→coins[n]?=some o→kS o.2=2→au Tryz.prog 80 [.agg (eS t (n:Int) coins),.agg (cb (kA o.2).1)] (fun r=>r=dp p):=by
  by_cases hc:bJ t (n:Int) coins=0∧∃o,coins[n]?=some o
  ·obtain⟨c0,o,ho⟩:=hc
   have hcx:coins.length=t.ins.length:=by
    unfold bJ at c0
    split at c0
    ·cases c0
    ·rename_i hq;simp only[not_or,Int.not_lt,Int.not_le,ne_eq,Classical.not_not]at hq;exact hq.2.1
   have hn:n<t.ins.length:=by
    have:=(ci.1 ho).1;omega
   obtain⟨p,p1,p2,p3⟩:=Hk t n coins (kA o.2).1 h (uN o.2) (uP (h.cb _ (cr ho))) c0 hn;exact⟨p,p1,p2,fun o' _ ho' _=>by rw[ho]at ho';cases ho';exact p3⟩
  ·exact⟨([],0),fun v hv=>(by cases hv),Nat.zero_le _,fun o c0 ho=>absurd ⟨c0,o,ho⟩ hc⟩
 obtain⟨p,p1,p2,p3⟩:=hu;obtain⟨p',q1,_,_,q4⟩:=FH t n coins h p p3;rcases q1 with rfl|q1
 ·exact⟨p',p1,p2,q4⟩
 ·exact⟨p',by rw[q1];exact fun v hv=>(by cases hv),by rw[q1];exact Nat.zero_le _,q4⟩
end Go.Proofs.YtmfnimjnneflnaaGreat
namespace Go.Sha
open Go.Proofs.YtmfnimjnneflnaaGreat Go.Am
def iD(V:Nat→List (Int×Int)×Int)(k:Nat):List (Int×Int):=((List.range k).map fun j=>(V j).1).flatten
theorem om(V:Nat→List (Int×Int)×Int)(k:Nat):iD V (k+1)=iD V k++(V k).1:=by
 unfold iD;rw[List.range_succ,List.map_append,List.flatten_append];simp
theorem FI(V:Nat→List (Int×Int)×Int):∀(k i:Nat)(L:List (Int×Int)),pv V k i (iD V i)=(L,0)→L=iD V (i+k)∧∀j,i≤j→j<i+k→(V j).2=0
 |0,i,L,h=>by
  unfold pv at h
  cases h
  exact⟨rfl,fun j h1 h2=>aq⟩
 | k+1,i,L,h=>by
  unfold pv at h
  split at h
  ·rename_i h0;rw[←om]at h;obtain⟨h1,h2⟩:=FI V k (i+1) L h;refine⟨by rw[h1];congr 1;omega,fun j a b=>?_⟩;by_cases hj:j=i
   ·subst hj;exact h0
   ·exact h2 j aq aq
  ·rename_i h0;have:=congrArg Prod.snd h;exact absurd this h0
theorem FK(V:Nat→List (Int×Int)×Int)(k:Nat):∀d:Nat,∃r,iD V (k+d)=iD V k++r
 |0=>⟨[],aw⟩
 |d+1=>by
  obtain⟨r,hr⟩:=FK V k d;exact⟨r++(V (k+d)).1,by rw[←Nat.add_assoc,om,hr,cA]⟩
def jq(i:Int):List (Int×Int)→Int
 |[]=>0
 |c::r=>(if c.1=i then c.2 else 0)+jq i r
theorem yQ(i:Int):∀{l:List (Int×Int)},(∀c,c∈l→A9 c)→0≤jq i l
 |[],_=>by simp[jq]
 |c::r,h=>by
  have h1:=yQ i (l:=r) (fun x hx=>h x (by simp[hx]));have h2:=(h c aw).2.2.1;unfold jq
  split<;>omega
theorem uQ(i:Int):∀(a b:List (Int×Int)),jq i (a++b)=jq i a+jq i b
 |[],b=>by simp[jq]
 |c::a,b=>by
  have:=uQ i a b;simp only[List.cons_append,jq];omega
theorem uR(i:Int):∀(l:List (Int×Int))(s:Int),(∀c,c∈l→A9 c)→0≤s→s<18446744073709551616→(li i l s).2=0→(li i l s).1=s+jq i l
 |[],s,_,_,_,_=>by simp[li,jq]
 | c :: r,s,h,h1,h2,h3=>by
  obtain⟨_,_,p1,p2⟩:=h c aw;have hr:∀x,x∈r→A9 x:=fun x hx=>h x (by simp[hx]);unfold li at h3⊢;unfold jq;by_cases hc:c.1=i
  ·rw[if_neg (by simpa using hc)]at h3⊢;rw[if_pos hc];rw[jA]at h3⊢
   split at h3
   ·simp at h3
   ·rename_i hw;rw[if_neg hw];have e:(s+c.2)%18446744073709551616=s+c.2:=aq;rw[e]at h3⊢;have:=uR i r (s+c.2) hr aq aq h3;omega
  ·rw[if_pos (by simpa using hc)]at h3⊢;rw[if_neg hc];have:=uR i r s hr h1 h2 h3;omega
theorem FM(L:List (Int×Int)):∀(outs:List (Int×List Nat))(i k:Nat)(o:Int×List Nat),uZ L i outs=true→outs[k]?=some o→(li ((i+k:Nat):Int) L 0).2=0∧¬o.1<(li ((i+k:Nat):Int) L 0).1
 |[],i,k,o,_,h=>by simp at h
 | x :: r,i,k,o,h1,h2=>by
  unfold uZ at h1
  split at h1
  ·cases h1
  ·rename_i q1
   split at h1
   ·cases h1
   ·rename_i q2
    cases k with
    |zero =>
     simp at h2;subst h2;exact⟨by simpa using q1,q2⟩
    |succ k =>
     simp at h2;have:=FM L r (i+1) k o h1 h2;rw[show i+(k+1)=i+1+k by omega];exact this
end Go.Sha
namespace Go.Proofs.YtmfnimjnneflnaaGreat
open Go.Am Go.Sha
theorem Dt{outs:List (Nat×List Nat)}{L:List (Int×Int)}(hL:∀c,c∈L→A9 c)(h:hJ (outs.map yO) L=0){k:Nat}{o:Nat×List Nat}(ho:outs[k]?=some o):jq (k:Int) L≤(o.1:Int):=by
 unfold hJ at h
 split at h
 ·split at h
  ·rename_i h2;have:=FM L (outs.map yO) 0 k (yO o) h2 (by rw[cU,ho];rfl);rw[Nat.zero_add]at this;have hs:=uR (k:Int) L 0 hL aq aq this.1;rw[hs,Int.zero_add]at this;have:=this.2;show _≤(yO o).1;omega
  ·simp at h
 ·simp at h
theorem yR(outs:List (Int×List Nat))(L:List (Int×Int)):hJ outs L=0∨hJ outs L=40∨hJ outs L=1:=by
 unfold hJ
 split
 ·split
  ·exact .inl rfl
  ·exact .inr (.inl rfl)
 ·exact .inr (.inr rfl)
theorem LL{V:Nat→List (Int×Int)×Int}(h:∀n,∀v,v∈(V n).1→A9 v)(k:Nat):∀v,v∈iD V k→A9 v:=by
 intro v hv;unfold iD at hv;obtain⟨l,hl,hv⟩:=List.mem_flatten.1 hv;obtain⟨j,_,rfl⟩:=List.mem_map.1 hl;exact h j v hv
theorem Z9:dL Tryz.prog 8 55=some [some .i64,some .u64]:=by kernel_rfl
theorem egT:Tryz.prog.eqGuardType Tryz.prog.depth 55=false:=by kernel_rfl
theorem LM(l:List (Int×Int))(hl:l.length≤100000):au Tryz.prog 24 [.d (.ro 2 (l.map a8)),.d (.ro 2 (l.map a8))] (fun r=>r=.d (.bool true)):=by
 refine bC Tryz.func24 Tryz.ntmps24 (rs:=[.tmp 4]) a9 ?_;simp[go_sem]
 refine av (fun k:Nat=>⟨[(0,.d (.ro 2 (l.map a8))),(1,.d (.ro 2 (l.map a8))),(5,.d (.int .i64 (k:Int)))],[],1000⟩)
  (fun k=>k≤l.length) (fun k=>l.length-k) 0 aq (by
   simp[az,ai,fv,lk,AV.low,AV.low1]) ?_
 rintro k hk;simp[go_sem];refine⟨fun h=>?_,fun h=>?_⟩
 ·obtain⟨o,ho1,hd⟩:=bp (l:=l) (k:=k) aq;have w3:=ax (k:=k) aq;refine ca [0,1,2,3,4,5,6,7,8] [] 0 (k:=9) ?_;intro G hG;simp[go_sem,ho1,a8,Z9,egT,L1.k];refine hG _ _ ?_;clear hG G;simp[go_sem,w3];refine ao (k+1) aq aq ?_;simp[az,ai,fv,lk,AV.low,AV.low1]
 ·exact aa (v:=.d (.bool true)) trivial rfl
theorem yS(t:Tn)(coins:List (Nat×List Nat))(hok:t.ok)(hwb:∀i,i∈t.ins→∀x,x∈i.wit→bytes x)(hob:∀o,o∈t.outs→bytes o.2)(hcb:∀o,o∈coins→o.1<18446744073709551616∧bytes o.2) :
  au Tryz.prog 10 [.agg (eT t),.d (.ro 2 (coins.map eO))] (fun r=>r=.d (.bool true)):=by
 refine bC Tryz.func10 Tryz.ntmps10 (rs:=[.tmp 4]) (qM t coins) ?_;have hSm:=GM t 0 coins hok;have hd1:=mq t 0 coins
 cases hs:ub t coins with
 |false =>
  rw[hs]at hSm;simp only[kr]at hSm hd1;simp[go_sem,eT];refine ag hSm hd1 ?_;simp[go_sem];refine ag px aw ?_;simp[go_sem,ah];exact aa (v:=.d (.bool true)) trivial rfl
 |true =>
 rw[hs]at hSm
 have hS:SpOk t coins:=by
  simp only[ub,Bool.and_eq_true,decide_eq_true_eq,dQ,d7]at hs;exact⟨V6 hok hs.1,⟨hs.2.1,fun o ho=>⟨(hcb o ho).1,hs.2.2 o ho⟩⟩,fun o ho=>(hcb o ho).2,hob,hwb⟩
 obtain⟨V,hV⟩:=Classical.axiomOfChoice (fun n:Nat=>UI t n coins hS);have v1:∀n:Nat,au Tryz.prog 41 [.agg (eS t (n:Int) coins)] (fun r=>r=dp (V n)):=fun n=>(hV n).2.2;have v2:∀n,(V n).1.length≤2000:=fun n=>(hV n).2.1;have v3:∀n,∀v,v∈(V n).1→A9 v:=fun n=>(hV n).1;clear hV;have hcl:=wT t coins V hS v1 v2;have hcd:=qM t coins;have h6:=hS.sm.2.1;have ho6:=hS.sm.2.2.1
 have hlen:(c8 t coins V).1.length≤100000:=by
  unfold c8
  split
  ·exact Nat.zero_le _
  ·have:=Bd V v2 t.ins.length 0 [];simp only[List.length_nil]at this;omega
 have hall:=LH t coins (c8 t coins V) hlen ho6 hcl
 have hgood:sF t (c8 t coins V)=0→(c8 t coins V).2=0∧(c8 t coins V).1=iD V t.ins.length∧(∀j,j<t.ins.length→(V j).2=0)∧∀(k:Nat)(o:Nat×List Nat),t.outs[k]?=some o→jq (k:Int) (iD V t.ins.length)≤(o.1:Int):=by
  intro h
  have he:(c8 t coins V).2=0:=by
   unfold sF at h
   split at h
   ·assumption
   ·exact h
  unfold sF at h;rw[if_pos he]at h
  have hq:pv V t.ins.length 0 (iD V 0)=((c8 t coins V).1,0):=by
   unfold c8 at he⊢
   split at he
   ·simp at he
   ·rename_i hc;rw[if_neg hc];have e:iD V 0=[]:=rfl;rw[e];rw[←he]
  obtain⟨a1,a2⟩:=FI V t.ins.length 0 _ hq;rw[Nat.zero_add]at a1 a2;refine⟨he,a1,fun j hj=>a2 j (Nat.zero_le _) hj,fun k o ho=>?_⟩;rw[a1]at h;exact Dt (LL v3 _) h ho
 have hbad:sF t (c8 t coins V)=(c8 t coins V).2∨((c8 t coins V).2=0∧(sF t (c8 t coins V)=40∨sF t (c8 t coins V)=1)):=by
  unfold sF;by_cases he:(c8 t coins V).2=0
  ·rw[if_pos he];rcases yR (t.outs.map yO) (c8 t coins V).1 with q|q|q
   ·exact .inl (by rw[q,he])
   ·exact .inr ⟨he,.inl q⟩
   ·exact .inr ⟨he,.inr q⟩
  ·rw[if_neg he];exact .inl rfl
 generalize c8 t coins V=q at *;generalize sF t q=f at *;obtain⟨L,e⟩:=q;simp only at hgood hbad hlen;unfold dp at hcl;simp only at hcl;simp only[kr]at hSm hd1;simp only[eT]at hcl hcd hall;simp[go_sem,eT];refine ag hSm hd1 ?_;simp[go_sem];refine ag hcl hcd ?_;simp[go_sem];refine ag hall hcd ?_;by_cases hf:f=0
 case neg =>
  simp[go_sem,hf];refine ag px aw ?_;rcases hbad with rfl|⟨rfl,rfl|rfl⟩
  ·simp[go_sem,ah];exact aa (v:=.d (.bool true)) trivial rfl
  ·simp[go_sem,ah];exact aa (v:=.d (.bool true)) trivial rfl
  ·simp[go_sem,ah];exact aa (v:=.d (.bool true)) trivial rfl
 obtain⟨rfl,rfl,g3,g4⟩:=hgood hf;subst hf;clear hbad hgood hall hcl
 have hpre:∀k,k<t.ins.length→∃r,iD V t.ins.length=iD V k++((V k).1++r):=by
  intro k hk;obtain⟨r,hr⟩:=FK V (k+1) (t.ins.length-(k+1));rw[show k+1+(t.ins.length-(k+1))=t.ins.length by omega,om,cA]at hr;exact⟨r,hr⟩
 have hP:=LL v3 t.ins.length;generalize hLe:iD V t.ins.length=L at *;simp[go_sem]
 refine av (fun k:Nat=>⟨[(1,.d (.ro 2 (coins.map eO))),(2,.ptr 0 0 0 1),(5,.d (.ro 2 (L.map a8))),(6,.d (.int .i64 0)),(8,.d (.int .i64 ((iD V k).length:Int))),(9,.d (.int .i64 (k:Int)))],[(0,⟨26,4,[eT t]⟩)],3000⟩)
  (fun k=>k≤t.ins.length) (fun k=>t.ins.length-k) 0 aq (by
   simp[az,ai,fv,lk,AV.low,AV.low1,eT,iD]) ?_
 rintro k hk;simp only[eT];simp[go_sem];refine⟨fun hkl=>?_,fun hkl=>?_⟩
 ·obtain⟨r,hr⟩:=hpre k hkl;have hv:=v1 k;have hvl:=v2 k;have hve:=g3 k hkl;have hvd:=mq t (k:Int) coins;have hsu:=om V k;simp only[kr]at hv hvd;generalize V k=p at *;obtain⟨m,e⟩:=p;simp only at hr hvl hve hsu;subst hve;unfold dp at hv;refine ag hv hvd ?_;have hsm:=LM m aq;have hll:L.length=(iD V k).length+(m.length+r.length):=by rw[hr];simp
  have w1:IntKind.i64.wrap ((L.length:Int)-((iD V k).length:Int))=(L.length:Int)-((iD V k).length:Int):=IntWalk.i64_in _ aq;have i1:¬(L.length:Int)-((iD V k).length:Int)<(m.length:Int):=aq;have w2:IntKind.i64.wrap (((iD V k).length:Int)+(m.length:Int))=((iD V k).length:Int)+(m.length:Int):=IntWalk.i64_in _ aq;have w3:=ax (k:=k) aq
  have hsl:List.drop (iD V k).length (List.take (((iD V k).length:Int)+(m.length:Int)).toNat (List.map a8 L))=m.map a8:=by
   rw[show(((iD V k).length:Int)+(m.length:Int)).toNat=(iD V k).length+m.length by omega,←List.map_take,←List.map_drop,hr,List.take_append,cx aq,Nat.add_sub_cancel_left,List.take_left,List.drop_left]
  simp[go_sem,w1,i1,w2];refine⟨aq,aq,?_⟩;rw[hsl];refine ag hsm a9 ?_;simp[go_sem,w2,w3];refine ao (k+1) aq aq ?_;rw[hsu];simp[az,ai,fv,lk,AV.low,AV.low1,eT]
 ·have hke:k=t.ins.length:=aq;subst hke;rw[hLe];simp[go_sem]
  refine av (fun k:Nat=>⟨[(2,.ptr 0 0 0 1),(5,.d (.ro 2 (L.map a8))),(6,.d (.int .i64 0)),(8,.d (.int .i64 (L.length:Int))),(12,.d (.int .i64 (k:Int)))],[(0,⟨26,4,[eT t]⟩)],4000⟩)
   (fun k=>k≤t.outs.length) (fun k=>t.outs.length-k) 0 aq (by
    simp[az,ai,fv,lk,AV.low,AV.low1,eT]) ?_
  clear hk hkl;rintro k hk;simp only[eT];simp[go_sem];refine⟨fun hkl=>?_,fun hkl=>?_⟩
  ·obtain⟨o,ho1,hd⟩:=bp (l:=t.outs) (k:=k) hkl;have hsum:=g4 k o ho1;have hov:=(hok.2.2.2 o (cr ho1));have hrow:(t.outs.map eO)[k]?=some [.int .u64 (o.1:Int),nb o.2]:=by rw[cU,ho1];rfl
   have w3:=ax (k:=k) aq;have hnn:∀j,0≤jq (k:Int) (L.take j):=fun j=>yQ _ (fun c hc=>hP c (List.mem_of_mem_take hc));simp[go_sem,ho1,eO]
   refine av (fun j:Nat=>⟨[(2,.ptr 0 0 0 1),(5,.d (.ro 2 (L.map a8))),(6,.d (.int .i64 0)),(8,.d (.int .i64 (L.length:Int))),(12,.d (.int .i64 (k:Int))),(13,.d (.int .u64 ((o.1:Int)-jq (k:Int) (L.take j)))),(14,.d (.int .i64 (j:Int)))],[(0,⟨26,4,[eT t]⟩)],5000⟩)
    (fun j=>j≤L.length) (fun j=>L.length-j) 0 aq (by
     simp[az,ai,fv,lk,AV.low,AV.low1,eT,jq]) ?_
   rintro j hj;simp only[eT];simp[go_sem];refine⟨fun hjl=>?_,fun hjl=>?_⟩
   ·obtain⟨c,hc1,hd2⟩:=bp (l:=L) (k:=j) hjl;have w4:=ax (k:=j) aq
    have hst:jq (k:Int) (L.take (j+1))=jq (k:Int) (L.take j)+(if c.1=(k:Int)then c.2 else 0):=by
     rw[List.take_add_one,hc1,uQ];simp[jq]
    have hle:jq (k:Int) (L.take (j+1))≤jq (k:Int) L:=by
     have e:L=L.take (j+1)++L.drop (j+1):=(List.take_append_drop _ _).symm;have h0:=yQ (k:Int) (l:=L.drop (j+1)) (fun c hc=>hP c (List.mem_of_mem_drop hc));have:=uQ (k:Int) (L.take (j+1)) (L.drop (j+1));rw[←e]at this;omega
    have hn:=hnn j;obtain⟨p1,p2,p3,p4⟩:=hP c (cr hc1);by_cases hck:c.1=(k:Int)
    ·rw[if_pos hck]at hst;have i2:¬(o.1:Int)-jq (k:Int) (L.take j)<c.2:=aq;have w5:IntKind.u64.wrap ((o.1:Int)-jq (k:Int) (L.take j)-c.2)=(o.1:Int)-jq (k:Int) (L.take (j+1)):=by rw[jA,hst];omega
     simp[go_sem,hc1,a8,hck,i2,w4,w5];refine ao (j+1) aq aq ?_;simp[az,ai,fv,lk,AV.low,AV.low1,eT]
    ·rw[if_neg hck]at hst;simp[go_sem,hc1,a8,hck,w4];refine ao (j+1) aq aq ?_;rw[hst];simp[az,ai,fv,lk,AV.low,AV.low1,eT]
   ·simp[go_sem,w3];refine ao (k+1) aq aq ?_;simp[az,ai,fv,lk,AV.low,AV.low1,eT]
  ·refine ag px aw ?_;simp[go_sem,ah];exact aa (v:=.d (.bool true)) trivial rfl
end Go.Proofs.YtmfnimjnneflnaaGreat
