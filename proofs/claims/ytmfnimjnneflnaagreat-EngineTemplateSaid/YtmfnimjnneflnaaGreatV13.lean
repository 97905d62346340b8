/-
 Part 14 of what the claim rests on.
-/
import Derived.Test.YtmfnimjnneflnaaGreatV12
set_option linter.unusedVariables false
set_option linter.unusedSimpArgs false
set_option maxRecDepth 100000
set_option maxHeartbeats 16000000
namespace Go.Proofs.YtmfnimjnneflnaaGreat
open Go.Am Go.Sha
theorem Wg (x:Rx):pD x [81,99,82,103,83,104,82,156] [] 0=([],0):=by kernel_rfl
theorem Wh (x:Rx):pD x [81,81] [] 0=([],25):=by kernel_rfl
theorem Wi (x:Rx):pD x [0,99,255,104,81] [] 0=([],10):=by kernel_rfl
end Go.Proofs.YtmfnimjnneflnaaGreat
namespace Go.Sha
open Go.Proofs.YtmfnimjnneflnaaGreat Go.Am
structure CsF where
 t:Tn
 n:Int
 coins:List (Nat × List Nat)
 inner:List Nat
 path:List (List Nat)
 script:List Nat
 start:List (List Nat)
 annex:List Nat
 bud:Int
def pU (c:CsF):List AV:=[.d (.ro 1 (c.start.map bJ)),.d (nb c.annex),.d (.int .i64 c.bud)]
def bS (c:CsF):List AV:=eS c.t c.n c.coins ++ (aP c.inner (.d (cZ c.path)) (.d (nb c.script)) ++ pU c)
def oO (c:CsF):Bool:=qH c.t c.coins && (decide (c.script.length≤300) && (decide (c.path.length≤12) && (decide (c.start.length≤12) && (decide (c.annex.length≤300) && c.start.all fun x=>decide (x.length≤600)))))
end Go.Sha
namespace Go.Proofs.YtmfnimjnneflnaaGreat
open Go.Am Go.Sha
theorem uz {inner:List Nat} (hi:inner.length=32) (a b:AV):(aP inner a b).length=34:=by simp [aP,am,hi]
theorem uc {c:CsF} (hi:c.inner.length=32):(bS c).length=43:=by simp [bS,eS,uz hi,pU]
theorem Gh {c:CsF} (hi:c.inner.length=32):List.drop 6 (bS c)=aP c.inner (.d (cZ c.path)) (.d (nb c.script)) ++ pU c:=rfl
theorem yb {c:CsF}:List.take 6 (bS c)=eS c.t c.n c.coins:=rfl
theorem Ae {c:CsF} (hi:c.inner.length=32):List.take 34 (List.drop 6 (bS c))=aP c.inner (.d (cZ c.path)) (.d (nb c.script)):=by
 rw [Gh hi,List.take_append,uz hi,cA (by rw [uz hi];omega)];simp
theorem mQ {c:CsF} (hi:c.inner.length=32) (k:Nat):(bS c)[k+40]?=(pU c)[k]?:=by
 rw [bS,dz (by simp [eS]),dz (by simp [eS,uz hi])];congr 1;simp [eS,uz hi]
theorem Af {inner:List Nat} (hi:inner.length=32) (a b:AV) (l:List AV) (k:Nat) (hk:k<2):(aP inner a b ++ l)[k+32]?=[a,b][k]?:=by
 rw [List.getElem?_append_left (by rw [uz hi];omega),aP,dz (by rw [am,hi];omega),am,hi,Nat.add_sub_cancel]
theorem Ox {c:CsF} (hi:c.inner.length=32):(bS c)[38]?=some (.d (cZ c.path)):=Af (l:=pU c) hi _ _ 0 aq
theorem ED {c:CsF} (hi:c.inner.length=32):(bS c)[39]?=some (.d (nb c.script)):=Af (l:=pU c) hi _ _ 1 aq
theorem Kz (N:Nat) (c:CsF):∀ v,v ∈ bS c→v.low1 N:=by
 intro v hv;simp only [bS,eS,aP,cb,pU,cL,et,List.mem_nil_iff,or_false,List.mem_map] at hv;rcases hv with (rfl | rfl | rfl | rfl | rfl | rfl) | (⟨x,_,rfl⟩ | rfl | rfl) | rfl | rfl | rfl <;> trivial
theorem nH (c:CsF):∀ v,v ∈ [AV.agg (bS c)]→v.deep:=by
 intro v hv;simp only [et,List.mem_nil_iff,or_false] at hv;subst hv;intro v hv;simp only [bS,eS,aP,cb,pU,cL,et,List.mem_nil_iff,or_false,List.mem_map] at hv;rcases hv with (rfl | rfl | rfl | rfl | rfl | rfl) | (⟨x,_,rfl⟩ | rfl | rfl) | rfl | rfl | rfl <;> trivial
theorem Gi (c:CsF) (ht:c.t.ok) (hi:c.inner.length=32):av Tryz.prog 13 [.agg (bS c)] (fun r=>r=.d (.bool (oO c))):=by
 refine bK Tryz.func13 Tryz.ntmps13 (rs:=[.tmp 2]) (nH c) ?_;have hl:=uc hi;have h6:=yb (c:=c);have h38:=Ox hi;have h39:=ED hi;have h40:(bS c)[40]?=some (.d (.ro 1 (c.start.map bJ))):=mQ hi 0;have h41:(bS c)[41]?=some (.d (nb c.annex)):=mQ hi 1;have hSm:=FG c.t c.n c.coins ht;have hSd:=EA c.t c.n c.coins;have hlow:=fun N=>Kz N c;have htk:List.take 43 (bS c)=bS c:=cA aq;generalize hX:oO c=X;unfold oO at hX;generalize eS c.t c.n c.coins=S at *;generalize bS c=Q at *;simp [go_sem,hl,htk,h6,h38,h39,h40,h41];refine ag hSm hSd ?_;generalize qH c.t c.coins=W at *
 cases W
 ·simp at hX;subst hX;simp [go_sem];exact aa a9 rfl
 by_cases c1:c.script.length≤300
 case neg =>
  have i1:300<(c.script.length:Int):=aq;have:X=false:=by rw [← hX];simp [c1]
  subst this;simp [go_sem,i1,h38,h39,h40,h41,nb];exact aa a9 rfl
 have i1:¬ 300<(c.script.length:Int):=aq;by_cases c2:c.path.length≤12
 case neg =>
  have i2:12<(c.path.length:Int):=aq;have:X=false:=by rw [← hX];simp [c2]
  subst this;simp [go_sem,i1,i2,h38,h39,h40,h41,nb,cZ];exact aa a9 rfl
 have i2:¬ 12<(c.path.length:Int):=aq;by_cases c3:c.start.length≤12
 case neg =>
  have i3:12<(c.start.length:Int):=aq;have:X=false:=by rw [← hX];simp [c3]
  subst this;simp [go_sem,i1,i2,i3,h38,h39,h40,h41,nb,cZ];exact aa a9 rfl
 have i3:¬ 12<(c.start.length:Int):=aq;by_cases c4:c.annex.length≤300
 case neg =>
  have i4:300<(c.annex.length:Int):=aq;have:X=false:=by rw [← hX];simp [c4]
  subst this;simp [go_sem,i1,i2,i3,i4,h38,h39,h40,h41,nb,cZ];exact aa a9 rfl
 have i4:¬ 300<(c.annex.length:Int):=aq;have e:X=c.start.all fun x=>decide (x.length≤600):=by rw [← hX];simp [c1,c2,c3,c4]
 simp [go_sem,i1,i2,i3,i4,h38,h39,h40,h41,nb,cZ]
 refine ax (fun k:Nat=>⟨[(1,.ptr 0 0 0 1),(3,.d (.int .i64 (k:Int)))],[(0,⟨36,43,[Q]⟩)],4000⟩)
  (fun k=>k≤c.start.length∧((c.start.drop k).all fun x=>decide (x.length≤600))=X) (fun k=>c.start.length - k) 0 ⟨aq,e.symm⟩ (by
   simp [aA,ai,fv,lk,AV.low,AV.low1,hl]
   exact hlow _) ?_
 rintro k ⟨hk,ho⟩;have g40:∀ h:40<Q.length,Q[40]'h=AV.d (.ro 1 (c.start.map bJ)):=fun h=>(List.getElem_of_getElem? h40).2;simp [go_sem,g40,hl];refine ⟨fun h=>?_,fun h=>?_⟩
 ·obtain ⟨o,ho1,hd⟩:=bH (l:=c.start) (k:=k) aq;have w3:=az (k:=k) aq;have hrow:=Ia ho1;by_cases hx:o.length≤600
  ·have j1:¬ 600<(o.length:Int):=aq;have j2:(o.length:Int)≤600:=aq;simp [go_sem,ho1,hrow,bJ,nb,j1,j2,w3,g40,hl];refine ap (k+1) ⟨aq,jM hd ho (by simpa using hx)⟩ aq ?_;simp [aA,ai,fv,lk,AV.low,AV.low1,hl];exact hlow _
  ·have j1:600<(o.length:Int):=aq;have j2:¬ (o.length:Int)≤600:=aq;have:=iU hd ho (by simpa using hx);subst this;simp [go_sem,ho1,hrow,bJ,nb,j1,j2,g40,hl];exact aa a9 rfl
 ·have hkl:k=c.start.length:=aq;subst hkl;have:=jN ho;subst this;simp [go_sem];exact aa a9 rfl
end Go.Proofs.YtmfnimjnneflnaaGreat
namespace Go.Sha
open Go.Proofs.YtmfnimjnneflnaaGreat Go.Am
theorem ud (op:Nat) (r:List Nat):gR (op :: r)=if 0<op∧op≤75 then some (op,1) else if op=76 then (match r with | a :: _=>some (a,2) | []=>none) else if op=77 then (match r with | a :: b :: _=>some (a+256*b,3) | _=>none) else some (0,1):=rfl
theorem Gj {t:List Nat} (h:t.length≤65535):ew (bR t)=some t:=by
 have g:∀ x:List Nat,x.length≤65535→ew (eV x)=some x:=fun x hx=>by
  unfold ew eV;rw [if_pos];simp only
  split
  ·omega
  ·split <;> omega
 match t with
 | []=>rfl
 | [c] =>
  rw [show bR [c]=if 1≤c∧c≤16 then (80+c,[]) else if c=129 then (79,[]) else eV [c] from rfl]
  split
  ·rename_i hc;have n1:¬ 80+c≤77:=aq;have n2:¬ 80+c=79:=aq;have n3:80<80+c∧80+c≤96:=aq;show (if 80+c≤77 then some [] else if 80+c=79 then some [129] else if 80<80+c∧80+c≤96 then some [80+c - 80] else none)=_;rw [if_neg n1,if_neg n2,if_pos n3,Nat.add_sub_cancel_left]
  ·split
   ·rename_i hc;subst hc;rfl
   ·exact g [c] aw
 | a :: b :: r=>exact g _ h
theorem Oy {t:List Nat}:(bR t).1≤96:=by
 have g:∀ x:List Nat,(eV x).1≤96:=fun x=>by
  unfold eV;simp only
  split
  ·omega
  ·split <;> omega
 unfold bR
 split
 ·split
  ·simp only;omega
  ·split
   ·simp only;omega
   ·exact g _
 ·exact g _
theorem Gk {t:List Nat} (x:Rx) (r:Rn) (h:t.length≤65535) (hi:gq r=0):lQ x (bR t) r=dp t r:=by
 have hp:=Gj h;have ho:=Oy (t:=t);have hs:rA (bR t)=true:=by unfold rA;rw [hp];simp
 have hb:mH (bR t).1 r=none:=by
  unfold mH;rw [if_neg aq,if_neg aq,if_neg aq]
 unfold lQ;rw [hp,hb,if_neg aw,hs];simp [hi]
theorem Oz {op:Nat} (x:Rx) (r:Rn) (h:nL op=true) (h2:104<op) (hi:gq r=0):lQ x (op,[]) r=tp x op r:=by
 have hp:ew (op,[])=none:=by
  unfold ew;rw [if_neg (by simp only;omega),if_neg (by simp only;omega),if_neg (by simp only;omega)]
 have hb:mH op r=none:=by
  unfold mH;rw [if_neg aq,if_neg aq,if_neg aq]
 unfold lQ;rw [hp];simp only [hb,h];simp [hi]
theorem KA {s rest:List Nat} {a:Nat} {w:Wd} (hb:w.2.length≤65535) (hw:(dY w).2=true) (hd:s.drop a=(dY w).1 ++ rest):mG s a=some (w,a+(dY w).1.length):=by
 obtain ⟨op,b⟩:=w
 have ht:∀ (n h:Nat) (jk:List Nat),gR (s.drop a)=some (n,h)→s.drop a=jk ++ (b ++ rest)→jk.length=h→b.length=n→(s.drop a).headD 0=op→mG s a=some ((op,b),a+h+n):=by
  intro n h jk h1 h2 h3 h4 h5;unfold mG;rw [h1];simp only;rw [if_neg (by rw [h2];simp only [b_];omega),h5]
  have:((s.drop a).drop h).take n=b:=by
   rw [h2,← h3,List.drop_left,← h4,List.take_left]
  rw [this]
 unfold dY at hw hd ⊢;by_cases c1:0<op∧op≤75
 ·rw [if_pos c1] at hw hd ⊢;simp only [decide_eq_true_eq] at hw;have e:s.drop a=op :: (b ++ rest):=hd;have:=ht op 1 [op] (by rw [e,ud,if_pos c1]) e rfl hw (by rw [e];rfl);rw [this];simp only [List.length_cons];congr 2;omega
 ·rw [if_neg c1] at hw hd ⊢;by_cases c2:op=76
  ·subst c2;rw [if_pos rfl] at hw hd ⊢;simp only [decide_eq_true_eq] at hw;have e8:t8 b.length=b.length:=OO aq;have e:s.drop a=[76,b.length] ++ (b ++ rest):=by rw [hd];simp [e8]
   have:=ht b.length 2 [76,b.length] (by rw [e];rfl) e rfl rfl (by rw [e];rfl);rw [this];simp only [List.length_cons];congr 2;omega
  ·rw [if_neg c2] at hw hd ⊢;by_cases c3:op=77
   ·subst c3;rw [if_pos rfl] at hw hd ⊢;simp only [decide_eq_true_eq] at hw;have e:s.drop a=[77,t8 b.length,t8 (im 8 b.length)] ++ (b ++ rest):=by rw [hd];simp
    have e8:t8 b.length+256*t8 (im 8 b.length)=b.length:=by
     unfold t8 im;simp only [Nat.reducePow];omega
    have:=ht b.length 3 [77,t8 b.length,t8 (im 8 b.length)] (by rw [e];show some (t8 b.length+256*t8 (im 8 b.length),3)=_;rw [e8]) e rfl rfl (by rw [e];rfl);rw [this];simp only [List.length_cons];congr 2;omega
   ·rw [if_neg c3] at hw hd ⊢;simp only [decide_eq_true_eq] at hw;have hb0:b=[]:=List.eq_nil_of_length_eq_zero hw;subst hb0;have e:s.drop a=[op] ++ ([] ++ rest):=by rw [hd];simp
    have:=ht 0 1 [op] (by rw [e,List.cons_append,ud,if_neg c1,if_neg c2,if_neg c3]) e rfl rfl (by rw [e];rfl);rw [this];rfl
theorem KB {r:Rn} (h:(mI r).e=0):r.e=0:=by
 by_cases hr:r.e=0
 ·exact hr
 ·exfalso;have f:∀ (x:Int) (q:Rn),q.e ≠ 0→(au x q).e ≠ 0:=fun x q hq=>by unfold au;rw [if_neg hq];exact hq
  revert h;unfold mI;simp only
  split
  ·split
   ·exact f _ _ hr
   ·exact f _ _ (f _ _ hr)
  ·split
   ·exact hr
   ·exact f _ _ hr
theorem Ag {x:Rx} {s rest:List Nat} {f a:Nat} {r:Rn} {w:Wd} (h:(mI (lv x s (f+1) a r)).e=0) (hb:w.2.length≤65535) (hw:(dY w).2=true) (hd:s.drop a=(dY w).1 ++ rest) :
  r.e=0∧(mI (lv x s f (a+(dY w).1.length) (lQ x w r))).e=0∧mI (lv x s (f+1) a r)=mI (lv x s f (a+(dY w).1.length) (lQ x w r)):=by
 have hn:=KA hb hw hd
 have hl:0<(dY w).1.length:=by
  unfold dY
  split
  ·exact Nat.succ_pos _
  ·split
   ·exact Nat.succ_pos _
   ·split
    ·exact Nat.succ_pos _
    ·exact Nat.succ_pos _
 have ha:a<s.length:=by
  have:=congrArg List.length hd;rw [e_,b_] at this;omega
 rw [lv] at h ⊢;by_cases hr:r.e=0
 ·rw [if_pos ⟨ha,hr⟩,hn] at h ⊢;exact ⟨hr,h,rfl⟩
 ·rw [if_neg (fun q=>hr q.2)] at h;exact absurd (KB h) hr
theorem Gl {x:Rx} {s:List Nat} {start:List (List Nat)} {bud:Int} (h:(pD x s start bud).2=0):(mI (lv x s (s.length+1) 0 (au (fi start []) ⟨start,[],[],bud,[],0⟩))).e=0:=by
 unfold pD at h;simp only at h
 split at h
 ·assumption
 ·exact h
theorem Wj {k e:Int} {m a:List bc} {br:List Bool} {bud:Int} {cl:List (Int × Int)} (h:(au k ⟨m,a,br,bud,cl,e⟩).e=0):au k ⟨m,a,br,bud,cl,e⟩=⟨m,a,br,bud,cl,0⟩∧k=0:=by
 unfold au at h ⊢
 split at h
 ·rename_i he;rw [if_pos he];simp only at h;subst h;exact ⟨rfl,rfl⟩
 ·exact absurd h ‹_›
theorem Wl {b:bc} {r:Rn} (h:(dp b r).e=0):r.e=0∧dp b r={ r with main:=r.main ++ [b] }:=by
 have he:r.e=0:=by
  unfold dp at h
  split at h
  ·assumption
  ·exact h
 refine ⟨he,?_⟩;unfold dp at h ⊢;rw [if_pos he] at h ⊢
 split
 ·rfl
 ·rename_i hc;exfalso;rw [if_neg hc] at h;unfold au at h;rw [if_pos he] at h;exact hc h
theorem S5:nL 179=true:=by decide
theorem Gm {x:Rx} {t rest:List Nat} {start:List (List Nat)} {bud:Int} (ht:t.length≤300) (hok:(eG [] [bR t,(179,[])]).2=0)
  (h:(pD x ((eG [] [bR t,(179,[])]).1 ++ rest) start bud).2=0):t=x.tpl:=by
 have e1:(dY (bR t)).2=true:=by
  unfold eG at hok
  split at hok
  ·assumption
  ·cases hok
 have e2:(eG [] [bR t,(179,[])]).1=(dY (bR t)).1 ++ [179]:=by
  unfold eG;rw [if_pos e1];rfl
 rw [e2] at h;have h0:=Gl h
 have hpl:(bR t).2.length≤65535:=by
  have g:(eV t).2.length=t.length:=rfl;unfold bR
  split
  ·split
   ·exact Nat.zero_le _
   ·split
    ·exact Nat.zero_le _
    ·exact (by omega:1≤65535)
  ·omega
 have hlen:∃ f,((dY (bR t)).1 ++ [179] ++ rest).length=f+1:=⟨(dY (bR t)).1.length+rest.length,by simp only [b_,List.length_cons,List.length_nil];omega⟩;obtain ⟨f,hf⟩:=hlen;rw [hf] at h0;obtain ⟨a1,a2,_⟩:=Ag (w:=bR t) (rest:=[179] ++ rest) h0 hpl e1 (by rw [List.drop_zero,cD]);obtain ⟨b1,b2,_⟩:=Ag (w:=(179,[])) (rest:=rest) a2 (Nat.zero_le _) rfl (by rw [cD,Nat.zero_add,List.drop_left];rfl);rw [(Wj a1).1,Gk x _ aq rfl] at b1 b2;have hp:=(Wl b1).2;rw [hp,Oz x _ S5 aq rfl] at b2
 have b3:(tp x 179 ⟨start ++ [t],[],[],bud,[],0⟩).e=0:=by
  by_cases hz:(tp x 179 ⟨start ++ [t],[],[],bud,[],0⟩).e=0
  ·exact hz
  ·exfalso
   cases f with
   | zero=>exact hz (KB b2)
   | succ f =>
    rw [lv,if_neg (fun q=>hz q.2)] at b2;exact hz (KB b2)
 have hx:tp x 179 ⟨start ++ [t],[],[],bud,[],0⟩=xm x ⟨start ++ [t],[],[],bud,[],0⟩:=rfl;rw [hx] at b3;unfold xm lr at b3;simp only [b_,List.length_cons,List.length_nil,Nat.add_eq_zero_iff,reduceCtorEq,and_false,if_false,Nat.succ_ne_zero,List.getLastD_concat] at b3;by_cases hq:t=x.tpl
 ·exact hq
 ·exfalso;rw [if_neg hq] at b3;unfold au at b3;rw [if_pos rfl] at b3;exact absurd b3 aw
end Go.Sha
namespace Go.Sha
open Go.Proofs.YtmfnimjnneflnaaGreat Go.Am
def xK (c:CsF) (sg:bc→bc→bc→Bool) (msg:bc) (out:bc→bc × Int):Rx :=
 ⟨bo,dP,sg,msg,(c.t.lock:Int),(c.t.ver:Int),(((c.t.ins[c.n.toNat]?.map Ip.seq).getD 0:Nat):Int),Cf c.t c.n.toNat,uu c.t c.n c.coins,fun s o0 o1 bk=>ub c.t c.n c.coins o0 o1 bk (out s).1 (out s).2⟩
def uA (c:CsF) (x:Rx) (s:List Nat) (start:List (List Nat)):List (Int × Int) × Int:=if cg c.t c.n c.coins ≠ 0 ∨ 1000<s.length then ([],1) else pD x s start c.bud
def mR (p:List (Int × Int) × Int):AV:=.tup [.d (.ro 2 (p.1.map eW)),.d (.int .i64 p.2)]
end Go.Sha
namespace Go.Proofs.YtmfnimjnneflnaaGreat
open Go.Am Go.Sha
structure CsOk (c:CsF):Prop where
 t:Sm c.t
 cc:Yj c.coins
 cb:∀ o,o ∈ c.coins→bytes o.2∧o.1<18446744073709551616
 ob:∀ o,o ∈ c.t.outs→bytes o.2
 i:c.inner.length=32
 ib:bytes c.inner
 s:c.script.length≤1000
 p:∀ p,p ∈ c.path→p.length=32
 pl:c.path.length≤1000
 a:c.annex.length≤1000
 b:fO c.bud
theorem S7 (t:Tn) (n:Int) (coins:List (Nat × List Nat)) (inner:List Nat) (path:List (List Nat)) (s annex:List Nat) (start:List bc) (bud:Int) (ht:Sm t) (hc:coins.length≤1000) (hi:inner.length=32) (h:cg t n coins=1) :
  av Tryz.prog 53 [.agg (eS t n coins),cM inner path s,.d (.ro 1 (start.map bJ)),.d (nb annex),.d (.int .i64 bud)] (fun v=>v=.tup [.d (.ro 2 []),.d (.int .i64 1)]):=by
 have hck:=kJ t n coins ht hc;have hlf:(aP inner (AV.d (cZ path)) (AV.d (nb s))).length=34:=uz hi _ _;have hlt:List.take 34 (aP inner (AV.d (cZ path)) (AV.d (nb s)))=aP inner (AV.d (cZ path)) (AV.d (nb s)):=cA (by rw [hlf];omega);have hdS:∀ v,v ∈ [AV.agg (eS t n coins)]→v.deep:=EA t n coins;rw [h] at hck;simp only [eS] at hck hdS
 refine bK Tryz.func53 Tryz.ntmps53 (rs:=[.tmp 10,.tmp 11]) (by
  intro v hv;simp at hv;rcases hv with rfl | rfl | rfl | rfl | rfl
  ·simp [AV.deep,AV.deep1,eS]
  ·exact cO inner path s _ (List.mem_singleton.2 rfl)
  ·trivial
  ·trivial
  ·trivial) ?_
 simp [go_sem,cM,eS,hlf,hlt];refine ag hck hdS ?_;simp [go_sem,ah];exact dr (cs':=[.d (.ro 2 []),.d (.int .i64 1)]) (ao (ak (.nil 2)) (ao (aZ trivial) bw)) rfl a9 rfl
theorem KC (c:CsF) (hk:CsOk c) {sg:bc→bc→bc→Bool} {out:bc→bc × Int} (hsg:Ov sg) (hout:EB c.inner c.path out) (s:List Nat) (hs:bytes s) (hl:s.length≤100000):∃ msg:bc,∀ start:List (List Nat),StOk start [] →
  av Tryz.prog 53 [.agg (eS c.t c.n c.coins),cM c.inner c.path s,.d (.ro 1 (start.map bJ)),.d (nb c.annex),.d (.int .i64 c.bud)] (fun v=>v=mR (uA c (xK c sg msg out) s start)):=by
 by_cases hn:0≤c.n
 ·obtain ⟨n,hn'⟩:∃ n:Nat,c.n=(n:Int):=⟨c.n.toNat,aq⟩;obtain ⟨msg,hx⟩:=S4 ⟨c.t,n,c.coins,c.inner,c.path,s,c.annex⟩ ⟨hk.t,hk.cc,hk.cb,hk.ob,hk.i,hk.ib,hl,hk.p,hk.pl,hk.a⟩ hsg hout;refine ⟨msg,fun start hst=>?_⟩
  have hr:=SQ ⟨c.t,n,c.coins,c.inner,c.path,s,c.annex⟩ (xK c sg msg out) start c.bud hk.t (by have:=hk.cc.1;show c.coins.length≤1000;omega) hk.i hs hst hk.b (fun hc _=>by
   have:=hx hc (xK c sg msg out) (by unfold xK;rw [hn'];rfl)
   exact this) (fun s o0 o1 bk=>vP _ _ _ _ _ _ _ _)
  have e:F4 ⟨c.t,n,c.coins,c.inner,c.path,s,c.annex⟩ (xK c sg msg out) start c.bud=mR (uA c (xK c sg msg out) s start):=by
   unfold F4 uA;rw [hn'];simp only
   split
   ·rfl
   ·rfl
  rw [e,← hn'] at hr;exact hr
 ·have hc:cg c.t c.n c.coins=1:=by
   rcases qS c.t c.n c.coins with h | h
   ·exfalso;unfold cg at h
    split at h
    ·cases h
    ·rename_i hq;simp only [not_or,Int.not_lt,Int.not_le] at hq;omega
   ·exact h
  refine ⟨[],fun start hst=>?_⟩;have:=S7 c.t c.n c.coins c.inner c.path s c.annex start c.bud hk.t (by have:=hk.cc.1;omega) hk.i hc;have e:uA c (xK c sg [] out) s start=([],1):=if_pos (.inl (by rw [hc];omega));rw [e];exact this
theorem vQ {inner:List Nat} (hi:inner.length=32) (a b v:AV):(aP inner a b).set 33 v=aP inner a v:=by
 unfold aP;rw [List.set_append_right _ _ (by rw [am,hi];omega),am,hi];rfl
theorem Gn {inner:List Nat} (hi:inner.length=32) (a b v:AV):List.take 33 (aP inner a b) ++ v :: List.drop 34 (aP inner a b)=aP inner a v:=by
 rw [← vQ hi a b v,List.set_eq_take_append_cons_drop,if_pos (by rw [uz hi];omega)]
theorem Po (c:CsF) (s:List Nat) (start:List (List Nat)):∀ v,v ∈ [AV.agg (bS c),.d (nb s),.d (.ro 1 (start.map bJ))]→v.deep:=by
 intro v hv;simp only [et,List.mem_nil_iff,or_false] at hv;rcases hv with rfl | rfl | rfl
 ·exact nH c _ aw
 ·trivial
 ·trivial
theorem Ah (c:CsF) (hi:c.inner.length=32) (s:List Nat) (start:List (List Nat)) (p:List (Int × Int) × Int)
  (h:av Tryz.prog 53 [.agg (eS c.t c.n c.coins),cM c.inner c.path s,.d (.ro 1 (start.map bJ)),.d (nb c.annex),.d (.int .i64 c.bud)] (fun v=>v=mR p)) :
  av Tryz.prog 17 [.agg (bS c),.d (nb s),.d (.ro 1 (start.map bJ))] (fun v=>v=mR p):=by
 refine bK Tryz.func17 Tryz.ntmps17 (rs:=[.tmp 6,.tmp 7]) (Po c s start) ?_;have hl:=uc hi;have h6:=yb (c:=c);have h34:=Ae hi;have h41:(bS c)[41]?=some (.d (nb c.annex)):=mQ hi 1;have h42:(bS c)[42]?=some (.d (.int .i64 c.bud)):=mQ hi 2;have g41:∀ h:41<(bS c).length,(bS c)[41]'h=AV.d (nb c.annex):=fun h=>(List.getElem_of_getElem? h41).2;have g42:∀ h:42<(bS c).length,(bS c)[42]'h=AV.d (.int .i64 c.bud):=fun h=>(List.getElem_of_getElem? h42).2;have hSd:=EA c.t c.n c.coins;have hlf:=uz hi (.d (cZ c.path)) (.d (nb c.script));have hls:=vQ hi (.d (cZ c.path)) (.d (nb c.script)) (.d (nb s));have hls2:=Gn hi (.d (cZ c.path)) (.d (nb c.script)) (.d (nb s));have hlf2:=uz hi (.d (cZ c.path)) (.d (nb s));have htk2:List.take 34 (aP c.inner (.d (cZ c.path)) (.d (nb s)))=aP c.inner (.d (cZ c.path)) (.d (nb s)):=cA aq
 have hdd:∀ v,v ∈ [.agg (eS c.t c.n c.coins),cM c.inner c.path s,.d (.ro 1 (start.map bJ)),.d (nb c.annex),.d (.int .i64 c.bud)]→v.deep:=by
  intro v hv;simp only [et,List.mem_nil_iff,or_false] at hv;rcases hv with rfl | rfl | rfl | rfl | rfl
  ·exact hSd _ aw
  ·exact cO c.inner c.path s _ (List.mem_singleton.2 rfl)
  ·trivial
  ·trivial
  ·trivial
 have zl:(aP z32 .nil .nil).length=34:=rfl;have zd:List.drop 34 (aP z32 .nil .nil)=[]:=rfl;have htk:List.take 43 (bS c)=bS c:=cA aq;unfold cM at h hdd;generalize eS c.t c.n c.coins=S at *;generalize bS c=Q at *;generalize aP c.inner (.d (cZ c.path)) (.d (nb c.script))=L at *;generalize aP c.inner (.d (cZ c.path)) (.d (nb s))=M at *;simp [go_sem,hl,htk,h6,h34,g41,g42,h41,h42,hlf,hls,hls2,hlf2,htk2,zl,zd];refine ag h hdd ?_;unfold mR;simp [go_sem,ah];exact aa a9 rfl
theorem Gp (ws:List Wd) (hw:∀ w,w ∈ ws→sU w) (hl:ws.length≤10000):cC Tryz.prog 51 0 [] [.d (.ro 2 (ws.map uo))]
  (fun r hp'=>((eG [] ws).2=0∧r=.tup [.own 1000 0 (eG [] ws).1.length (eG [] ws).1.length,.d (.int .i64 0)]∧lk 1000 hp'=some ⟨5,1,rb (eG [] ws).1⟩) ∨ ((eG [] ws)=([],1)∧r=.tup [.nil,.d (.int .i64 1)])):=by
 refine al Tryz.func51 (by kernel_rfl) rfl Tryz.ntmps51 (rs:=[.tmp 2,.tmp 3]) rfl (dS rfl) (by decide) ?_;generalize hB:eG [] ws=B;simp only [go_sem,Nat.reduceEqDiff,Nat.reduceAdd,Nat.reduceLT,↓reduceIte,Nat.reduceMul]
 refine ax (fun t:Nat × List Nat=>⟨[(4,.own 1000 0 t.2.length t.2.length),(9,.d (.ro 2 (ws.map uo))),(10,.d (.int .i64 (ws.length:Int))),(11,.d (.int .i64 (t.1:Int)))],[(1000,⟨5,1,rb t.2⟩)],1001⟩)
  (fun t=>t.1≤ws.length∧t.2.length≤60003*t.1∧eG t.2 (ws.drop t.1)=B) (fun t=>ws.length - t.1) (0,[]) ⟨aq,aw,hB⟩ (by
   simp [aA,ai,fv,lk,AV.low,AV.low1,rb]) ?_
 clear hB;rintro ⟨k,out⟩ ⟨hk,ho,hB⟩;simp only at hk ho hB;simp only [go_sem,Nat.reduceEqDiff,Nat.reduceAdd,Nat.reduceLT,↓reduceIte,Nat.reduceMul];refine ⟨fun h=>?_,fun h=>?_⟩
 ·obtain ⟨w,hw1,hd⟩:=bH (l:=ws) (k:=k) aq;obtain ⟨q1,q2⟩:=hw w (cr hw1);rw [hd] at hB;simp only [eG] at hB;have hll:=pv w;have hrow:uo w=[.int .u8 (w.1:Int),nb w.2]:=rfl;simp [go_sem,hw1,hrow];refine ag (H8 w q1 q2) (by intro v hv;simp at hv;subst hv;exact sS w) ?_
  cases hok:(dY w).2 with
  | false =>
   simp [go_sem,ah];rw [hok,if_neg aw] at hB;exact hB.symm
  | true =>
   rw [hok,if_pos rfl] at hB;have w3:=az (k:=k) aq;generalize (dY w).1=L at *;simp [go_sem,nb,cE,aH,jH,w3];refine ⟨aq,?_⟩;refine ap (k+1,out ++ L) ⟨by simp only;omega,by simp only [b_];omega,hB⟩ (by simp only;omega) ?_;simp [aA,ai,fv,lk,AV.low,AV.low1];exact bp _ _
 ·rw [dg aq] at hB;simp only [eG] at hB;simp [go_sem,ah];rw [← hB];exact ⟨rfl,rfl,rfl⟩
theorem Ai:∀ (ws:List Wd) (out:List Nat),(∀ w,w ∈ ws→sU w)→(eG out ws).1.length≤out.length+60003*ws.length
 | [],out,_=>by simp [eG]
 | w :: r,out,h=>by
  have hw:=(h w aw).1;have hl:=pv w;unfold eG
  split
  ·have:=Ai r (out ++ (dY w).1) (fun w hw=>h w (by simp [hw]));simp only [b_,List.length_cons] at this ⊢;omega
  ·exact Nat.zero_le _
theorem EE:∀ (ws:List Wd) (out:List Nat),(eG out ws).2=0 ∨ eG out ws=([],1)
 | [],out=>.inl rfl
 | w :: r,out=>by
  unfold eG
  split
  ·exact EE r _
  ·exact .inr rfl
def ja (ws:List Wd) (rest:List Nat):List Nat × Bool:=((eG [] ws).1 ++ rest,decide ((eG [] ws).2=0∧(eG [] ws).1.length+rest.length≤300))
theorem Aj (ws:List Wd) (rest:List Nat) (hw:∀ w,w ∈ ws→sU w) (hl:ws.length≤10000) (hr:rest.length≤100000):av Tryz.prog 15 [.d (.ro 2 (ws.map uo)),.d (nb rest)] (fun r=>r=.tup [.d (nb (ja ws rest).1),.d (.bool (ja ws rest).2)]):=by
 refine bK Tryz.func15 Tryz.ntmps15 (rs:=[.tmp 4,.tmp 5]) a9 ?_;have hbl:=Ai ws [] hw;have h01:=EE ws [];have hown:=Gp ws hw hl;unfold ja;generalize eG [] ws=B at *;obtain ⟨b,e⟩:=B;simp only [List.length_nil,Nat.zero_add] at *;simp [go_sem];refine jj [] hown rfl (aj (.deep a9) aE) (fun ρ=>by simp [AV.renL,AV.ren]) ?_;rintro r hp' (⟨rfl,rfl,h0⟩ | ⟨hB,rfl⟩)
 ·refine ⟨[(1000,0)],rfl,?_⟩;simp [go_sem,bQ,bI,h0,Blk.ren,aR,dR,AV.renL,AV.ren,bO,aD,nb,cE,aH];have wi:IntKind.i64.wrap ((b.length:Int)+(rest.length:Int))=(b.length:Int)+(rest.length:Int):=IntWalk.i64_in _ aq;rw [wi];refine ⟨aq,?_⟩;rw [jH];have hd:decide ((b.length:Int)+(rest.length:Int)≤300)=decide (b.length+rest.length≤300):=decide_eq_decide.2 aq;rw [hd,← b_,← List.map_append];exact dr (ao (ak (a8 (L:=b ++ rest) rfl rfl trivial)) (ao (aZ trivial) bw)) rfl a9 rfl
 ·cases hB
  refine ⟨[],rfl,?_⟩;simp [go_sem,bQ,bI,Blk.ren,aR,dR,AV.renL,AV.ren,bO,aD,nb,cE,aH];refine ⟨aq,?_⟩;exact dr (ao (ak (a8 (L:=rest) rfl rfl trivial)) (ao (aZ trivial) bw)) rfl a9 rfl
end Go.Proofs.YtmfnimjnneflnaaGreat
namespace Go.Sha
open Go.Proofs.YtmfnimjnneflnaaGreat Go.Am
def tP:Tn:=⟨2,[⟨z32,0,0,[]⟩],[(5,[])],0⟩
def Ak:CsF:=⟨tP,0,[(7,[])],z32,[],[],[],[],0⟩
def WL:List AV:=[.d (.int .u32 0),.nil,.nil,.d (.int .u32 0),.d (.int .i64 0),.nil] ++ (aP z32 .nil .nil ++ [.nil,.nil,.d (.int .i64 0)])
end Go.Sha
namespace Go.Proofs.YtmfnimjnneflnaaGreat
open Go.Am Go.Sha
theorem KD {hp:Hp} {I:Nat→Prop} {c:List AV} {d:List DV} (h2:CellsR hp I c d):∀ b:List DV,CellsR hp I (b.map .d ++ c) (b ++ d)
 | []=>h2
 | y :: r=>.cons (.d y) (KD h2 r)
theorem Wm:eE Tryz.prog 36=some WL:=by kernel_rfl
attribute [go_sem] Wm
theorem KE:av Tryz.prog 50 [.d (.ro 1 [])] (fun r=>r=.d (.int .i64 1)):=by
 refine bK Tryz.func50 Tryz.ntmps50 (rs:=[.tmp 2]) a9 ?_;simp [go_sem];refine bN [] (ta [] [] aw ⟨aw,aw⟩) rfl (aj (.one (ak (.nil 1))) (aj (.deep a9) aE)) ?_;rw [show [] ++ pA []=[0] from rfl];simp [go_sem,aD,nb];exact aa a9 rfl
theorem Cj:av Tryz.prog 49 [] (fun r=>r=.agg (eS tP 0 [(7,[])])):=by
 refine bK Tryz.func49 Tryz.ntmps49 (rs:=[.cell 0 28]) aw ?_;simp [go_sem]
 refine sJ (cs':=eS tP 0 [(7,[])]) (ao (aZ trivial) (ao (ak (il (rows:=[cb z32 ++ [AV.d (DV.int IntKind.u32 0),AV.d (DV.int IntKind.u32 0),AV.nil]]) rfl trivial rfl (RowsR.cons ?_ .nil) rfl (by intro r hr;simp [tP] at hr;subst hr;rfl)))
  (ao (ak (il (rows:=[[AV.d (DV.int IntKind.u64 5),AV.nil]]) rfl trivial rfl (RowsR.cons (.cons (.d _) (.cons (.nil 1) .nil)) .nil) rfl (by intro r hr;simp [tP] at hr;subst hr;rfl)))
  (ao (aZ trivial) (ao (aZ trivial) (ao (ak (il (rows:=[[AV.d (DV.int IntKind.u64 7),AV.nil]]) rfl trivial rfl (RowsR.cons (.cons (.d _) (.cons (.nil 1) .nil)) .nil) rfl (by intro r hr;simp at hr;subst hr;rfl))) bw)))))) rfl (by simp [AV.deep,AV.deep1,eS]) rfl
 exact KD (d:=[.ro 1 []]) (.cons (.nil 1) .nil) (cd z32 ++ [.int .u32 0,.int .u32 0])
theorem qV:CsOk Ak where
 t:=⟨⟨by decide,by decide,fun i hi=>by
  have:i=⟨z32,0,0,[]⟩:=by simpa [Ak,tP] using hi
  subst this
  exact ⟨rfl,by decide,by decide⟩,by decide⟩,by decide,by decide,by decide,fun i hi=>by
  have:i=⟨z32,0,0,[]⟩:=by simpa [Ak,tP] using hi
  subst this
  exact ⟨by decide,by decide⟩⟩
 cc:=⟨by decide,by decide⟩
 cb:=fun o ho=>by
  have:o=(7,[]):=by simpa [Ak] using ho
  subst this;exact ⟨fun x hx=>(by cases hx),by decide⟩
 ob:=fun o ho=>by
  have:o=(5,[]):=by simpa [Ak,tP] using ho
  subst this;exact fun x hx=>(by cases hx)
 i:=rfl
 ib:=fun x hx=>by
  have:x=0:=by simpa [Ak,z32] using hx
  omega
 s:=by decide
 p:=by decide
 pl:=by decide
 a:=by decide
 b:=⟨by decide,by decide⟩
theorem OA:cg Ak.t Ak.n Ak.coins=0:=by decide
theorem Gq {hp:Hp} {I:Nat→Prop}:Snap hp I (.agg (eS tP 0 [(7,[])] ++ (aP z32 .nil .nil ++ [.nil,.nil,.d (.int .i64 0)]))) (.agg (bS Ak)) :=
 .agg ⟨rfl,qw (eS tP 0 [(7,[])]) (fun v hv=>by simp [eS] at hv;rcases hv with rfl | rfl | rfl | rfl | rfl | rfl <;> trivial)
  (qw (cb z32) (b8 _) (ao (ak (.nil 32)) (ao (ak (.nil 1)) (ao (ak (.nil 1)) (ao (ak (.nil 1)) (ao (aZ trivial) bw))))))⟩
theorem yc {s:List Nat} {p:List (Int × Int) × Int} (hs:bytes s) (hl:s.length≤1000) (h:∀ x,pD x s [] 0=p) :
  av Tryz.prog 17 [.agg (bS Ak),.d (nb s),.d (.ro 1 [])] (fun v=>v=mR p):=by
 obtain ⟨sg,hsg⟩:=Pn;obtain ⟨out,hout⟩:=EC Ak.inner Ak.path qV.i qV.ib qV.p qV.pl;obtain ⟨msg,hm⟩:=KC Ak qV hsg hout s hs aq;have h1:=Ah Ak qV.i s [] _ (hm [] ⟨aw,aw,aw,aw⟩)
 have e:uA Ak (xK Ak sg msg out) s []=p:=by
  unfold uA;rw [if_neg (by rw [OA];omega)];exact h _
 rw [e] at h1;exact h1
theorem jW:av Tryz.prog 14 [] (fun r=>r=.d (.bool true)):=by
 refine bK Tryz.func14 Tryz.ntmps14 (rs:=[.tmp 0]) aw ?_;have ra:=yc (s:=[81,99,82,103,83,104,82,156]) (fun x hx=>by simp at hx;omega) (by decide) Wg;have rb:=yc (s:=[81,81]) (fun x hx=>by simp at hx;omega) (by decide) Wh;have rc:=yc (s:=[0,99,255,104,81]) (fun x hx=>by simp at hx;omega) (by decide) Wi;have zl:WL.length=43:=rfl;have z43:List.drop 43 WL=[]:=rfl;simp [go_sem];refine ag Cj aw ?_;have hcs:=fun (hp:Hp) (I:Nat→Prop)=>Gq (hp:=hp) (I:=I);have zd:List.drop 6 WL=aP z32 .nil .nil ++ [.nil,.nil,.d (.int .i64 0)]:=rfl;have sl:(eS tP 0 [(7,[])]).length=6:=rfl;have st:List.take 6 (eS tP 0 [(7,[])])=eS tP 0 [(7,[])]:=rfl;have rl:(aP z32 .nil .nil ++ [AV.nil,AV.nil,AV.d (.int .i64 0)]).length=37:=rfl;generalize aP z32 .nil .nil ++ [AV.nil,AV.nil,AV.d (.int .i64 0)]=R at *;have tl:(eS tP 0 [(7,[])] ++ R).length=43:=by rw [b_,sl,rl]
 generalize eS tP 0 [(7,[])]=S at *;have tt:List.take 43 (S ++ R)=S ++ R:=cA aq;generalize hT:S ++ R=T at *;simp [go_sem,zl,sl,st,zd,rl,hT,tl,tt,z43,aD];refine bN [192] ra rfl (aj (hcs _ _) (aj (.one (ak (a8 (L:=[81,99,82,103,83,104,82,156]) rfl rfl aw))) (aj (.one (ak (.nil 1))) aE))) ?_;unfold mR;simp [go_sem,zl,sl,st,zd,rl,hT,tl,tt,z43,aD];refine bN [448] rb rfl (aj (hcs _ _) (aj (.one (ak (a8 (L:=[81,81]) rfl rfl aw))) (aj (.one (ak (.nil 1))) aE))) ?_;unfold mR;simp [go_sem,zl,sl,st,zd,rl,hT,tl,tt,z43,aD];refine bN [704] rc rfl (aj (hcs _ _) (aj (.one (ak (a8 (L:=[0,99,255,104,81]) rfl rfl aw))) (aj (.one (ak (.nil 1))) aE))) ?_;unfold mR;simp [go_sem];refine bN [] KE rfl (aj (.one (ak (.nil 1))) aE) ?_;simp [go_sem];exact aa a9 rfl
structure CsIn (c:CsF):Prop where
 t:c.t.ok
 cb:∀ o,o ∈ c.coins→bytes o.2∧o.1<18446744073709551616
 ob:∀ o,o ∈ c.t.outs→bytes o.2
 i:c.inner.length=32
 ib:bytes c.inner
 p:∀ p,p ∈ c.path→p.length=32
 sb:bytes c.script
 st:∀ x,x ∈ c.start→bytes x
 b:fO c.bud
theorem Pq {c:CsF} (h:CsIn c) (hs:oO c=true):CsOk c∧c.script.length≤300∧(StOk c.start []∧c.start.length≤12∧∀ x,x ∈ c.start→x.length≤600):=by
 simp only [oO,qH,Bool.and_eq_true,decide_eq_true_eq,dH,d9] at hs;obtain ⟨⟨a1,a2,a3⟩,b1,b2,b3,b4,b5⟩:=hs
 exact ⟨⟨US h.t a1,⟨a2,fun o ho=>⟨(h.cb o ho).2,a3 o ho⟩⟩,h.cb,h.ob,h.i,h.ib,aq,h.p,aq,aq,h.b⟩,b1,
  ⟨aq,aw,fun x hx=>⟨by have:=b5 x hx;omega,h.st x hx⟩,aw⟩,b3,b5⟩
theorem S9 {c:CsF} (h:CsIn c) (hs:oO c=true):∃ (sg:bc→bc→bc→Bool) (out:bc→bc × Int),Ov sg∧EB c.inner c.path out∧∀ s:List Nat,bytes s→s.length≤100000→∃ msg:bc,∀ start:List (List Nat),StOk start [] →
  av Tryz.prog 17 [.agg (bS c),.d (nb s),.d (.ro 1 (start.map bJ))] (fun v=>v=mR (uA c (xK c sg msg out) s start)):=by
 obtain ⟨hk,_⟩:=Pq h hs;obtain ⟨sg,hsg⟩:=Pn;obtain ⟨out,hout⟩:=EC c.inner c.path h.i h.ib h.p hk.pl;refine ⟨sg,out,hsg,hout,fun s hb hl=>?_⟩;obtain ⟨msg,hm⟩:=KC c hk hsg hout s hb hl;exact ⟨msg,fun start hst=>Ah c h.i s start _ (hm start hst)⟩
theorem uf:∀ (ws:List Wd) (out:List Nat),bytes out→(∀ w,w ∈ ws→sU w∧bytes w.2)→bytes (eG out ws).1
 | [],out,h,_=>h
 | w :: r,out,h,hw=>by
  unfold eG
  split
  ·refine uf r _ ?_ (fun w hw'=>hw w (by simp [hw']));intro y hy;rcases cL.1 hy with hy | hy
   ·exact h y hy
   ·exact sV (hw w aw).1.2 (hw w aw).2 y hy
  ·intro y hy
   cases hy
theorem Cm {t:List Nat} (h:bytes t):bytes (bR t).2:=by
 unfold bR
 split
 ·split
  ·intro y hy;cases hy
  ·split
   ·intro y hy;cases hy
   ·exact h
 ·exact h
theorem An {ws:List Wd} {rest:List Nat} (hr:bytes rest) (hw:∀ w,w ∈ ws→sU w∧bytes w.2):bytes (ja ws rest).1:=by
 intro y hy;rcases cL.1 hy with hy | hy
 ·exact uf ws [] (fun y hy=>by cases hy) hw y hy
 ·exact hr y hy
theorem Wp (c:CsF) (t:List Nat):∀ v,v ∈ [AV.agg (bS c),.d (nb t)]→v.deep:=by
 intro v hv;simp only [et,List.mem_nil_iff,or_false] at hv;rcases hv with rfl | rfl
 ·exact nH c _ aw
 ·trivial
theorem KF (c:CsF) (t:List Nat) (h:CsIn c) (htb:bytes t):av Tryz.prog 3 [.agg (bS c),.d (nb t)] (fun r=>r=.d (.bool true)):=by
 refine bK Tryz.func3 Tryz.ntmps3 (rs:=[.tmp 4]) (Wp c t) ?_;have hi:=h.i;have hl:=uc hi;have htk:List.take 43 (bS c)=bS c:=cA aq;have hSm:=Gi c h.t hi;have hSd:=nH c
 cases hs:oO c with
 | false =>
  rw [hs] at hSm;generalize bS c=Q at *;simp [go_sem,hl,htk];refine ag hSm hSd ?_;simp [go_sem];refine ag jW aw ?_;simp [go_sem,ah];exact aa a9 rfl
 | true =>
 rw [hs] at hSm;by_cases ct:t.length≤300
 case neg =>
  have i1:(300:Int)<(t.length:Int):=aq;generalize bS c=Q at *;simp [go_sem,hl,htk];refine ag hSm hSd ?_;simp [go_sem,nb,i1];refine ag jW aw ?_;simp [go_sem,ah];exact aa a9 rfl
 have i1:¬ (300:Int)<(t.length:Int):=aq;obtain ⟨hk,hsl,hst,_⟩:=Pq h hs;obtain ⟨sg,out,hsg,hout,hrun⟩:=S9 h hs
 have hws:∀ w,w ∈ [bR t,(179,[])]→sU w∧bytes w.2:=by
  intro w hw;simp only [et,List.mem_nil_iff,or_false] at hw;rcases hw with rfl | rfl
  ·exact ⟨px aq htb,Cm htb⟩
  ·exact ⟨⟨Nat.zero_le _,by show 179<256;omega⟩,fun y hy=>(by cases hy)⟩
 have hscr:=Aj [bR t,(179,[])] c.script (fun w hw=>(hws w hw).1) aw aq;have hfb:=An h.sb hws
 have hfl:(ja [bR t,(179,[])] c.script).1.length≤100000 ∨ (ja [bR t,(179,[])] c.script).2=false:=by
  cases hf:(ja [bR t,(179,[])] c.script).2 with
  | false=>exact .inr rfl
  | true =>
   simp only [ja,decide_eq_true_eq] at hf;left;show ((eG [] [bR t,(179,[])]).1 ++ c.script).length≤_;rw [b_];omega
 have hpu:=wP t aq htb;have hend:=fun (x:Rx) (hh:(ja [bR t,(179,[])] c.script).2=true) (q:(pD x (ja [bR t,(179,[])] c.script).1 c.start c.bud).2=0)=>Gm (x:=x) ct (by simp only [ja,decide_eq_true_eq] at hh;exact hh.1) q;generalize hF:ja [bR t,(179,[])] c.script=F at *;obtain ⟨s,ok⟩:=F;simp only at hend hfb hfl;have h6:=yb (c:=c);have h4:List.take 4 (bS c)=eT c.t:=rfl;have h4n:(bS c)[4]?=some (.d (.int .i64 c.n)):=rfl;have h34:=Ae hi;have h39:=ED hi;have h40:(bS c)[40]?=some (.d (.ro 1 (c.start.map bJ))):=mQ hi 0;have g39:∀ h:39<(bS c).length,(bS c)[39]'h=AV.d (nb c.script):=fun h=>(List.getElem_of_getElem? h39).2;have g40:∀ h:40<(bS c).length,(bS c)[40]'h=AV.d (.ro 1 (c.start.map bJ)):=fun h=>(List.getElem_of_getElem? h40).2;have hkd:=fun s start=>Po c s start;generalize hQ:bS c=Q at *;generalize bR t=w at *;simp [go_sem,hl,htk];refine ag hSm hSd ?_;simp [go_sem,nb,i1];refine b7 [0,2,4,5,6] [(1,[]),(3,[]),(7,[8,9,10,11,12])] 3 (k:=13) ?_;intro G hG;simp [go_sem,hl,htk,h39,g39];refine ag hpu a9 ?_;have wl:(sR w).length=2:=rfl;have wt:List.take 2 (sR w)=sR w:=rfl;simp [go_sem,hl,htk,h39,g39,wl,wt];refine bN [416] hscr rfl (aj (.one (ak (il (rows:=[sR w,[AV.d (DV.int IntKind.u8 179),AV.nil]]) rfl aw rfl (RowsR.cons (.cons (.d _) (.cons (.d _) .nil)) (RowsR.cons (.cons (.d _) (.cons (.nil 1) .nil)) .nil)) rfl (by intro r hr;simp at hr;rcases hr with rfl | rfl <;> rfl)))) (aj (.deep trivial) aE)) ?_;simp [go_sem,aD];refine hG _ _ ?_;clear hG G
 cases ok with
 | false =>
  simp [go_sem];refine ag jW aw ?_;simp [go_sem,ah];exact aa a9 rfl
 | true =>
 have hsl2:s.length≤100000:=by rcases hfl with q | q;exact q;cases q
 obtain ⟨msg,hR⟩:=hrun s hfb hsl2;have hR:=hR c.start hst;have hdR:=hkd s c.start;have hend:=hend (xK c sg msg out) rfl
 have hpe:(uA c (xK c sg msg out) s c.start).2=0→cg c.t c.n c.coins=0∧t=Cf c.t c.n.toNat:=by
  intro q;unfold uA at q
  split at q
  ·cases q
  ·rename_i hq;simp only [not_or,ne_eq,Classical.not_not] at hq;exact ⟨hq.1,hend q⟩
 generalize uA c (xK c sg msg out) s c.start=p at *;obtain ⟨cl,e⟩:=p;simp only at hpe;unfold mR at hR;simp only at hR;simp [go_sem,hl,htk,h40,g40];refine ag hR hdR ?_;by_cases he:e=0
 case neg =>
  simp [go_sem,he];refine ag jW aw ?_;simp [go_sem,ah];exact aa a9 rfl
 subst he;obtain ⟨hc0,ht⟩:=hpe rfl
 have hcx:ou c.t=0∧c.coins.length=c.t.ins.length∧0≤c.n∧c.n<(c.coins.length:Int):=by
  unfold cg at hc0
  split at hc0
  ·cases hc0
  ·rename_i hq;simp only [not_or,Int.not_lt,Int.not_le,ne_eq,Classical.not_not] at hq;exact ⟨hq.1,hq.2.1,hq.2.2.1,hq.2.2.2.1⟩
 obtain ⟨n,hn⟩:∃ n:Nat,c.n=(n:Int):=⟨c.n.toNat,aq⟩;have hT:=Kv c.t n hk.t hcx.1 (by have:=hcx.2.1;have:=hcx.2.2.2;omega);have hTd:∀ v,v ∈ [AV.agg (eT c.t),.d (.int .i64 (n:Int))]→v.deep:=by simp [AV.deep,AV.deep1,eT]
 have hTl:(Cf c.t n).length=32:=aS _;have hTb:bytes (Cf c.t n):=fW _;rw [hn,show ((n:Int)).toNat=n from Int.toNat_natCast n] at ht;rw [hn] at h4n;rw [← ht] at hT hTl hTb;have g4n:∀ h:4<Q.length,Q[4]'h=AV.d (.int .i64 (n:Int)):=fun h=>(List.getElem_of_getElem? h4n).2;clear hrun hend hR hdR hpe hscr hpu hF hws;simp [go_sem,hl,h4,h4n,g4n];refine ag hT hTd ?_;simp [go_sem,am,hTl,ar hTl,ca];refine b7 [] [(0,[1,2,3,4,5,6,7,8,9,10,11,12])] 1 (k:=13) ?_;intro G hG;have hx1:=fH hTl;rw [cE] at hx1;simp [go_sem] at hx1;simp [go_sem,hTl,hx1];refine ag jW aw ?_;simp [go_sem,hTl,hx1];refine QP t 5 hTb (by simp [go_sem]) (by simp [go_sem]) Tryz.underlying5 ?_;simp [go_sem,nb];refine wR t 5 hTb (by simp [go_sem]) (by simp [go_sem]) Tryz.underlying5 ?_;simp [go_sem];refine hG _ _ ?_;clear hG G;simp [go_sem,ah];exact aa a9 rfl
theorem KG {n:Nat} {ds:List DV} (h:hJ Tryz.prog (n+4) 33 ds):∃ (inner:List Nat) (ps:List (List Nat)) (x:List Nat),ds=cd inner ++ [cZ ps,nb x]∧inner.length=32∧bytes inner∧(∀ p,p ∈ ps→p.length=32)∧bytes x:=by
 rw [hJ] at h;simp only [Tryz.underlying33,List.map_cons,List.map_nil] at h;obtain ⟨a,b,rfl,ha,ha2,a',b',rfl,hb,hb2,a3,b3,rfl,hc,hc2,rfl⟩:=h;obtain ⟨inner,rfl,h1,h2⟩:=A9 ha2;rw [show Tryz.prog.cellsOf 30=1 by kernel_rfl] at hb;rw [show Tryz.prog.cellsOf 31=1 by kernel_rfl] at hc
 match a',hb,hb2,a3,hc,hc2 with
 | [y],_,hb2,[z],_,hc2 =>
  obtain ⟨ps,rfl,h3⟩:=MI hb2;obtain ⟨x,rfl,h4,h5⟩:=mq hc2;exact ⟨inner,ps,x,aw,h1,h2,fun p hp=>(h3 p hp).1,h5⟩
theorem EF {n:Nat} {ds:List DV} (h:hJ Tryz.prog (n+1) 3 ds):∃ x:Int,ds=[.int .i64 x]∧-9223372036854775808≤x∧x<9223372036854775808:=by
 rw [hJ] at h;simp only [Tryz.underlying3] at h;obtain ⟨x,rfl,hx⟩:=h;have hx':-9223372036854775808≤x∧x<9223372036854775808:=by simp [IntKind.has,IntKind.min,IntKind.max,IntKind.signed,IntKind.bits] at hx;omega
 exact ⟨x,rfl,hx'⟩
theorem Ta {n:Nat} {ds:List DV} (h:hJ Tryz.prog (n+7) 28 ds):∃ (t:Tn) (m:Int) (coins:List (Nat × List Nat)),ds.map .d=eS t m coins∧t.ok∧(∀ o,o ∈ t.outs→bytes o.2)∧∀ o,o ∈ coins→o.1<18446744073709551616∧bytes o.2:=by
 rw [hJ] at h;simp only [Tryz.underlying28,List.map_cons,List.map_nil] at h;obtain ⟨a,b,rfl,ha,ha2,a',b',rfl,hb,hb2,a3,b3,rfl,hc,hc2,rfl⟩:=h;obtain ⟨t,h1,h2,h3,_⟩:=UW ha2;obtain ⟨m,rfl,_⟩:=EF hb2;obtain ⟨os,rfl,hos⟩:=Dn hc2;refine ⟨t,m,os,?_,h2,h3,hos⟩;rw [List.map_append,h1];rfl
theorem KH {n:Nat} {a:AV} (h:qZ Tryz.prog (n+8) 36 a):∃ c:CsF,a=.agg (bS c)∧CsIn c:=by
 unfold qZ at h;simp only [Tryz.underlying36] at h;obtain ⟨ds,rfl,h⟩:=h;rw [hJ] at h;simp only [Tryz.underlying36,List.map_cons,List.map_nil] at h;obtain ⟨a,b,rfl,ha,ha2,a',b',rfl,hb,hb2,a3,b3,rfl,hc,hc2,a4,b4,rfl,hd,hd2,a5,b5,rfl,he,he2,rfl⟩:=h;obtain ⟨t,m,coins,hS,h2,h3,h4⟩:=Ta ha2;obtain ⟨inner,ps,x,rfl,k1,k2,k3,k4⟩:=KG hb2;rw [show Tryz.prog.cellsOf 34=1 by kernel_rfl] at hc;rw [show Tryz.prog.cellsOf 31=1 by kernel_rfl] at hd;obtain ⟨bud,rfl,b1⟩:=EF he2
 match a3,hc,hc2,a4,hd,hd2 with
 | [y],_,hc2,[z],_,hd2 =>
  obtain ⟨start,rfl,h5⟩:=vg hc2;obtain ⟨annex,rfl,_,h6⟩:=mq hd2;refine ⟨⟨t,m,coins,inner,ps,x,start,annex,bud⟩,?_,⟨h2,fun o ho=>⟨(h4 o ho).2,(h4 o ho).1⟩,h3,k1,k2,k3,k4,h5,b1⟩⟩;rw [List.map_append,hS];simp [bS,pU,aP,kX]
theorem OB {n:Nat} {a:AV} (h:qZ Tryz.prog (n+2) 31 a):∃ x:List Nat,a=.d (nb x)∧bytes x:=by
 obtain ⟨d,rfl,t⟩:=ML Tryz.underlying31 aw aw h;obtain ⟨x,rfl,_,h2⟩:=mq t;exact ⟨x,rfl,h2⟩
theorem Gs (l:List AV) (h:wK Tryz.prog 9 [36,31] l):av Tryz.prog 3 l (fun r=>r=.d (.bool true)):=by
 obtain ⟨a0,r0,rfl,h0,a1,r1,rfl,h1,rfl⟩:=h;obtain ⟨c,rfl,q1⟩:=KH h0;obtain ⟨t,rfl,q2⟩:=OB h1;exact KF c t q1 q2
end Go.Proofs.YtmfnimjnneflnaaGreat
