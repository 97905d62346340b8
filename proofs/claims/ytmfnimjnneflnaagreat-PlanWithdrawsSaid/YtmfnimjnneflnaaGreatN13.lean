/-
 Part 14.
-/
import Derived.Test.YtmfnimjnneflnaaGreatN12
set_option linter.unusedVariables false
set_option linter.unusedSimpArgs false
set_option maxRecDepth 100000
set_option maxHeartbeats 16000000
open Go.Proofs.Tryz
namespace Go.Proofs.YtmfnimjnneflnaaGreat
structure CsF where
 t:Tn
 n:Int
 coins:List (Nat×List Nat)
 inner:List Nat
 path:List (List Nat)
 script:List Nat
 start:List (List Nat)
 annex:List Nat
 bud:Int
theorem ZQ{inner:List Nat}(hi:inner.length=32)(a b:AV):(au inner a b).length=34:=by simp[au,aj,hi]
theorem yO(c:Nat)(r:List Nat):jK (c::r)=if 0<c∧c≤75 then some (c,1)else if c=76 then(match r with|a::_=>some (a,2) | []=>none)else if c=77 then(match r with|a::b::_=>some (a+256*b,3)|_=>none)else some (0,1):=rfl
theorem LV{t:List Nat}(h:t.length≤65535):ga (c6 t)=some t:=by
 have g:∀x:List Nat,x.length≤65535→ga (ij x)=some x:=fun x i=>by
  unfold ga ij;rw[if_pos];simp only;split;omega;split<;>omega
 match t with
 |[]=>rfl
 | [c] =>
  rw[show c6 [c]=if 1≤c∧c≤16 then(80+c,[])else if c=129 then(79,[])else ij [c]from rfl]
  split
  ·rename_i hc;have f:¬ 80+c≤77:=aq;have d:¬ 80+c=79:=aq;have e:80<80+c∧80+c≤96:=aq;show(if 80+c≤77 then some []else if 80+c=79 then some [129]else if 80<80+c∧80+c≤96 then some [80+c-80]else none)=_;rw[if_neg f,if_neg d,if_pos e,Nat.add_sub_cancel_left]
  ·split;rename_i hc;subst hc;rfl;exact g [c] aw
 |a::b::r=>exact g _ h
theorem VA{t:List Nat}:(c6 t).1≤96:=by
 have g:∀x:List Nat,(ij x).1≤96:=fun x=>by
  unfold ij;simp only;split;omega;split<;>omega
 unfold c6;split;split;simp only;omega;split;simp only;omega;exact g _;exact g _
theorem AO{t:List Nat}(x:Rx)(r:Rn)(h:t.length≤65535)(hi:jq r=0):oh x (c6 t) r=eQ t r:=by
 have a:=LV h;have d:=VA (t:=t);have c:vu (c6 t)=true:=by unfold vu;rw[a];simp
 have b:px (c6 t).1 r=none:=by
  unfold px;rw[if_neg aq,if_neg aq,if_neg aq]
 unfold oh;rw[a,b,if_neg aw,c];simp[hi]
theorem Dh{a:Nat}(x:Rx)(r:Rn)(h:oO a=true)(d:104<a)(hi:jq r=0):oh x (a,[]) r=yl x a r:=by
 have c:ga (a,[])=none:=by
  unfold ga;rw[if_neg (by simp only;omega),if_neg (by simp only;omega),if_neg (by simp only;omega)]
 have b:px a r=none:=by
  unfold px;rw[if_neg aq,if_neg aq,if_neg aq]
 unfold oh;rw[c];simp only[b,h];simp[hi]
theorem Q0{s rest:List Nat}{a:Nat}{w:Wd}(r:w.2.length≤65535)(c:(ef w).2=true)(d:s.drop a=(ef w).1++rest):pv s a=some (w,a+(ef w).1.length):=by
 obtain⟨f,b⟩:=w;have i:∀(n h:Nat)(pre:List Nat),jK (s.drop a)=some (n,h)→s.drop a=pre++(b++rest)→pre.length=h→b.length=n→(s.drop a).headD 0=f→pv s a=some ((f,b),a+h+n):=by
  intro n h pre p l m o q;unfold pv;rw[p];simp only;rw[if_neg (by rw[l];simp only[b_];omega),q];have:((s.drop a).drop h).take n=b:=by
   rw[l,←m,List.drop_left,←o,List.take_left]
  rw[this]
 unfold ef at c d⊢;by_cases g:0<f∧f≤75;rw[if_pos g]at c d⊢;simp only[decide_eq_true_eq]at c;have e:s.drop a=f::(b++rest):=d;have:=i f 1 [f] (by rw[e,yO,if_pos g]) e rfl c (by rw[e];rfl);rw[this];simp only[List.length_cons];congr 2;omega;rw [if_neg g] at c d ⊢;by_cases c2:f=76;subst c2;rw[if_pos rfl]at c d⊢;simp only[decide_eq_true_eq]at c;have j:t8 b.length=b.length:=V5 aq;have e:s.drop a=[76,b.length]++(b++rest):=by rw[d];simp[j]
 have:=i b.length 2 [76,b.length] (by rw[e];rfl) e rfl rfl (by rw[e];rfl);rw[this];simp only[List.length_cons];congr 2;omega;rw[if_neg c2]at c d⊢;by_cases c3:f=77;subst c3;rw[if_pos rfl]at c d⊢;simp only[decide_eq_true_eq]at c;have e:s.drop a=[77,t8 b.length,t8 (fe 8 b.length)]++(b++rest):=by rw[d];simp
 have j:t8 b.length+256*t8 (fe 8 b.length)=b.length:=by
  unfold t8 fe;simp only[Nat.reducePow];omega
 have:=i b.length 3 [77,t8 b.length,t8 (fe 8 b.length)] (by rw[e];show some (t8 b.length+256*t8 (fe 8 b.length),3)=_;rw[j]) e rfl rfl (by rw[e];rfl);rw[this];simp only[List.length_cons];congr 2;omega;rw[if_neg c3]at c d⊢;simp only[decide_eq_true_eq]at c;have k:b=[]:=List.eq_nil_of_length_eq_zero c;subst k;have e:s.drop a=[f]++([]++rest):=by rw[d];simp
 have:=i 0 1 [f] (by rw[e,List.cons_append,yO,if_neg g,if_neg c2,if_neg c3]) e rfl rfl (by rw[e];rfl);rw[this];rfl
def xK(c:CsF)(sg:bm→bm→bm→Bool)(msg:bm)(out:bm→bm×Int):Rx :=
 ⟨bc,fl,sg,msg,(c.t.lock:Int),(c.t.ver:Int),(((c.t.ins[c.n.toNat]?.map Ip.seq).getD 0:Nat):Int),oC c.t c.n.toNat,zn c.t c.n c.coins,fun s d a b=>yN c.t c.n c.coins d a b (out s).1 (out s).2⟩
def Ia(c:CsF)(x:Rx)(s:List Nat)(a:List (List Nat)):List (Int×Int)×Int:=if bI c.t c.n c.coins≠0∨1000<s.length then([],1)else zo x s a c.bud
def WM(p:List (Int×Int)×Int):AV:=.tup [.d (.ro 2 (p.1.map fi)),.d (.int .i64 p.2)]
structure CsOk(c:CsF):Prop where
 t:Sm c.t
 cc:WL c.coins
 cb:∀o,o∈c.coins→bytes o.2∧o.1<18446744073709551616
 ob:∀o,o∈c.t.outs→bytes o.2
 i:c.inner.length=32
 ib:bytes c.inner
 s:c.script.length≤1000
 p:∀p,p∈c.path→p.length=32
 pl:c.path.length≤1000
 a:c.annex.length≤1000
 b:i7 c.bud
theorem ZR(t:Tn)(n:Int)(coins:List (Nat×List Nat))(inner:List Nat)(a:List (List Nat))(s e:List Nat)(c:List bm)(bud:Int)(k:Sm t)(hc:coins.length≤1000)(hi:inner.length=32)(h:bI t n coins=1) :
  fm prog 53 [.agg (eS t n coins),cE inner a s,.d (.ro 1 (c.map bX)),.d (nb e),.d (.int .i64 bud)] (.tup [.d (.ro 2 []),.d (.int .i64 1)]):=by
 have b:=nt t n coins k hc;have f:(au inner (AV.d (cz a)) (AV.d (nb s))).length=34:=ZQ hi _ _;have j:List.take 34 (au inner (AV.d (cz a)) (AV.d (nb s)))=au inner (AV.d (cz a)) (AV.d (nb s)):=cx (by rw[f];omega);have g:∀v,v∈[AV.agg (eS t n coins)]→v.deep:=tK t n coins;rw[h]at b;simp only[eS]at b g;refine bL func53 ntmps53 (rs:=[.tmp 10,.tmp 11]) (by
  intro v i;simp at i;rcases i with rfl|rfl|rfl|rfl|rfl;simp[AV.deep,AV.deep1,eS];exact cY inner a s _ (List.mem_singleton.2 rfl);trivial;trivial
  trivial) ?_
 simp[go_sem,cE,eS,f];refine ag b g ?_;simp[go_sem,ah];exact eC (cs':=[.d (.ro 2 []),.d (.int .i64 1)]) (ax (am (.nil 2)) (ax (aM trivial) ca)) rfl a9 rfl
theorem ZS(c:CsF)(g:CsOk c){sg:bm→bm→bm→Bool}{out:bm→bm×Int}(m:ZO sg)(l:QZ c.inner c.path out)(s:List Nat)(u:bytes s)(q:s.length≤100000):∃msg:bm,∀f:List (List Nat),StOk f [] →
  fm prog 53 [.agg (eS c.t c.n c.coins),cE c.inner c.path s,.d (.ro 1 (f.map bX)),.d (nb c.annex),.d (.int .i64 c.bud)] (WM (Ia c (xK c sg msg out) s f)):=by
 by_cases x:0≤c.n;obtain⟨n,j⟩:∃n:Nat,c.n=(n:Int):=⟨c.n.toNat,aq⟩;obtain⟨msg,w⟩:=ZP ⟨c.t,n,c.coins,c.inner,c.path,s,c.annex⟩ ⟨g.t,g.cc,g.cb,g.ob,g.i,g.ib,q,g.p,g.pl,g.a⟩ m l;refine⟨msg,fun f k=>?_⟩;have o:=ZE ⟨c.t,n,c.coins,c.inner,c.path,s,c.annex⟩ (xK c sg msg out) f c.bud g.t (by have:=g.cc.1;show c.coins.length≤1000;omega) g.i u k g.b (fun hc _=>by
  have:=w hc (xK c sg msg out) (by unfold xK;rw[j];rfl)
  exact this) (fun s z y A=>AN _ _ _ _ _ _ _ _)
 have e:LM ⟨c.t,n,c.coins,c.inner,c.path,s,c.annex⟩ (xK c sg msg out) f c.bud=WM (Ia c (xK c sg msg out) s f):=by
  unfold LM Ia;rw[j];simp only;split;rfl;rfl
 rw[e,←j]at o;exact o;have hc:bI c.t c.n c.coins=1:=by
  rcases uM c.t c.n c.coins with h|h;exfalso;unfold bI at h;split at h;cases h;rename_i r;simp only[not_or,Int.not_lt,Int.not_le]at r;omega;exact h
 refine⟨[],fun f k=>?_⟩;have:=ZR c.t c.n c.coins c.inner c.path s c.annex f c.bud g.t (by have:=g.cc.1;omega) g.i hc;have e:Ia c (xK c sg [] out) s f=([],1):=if_pos (.inl (by rw[hc];omega));rw[e];exact this
def df(t:List Nat)(d:Int):List Wd:=c6 t::fU d
theorem Q1(t:List Nat)(d:Int)(g:t.length=32):rp [t] (bw (fU d))=(bw (df t d),0):=by
 have h:=np d;have e:=En [t] [] (by intro x b;simp at b;subst b;omega);have c:bw (BE [t])++bw (fU d)=bw (df t d):=by simp[bw,BE,df]
 have f:(bw (BE [t])).length≤35:=by
  have:=lr (BE [t]) 32 (by
   intro w a;simp[BE]at a;subst a;have:=gk t
   omega)
  simpa[BE]using this
 unfold rp;rw[e];simp only[List.nil_append];rw[if_neg (by simp only[b_];omega),c]
theorem jO(inner b:List Nat)(d:Int)(a t:List Nat):∀v,v∈[AV.agg (cg inner b d a),.agg (cb t)]→v.deep:=by
 intro v c;simp at c;rcases c with rfl|rfl;exact xX _ _ _ _;exact bp _
theorem AP(inner b:List Nat)(d:Int)(a:List Nat)(n:Nat):∀c,c∈cg inner b d a→AV.l n c:=by
 rw[←uz];intro c hc;obtain⟨x,_,rfl⟩:=List.mem_map.1 hc;trivial
theorem zu(inner f:List Nat)(d:Int)(a t:List Nat)(hi:inner.length=32)(o:a.length=32)(g:t.length=32)(m:bytes t)(B:-9223372036854775808≤d)(z:d<9223372036854775808) :
  fm prog 74 [.agg (cg inner f d a),.agg (cb t)] (.tup [.d (nb (bw (df t d))),.d (.int .i64 0)]):=by
 refine qd func74 (by kernel_rfl) rfl ntmps74 (rs:=[.tmp 4,.tmp 5]) rfl (dN rfl) (jO _ _ _ _ _) ?_;have s:=ep hi o f d;refine dh (aN ?_);simp[go_sem,s,aj,g];simp only[jP];refine uo (st':=⟨[(2,.ptr 0 0 0 1),(3,.rop (cd t))],[(0,⟨76,66,[cg inner f d a]⟩)],9000⟩) (xk [32] [(3,.rop (cd t))] ?_ ?_) ?_
 intro p j;simp only[d_,List.mem_nil_iff,or_false]at j;subst j;exact .ptr aw rfl rfl rfl (by rw[List.drop_zero,←dc];exact lp _);simp[aA,ai,fv,lk,aC,AV.low,AV.l];exact AP _ _ _ _ _;refine aN ?_;simp[go_sem]
 have q:List.map (fun c=>[c]) (List.take 32 (cd t))=t.map fun(b:Nat)=>[DV.int .u8 (b:Int)]:=by
  rw[cx (by simp[b7,g])];simp[cd]
 have D:=EE inner f d a hi o B z;have u:=xI [t] (bw (fU d)) aw (by intro x v;simp at v;subst v;exact⟨aq,m⟩) (by have:=np d;omega);rw[Q1 t d g]at u;generalize bw (fU d)=W at *;generalize bw (df t d)=Y at *;refine dI [0,2] [1,3,4] [0,2,5,6,7,8] (.alt (bt 1 (bt 3 (.step 4 [5,6,7,8] true .done))) (bt 3 (bt 1 (.step 4 [5,6,7,8] true .done)))) ⟨[(4,.d (nb Y)),(5,.d (.int .i64 0))],[],20000⟩ (k:=9) ?h3 ?hq
 case h3 =>
  intro G C;have A:∀(l:Fr)(j:Hp),(fv 4 l=.d (nb Y)∧fv 5 l=.d (.int .i64 0))→G l j:=by
   rintro l j⟨E,y⟩;refine C _ _ (b8 ⟨?_,aw,aw⟩);simp[ai,AV.low,AV.l,E,y]
  have w:∀j,lk 9032 j=some ⟨31,1,[[.d (nb t)]]⟩→fP j (fun i=>i∈[9032]) (.own 9032 0 1 1) (.d (.ro 1 ([t].map bX))):=fun j h=>am (eB (ty:=31) (e:=1) (es:=[t].map bX) (by simp[h,bX,nb]) aw rfl (by simp[bX]));simp[go_sem,b7,g,q,s,bF hi o];refine⟨?_,?_⟩
  all_goals
   refine ag D (dC _ _ _ _) ?_;simp[go_sem];refine bJ [9032] u rfl (ak (.one (w _ (by simp[lk,nb]))) (ak (.deep a9) aF)) ?_;simp[go_sem,aC];refine A _ _ ?_;simp[fv,lk]
 case hq =>
  simp[go_sem,ah];exact aa a9 rfl
theorem tN(inner:List Nat)(xs:List (List Nat))(E:Lf→Int):fJ inner xs E=.tup [.nil,.d (.int .i64 1)]∨∃es,fJ inner xs E=.tup [.d (.ro 34 es),.d (.int .i64 0)]:=by
 unfold fJ;split;exact .inl rfl;exact .inr ⟨_,rfl⟩
def qG(inner b:List Nat)(d:Int)(a:List Nat)(E:Lf→Int):AV :=
 if 0≤d∧d≤65535∧b.length≤1000 then fJ inner [bw (ie b),bw (je a d)] E else .tup [.nil,.d (.int .i64 1)]
theorem pF(a:List Nat):(bw (ie a)).length≤70:=by
 have c:=o9 a;have:=lr (ie a) 32 (by
  intro w b;simp[ie]at b;rcases b with rfl|rfl;have:=gk (qM a);omega
  simp)
 simpa[ie]using this
theorem qH{t:List Nat}(d:Int)(b:t.length=32):(bw (df t d)).length≤175:=by
 have c:=iH d;have:=lr (df t d) 32 (by
  intro w a;simp[df,fU]at a;rcases a with rfl|rfl|rfl|rfl|rfl;have:=gk t;omega;have:=gk (dk d);omega
  all_goals simp)
 simpa[df,fU]using this
theorem uR{a:List Nat}(d:Int)(c:a.length=32):(bw (je a d)).length≤255:=by
 have e:=np d;have:=lr (je a d) 48 (by
  intro w b;simp[je]at b;rcases b with rfl|rfl|rfl|rfl|rfl;have:=gk a;omega;simp;have:=gk (bw (fU d));omega
  all_goals simp)
 simpa[je]using this
theorem rU(inner b:List Nat)(d:Int)(a:List Nat)(hi:inner.length=32)(c:a.length=32)(s:bytes a)(u:-9223372036854775808≤d)(t:d<9223372036854775808)(O:Lf→List Nat)(E:Lf→Int)
  (f:∀l,l∈nn (bS [bw (ie b),bw (je a d)]) [bw (ie b),bw (je a d)]→fm prog 46 [.agg (au inner (.d (cz l.1)) (.d (nb l.2)))] (.tup [.d (nb (O l)),.d (.int .i64 (E l))])) :
  fm prog 30 [.agg (cg inner b d a)] (qG inner b d a E):=by
 refine bL func30 ntmps30 (rs:=[.tmp 2,.tmp 3]) (dC _ _ _ _) ?_;have m:=ep hi c b d;unfold qG;simp[go_sem,m,bF hi c];refine ag (Yh inner b d a hi c) (dC _ _ _ _) ?_;by_cases g:0≤d∧d≤65535∧b.length≤1000
 ·rw[if_pos g];have j:=EB inner [bw (ie b),bw (je a d)] hi (by
   intro x o;simp at o;rcases o with rfl|rfl;have:=pF b;omega
   have:=uR d c;omega) eo O E f
  have q:=sX inner b d a hi c aq;have p:=EG inner b d a hi c s u t;simp only[decide_eq_true g];generalize bw (ie b)=x at *;generalize bw (je a d)=y at *;have i:=tN inner [x,y] E;generalize fJ inner [x,y] E=PV at *;simp[go_sem];refine cK [0,1,2,4] [(3,[]),(5,[]),(6,[]),(7,[8,9,10,11])] 4 (k:=12) ?_;intro G h;simp[go_sem,m,bF hi c,ED hi];refine ag q (dC _ _ _ _) ?_;simp[go_sem];refine ag p (dC _ _ _ _) ?_;simp[go_sem];refine bJ [384] j rfl (ak (.deep (bp _)) (ak (.one (am (eB (ty:=31) (e:=1) (es:=[x,y].map nU) (by simp[lk,nU,nb]) aw rfl (by simp[nU])))) aF)) ?_;rcases i with rfl|⟨es,rfl⟩
  ·simp[go_sem,aC];refine h _ _ ?_;clear h G;simp[go_sem,ah];exact aa a9 rfl
  ·simp[go_sem,aC];refine h _ _ ?_;clear h G;simp[go_sem,ah];exact aa a9 rfl
 ·rw[if_neg g];simp only[decide_eq_false g];simp[go_sem,ah];exact aa a9 rfl
def okV(v:AV):Bool:=match v with
 | .tup [.d _,_]=>true
 |_=>false
def erV(v:AV):AV:=match v with
 | .tup [_,e]=>e
 |_=>v
theorem LW(inner b:List Nat)(d:Int)(a:List Nat)(hi:inner.length=32)(c:a.length=32)(V:AV)(f:V=.tup [.nil,.d (.int .i64 1)]∨∃es,V=.tup [.d (.ro 34 es),.d (.int .i64 0)])
  (hp:fm prog 30 [.agg (cg inner b d a)] V) :
  fm prog 73 [.agg (cg inner b d a)] (erV V):=by
 refine bL func73 ntmps73 (rs:=[.tmp 2]) (dC _ _ _ _) ?_;have e:=ep hi c b d;rcases f with rfl|⟨es,rfl⟩
 ·simp[go_sem,e,bF hi c];refine ag hp (dC _ _ _ _) ?_;simp[go_sem,ah];exact aa a9 rfl
 ·simp[go_sem,e,bF hi c];refine ag hp (dC _ _ _ _) ?_;simp[go_sem,ah];exact aa a9 rfl
theorem vD(inner a:List Nat)(d:Int)(b t:List Nat)(hi:inner.length=32)(f:b.length=32)(c:t.length=32)(m:bytes t)(A:-9223372036854775808≤d)(z:d<9223372036854775808)(V:AV)(s:V=.tup [.nil,.d (.int .i64 1)]∨a.length≤1000∧∃es,V=.tup [.d (.ro 34 es),.d (.int .i64 0)])
  (hp:fm prog 30 [.agg (cg inner a d b)] V) (O:Lf→List Nat) (E:Lf→Int)
  (g:∀l,l∈nn (bS [bw (ie a),bw (df t d)]) [bw (ie a),bw (df t d)]→fm prog 46 [.agg (au inner (.d (cz l.1)) (.d (nb l.2)))] (.tup [.d (nb (O l)),.d (.int .i64 (E l))])) :
  fm prog 31 [.agg (cg inner a d b),.agg (cb t)] (if okV V then fJ inner [bw (ie a),bw (df t d)] E else .tup [.nil,.d (.int .i64 1)]):=by
 refine bL func31 ntmps31 (rs:=[.tmp 4,.tmp 5]) (jO _ _ _ _ _) ?_;have i:=ep hi f a d;have hc:=LW inner a d b hi f V (s.imp id (fun h=>h.2)) hp;have q:=zu inner a d b t hi f c m A z;rcases s with rfl|⟨w,es,rfl⟩
 ·simp[go_sem,i,bF hi f,aj,c];refine ag hc (dC _ _ _ _) ?_;simp[go_sem,erV,okV,ah];exact aa a9 rfl
 ·have p:=EB inner [bw (ie a),bw (df t d)] hi (by
   intro x u;simp at u;rcases u with rfl|rfl;have:=pF a;omega
   have:=qH d c;omega) eo O E g
  have v:=sX inner a d b hi f aq;generalize bw (ie a)=x at *;generalize bw (df t d)=y at *;have o:=tN inner [x,y] E;generalize fJ inner [x,y] E=PV at *;simp[go_sem,i,bF hi f,aj,c];refine ag hc (dC _ _ _ _) ?_;simp[go_sem,erV,okV,i,bF hi f,aj,c,al c];refine ag q (jO _ _ _ _ _) ?_;simp[go_sem];refine cK [0,1,2,4] [(3,[]),(5,[]),(6,[7,8,9,10])] 3 (k:=11) ?_;intro G j;simp[go_sem,i,bF hi f,ED hi];refine ag v (dC _ _ _ _) ?_;simp[go_sem];refine bJ [768] p rfl (ak (.deep (bp _)) (ak (.one (am (eB (ty:=31) (e:=1) (es:=[x,y].map nU) (by simp[lk,nU,nb]) aw rfl (by simp[nU])))) aF)) ?_;rcases o with rfl|⟨es,rfl⟩
  ·simp[go_sem,aC];refine j _ _ ?_;clear j G;simp[go_sem,ah];exact aa a9 rfl
  ·simp[go_sem,aC];refine j _ _ ?_;clear j G;simp[go_sem,ah];exact aa a9 rfl
def vE:Nat→Row→jB→List (List Nat)→Prop
 |_,[],_,_=>True
 |s,p::r,f,xs=>bytes p.1∧(∀j x,s≤j→j<s+p.2→xs[j]?=some x→jS (f j) (eD x)=p.1)∧vE (s+p.2) r f xs
theorem AQ:∀(r:Row)(s:Nat)(f g:jB)(xs:List (List Nat)),(∀j,s≤j→f j=g j)→vE s r f xs→vE s r g xs
 |[],_,_,_,_,_,_=>trivial
 |p::r,s,f,g,xs,h,hg=>⟨hg.1,fun j x a c b=>by rw[←h j a];exact hg.2.1 j x a c b,AQ r (s+p.2) f g xs (fun j d=>h j aq) hg.2.2⟩
theorem nJ{first k:Nat}{h:List Nat}{f:jB}{j:Nat}(hj:j<first∨first+k≤j):cM first k h f j=f j:=by
 unfold cM;rw[if_neg aq]
theorem J9{first k:Nat}{h:List Nat}{f:jB}{j:Nat}(b:first≤j)(a:j<first+k):cM first k h f j=f j++[h]:=by
 unfold cM;rw[if_pos ⟨b,a⟩]
theorem yP:∀(q:Row)(s:Nat)(g:jB)(j:Nat),j<s→gJ s q g j=g j
 |[],_,_,_,_=>rfl
 |[a],_,_,_,_=>rfl
 |a::b::r,s,g,j,h=>by
  rw[gJ,yP r _ _ _ aq,nJ aq,nJ aq]
theorem AS(q:List (List Nat))(p h:List Nat):jS (q++[p]) h=cG (jS q h) p:=by simp[jS]
theorem zw(a b:List Nat):bytes (cG a b):=eE _
theorem FP(x:List Nat):bytes (eD x):=eE _
theorem yQ:∀(q:Row)(s:Nat)(g:jB)(xs:List (List Nat)),vE s q g xs→vE s (dW q) (gJ s q g) xs
 |[],_,_,_,h=>h
 |[a],_,_,_,h=>h
 | a :: b :: r,s,g,xs,h=>by
  obtain⟨k,f,i,m,o⟩:=h;rw[dW,gJ];refine⟨zw _ _,fun j x e l d=>?_,?_⟩;simp only at l;rw[yP _ _ _ _ aq];by_cases c:j<s+a.2;rw[nJ (.inl c),J9 e c,AS,f j x e c d];rw[J9 aq aq,nJ (.inr aq),AS,m j x aq aq d];exact BC i k;simp only;rw[←Nat.add_assoc];exact yQ r _ _ xs (AQ r _ g _ xs (fun j c=>by rw[nJ (.inr c),nJ (.inr aq)]) o)
theorem vF:∀(n:Nat)(q:Row)(g:jB)(xs:List (List Nat)),vE 0 q g xs→vE 0 (eg n q g).1 (eg n q g).2 xs
 |0,q,g,xs,h=>h
 |n+1,q,g,xs,h=>by
  rw[eg];split;exact vF n _ _ xs (yQ q 0 g xs h);exact h
theorem vG:∀(n:Nat)(q:Row)(g:jB),iI (eg n q g).1=iI q
 |0,q,g=>rfl
 |n+1,q,g=>by
  rw[eg];split;rw[vG n,rB];rfl
theorem vH:∀(n:Nat)(q:Row)(g:jB),q.length≤n+1→(eg n q g).1.length≤1
 |0,q,g,h=>h
 |n+1,q,g,h=>by
  rw[eg];split;refine vH n _ _ ?_;have:=pg q;omega;rename_i a;show q.length≤1;omega
theorem AU:∀(pre xs:List (List Nat)),vE pre.length (fS xs) (fun _=>[]) (pre++xs)
 |pre,[]=>trivial
 | pre,x :: r=>by
  refine⟨FP x,fun j y c b a=>?_,?_⟩;have:j=pre.length:=by simp only at b;omega
  subst this;rw[dn (cL _),Nat.sub_self]at a;simp only[List.getElem?_cons_zero,Option.some.injEq]at a;subst a;rfl;have:=AU (pre++[x]) r;simpa[fS]using this
theorem FQ(xs:List (List Nat))(f:xs.length≤8):∃h,∀l,l∈nn (bS xs) xs→jS l.1 (eD l.2)=h:=by
 have g:=vF 7 (fS xs) (fun _=>[]) xs (by simpa using AU [] xs);have t:=vG 7 (fS xs) (fun _=>[]);have s:=vH 7 (fS xs) (fun _=>[]) (by simp[fS];omega);rw[rC]at t;have e:bS xs=(eg 7 (fS xs) fun _=>[]).2:=rfl;rw[e];generalize eg 7 (fS xs) (fun _=>[])=RF at *;obtain⟨R,F⟩:=RF;simp only at g t s⊢
 match R,s,t,g with
 |[],_,t,_ =>
  refine⟨[],fun l c=>?_⟩;have:xs=[]:=List.eq_nil_of_length_eq_zero (by simpa[iI]using t.symm);subst this;simp[nn]at c
 |[p],_,t,g =>
  refine⟨p.1,fun l c=>?_⟩;simp only[nn,List.mem_mapIdx]at c;obtain⟨j,d,rfl⟩:=c;exact g.2.1 j _ (Nat.zero_le _) (by simp[iI]at t;omega) (cm d)
 |a::b::r,s,_,_=>simp at s
theorem qI:∀(n:Nat)(q:Row)(g:jB)(B:Nat),(∀j,(g j).length≤B)→∀j,((eg n q g).2 j).length≤B+n
 |0,q,g,B,h=>h
 | n+1,q,g,B,h=>by
  rw[eg];split
  ·intro j;have c:∀(r:Row)(s:Nat)(f:jB),(∀j,(f j).length≤if j<s then B+1 else B)→∀j,(gJ s r f j).length≤B+1:=by
    intro r
    induction r using dW.induct with
    |case1 a b r ih =>
     intro s f d;exact ih _ _ (sS (sS d (cL _)) (cL _))
    | case2 r hr =>
     intro s f d j;have:=d j;have e:gJ s r f=f:=by
      match r,hr with
      |[],_=>rfl
      |[a],_=>rfl
      |a::b::r,hr=>exact absurd rfl (hr a b r)
     rw[e];split at this<;>omega
   have:=qI n (dW q) (gJ 0 q g) (B+1) (c q 0 g (fun j=>by have:=h j;simp;exact this)) j;omega
  ·intro j;have:=h j;show(g j).length≤_;omega
theorem tO:∀(n:Nat)(q:Row)(g:jB),(∀p,p∈q→p.1.length=32)→Wb g→Wb (eg n q g).2
 |0,q,g,_,h=>h
 | n+1,q,g,hq,h=>by
  rw[eg];split
  ·refine tO n _ _ (wy q hq) ?_;have e:∀(r:Row)(s:Nat)(f:jB),(∀p,p∈r→p.1.length=32)→Wb f→Wb (gJ s r f):=by
    intro r
    induction r using dW.induct with
    |case1 a b r ih =>
     intro s f c d;exact ih _ _ (fun p i=>c p (by simp[i])) (wE (wE d (c b aw)) (c a aw))
    |case2 r c =>
     intro s f _ d
     match r,c with
     |[],_=>exact d
     |[a],_=>exact d
     |a::b::r,c=>exact absurd rfl (c a b r)
   exact e q 0 g hq h
  ·exact h
theorem Ko:∀{a b:List Nat},a.length=b.length→bytes a→bytes b→gv a=gv b→a=b
 |[],[],_,_,_,_=>rfl
 |[],y::s,h,_,_,_=>by simp at h
 |x::r,[],h,_,_,_=>by simp at h
 | x :: r,y :: s,h,ha,hb,he=>by
  have e:r.length=s.length:=by simpa using h
  rw[yC,yC,e]at he;have i:gv r<256 ^ s.length:=by
   have:=wO r (fun z c=>ha z (cS _ c)) 0;rw[Nat.zero_add,Nat.one_mul,e]at this;exact this
  have j:gv s<256 ^ s.length:=by
   have:=wO s (fun z c=>hb z (cS _ c)) 0;rw[Nat.zero_add,Nat.one_mul]at this;exact this
  generalize 256 ^ s.length=P at *;have d:x=y:=by
   have g:=congrArg (·/P) he;have f:∀u v:Nat,v<P→(u*P+v)/P=u:=fun u v k=>by
    rw[Nat.mul_comm,Nat.mul_add_div aq,Nat.div_eq_of_lt k,Nat.add_zero]
   simp only[f _ _ i,f _ _ j]at g;exact g
  subst d;rw[Ko e (fun z c=>ha z (cS _ c)) (fun z c=>hb z (cS _ c)) aq]
theorem Ib{n t:Nat}{k f:List Nat}{o l:Bool}{e r:Int}(A:k.length=32)(v:bytes k)(j:f.length=32)(i:bytes f)(h:FA n t k o e)(q:FA n t f l r):k=f∧o=l∧e=r:=by
 rcases h with ⟨a,rfl,rfl,rfl⟩|⟨a,rfl,x,y,g,z,p⟩;rcases q with ⟨_,rfl,rfl,rfl⟩|⟨b,_,B,s,c,_,_⟩;exact⟨rfl,rfl,rfl⟩;rcases a with a|a;exact absurd b a;rw[a]at c;cases c;rcases q with ⟨b,_,_,_⟩|⟨_,rfl,B,s,c,m,d⟩;rcases b with b|b;exact absurd a b;rw[b]at g;cases g;have e:=Option.some.inj (g.symm.trans c);injection e with w u;subst w u;refine⟨Ko (by rw[A,j]) v i (by rw[z,m]),?_,rfl⟩;cases o<;>cases l
 rfl;exact absurd (p.2 (d.1 rfl)) (by decide);exact absurd (d.2 (p.1 rfl)) (by decide);rfl
theorem Di{f:jB}{xs:List (List Nat)}{l:Lf}(h:l∈nn f xs):∃j:Nat,l.1=f j∧l.2∈xs:=by
 simp only[nn,List.mem_mapIdx]at h;obtain⟨j,a,rfl⟩:=h;exact⟨j,rfl,List.getElem_mem _⟩
def ZT(inner:List Nat)(l:Lf)(O:List Nat)(e:Int):Prop:=(e=0∧∃k o,k.length=32∧bytes k∧O=81::32::k∧tt inner l.1 l.2 k o 0)∨(e=1∧O=[])
theorem VB(inner:List Nat)(xs:List (List Nat))(hi:inner.length=32)(a:bytes inner)(m:∀x,x∈xs→x.length≤100000)(l:Lf)(h:l∈nn (bS xs) xs) :
  ∃p:List Nat×Int,ZT inner l p.1 p.2∧fm prog 46 [.agg (au inner (.d (cz l.1)) (.d (nb l.2)))] (.tup [.d (nb p.1),.d (.int .i64 p.2)]):=by
 obtain⟨j,g,t⟩:=Di h;have s:∀p,p∈l.1→p.length=32:=by
  rw[g];exact tO 7 (fS xs) (fun _=>[]) (sR xs) (fun j p v=>by simp at v) j
 have q:l.1.length≤1000:=by
  rw[g];have:=qI 7 (fS xs) (fun _=>[]) 0 (fun _=>by simp) j;show((eg 7 (fS xs) fun _=>[]).2 j).length≤1000;omega
 obtain⟨k,o,e,c,b,u,f,_,i⟩:=qC inner l.1 l.2 hi a s q (m _ t);rcases u with rfl|rfl;exact⟨(81::32::k,0),.inl ⟨rfl,k,o,c,b,rfl,i⟩,nF hi c f⟩;exact⟨([],1),.inr ⟨rfl,rfl⟩,uO hi c f⟩
theorem adl(inner:List Nat)(xs:List (List Nat))(hi:inner.length=32)(a:bytes inner)(f:∀x,x∈xs→x.length≤100000) :
  ∃(O:Lf→List Nat)(E:Lf→Int),∀l,l∈nn (bS xs) xs→ZT inner l (O l) (E l)∧fm prog 46 [.agg (au inner (.d (cz l.1)) (.d (nb l.2)))] (.tup [.d (nb (O l)),.d (.int .i64 (E l))]):=by
 obtain⟨F,c⟩:=Classical.axiomOfChoice (r:=fun(l:Lf)(p:List Nat×Int)=>l∈nn (bS xs) xs→ZT inner l p.1 p.2∧fm prog 46 [.agg (au inner (.d (cz l.1)) (.d (nb l.2)))] (.tup [.d (nb p.1),.d (.int .i64 p.2)])) (fun l=>by
  by_cases h:l∈nn (bS xs) xs;obtain⟨p,b⟩:=VB inner xs hi a f l h;exact⟨p,fun _=>b⟩
  exact⟨([],0),fun e=>absurd e h⟩)
 exact⟨fun l=>(F l).1,fun l=>(F l).2,c⟩
section
open CR
section
variable {n:Nat} [NeZero n]
abbrev N3:=Nat×Nat×Nat
def LX(p:Nat)(u v:N3):N3 :=
 eh (u.1*v.2.1+v.1*u.2.1) fun c=>eh (u.2.1*v.2.2+v.2.1*u.2.2) fun g=>eh (u.1*v.2.2+v.1*u.2.2) fun a =>
 eh (u.2.1*v.2.1%p) fun b=>eh (u.2.2*v.2.2*21%p) fun f=>eh (u.1*v.1) fun h =>
 eh (b+(p-f)) fun d=>eh (b+f) fun e =>
 eh ((c*d+(p-21*(g*a)%p))%p) fun X=>eh ((e*d+63*(h*a))%p) fun Y=>eh ((g*e+3*(h*c))%p) fun Z=>(X,Y,Z)
def MK(n:Nat)[NeZero n](u:N3):CO n:=(Fin.ofNat n u.1,Fin.ofNat n u.2.1,Fin.ofNat n u.2.2)
theorem wT(a b:Nat):Fin.ofNat n (a+b)=Fin.ofNat n a+Fin.ofNat n b:=Fin.ext (by rw[Fin.val_add];show(a+b)%n=(a%n+b%n)%n;rw[←Nat.add_mod])
theorem Dj(a b:Nat):Fin.ofNat n (a*b)=Fin.ofNat n a*Fin.ofNat n b:=Fin.ext (by rw[Fin.val_mul];show a*b%n=(a%n)*(b%n)%n;rw[←Nat.mul_mod])
theorem Dk(a:Nat):Fin.ofNat n (a%n)=Fin.ofNat n a:=Fin.ext (by show a%n%n=a%n;rw[Nat.mod_mod])
theorem Dl{a:Nat}(h:a≤n):Fin.ofNat n (n-a)=- Fin.ofNat n a:=by
 have e:Fin.ofNat n (n-a)+Fin.ofNat n a=0:=by
  rw[←wT,Nat.sub_add_cancel h];exact Fin.ext (by show n%n=0%n;rw[Nat.mod_self,Nat.zero_mod])
 generalize Fin.ofNat n (n-a)=x at *;generalize Fin.ofNat n a=y at *
 grobner
theorem Q2(hp:0<n)(u v:N3):MK n (LX n u v)=dF (MK n u) (MK n v):=by
 obtain⟨a,b,c⟩:=u;obtain⟨d,e,f⟩:=v;simp only[LX,eq,MK,dF,HA,Gg,qO,Fe,HC,RB];have i:c*f*21%n≤n:=Nat.le_of_lt (Nat.mod_lt _ hp);have j:∀z,z%n≤n:=fun z=>Nat.le_of_lt (Nat.mod_lt _ hp);have g:Fin.ofNat n 21=(21:Fin n):=rfl;have h:Fin.ofNat n 63=(63:Fin n):=rfl;have k3:Fin.ofNat n 3=(3:Fin n):=rfl;refine Prod.ext ?_ (Prod.ext ?_ ?_);dsimp only;simp only[Dk,wT,Dj,Dl i,Dl (j _),g]
 grobner
 ·dsimp only;simp only[Dk,wT,Dj,Dl i,g,h]
  grobner
 ·dsimp only;simp only[Dk,wT,Dj,g,k3]
  grobner
def Kp(f:Fd n)(t:CO n)(P:Pt n):Prop:=∃k,k≠0∧t=sc k (pr P)
theorem Kq(f:Fd n){s t:CO n}{P Q:Pt n}(g:kV P)(c:kV Q)(h:Kp f s P)(i:Kp f t Q):Kp f (dF s t) (sum f P Q):=by
 obtain⟨k,b,rfl⟩:=h;obtain⟨l,a,rfl⟩:=i;obtain⟨m,d,e⟩:=yq f g c;exact⟨k*k*(l*l)*m,f.mul_ne (f.mul_ne (f.mul_ne b b) (f.mul_ne a a)) d,by rw[HD,e,P6]⟩
def Q3(p:Nat)(g:N3):Nat→Nat→N3→N3
 |0,_,acc=>acc
 |j+1,k,acc=>bif (k/2 ^ j%2).beq 1 then Q3 p g j k (LX p (LX p acc acc) g)else Q3 p g j k (LX p acc acc)
theorem yR(f:Fd n)(hp:0<n){g:N3}{P:Pt n}(b:kV P)(c:Kp f (MK n g) P)(k:Nat):∀(j:Nat)(a:N3),Kp f (MK n a) (mp f (k/2 ^ j) P)→Kp f (MK n (Q3 n g j k a)) (mp f k P)
 |0,a,h=>by rw[Nat.pow_zero,Nat.div_one]at h;exact h
 | j+1,a,h=>by
  have i:k/2 ^ j=2*(k/2 ^ (j+1))+k/2 ^ j%2:=by rw[Nat.pow_succ,←Nat.div_div_eq_div_mul];omega
  have d:=qV f b (k/2 ^ (j+1));have l:Kp f (MK n (LX n a a)) (mp f (2*(k/2 ^ (j+1))) P):=by
   rw[Q2 hp,HG f b];exact Kq f d d h h
  rw[Q3];cases e:(k/2 ^ j%2).beq 1 with
  |true =>
   rw[cond_true];refine yR f hp b c k j _ ?_;have o:=Nat.eq_of_beq_eq_true e;rw[i,o,mp,Q2 hp];exact Kq f (qV f b _) b l c
  | false =>
   rw[cond_false];refine yR f hp b c k j _ ?_;have m:k/2 ^ j%2=0:=by
    have:=Nat.ne_of_beq_eq_false e;omega
   rw[i,m,Nat.add_zero];exact l
theorem Q4(f:Fd n){t:CO n}{P:Pt n}(h:Kp f t P)(hz:t.2.2≠0):P≠none:=by
 rintro rfl;obtain⟨k,a,rfl⟩:=h;refine hz ?_;show k*ic 0=0;rw[HB]
 grobner
end
end
def EF{α:Type}:Nat→S8→List Nat→(S8→α)→α
 |0,s,_,C=>C s
 |n+1,s,b,C=>Om s (b.take 64) fun a=>EF n a (b.drop 64) C
theorem WN{α:Type}:∀(n:Nat)(s:S8)(b:List Nat)(C:S8→α),b.length=64*n→EF n s b C=C (E s b).1
 |0,s,b,C,h=>by rw[rl aq];rfl
 |n+1,s,b,C,h=>by rw[EF,On,WN n _ _ C (by rw[e_];omega),←uk aq]
theorem kO(b:List Nat)(n:Nat)(h:(Go.Proofs.YtmfnimjnneflnaaGreat.lastOf b b.length).length=64*n):Eh (Go.Proofs.YtmfnimjnneflnaaGreat.lastOf b b.length) (fun l=>EF n H0 l KU)=bc b:=by
 rw[xC,WN n _ _ _ h,Oo b.length b.length H0 b (cL _)];rfl
def dRe:List Nat:=(53::61::94::253::190::113::247::57::66::161::185::17::45::254::199::124::103::226::249::163::120::195::190::87::55::214::250::73::198::85::133::208::[])
def acT:List Nat:=(86::97::117::108::116::82::101::99::111::118::101::114::121::[])
theorem ZU:bc (acT)=dRe:=by
 rw[←kO (acT) 1 (by kernel_rfl)]
 kernel_rfl
def Ic:List Nat:=(174::234::143::220::66::8::152::49::5::115::75::88::8::29::30::38::56::211::95::28::181::64::8::212::211::87::202::3::190::120::233::238::[])
def acU:List Nat:=(84::97::112::76::101::97::102::[])
theorem ZV:bc (acU)=Ic:=by
 rw[←kO (acU) 1 (by kernel_rfl)]
 kernel_rfl
def VC:List Nat:=(25::65::161::242::229::110::185::95::162::169::241::148::190::92::1::247::33::111::51::237::130::176::145::70::52::144::208::91::245::22::160::21::[])
def acV:List Nat:=(84::97::112::66::114::97::110::99::104::[])
theorem Q5:bc (acV)=VC:=by
 rw[←kO (acV) 1 (by kernel_rfl)]
 kernel_rfl
def VD:List Nat:=(232::15::225::99::156::156::160::80::227::175::27::57::193::67::198::62::66::156::188::235::21::217::64::251::181::197::161::244::175::87::197::233::[])
def acW:List Nat:=(84::97::112::84::119::101::97::107::[])
theorem Q6:bc (acW)=VD:=by
 rw[←kO (acW) 1 (by kernel_rfl)]
 kernel_rfl
def dR0:List Nat:=(189::152::121::193::58::236::75::153::122::243::17::30::133::43::55::145::168::204::221::212::128::76::17::134::159::142::251::34::161::5::209::59::[])
theorem ZW:bc (dRe++(dRe++(0::[])))=dR0:=by
 rw[←kO (dRe++(dRe++(0::[]))) 2 (by kernel_rfl)]
 kernel_rfl
def scX:List Nat:=(32::189::152::121::193::58::236::75::153::122::243::17::30::133::43::55::145::168::204::221::212::128::76::17::134::159::142::251::34::161::5::209::59::188::[])
def Q7:List Nat:=(32::0::0::0::0::0::0::0::0::0::0::0::0::0::0::0::0::0::0::0::0::0::0::0::0::0::0::0::0::0::0::0::0::173::4::83::178::117::179::81::187::[])
def zx:List Nat:=(32::9::0::0::0::0::0::0::0::0::0::0::0::0::0::0::0::0::0::0::0::0::0::0::0::0::0::0::0::0::0::0::0::83::178::117::179::[])
def bG:List Nat:=(121::190::102::126::249::220::187::172::85::160::98::149::206::135::11::7::2::155::252::219::45::206::40::217::89::242::129::91::22::248::23::152::[])
def dX:List Nat:=(251::255::171::80::118::245::250::144::87::15::24::166::210::84::52::117::148::127::52::144::68::199::31::12::209::106::209::21::214::95::92::182::[])
theorem acX:bc (Ic++(Ic++(192::34::scX)))=dX:=by
 rw[←kO (Ic++(Ic++(192::34::scX))) 2 (by kernel_rfl)]
 kernel_rfl
def VE:List Nat:=(19::6::206::238::128::236::162::250::80::202::182::106::0::179::158::213::127::57::234::176::91::142::57::191::101::17::44::135::204::198::249::4::[])
theorem ZX:bc (Ic++(Ic++(192::41::Q7)))=VE:=by
 rw[←kO (Ic++(Ic++(192::41::Q7))) 2 (by kernel_rfl)]
 kernel_rfl
def VF:List Nat:=(171::174::215::172::224::121::165::87::203::160::248::177::70::224::77::193::3::205::50::173::167::234::209::141::7::74::140::29::143::83::189::46::[])
theorem ZY:bc (Ic++(Ic++(192::37::zx)))=VF:=by
 rw[←kO (Ic++(Ic++(192::37::zx))) 2 (by kernel_rfl)]
 kernel_rfl
def dB1:List Nat:=(89::211::248::89::95::4::123::31::133::170::29::17::173::17::123::176::22::143::236::70::146::10::251::25::227::240::180::5::62::146::169::246::[])
theorem ZZ:bc (VC++(VC++(VE++dX)))=dB1:=by
 rw[←kO (VC++(VC++(VE++dX))) 3 (by kernel_rfl)]
 kernel_rfl
def dT1:List Nat:=(20::212::211::23::126::240::124::59::195::144::104::231::190::253::191::133::168::75::233::181::62::195::202::75::34::216::7::68::160::102::148::182::[])
theorem Z0:bc (VD++(VD++(bG++dB1)))=dT1:=by
 rw[←kO (VD++(VD++(bG++dB1))) 3 (by kernel_rfl)]
 kernel_rfl
def dB2:List Nat:=(143::143::109::45::225::67::67::97::216::90::193::220::57::140::111::162::227::169::253::128::179::169::249::191::164::187::92::79::147::129::79::95::[])
theorem Z1:bc (VC++(VC++(VF++dX)))=dB2:=by
 rw[←kO (VC++(VC++(VF++dX))) 3 (by kernel_rfl)]
 kernel_rfl
def dT2:List Nat:=(9::214::53::3::89::7::10::110::242::225::59::183::117::47::204::209::59::63::101::133::12::199::183::84::40::106::18::30::18::189::131::84::[])
theorem Z2:bc (VD++(VD++(bG++dB2)))=dT2:=by
 rw[←kO (VD++(VD++(bG++dB2))) 3 (by kernel_rfl)]
 kernel_rfl
theorem Ie:gv bG=55066263022277343669578718895168534326250603453777594175500187360389116729240:=by kernel_rfl
theorem VG(c e p:Nat):(c:Int) ^ e%(p:Int)=((c ^ e%p:Nat):Int):=by rw[Int.natCast_emod,Int.natCast_pow]
def bC:Nat:=32748224938747404814623910738487752935528512903530129802856995983256684603122
def bY:Nat:=32670510020758816978083085130507043184471273380659243275938904335757337482424
def bE:Nat:=28948022309329048855892746252171976963317496166410141009864396001977208667916
theorem FR:nC (gv bG)=(bC:Int):=by rw[Ie];kernel_rfl
theorem FT:mI (gv bG)=(bY:Int):=by
 have e:mI (gv bG)=nC (gv bG) ^ bE%(pP:Int):=by rw[i6];rfl
 have h:=uJ pP 300 bC bE 1 (dN (by kernel_rfl)) (Nat.mod_eq_of_lt (dN (by kernel_rfl)));have a:Y0 pP 300 bC bE 1=bY:=by kernel_rfl
 rw[e,FR,VG];rw[a,Nat.one_mul]at h;rw[←h]
theorem LY:rQ (gv bG):=by
 refine⟨?_,?_⟩;rw[Ie];omega;rw[FT,FR];kernel_rfl
theorem LZ:liftPt (gv bG)=PV gX gY false:=by
 have b:V gX=((gv bG:Nat):Int):=by rw[Ie];kernel_rfl
 have c:V gY=((bY:Nat):Int):=by kernel_rfl
 have a:((bY:Nat):Int)%2=0:=by kernel_rfl
 show some (MJ pP ((gv bG:Nat):Int),MJ pP (if mI (gv bG)%2=0 then mI (gv bG)else _))=some (MJ pP (V gX),MJ pP (V gY));rw[b,c,FT,if_pos a]
theorem FU:(1:F)≠0:=fun h=>absurd (congrArg Fin.val h) (by
 show ¬ 1%pP=0%pP;rw[Nat.zero_mod,Nat.mod_eq_of_lt (by rw[yv];omega)]
 omega)
theorem FW(k:Nat)(g:k<2 ^ 256)(h:(Q3 pP (55066263022277343669578718895168534326250603453777594175500187360389116729240,bY,1) 256 k (0,1,0)).2.2%pP≠0):mp fd k (PV gX gY false)≠none:=by
 have a:=tm CV;have e:FV gX=Fin.ofNat pP 55066263022277343669578718895168534326250603453777594175500187360389116729240:=by
  refine ti ?_;rw[eW,←i6]
  kernel_rfl
 have i:FV gY=Fin.ofNat pP bY:=by
  refine ti ?_;rw[eW,←i6]
  kernel_rfl
 have c:Kp fd (MK pP (55066263022277343669578718895168534326250603453777594175500187360389116729240,bY,1)) (PV gX gY false):=by
  refine⟨1,FU,?_⟩;show _=sc 1 (FV gX,FV gY,CR.ic 1);rw[e,i];simp only[sc,MK,Fin.one_mul];rfl
 have d:Kp fd (MK pP (0,1,0)) (mp fd (k/2 ^ 256) (PV gX gY false)):=by
  rw[Nat.div_eq_of_lt g];refine⟨1,FU,?_⟩;show _=sc 1 (CR.ic 0,CR.ic 1,CR.ic 0);simp only[sc,MK,Fin.one_mul];rfl
 have f:=yR fd (by rw[yv];omega) a c k 256 (0,1,0) d;refine Q4 fd f ?_;intro b;refine h ?_;exact congrArg Fin.val b
theorem Z3:mp fd 9422285451324570057901192470951034667041824789260974292028693021899629171895 (PV gX gY false)≠none:=FW _ (dN (by kernel_rfl)) (Nat.ne_of_beq_eq_false (by kernel_rfl))
theorem Z4:mp fd 4449286791923882000517327537479225864197293264887270585588255640113699980117 (PV gX gY false)≠none:=FW _ (dN (by kernel_rfl)) (Nat.ne_of_beq_eq_false (by kernel_rfl))
structure LfK(inner:List Nat)(l:Lf)(x k:List Nat)(o:Bool):Prop where
 s:l.2=x
 p:∀p,p∈l.1→p.length=32
 pl:l.1.length≤8
 xl:x.length≤1000
 kl:k.length=32
 kb:bytes k
 t:fm prog 92 [cE inner l.1 l.2] (.tup [.agg (cb k),.d (.bool o),.d (.int .i64 0)])
def vI:AV:=.tup [.nil,.d (.int .i64 1)]
def If(inner:List Nat)(a b:Lf):AV:=.tup [.d (.ro 34 [eP inner a,eP inner b]),.d (.int .i64 0)]
theorem uS(inner X Y:List Nat)(hi:inner.length=32)(w:bytes inner)(P:X.length≤1000)(K:Y.length≤1000) :
  ∃(O:Lf→List Nat)(E:Lf→Int),(∀l,l∈nn (bS [X,Y]) [X,Y]→fm prog 46 [.agg (au inner (.d (cz l.1)) (.d (nb l.2)))] (.tup [.d (nb (O l)),.d (.int .i64 (E l))])) ∧
   (fJ inner [X,Y] E=vI∨∃l0 l1 k o0 o1,fJ inner [X,Y] E=If inner l0 l1∧LfK inner l0 X k o0∧LfK inner l1 Y k o1):=by
 have i:∀l,l∈nn (bS [X,Y]) [X,Y]→(∀p,p∈l.1→p.length=32)∧l.1.length≤7∧l.2.length≤1000:=by
  intro l g;obtain⟨j,s,b⟩:=Di g;refine⟨?_,?_,?_⟩;rw[s];exact tO 7 (fS [X,Y]) (fun _=>[]) (sR [X,Y]) (fun j p i=>by simp at i) j
  rw[s];have:=qI 7 (fS [X,Y]) (fun _=>[]) 0 (fun _=>by simp) j;show((eg 7 (fS [X,Y]) fun _=>[]).2 j).length≤7;omega
  simp only[d_,List.mem_nil_iff,or_false]at b;rcases b with b|b<;>rw[b]<;>assumption
 obtain⟨F,x⟩:=Classical.axiomOfChoice (r:=fun(l:Lf)(p:List Nat×Bool×Int)=>l∈nn (bS [X,Y]) [X,Y]→p.1.length=32∧bytes p.1∧E1 p.2.2∧fm prog 92 [cE inner l.1 l.2] (.tup [.agg (cb p.1),.d (.bool p.2.1),.d (.int .i64 p.2.2)])∧tt inner l.1 l.2 p.1 p.2.1 p.2.2) (fun l=>by
  by_cases h:l∈nn (bS [X,Y]) [X,Y];obtain⟨s,b,Q⟩:=i l h;obtain⟨k,o,e,A,z,N,G,_,I⟩:=qC inner l.1 l.2 hi w s aq aq;exact⟨(k,o,e),fun _=>⟨A,z,N,G,I⟩⟩
  exact⟨([],false,0),fun M=>absurd M h⟩)
 have v:(bS [X,Y] 0,X)∈nn (bS [X,Y]) [X,Y]:=by simp[nn]
 have m:(bS [X,Y] 1,Y)∈nn (bS [X,Y]) [X,Y]:=by simp[nn]
 refine⟨fun l=>if(F l).2.2=0 then 81::32::(F l).1 else[],fun l=>(F l).2.2,fun l g=>?_,?_⟩;obtain⟨c,u,f,a,y⟩:=x l g;simp only;rcases f with f|f;rw[f]at a⊢;rw[if_pos rfl];exact nF hi c a;rw[f]at a⊢;rw[if_neg aq];exact uO hi c a;by_cases q:sT (fun l=>(F l).2.2) (nn (bS [X,Y]) [X,Y])=true;exact .inl (if_pos (.inr (.inr q)));refine .inr ?_;have C:∀l,l∈nn (bS [X,Y]) [X,Y]→(F l).2.2=0:=by
  intro l g;simp only[sT,List.any_eq_true,Bool.not_eq_true',decide_eq_false_iff_not,not_exists,not_and,Classical.not_not]at q;exact q l g
 obtain⟨c,u,_,a,y⟩:=x _ v;obtain⟨J,b2,_,b4,b5⟩:=x _ m;obtain⟨H,R,T⟩:=i _ v;obtain⟨L,U,S⟩:=i _ m;rw[C _ v]at a y;rw[C _ m]at b4 b5;obtain⟨h,B⟩:=FQ [X,Y] aw;have A:(F (bS [X,Y] 0,X)).1=(F (bS [X,Y] 1,Y)).1:=by
  rcases y with ⟨_,e,_⟩|⟨_,t⟩;cases e;rcases b5 with ⟨_,e,_⟩|⟨_,D⟩;cases e;rw[B _ v]at t;rw[B _ m]at D;exact(Ib c u J b2 t D).1
 refine⟨(bS [X,Y] 0,X),(bS [X,Y] 1,Y),(F (bS [X,Y] 0,X)).1,(F (bS [X,Y] 0,X)).2.1,(F (bS [X,Y] 1,Y)).2.1,?_,⟨rfl,H,aq,P,c,u,a⟩,⟨rfl,L,aq,K,c,u,?_⟩⟩;unfold fJ;rw[if_neg (by
  rintro(h|h|h);simp at h;simp at h
  exact q h)]
 rfl;rw[A];exact b4
def LvP(inner b:List Nat)(d:Int)(a:List Nat)(V:AV):Prop:=V=vI∨(0≤d∧d≤65535∧b.length≤1000)∧∃l0 l1 k o0 o1,V=If inner l0 l1∧LfK inner l0 (bw (ie b)) k o0∧LfK inner l1 (bw (je a d)) k o1
theorem AW(inner b:List Nat)(d:Int)(a:List Nat)(hi:inner.length=32)(c:bytes inner)(f:a.length=32)(i:bytes a)(l:-9223372036854775808≤d)(k:d<9223372036854775808) :
  ∃V,LvP inner b d a V∧fm prog 30 [.agg (cg inner b d a)] V:=by
 obtain⟨O,E,g,j⟩:=uS inner (bw (ie b)) (bw (je a d)) hi c (by have:=pF b;omega) (by have:=uR d f;omega);refine⟨qG inner b d a E,?_,rU inner b d a hi f i l k O E g⟩;unfold qG;by_cases e:0≤d∧d≤65535∧b.length≤1000;rw[if_pos e];exact j.imp id fun h=>⟨e,h⟩;rw[if_neg e];exact .inl rfl
theorem Kr{inner b:List Nat}{d:Int}{a:List Nat}{V:AV}(h:LvP inner b d a V):V=.tup [.nil,.d (.int .i64 1)]∨b.length≤1000∧∃es,V=.tup [.d (.ro 34 es),.d (.int .i64 0)]:=by
 rcases h with h|⟨h,g,c,k,i,f,e,_⟩;exact .inl h;exact .inr ⟨h.2.2,_,e⟩
def LvQ(inner a:List Nat)(d:Int)(t:List Nat)(V W:AV):Prop:=W=vI∨V≠vI∧∃l0 l1 k o0 o1,W=If inner l0 l1∧LfK inner l0 (bw (ie a)) k o0∧LfK inner l1 (bw (df t d)) k o1
theorem yS(inner b:List Nat)(d:Int)(a t:List Nat)(hi:inner.length=32)(e:bytes inner)(s:a.length=32)(c:t.length=32)(i:bytes t)(u:-9223372036854775808≤d)(q:d<9223372036854775808)(V:AV)(j:LvP inner b d a V)
  (hp:fm prog 30 [.agg (cg inner b d a)] V) :
  ∃W,LvQ inner b d t V W∧fm prog 31 [.agg (cg inner b d a),.agg (cb t)] W:=by
 obtain⟨O,E,l,w⟩:=uS inner (bw (ie b)) (bw (df t d)) hi e (by have:=pF b;omega) (by have:=qH d c;omega);have f:=vD inner b d a t hi s c i u q V (Kr j) hp O E l;refine⟨_,?_,f⟩;rcases Kr j with rfl|⟨_,x,rfl⟩;exact .inl rfl;rcases w with h|⟨m,v,k,p,o,h,g⟩;refine .inl ?_;simp only[okV,↓reduceIte];exact h;refine .inr ⟨?_,m,v,k,p,o,?_,g⟩;unfold vI;simp;simp only[okV,↓reduceIte];exact h
theorem L0(t:List Nat)(h:t.length≤65535):(c6 t).2.length≤65535:=by
 have:=gk t;omega
theorem Q8{x:Rx}{s rest:List Nat}{f a:Nat}{r:Rn}{w:Wd}(i:r.e=0)(h:w.2.length≤65535)(c:(ef w).2=true)(b:s.drop a=(ef w).1++rest) :
  oP x s (f+1) a r=oP x s f (a+(ef w).1.length) (oh x w r)∧s.drop (a+(ef w).1.length)=rest:=by
 have d:=Q0 h c b;have j:0<(ef w).1.length:=by
  unfold ef;split;exact Nat.succ_pos _;split;exact Nat.succ_pos _;split;exact Nat.succ_pos _;exact Nat.succ_pos _
 have g:a<s.length:=by
  have:=congrArg List.length b;rw[e_,b_]at this;omega
 refine⟨?_,?_⟩;rw[oP,if_pos ⟨g,i⟩,d];rw[←List.drop_drop,b,List.drop_left]
theorem FX{x:Rx}{s:List Nat}{a:Nat}{r:Rn}(h:r.e≠0∨s.drop a=[]):∀f,oP x s f a r=r
 |0=>rfl
 |f+1=>by
  rw[oP,if_neg];rintro⟨c,b⟩;rcases h with h|h;exact h b;have:=congrArg List.length h;rw[e_,List.length_nil]at this;omega
theorem Ks{x:Rx}{s:List Nat}:∀(b:List Wd)(f a:Nat)(r:Rn),(∀w,w∈b→w.2.length≤65535∧(ef w).2=true)→s.drop a=bw b→b.length≤f→oP x s f a r=b.foldl (fun r w=>if r.e=0 then oh x w r else r) r
 |[],f,a,r,_,hd,_=>FX (.inr hd) f
 |w::b,0,a,r,_,_,hf=>by simp at hf
 | w :: b,f+1,a,r,hw,hd,hf=>by
  obtain⟨i,h⟩:=hw w aw;have hc:bw (w::b)=(ef w).1++bw b:=by
   rw[←wh h];simp[bw]
  rw[hc]at hd;rw[List.foldl_cons];by_cases c:r.e=0;obtain⟨e,g⟩:=Q8 (x:=x) (f:=f) (r:=r) c i h hd;rw[e,Ks b f _ _ (fun w d=>hw w (by simp[d])) g (by simpa using hf),if_pos c]
  ·rw[FX (.inl c),if_neg c];clear hw hd hf hc
   induction b with
   |nil=>rfl
   |cons w b ih=>rw[List.foldl_cons,if_neg c];exact ih
def Ig(r:Rn):List (Int×Int)×Int:=if(om r).e=0 then((om r).cl,0)else([],(om r).e)
theorem L6{x:Rx}(b:List Wd)(a:List (List Nat))(bud:Int)(c:∀w,w∈b→w.2.length≤65535∧(ef w).2=true)(f:gm a []=0)(g:b.length≤(bw b).length+1) :
  zo x (bw b) a bud=Ig (b.foldl (fun r w=>if r.e=0 then oh x w r else r) ⟨a,[],[],bud,[],0⟩):=by
 have d:aB (gm a []) ⟨a,[],[],bud,[],0⟩=⟨a,[],[],bud,[],0⟩:=by
  rw[f];rfl
 unfold zo;rw[d,Ks b _ 0 _ c (List.drop_zero ..) g];rfl
theorem e9{l:List (List Nat)}(h:∀x,x∈l→x.length≤520)(a:l.length≤100):gm l []=0:=by
 unfold gm;have c:(l.all fun x=>decide (x.length≤520))=true:=fa.2 fun x b=>decide_eq_true (h x b);rw[c];simp[a]
theorem Q9{b:bm}{m:List bm}{bud:Int}{cl:List (Int×Int)}(h:∀x,x∈m++[b]→x.length≤520)(a:m.length≤99):eQ b ⟨m,[],[],bud,cl,0⟩=⟨m++[b],[],[],bud,cl,0⟩:=by
 unfold eQ;rw[if_pos rfl,if_pos (e9 h (by simp only[b_,List.length_cons,List.length_nil];omega))]
theorem Z5:oO 178=true∧oO 117=true∧oO 179=true:=by decide
def coR(o:Nat×List Nat):List AV:=[.d (.int .u64 (o.1:Int)),.d (nb o.2)]
theorem VH(l:List (Nat×List Nat)):l.map coR=(l.map eO).map fun r=>r.map AV.d:=by
 rw[List.map_map];rfl
theorem Rb{hp:Hp}{I:Nat→Prop}{id n:Nat}{l:List (Nat×List Nat)}(d:lk id hp=some ⟨57,2,l.map coR⟩)(b:I id)(c:l.length=n):SnapD hp I (.own id 0 n n) (.ro 2 (l.map eO)) :=
 eB (es:=l.map eO) (by rw[d,VH]) b (by simp[c]) (fun r a=>by
  rw[List.mem_map]at a;obtain⟨w,_,rfl⟩:=a
  rfl)
theorem Re{hp:Hp}{I:Nat→Prop}(t:Tn)(n:Int)(coins:List (Nat×List Nat)){a b:AV}(e:fP hp I a (.d (.ro 35 (t.ins.map eI))))(c:fP hp I b (.d (.ro 2 (coins.map eO)))) :
  sA hp I [.d (.int .u32 (t.ver:Int)),a,.d (.ro 2 (t.outs.map eO)),.d (.int .u32 (t.lock:Int)),.d (.int .i64 n),b] (eS t n coins) :=
 ⟨rfl,ax (aM trivial) (ax e (ax (aM trivial) (ax (aM trivial) (ax (aM trivial) (ax c ca)))))⟩
theorem VI(t:Tn)(n:Int)(coins:List (Nat×List Nat))(b:Bool):(AV.tup [.agg (eS t n coins),.d (.bool b)]).deep:=by
 intro c hc;simp only[d_,List.mem_nil_iff,or_false]at hc;rcases hc with rfl|rfl;refine .inr ⟨_,rfl,fun x a=>?_⟩;have:=tK t n coins _ (List.mem_singleton.2 rfl);exact this x a;exact .inl trivial
theorem VJ{st:St}{t:Tn}{n:Int}{coins:List (Nat×List Nat)}{a b:AV}{o:Bool}(g:fP st.hp (fun _=>True) a (.d (.ro 35 (t.ins.map eI))))(f:fP st.hp (fun _=>True) b (.d (.ro 2 (coins.map eO)))) :
  dG (fun r=>r=.tup [.agg (eS t n coins),.d (.bool o)]) (.tup [.agg [.d (.int .u32 (t.ver:Int)),a,.d (.ro 2 (t.outs.map eO)),.d (.int .u32 (t.lock:Int)),.d (.int .i64 n),b],.d (.bool o)]) st:=by
 refine⟨_,.tup (cs':=[.agg (eS t n coins),.d (.bool o)]) rfl fun i c h hc e=>?_,VI t n coins o,rfl⟩
 match i,hc,e with
 |0,hc,e=>simp at hc e;subst hc e;exact .inr ⟨_,_,rfl,rfl,Re t n coins g f⟩
 |1,hc,e=>simp at hc e;subst hc e;exact .inl (aM trivial)
 |n+2,hc,_=>simp at hc
theorem vJ(t:Tn)(n:Nat)(coins:List (Nat×List Nat))(inner:List Nat)(c b:Lf)(v:Nat):∀y,y∈[AV.agg (eS t (n:Int) coins),.d (.ro 34 [eP inner c,eP inner b]),.d (.int .u64 (v:Int))]→y.deep:=by
 intro y a;simp only[d_,List.mem_nil_iff,or_false]at a;rcases a with rfl|rfl|rfl;exact tK t (n:Int) coins _ aw;trivial;trivial
theorem L8(t:Tn)(n:Nat)(coins:List (Nat×List Nat))(inner:List Nat)(a p:Lf)(O:List Nat)(e:Int)(v:Nat)(hi:inner.length=32)(k:n<coins.length)(hc:coins.length≤1000)
  (j:fm prog 46 [cE inner a.1 a.2] (.tup [.d (nb O),.d (.int .i64 e)])) :
  fm prog 32 [.agg (eS t (n:Int) coins),.d (.ro 34 [eP inner a,eP inner p]),.d (.int .u64 (v:Int))] (.tup [.agg (eS t (n:Int) (coins.set n (v,O))),.d (.bool (decide (e=0)))]):=by
 refine bL func32 ntmps32 (rs:=[.cell 6 28,.tmp 7]) (vJ t n coins inner a p v) ?_;have m:=nl hi a;have q:=uu inner a;have i:(au inner (.d (cz a.1)) (.d (nb a.2))).length=34:=lq hi _ _;have f:=lQ hi (.d (cz a.1)) (.d (nb a.2));have g:=qe inner (cz a.1) (nb a.2);unfold cE at j;obtain⟨C,h⟩:∃C,C=coins.set n (v,O):=⟨_,rfl⟩;rw[←h];simp[go_sem,eS,q,i,f];refine ag j g ?_;have c:=cm k;generalize coins[n]=o at c;simp[go_sem,c];refine⟨aq,k,?_⟩
 have b:(List.map ((fun r=>List.map AV.d r)∘eO) coins).set n [AV.d (.int .u64 (v:Int)),.d (nb O)]=C.map coR:=by
  rw[h,List.map_set];rfl
 simp only[eO,List.map_cons,List.map_nil,List.drop_succ_cons,List.drop_zero,List.length_cons,List.length_nil,b];refine⟨aq,?_⟩;refine VJ (coins:=C) (aM trivial) (am ?_);exact Rb (l:=C) rfl trivial (by rw[h,List.length_set])
def yT(P:List (Int×Int)×Int):AV:=.tup [.d (.ro 2 (P.1.map fi)),.d (.bool (decide (P.2=0)))]
theorem rV(t:Tn)(n:Nat)(coins:List (Nat×List Nat))(w:List (List Nat)):∀y,y∈[AV.agg (eS t (n:Int) coins),.d (.ro 1 (w.map bX))]→y.deep:=by
 intro y a;simp only[d_,List.mem_nil_iff,or_false]at a;rcases a with rfl|rfl;exact tK t (n:Int) coins _ aw;trivial
theorem tP(t:Tn)(n:Nat)(coins:List (Nat×List Nat)):∀N,∀v,v∈eS t (n:Int) coins→v.l N:=by
 intro N v a;simp[eS]at a;rcases a with rfl|rfl|rfl|rfl|rfl|rfl<;>trivial
theorem Ih (t:Tn) (n:Nat) (coins:List (Nat × List Nat)) (inner:List Nat) (l:Lf) (x k:List Nat) (o:Bool) (v:Nat) (things:List (List Nat)) (P:List (Int × Int) × Int) (hi:inner.length=32) (e:LfK inner l x k o) (K:coins[n]?=some (v,81 :: 32 :: k)) (ab:things.length≤100)
    (a:fm prog 53 [.agg (eS t (n:Int) coins),cE inner l.1 l.2,.d (.ro 1 (things.map bX)),.d (nb []),.d (.int .i64 1000)] (.tup [.d (.ro 2 (P.1.map fi)),.d (.int .i64 P.2)])) :
    fm prog 34 [.agg (eS t (n:Int) coins),.d (.ro 1 ((things++[l.2,iC o inner l.1]).map bX))] (yT P):=by
  refine bL func34 ntmps34 (rs:=[.tmp 4,.tmp 5]) (rV t n coins _) ?_;have f:=e.kl;have D:=Ol k f;have u:=QW hi e.p e.pl (by rw[e.s];exact e.xl) f f e.t;rw[if_pos rfl]at u;have i:∀y,y∈[AV.d (nb (iC o inner l.1)),.d (nb l.2),.agg (cb k)]→y.deep:=by
    intro y g;simp only[d_,List.mem_nil_iff,or_false]at g;rcases g with rfl|rfl|rfl
    · trivial
    · trivial
    · exact bp _
  have L:(eS t (n:Int) coins).length=6:=rfl;have A:List.take 6 (eS t (n:Int) coins)=eS t (n:Int) coins:=rfl;have X:(eS t (n:Int) coins)[4]?=some (.d (.int .i64 (n:Int))):=rfl;have e5:(eS t (n:Int) coins)[5]?=some (.d (.ro 2 (coins.map eO))):=rfl;have O:∀h:4<(eS t (n:Int) coins).length,(eS t (n:Int) coins)[4]'h=_:=fun h=>(List.getElem_of_getElem? X).2;have Z:∀h:5<(eS t (n:Int) coins).length,(eS t (n:Int) coins)[5]'h=_:=fun h=>(List.getElem_of_getElem? e5).2;have z:n<coins.length:=(ci.1 K).1;have H:∀h:n<coins.length,coins[n]'h=(v,81::32::k):=fun h=>(List.getElem_of_getElem? K).2;have I:eO (v,81::32::k)=[.int .u64 (v:Int),nb (81::32::k)]:=rfl;generalize hs:l.2=s at *;generalize hc:iC o inner l.1=c at *;generalize R:l.1=ps at *;have b:(things++[s,c]).length=things.length+2:=by simp
  have T:IntKind.i64.wrap ((things.length:Int)+2-1)=((things.length+1:Nat):Int):=by rw[IntWalk.i64_in _ aq];omega
  have Y:IntKind.i64.wrap ((things.length:Int)+2-2)=((things.length:Nat):Int):=by rw[IntWalk.i64_in _ aq];omega
  have M:IntKind.i64.wrap (things.length:Int)=(things.length:Int):=IntWalk.i64_in _ aq;have U:((things.length:Int)+1).toNat=things.length+1:=aq;have q1:¬(things.length:Int)+2<2:=aq;have k1:(things++[s,c])[things.length+1]?=some c:=by simp
  have k2:(things++[s,c])[things.length]?=some s:=by simp
  have V:∀h:things.length+1<(things++[s,c]).length,(things++[s,c])[things.length+1]'h=c:=fun h=>(List.getElem_of_getElem? k1).2;have m2:∀h:things.length<(things++[s,c]).length,(things++[s,c])[things.length]'h=s:=fun h=>(List.getElem_of_getElem? k2).2;have tk:List.take things.length (things++[s,c])=things:=by rw[List.take_left]
  have J:∀y,y∈[AV.agg (eS t (n:Int) coins),cE inner ps s,.d (.ro 1 (things.map bX)),.d (nb []),.d (.int .i64 1000)]→y.deep:=by
    intro y g;simp only[d_,List.mem_nil_iff,or_false]at g;rcases g with rfl|rfl|rfl|rfl|rfl
    · exact tK t (n:Int) coins _ aw
    · exact cY inner ps s _ (List.mem_singleton.2 rfl)
    · trivial
    · trivial
    · trivial
  unfold cE at a J;have F:=tP t n coins;have B:=tK t (n:Int) coins _ (List.mem_singleton.2 rfl);have C:=ja inner (cz ps) (nb s);generalize W:things++[s,c]=WW at *;generalize hS:eS t (n:Int) coins=S at *;have q:List.take 34 (au inner (.d (cz ps)) (.d (nb s)))=au inner (.d (cz ps)) (.d (nb s)):=cx (by rw[ZQ hi];omega);have zl:(au z32 .nil .nil).length=34:=rfl;have Q:List.drop 34 (au z32 .nil .nil)=[]:=rfl;have m:=ZQ hi (.d (cz ps)) (.d (nb s));simp[go_sem,L,b,q1,O,Z,H,z,I];refine ag D a9 ?_;simp[go_sem,aj,f,cf];refine dI [0,1,2,3,4,5,6,7,8,9,10] [11,15,16,17] [0,1,2,3,4,5,6,7,8,9,10,12,13,14] (.alt (.step 11 [12,13,14] true (bt 15 (bt 16 (a_ [17])))) (bt 15 (.step 11 [12,13,14] true (bt 16 (a_ [17]))))) ⟨[(1,.d (.ro 1 (WW.map bX))),(2,.ptr 0 0 0 1),(6,.d (.int .i64 ((things.length:Int)+2))),(8,.d (.bool true)),(9,.ptr 1184 0 0 1),(10,.d (.int .i64 0))],[(1184,⟨33,34,[au inner (.d (cz ps)) (.d (nb s))]⟩),(0,⟨28,6,[S]⟩)],9000⟩ (k:=18) ?h3 ?hq
  case h3 =>
    intro G w;simp (config := { maxSteps := 3000000 }) [go_sem,b,T,Y,M,U,V,m2,bX,aj,f,al f]
    repeat' first
      |apply And.intro
      |omega
      | (refine ag u i ?_
         simp (config := { maxSteps := 3000000 }) [go_sem,zl,Q,m,q])
      | (refine w _ _ (b8 ⟨by simp [ai,fv,lk,AV.low,AV.l,nb],?_,aw⟩)
         intro p N;simp only[d_,List.mem_nil_iff,or_false]at N;rcases N with rfl|rfl
         · refine ⟨.inl (by simp [lk]),by show 1184<9000;omega,?_⟩
           intro r j v E;simp only[d_,List.mem_nil_iff,or_false]at j;subst j;exact dU 9000 inner (.d (cz ps)) (.d (nb s)) trivial trivial v E
         · refine ⟨.inl (by simp [lk]),by show 0<9000;omega,?_⟩
           intro r j v E;simp only[d_,List.mem_nil_iff,or_false]at j;subst j
           exact F 9000 v E)
  case hq =>
    simp[go_sem];refine cK [0,1,2,3,4,5] [(6,[7,8,9,10,11])] 1 (k:=12) ?_;intro G w;simp[go_sem,L,A,m,q,M,b];refine⟨aq,?_⟩;rw[←List.map_take,tk];refine bJ [] a rfl (ak (.deep B) (ak (.deep C) (ak (.deep trivial) (ak (.one (am (.nil 1))) (ak (.deep trivial) aF))))) ?_;simp[go_sem,aC];refine w _ _ ?_;clear w G;simp[go_sem,ah];exact aa (by simp[AV.deep,AV.deep1]) rfl
theorem Rf{xs:List (List Nat)}{l:Lf}(h:l∈nn (bS xs) xs):(∀p,p∈l.1→p.length=32)∧l.1.length≤7∧l.2∈xs:=by
 obtain⟨j,a,b⟩:=Di h;refine⟨?_,?_,b⟩;rw[a];exact tO 7 (fS xs) (fun _=>[]) (sR xs) (fun j p c=>by simp at c) j
 rw[a];have:=qI 7 (fS xs) (fun _=>[]) 0 (fun _=>by simp) j;show((eg 7 (fS xs) fun _=>[]).2 j).length≤7;omega
theorem uT{t d b r:List Nat}(c:bc t=d)(a:bc (d++(d++b))=r):fQ t b=r:=by unfold fQ;rw[c];exact a
theorem Rh:qM []=dR0:=by
 have e:az ([]:List Nat).length++[]=(0::[]):=by kernel_rfl
 unfold qM;rw[e];exact uT ZU ZW
theorem FY:bw (ie [])=scX:=by
 unfold ie;rw[Rh]
 kernel_rfl
theorem VK:bw (je z32 3)=Q7:=by kernel_rfl
def t9:List Nat:=9::(z32.drop 1)
theorem Kt:bw (df t9 3)=zx:=by kernel_rfl
theorem Dm{x:List Nat}{n:Nat}{d:List Nat}(h:az x.length++x=n::x)(a:bc (Ic++(Ic++(192::n::x)))=d):eD x=d:=by
 unfold eD;rw[h];exact uT ZV a
theorem WO:eD scX=dX:=Dm (by kernel_rfl) acX
theorem Z6:eD Q7=VE:=Dm (by kernel_rfl) ZX
theorem Z7:eD zx=VF:=Dm (by kernel_rfl) ZY
theorem VL:cG dX VE=dB1:=by
 have e:(if 0<Lib.compareBytes (nR dX) (nR VE)then VE++dX else dX++VE)=VE++dX:=by kernel_rfl
 unfold cG;rw[e];exact uT Q5 ZZ
theorem VM:cG dX VF=dB2:=by
 have e:(if 0<Lib.compareBytes (nR dX) (nR VF)then VF++dX else dX++VF)=VF++dX:=by kernel_rfl
 unfold cG;rw[e];exact uT Q5 Z1
theorem WP(X Y:List Nat):∀l,l∈nn (bS [X,Y]) [X,Y]→jS l.1 (eD l.2)=cG (eD X) (eD Y):=by
 obtain⟨h,b⟩:=FQ [X,Y] aw;have a:=b (bS [X,Y] 0,X) (by simp[nn]);have d:bS [X,Y] 0=[eD Y]:=by simp[bS,fS,eg,gJ,cM,dW]
 rw[d]at a;intro l c;rw[b l c,←a];rfl
theorem Ii:bG.length=32:=by kernel_rfl
theorem FZ:bytes bG:=by
 have h:bG.all (fun x=>Nat.blt x 256)=true:=by kernel_rfl
 intro x a;exact dN (fa.1 h x a)
theorem F2(xs:List (List Nat))(B D:List Nat)(j:∀x,x∈xs→x.length≤1000)(p:∀l,l∈nn (bS xs) xs→jS l.1 (eD l.2)=B)(u:fQ kn (bG++B)=D)
  (t:gv D<115792089237316195423570985008687907852837564279074904382605163141518161494337) (y:mp fd (1+gv D) (PV gX gY false)≠none) :
  ∃O:Lf→List Nat,∀l,l∈nn (bS xs) xs→fm prog 46 [.agg (au bG (.d (cz l.1)) (.d (nb l.2)))] (.tup [.d (nb (O l)),.d (.int .i64 0)]):=by
 have g:∀ l,∃ a:List Nat,l ∈ nn (bS xs) xs→fm prog 46 [.agg (au bG (.d (cz l.1)) (.d (nb l.2)))] (.tup [.d (nb a),.d (.int .i64 0)]):=by
  intro l;by_cases h:l∈nn (bS xs) xs;obtain⟨A,C,i⟩:=Rf h;obtain⟨k,o,e,z,v,E,m,_,b⟩:=qC bG l.1 l.2 Ii FZ A aq (by have:=j _ i;omega);have f:e=0:=by
   have c:=tm CV;rcases b with ⟨n,_⟩|⟨_,b⟩;exact absurd ⟨aq,j _ i⟩ n;rw[p l h,u]at b;rcases b with ⟨q,_⟩|⟨_,f,_⟩;rcases q with q|q;exact absurd ⟨LY,t⟩ q;unfold turnQ at q;rw[LZ,←HF fd c]at q;exact absurd q y;exact f
  subst f;exact⟨81::32::k,fun _=>nF Ii z m⟩;exact⟨[],fun w=>absurd w h⟩
 obtain⟨F,s⟩:=Classical.axiomOfChoice g;exact⟨F,s⟩
theorem ae0:∃O:Lf→List Nat,∀l,l∈nn (bS [bw (ie []),bw (je z32 3)]) [bw (ie []),bw (je z32 3)]→fm prog 46 [.agg (au bG (.d (cz l.1)) (.d (nb l.2)))] (.tup [.d (nb (O l)),.d (.int .i64 0)]):=by
 rw[FY,VK];have a:gv dT1=9422285451324570057901192470951034667041824789260974292028693021899629171894:=by kernel_rfl
 refine F2 [scX,Q7] dB1 dT1 ?_ ?_ (uT Q6 Z0) (by rw[a];omega) (by rw[a];exact Z3);intro x b;simp only[d_,List.mem_nil_iff,or_false]at b;rcases b with rfl|rfl<;>exact dN (by kernel_rfl);intro l c;rw[WP _ _ l c,WO,Z6,VL]
theorem ae1:∃O:Lf→List Nat,∀l,l∈nn (bS [bw (ie []),bw (df t9 3)]) [bw (ie []),bw (df t9 3)]→fm prog 46 [.agg (au bG (.d (cz l.1)) (.d (nb l.2)))] (.tup [.d (nb (O l)),.d (.int .i64 0)]):=by
 rw[FY,Kt];have a:gv dT2=4449286791923882000517327537479225864197293264887270585588255640113699980116:=by kernel_rfl
 refine F2 [scX,zx] dB2 dT2 ?_ ?_ (uT Q6 Z2) (by rw[a];omega) (by rw[a];exact Z4);intro x b;simp only[d_,List.mem_nil_iff,or_false]at b;rcases b with rfl|rfl<;>exact dN (by kernel_rfl);intro l c;rw[WP _ _ l c,WO,Z7,VM]
def zPn:List AV:=cb z32++[.nil,.d (.int .i64 0)]++cb z32
theorem ac2:gi prog 76=some zPn:=by kernel_rfl
attribute [go_sem] ac2
theorem AX:fm prog 68 [] (.agg (cb bG)):=by
 refine bL func68 ntmps68 (rs:=[.cell 0 29]) aw ?_;simp[go_sem];exact aa (v:=.agg (cb bG)) (bp bG) rfl
def AY(inner:List Nat)(d:Int):List AV:=cb inner++([.nil,.d (.int .i64 d)]++cb z32)
theorem yU{hp:Hp}{I:Nat→Prop}(inner:List Nat)(d:Int):Snap hp I (.agg (AY inner d)) (.agg (cg inner [] d z32)) :=
 .agg ⟨by simp[AY,cg],Ag _ (bp _) (ax (am (.nil 1)) (ax (aM trivial) (fun i c e b a=>by
  rw[b]at a;cases a
  exact aM (bp _ _ (cr b)))))⟩
theorem Ri(inner:List Nat)(l:Lf)(hi:inner.length=32):(eP inner l)[33]?=some (nb l.2):=by
 unfold eP;rw[dn (by rw[b7];omega),b7,hi];rfl
theorem L9(inner:List Nat)(l:Lf)(hi:inner.length=32)(h:33<(eP inner l).length):(eP inner l)[33]=nb l.2:=by
 have:=Ri inner l hi;rw[cm h]at this;exact Option.some.inj this
theorem Ku:zPn.length=66:=rfl
theorem Md{inner:List Nat}(hi:inner.length=32)(d:Int):(AY inner d).length=66:=by simp[AY,aj,hi];rfl
theorem Rj{inner:List Nat}(hi:inner.length=32)(d:Int):List.take 33 (cb inner++List.drop 32 zPn)++AV.d (DV.int IntKind.i64 d)::List.drop 34 (cb inner++List.drop 32 zPn)=AY inner d:=by
 have e:List.drop 32 zPn=.nil::.d (.int .i64 0)::cb z32:=rfl;have a:(cb inner).length=32:=by rw[aj,hi]
 rw[e,List.take_append,List.drop_append,cx aq,c_ aq,a];simp[AY]
theorem F3(inner X Y:List Nat):fJ inner [X,Y] (fun _=>0)=.tup [.d (.ro 34 [eP inner (bS [X,Y] 0,X),eP inner (bS [X,Y] 1,Y)]),.d (.int .i64 0)]:=by
 unfold fJ;rw[if_neg (by simp[sT])];rfl
theorem gW:fm prog 29 [] (.d (.bool true)):=by
 refine bL func29 ntmps29 (rs:=[.tmp 0]) aw ?_;have t:bytes z32:=fun x h=>by simp[z32]at h;omega
 have l:z32.length=32:=rfl;have o:t9.length=32:=rfl;have q:bytes t9:=fun x h=>by simp[t9,z32]at h;omega
 have a:=Ii;have y:=Md a 3;obtain⟨B,f⟩:=ae0;obtain⟨D,j⟩:=ae1;obtain⟨F,w,k,_⟩:=uS bG (bw (ie [])) (bw (je z32 (-1))) a FZ (by have:=pF [];omega) (by have:=uR (-1) l;omega);have p:qG bG [] 3 z32 (fun _=>0)=fJ bG [bw (ie []),bw (je z32 3)] (fun _=>0):=if_pos ⟨aq,aq,aw⟩;rw[F3]at p;have e:=rU bG [] 3 z32 a l t aq aq B (fun _=>0) f;rw[p]at e;have c:=vD bG [] 3 z32 t9 a l o q aq aq _ (.inr ⟨aw,_,rfl⟩) e D (fun _=>0) j;simp only[okV,↓reduceIte]at c;rw[F3,Kt]at c;have i:=rU bG [] (-1) z32 a l t aq aq F w k;have v:qG bG [] (-1) z32 w=.tup [.nil,.d (.int .i64 1)]:=if_neg aq;rw[v]at i;generalize bS [bw (ie []),zx] 0=p0 at c;generalize bS [bw (ie []),zx] 1=p1 at c;generalize bw (ie [])=xr at c;clear e p v f j k;have m:=Rj a 3;have s:=Rj a (-1);have E:AV.d (DV.int IntKind.u8 9)::(cb z32).tail=cb t9:=rfl;simp[go_sem];refine ag AX aw ?_;simp[go_sem,a,aj,Ku,m,E];refine bJ [] c rfl (ak (yU bG 3) (ak (.deep (bp _)) aF)) ?_;simp[go_sem];refine ag AX aw ?_;simp[go_sem,a,aj,Ku,s];refine bJ [] i rfl (ak (yU bG (-1)) aF) ?_;have u:zx.length=37:=by kernel_rfl
 have z:zx.drop 33=[83,178,117,179]:=by kernel_rfl
 generalize zx=Y at *;have A:=nl a (p1,Y);have C:=L9 bG (p1,Y) a;simp[go_sem,A,C,nb,u]
 have g:List.drop 33 (List.take 37 (List.map (fun(b:Nat)=>[DV.int IntKind.u8 (b:Int)]) Y))=[83,178,117,179].map fun(b:Nat)=>[DV.int IntKind.u8 (b:Int)]:=by
  rw[cx (by simp[u]),←List.map_drop,z]
 rw[g];refine ZM [83,178,117,179] 5 (by intro x h;simp at h;omega) (by simp[go_sem]) (by simp[go_sem]) underlying5 ?_;simp[go_sem,sb,ah];exact aa a9 rfl
def mK(things:List (List Nat))(x c:List Nat)(e:Int):AV:=if e=0 then .tup [.d (.ro 1 ((things++[x,c]).map nU)),.d (.int .i64 0)]else .tup [.nil,.d (.int .i64 1)]
def tQ(things:List (List Nat)):List (List AV):=things.map fun y=>[.d (nb y)]
theorem Rk(n:Nat)(things:List (List Nat)):∀r,r∈tQ things→∀v,v∈r→v.l n:=by
 intro r b v a;obtain⟨y,_,rfl⟩:=List.mem_map.1 b;simp at a;subst a;trivial
theorem yV(inner:List Nat)(a b:DV)(n:Nat):∀v,v∈au inner (.d a) (.d b)→v.l n:=by
 intro v c;unfold au at c;rcases cD.1 c with h|h;exact aI _ _ _ h;simp at h;rcases h with rfl|rfl<;>trivial
theorem Rl(things:List (List Nat)):tQ things=(things.map nU).map fun r=>r.map AV.d:=by simp[tQ,nU]
theorem Rm{Q:AV→Prop}{st:St}{id n:Nat}{L:List (List Nat)}(a:L.length=n)(b:lk id st.hp=some ⟨31,1,tQ L⟩)(hq:Q (.tup [.d (.ro 1 (L.map nU)),.d (.int .i64 0)])):dG Q (.tup [.own id 0 n n,.d (.int .i64 0)]) st :=
 eC (ax (am (eB (es:=L.map nU) (by rw[b,Rl]) trivial (by simp[a]) (by simp[nU]))) (ax (aM trivial) ca)) rfl a9 hq
theorem Ij(inner:List Nat)(ps:List (List Nat))(x c:List Nat)(e:Int)(things:List (List Nat))(hi:inner.length=32)(t:x.length≤100000)(p:e=0∨e=1)(hc:fm prog 118 [cE inner ps x] (.tup [.d (nb c),.d (.int .i64 e)]))
  (s:things.length≤1000) (o:∀y,y∈things→y.length≤100000) :
  fm prog 75 [cE inner ps x,.d (.ro 1 (things.map nU))] (mK things x c e):=by
 refine bL func75 ntmps75 (rs:=[.tmp 4,.tmp 5]) (by
  intro v g;simp at g;rcases g with rfl|rfl;exact ja _ _ _
  trivial) ?_
 have i:(au inner (.d (cz ps)) (.d (nb x))).length=34:=lq hi _ _;have b:=lQ hi (.d (cz ps)) (.d (nb x));unfold cE at *;unfold mK;rcases p with rfl|rfl
 ·rw[if_pos rfl];simp[go_sem,i,b];refine ag hc (qe _ _ _) ?_;simp[go_sem]
  refine av (fun k:Nat=>⟨[(2,.ptr 0 0 0 1),(6,.d (nb c)),(8,.own 1000 0 k k),(19,.d (.ro 1 (things.map nU))),(20,.d (.int .i64 (things.length:Int))),(21,.d (.int .i64 (k:Int)))],[(0,⟨33,34,[au inner (.d (cz ps)) (.d (nb x))]⟩),(1000,⟨31,1,tQ (things.take k)⟩)],1001⟩)
   (fun k=>k≤things.length) (fun k=>things.length-k) 0 aq (by
    simp[aA,ai,fv,lk,AV.low,AV.l,tQ]
    exact yV _ _ _ _) ?_
  intro k u;simp[go_sem];refine⟨fun h=>?_,fun h=>?_⟩
  ·obtain⟨y,j⟩:∃y,things[k]?=some y:=⟨_,cm h⟩;have q:=ay (k:=k) aq;have a:(tQ (things.take k)).length=k:=by simp[tQ];omega
   simp[go_sem,j,nU];refine ag (eo y (by have:=o y (cr j);omega)) a9 ?_;simp[go_sem,a,q];refine⟨aq,?_⟩;refine ao (k+1) aq aq ?_;have f:tQ (things.take (k+1))=tQ (things.take k)++[[.d (nb y)]]:=by rw[List.take_add_one,j];simp[tQ]
   simp[aA,ai,fv,lk,AV.low,AV.l,f];refine⟨yV _ _ _ _,fun r l=>?_⟩;rcases l with l|rfl;exact Rk _ _ r l;intro v g;simp at g;subst g;trivial
  ·have a:k=things.length:=aq;subst a;have a:(tQ things).length=things.length:=(by simp[tQ]);have m:(au inner (.d (cz ps)) (.d (nb x)))[33]?=some (.d (nb x)):=lK hi _ _;simp[go_sem,m];refine ag (eo x aq) a9 ?_;simp[go_sem,a,ah];refine⟨aq,?_⟩;exact Rm (L:=things++[x,c]) aw (by simp[lk,tQ]) aw
 ·rw[if_neg aq];simp[go_sem,i,b];refine ag hc (qe _ _ _) ?_;simp[go_sem,ah];exact aa a9 rfl
theorem zy(things:List (List Nat))(x c:List Nat)(e:Int):mK things x c e=.tup [.nil,.d (.int .i64 1)]∨mK things x c e=.tup [.d (.ro 1 ((things++[x,c]).map nU)),.d (.int .i64 0)]:=by
 unfold mK;split;exact .inr rfl;exact .inl rfl
theorem zA(inner b:List Nat)(d:Int)(a t:List Nat)(hi:inner.length=32)(e:a.length=32)(c:t.length=32)
  (hp:fm prog 31 [.agg (cg inner b d a),.agg (cb t)] (.tup [.nil,.d (.int .i64 1)])) :
  fm prog 35 [.agg (cg inner b d a),.agg (cb t)] (.tup [.nil,.d (.int .i64 1)]):=by
 refine bL func35 ntmps35 (rs:=[.tmp 4,.tmp 5]) (jO _ _ _ _ _) ?_;have f:=ep hi e b d;simp[go_sem,f,bF hi e,aj,c,al c];refine ag hp (jO _ _ _ _ _) ?_;simp[go_sem,ah];exact aa a9 rfl
theorem zB(inner f:List Nat)(d:Int)(a t:List Nat)(hi:inner.length=32)(j:a.length=32)(h:t.length=32)(l b:Lf)
  (hp:fm prog 31 [.agg (cg inner f d a),.agg (cb t)] (.tup [.d (.ro 34 [eP inner l,eP inner b]),.d (.int .i64 0)]))
  (c:List Nat) (e:Int) (m:b.2.length≤100000) (p:e=0∨e=1) (hc:fm prog 118 [cE inner b.1 b.2] (.tup [.d (nb c),.d (.int .i64 e)])) :
  fm prog 35 [.agg (cg inner f d a),.agg (cb t)] (mK [] b.2 c e):=by
 refine bL func35 ntmps35 (rs:=[.tmp 4,.tmp 5]) (jO _ _ _ _ _) ?_;have k:=ep hi j f d;have i:=Ij inner b.1 b.2 c e [] hi m p hc aw aw;have o:=zy [] b.2 c e;generalize mK [] b.2 c e=V at *;have g:=nl hi b;simp[go_sem,k,bF hi j,aj,h,al h];refine ag hp (jO _ _ _ _ _) ?_;simp[go_sem,g,uu,lq hi,lQ hi];refine bJ [] i rfl (ak (.deep (ja _ _ _)) (ak (.one (am (.nil 1))) aF)) ?_;rcases o with rfl|rfl
 ·simp[go_sem,ah];exact aa a9 rfl
 ·simp[go_sem,ah];exact aa a9 rfl
theorem Ro(t:Tn)(m:Nat)(coins:List (Nat×List Nat))(inner:List Nat)(l:Lf)(x k:List Nat)(o:Bool)(v:Sm t)(hc:WL coins)(h:∀o,o∈coins→bytes o.2)(f:∀o,o∈t.outs→bytes o.2)(hi:inner.length=32)(c:bytes inner)(b:LfK inner l x k o)(u:bytes x) :
  ∃(sg:bm→bm→bm→Bool)(msg:bm)(out:bm→bm×Int),∀a:List (List Nat),StOk a []→∀P,P=Ia ⟨t,(m:Int),coins,inner,l.1,x,[],[],1000⟩ (xK ⟨t,(m:Int),coins,inner,l.1,x,[],[],1000⟩ sg msg out) x a →
   fm prog 53 [.agg (eS t (m:Int) coins),cE inner l.1 l.2,.d (.ro 1 (a.map bX)),.d (nb []),.d (.int .i64 1000)] (.tup [.d (.ro 2 (P.1.map fi)),.d (.int .i64 P.2)]):=by
 let C:CsF:=⟨t,(m:Int),coins,inner,l.1,x,[],[],1000⟩
 have q:CsOk C:=⟨v,hc,fun o j=>⟨h o j,(hc.2 o j).1⟩,f,hi,c,b.xl,b.p,by have:=b.pl;show l.1.length≤1000;omega,by show([]:List Nat).length≤1000;simp,⟨by show _≤(1000:Int);omega,by show(1000:Int)<_;omega⟩⟩;obtain⟨sg,i⟩:=acR;obtain⟨out,e⟩:=Vz inner l.1 hi c b.p (by have:=b.pl;omega);obtain⟨msg,w⟩:=ZS C q i e x u (by have:=b.xl;omega);refine⟨sg,msg,out,fun a g P y=>?_⟩;subst y;rw[b.s];exact w a g
theorem VN{t:Tn}{m v:Nat}{coins:List (Nat×List Nat)}{s:List Nat}(h:bI t (m:Int) coins=0)(e:s.length≤1000):bI t (m:Int) (coins.set m (v,s))=0:=by
 unfold bI at h⊢;split at h;cases h;rename_i d;rw[if_neg];intro b;refine d ?_;rcases b with a|a|a|a|a;exact .inl a;rw[List.length_set]at a;exact .inr (.inl a);exact .inr (.inr (.inl a));rw[List.length_set]at a;exact .inr (.inr (.inr (.inl a)));refine .inr (.inr (.inr (.inr ?_)));cases hc:cT 1000 coins with
 |false=>rfl
 |true =>
  rw[←a];unfold cT at hc⊢;rw[fa]at hc;refine(fa.2 fun o c=>?_).symm;rcases List.mem_or_eq_of_mem_set c with q|rfl;exact hc o q;exact decide_eq_true e
theorem Kv{m v:Nat}{coins:List (Nat×List Nat)}{s:List Nat}(h:WL coins)(c:v<18446744073709551616)(b:s.length≤1100):WL (coins.set m (v,s)) :=
 ⟨by rw[List.length_set];exact h.1,fun o a=>by
  rcases List.mem_or_eq_of_mem_set a with q|rfl;exact h.2 o q
  exact⟨c,b⟩⟩
theorem AZ{m v:Nat}{coins:List (Nat×List Nat)}{s:List Nat}(h:∀o,o∈coins→bytes o.2)(b:bytes s):∀o,o∈coins.set m (v,s)→bytes o.2:=fun o a=>by
 rcases List.mem_or_eq_of_mem_set a with q|rfl;exact h o q;exact b
theorem A0{k:List Nat}(h:bytes k):bytes (81::32::k):=by
 intro y a;simp only[d_]at a;rcases a with rfl|rfl|a;omega;omega;exact h y a
theorem VO{n:Nat}{b:List DV}(h:kH prog (n+1) 2 b):∃x:Int,b=[.int .i64 x]∧-9223372036854775808≤x∧x<9223372036854775808:=by
 rw[kH]at h;simp only[underlying2]at h;obtain⟨x,rfl,c⟩:=h;have a:-9223372036854775808≤x∧x<9223372036854775808:=by simp[IntKind.has,IntKind.min,IntKind.max,IntKind.signed,IntKind.bits]at c;omega
 exact⟨x,rfl,a⟩
theorem Rq{n:Nat}{a:AV}(h:sF prog (n+4) 76 a):∃(inner e:List Nat)(d:Int)(c:List Nat),a=.agg (cg inner e d c)∧inner.length=32∧bytes inner∧bytes e∧(-9223372036854775808≤d∧d<9223372036854775808)∧c.length=32∧bytes c:=by
 unfold sF at h;simp only[underlying76]at h;obtain⟨z,rfl,h⟩:=h;rw[kH]at h;simp only[underlying76,List.map_cons,List.map_nil]at h;obtain⟨a,b,rfl,v,g,l,x,rfl,k,f,u,b3,rfl,hc,i,t,b4,rfl,w,j,rfl⟩:=h;obtain⟨inner,rfl,r,p⟩:=BD g;rw[show prog.cellsOf 31=1 by kernel_rfl]at k;obtain⟨d,rfl,m⟩:=VO i;obtain⟨c,rfl,o,s⟩:=BD j
 match l,k,f with
 |[y],_,f =>
  obtain⟨e,rfl,_,q⟩:=xG f;exact⟨inner,e,d,c,by simp[cg,dc],r,p,q,m,o,s⟩
theorem Rr(d:Nat)(h:d≤65535):(dk (d:Int)).length≤3:=by
 have g:∀(k m:Nat),m<256 ^ k→(vQ 8 m).length≤k∨8<k:=by
  intro k
  suffices ∀(f k m:Nat),m<256 ^ k→(vQ f m).length≤k by
   intro m c;exact .inl (this 8 k m c)
  intro f
  induction f with
  |zero=>intro k m _;simp[vQ]
  | succ f ih =>
   intro k m c;rw[vQ];split;simp;cases k with
   |zero=>simp at c;omega
   |succ k =>
    rw[List.length_cons];have:=ih k (m/256) (by rw[Nat.pow_succ]at c;omega);omega
 have e:=(g 2 d aq).resolve_right aq;unfold dk;rw[Int.natAbs_natCast];generalize vQ 8 d=b at e;rcases eF b with rfl|⟨a,x,rfl⟩;simp[GW];rw[nk];unfold jl;simp only[b_,List.length_cons,List.length_nil]at e;split;split<;>simp<;>omega;split<;>simp<;>omega
theorem A3(m:List (List Nat))(b:List Nat)(bud:Int):nu ⟨m++[b],[],[],bud,[],0⟩=(b,⟨m++[b],[],[],bud,[],0⟩):=by
 unfold nu;rw[if_neg aw];simp only[List.getLastD_concat]
theorem Rt{k:Int}{m a:List bm}{br:List Bool}{bud:Int}{cl:List (Int×Int)}(b:k≠0):Ig (aB k ⟨m,a,br,bud,cl,0⟩)=([],k):=by
 have e:aB k ⟨m,a,br,bud,cl,0⟩=⟨m,a,br,bud,cl,k⟩:=rfl;have d:(om ⟨m,a,br,bud,cl,k⟩).e=k:=by
  have f:∀(x:Int)(q:Rn),q.e≠0→aB x q=q:=fun x q c=>by unfold aB;rw[if_neg c]
  unfold om;simp only;split;rw[f 18 ⟨m,a,br,bud,cl,k⟩ b];split;rfl;rw[f 25 ⟨m,a,br,bud,cl,k⟩ b];split;rfl;rw[f 25 ⟨m,a,br,bud,cl,k⟩ b]
 rw[e];unfold Ig;rw[d,if_neg b]
def Dn(x:Rx)(d:Int):Prop:=¬x.ver<2∧gw 31 x.seq=false∧gw 22 x.seq=false∧¬x.seq%65536<d
theorem Ru{x:Rx}{U:List Nat}{d:Nat}{bud:Int}(J:U.length=32)(B:d≤65535) :
  (zo x (bw (df U (d:Int))) [] bud).1=[]∧((zo x (bw (df U (d:Int))) [] bud).2=0↔Dn x (d:Int)∧U=x.tpl∧gu U=true):=by
 have E:=Rr d B;have j:∀y,y∈[]++[U]→y.length≤520:=by
  intro y a;have:y=U:=by simpa using a
  subst this;omega
 have r:∀y,y∈[U]++[dk (d:Int)]→y.length≤520:=by
  intro y a;simp at a;rcases a with rfl|rfl<;>omega
 have c:∀w,w∈df U (d:Int)→w.2.length≤65535∧(ef w).2=true:=by
  intro w c;simp only[df,d_]at c;rcases c with rfl|c;exact⟨L0 _ aq,my aq⟩;have h:=sU (d:Int) w c;exact⟨by have:=h.1.1;omega,h.2⟩
 have g:(df U (d:Int)).length≤(bw (df U (d:Int))).length+1:=by
  simp only[df,fU,bw,List.map_cons,List.map_nil,List.flatten_cons,b_,List.length_cons,List.length_nil,K0];omega
 rw[L6 (df U (d:Int)) _ _ c (e9 aw aw) g];have i:gK 5 (dk (d:Int))=some (d:Int):=TT aq aq aq;simp only[df,fU,List.foldl_cons,List.foldl_nil,↓reduceIte];have A:=Q9 (b:=U) (m:=[]) (bud:=bud) (cl:=[]) j aw;have u:=Q9 (b:=dk (d:Int)) (m:=[U]) (bud:=bud) (cl:=[]) r aw;rw[AO x _ aq rfl,A,if_pos rfl,AO x _ aq rfl];simp only[List.nil_append]at u⊢;rw[u,if_pos rfl,Dh x _ Z5.1 aq rfl];have C:mF ⟨[U]++[dk (d:Int)],[],[],bud,[],0⟩=((d:Int),⟨[U]++[dk (d:Int)],[],[],bud,[],0⟩):=by
  unfold mF;rw[A3];simp only[↓reduceIte,i];rw[if_neg aq]
 have b31:gw 31 (d:Int)=false:=by unfold gw;simp only[decide_eq_false_iff_not];rw[Int.fdiv_eq_ediv_of_nonneg _ aq];omega
 have b22:gw 22 (d:Int)=false:=by unfold gw;simp only[decide_eq_false_iff_not];rw[Int.fdiv_eq_ediv_of_nonneg _ aq];omega
 have f:(d:Int)%65536=(d:Int):=Int.emod_eq_of_lt aq aq;have G:yl x 178 ⟨[U]++[dk (d:Int)],[],[],bud,[],0⟩=if(decide (x.ver<2)||gw 31 x.seq||(false != gw 22 x.seq)||decide (x.seq%65536<(d:Int)))=true then aB 22 ⟨[U]++[dk (d:Int)],[],[],bud,[],0⟩else⟨[U]++[dk (d:Int)],[],[],bud,[],0⟩:=by
  show Ce x _=_;unfold Ce;simp only[C,b31,b22,f,Bool.false_eq_true,if_false]
 rw[G];by_cases k:Dn x (d:Int)
 case neg =>
  have hc:(decide (x.ver<2)||gw 31 x.seq||(false != gw 22 x.seq)||decide (x.seq%65536<(d:Int)))=true:=by
   by_cases hc:(decide (x.ver<2)||gw 31 x.seq||(false != gw 22 x.seq)||decide (x.seq%65536<(d:Int)))=true;exact hc;exfalso;simp only[Bool.not_eq_true,Bool.or_eq_false_iff,decide_eq_false_iff_not]at hc;obtain⟨⟨⟨t,s⟩,q⟩,z⟩:=hc;exact k ⟨t,s,by cases l:gw 22 x.seq<;>simp[l]at q⊢,z⟩
  rw[if_pos hc];have v:(aB 22 ⟨[U]++[dk (d:Int)],[],[],bud,[],0⟩).e≠0:=by show(22:Int)≠0;omega
  rw[if_neg v,if_neg v,Rt aq];exact⟨rfl,fun h=>absurd h (by show ¬(22:Int)=0;omega),fun h=>absurd h.1 k⟩
 have hc:¬(decide (x.ver<2)||gw 31 x.seq||(false != gw 22 x.seq)||decide (x.seq%65536<(d:Int)))=true:=by
  obtain⟨t,s,q,z⟩:=k;simp[t,s,q];omega
 rw[if_neg hc,if_pos rfl,Dh x _ Z5.2.1 aq rfl];have H:yl x 117 ⟨[U]++[dk (d:Int)],[],[],bud,[],0⟩=⟨[U],[],[],bud,[],0⟩:=by
  show(let dd:=xZ x.h1 x.h2 117 ([U]++[dk (d:Int)]) [];{ aB dd.2.2 ⟨[U]++[dk (d:Int)],[],[],bud,[],0⟩with main:=dd.1,alt:=dd.2.1 })=_;have F:xZ x.h1 x.h2 117 ([U]++[dk (d:Int)]) []=([U],[],0):=by
   have I:jC 117 ⟨[U]++[dk (d:Int)],[],0⟩=some ⟨[U],[],0⟩:=by
    simp[jC,c7,aT]
   unfold xZ;rw[I];simp only[dR,↓reduceIte];rw[if_pos (e9 (by intro y a;exact j y (by simpa using a)) aw)]
  simp only[F];rfl
 rw[H,if_pos rfl,Dh x _ Z5.2.2 aq rfl];have D:yl x 179 ⟨[U],[],[],bud,[],0⟩=if U=x.tpl then⟨[U],[],[],bud,[],0⟩else aB 23 ⟨[U],[],[],bud,[],0⟩:=by
  show Cf x _=_;unfold Cf;rw[show([U]:List bm)=[]++[U]from rfl,A3]
 rw[D];by_cases o:U=x.tpl
 case neg =>
  rw[if_neg o,Rt aq];exact⟨rfl,fun h=>absurd h (by show ¬(23:Int)=0;omega),fun h=>absurd h.2.1 o⟩
 rw[if_pos o];cases l:gu U with
 | true =>
  have:Ig ⟨[U],[],[],bud,[],0⟩=([],0):=by
   have p:om ⟨[U],[],[],bud,[],0⟩=⟨[U],[],[],bud,[],0⟩:=by
    unfold om;simp[l]
   unfold Ig;rw[p];rfl
  rw[this];exact⟨rfl,fun _=>⟨k,o,rfl⟩,fun _=>rfl⟩
 | false =>
  have:Ig ⟨[U],[],[],bud,[],0⟩=([],25):=by
   have p:om ⟨[U],[],[],bud,[],0⟩=aB 25 ⟨[U],[],[],bud,[],0⟩:=by
    unfold om;simp[l]
   unfold Ig;rw[p];rfl
  rw[this];exact⟨rfl,fun h=>absurd h (by show ¬(25:Int)=0;omega),fun h=>absurd h.2.2 aw⟩
def bD(t:Tn)(m:Nat)(i:Ip)(v s:Nat):Tn:=⟨v,t.ins.set m ⟨i.hash,i.idx,s,i.wit⟩,t.outs,t.lock⟩
theorem yW{f:Ip→List Nat}:∀(l:List Ip)(m:Nat)(i b:Ip),l[m]?=some i→(f b).length=(f i).length→((l.set m b).map f).flatten.length=(l.map f).flatten.length
 |[],m,i,b,h,_=>by simp at h
 |a::l,0,i,b,h,e=>by
  simp at h;subst h;simp[e]
 |a::l,m+1,i,b,h,e=>by
  have:=yW l m i b (by simpa using h) e;simp only[List.set_cons_succ,List.map_cons,List.flatten_cons,b_,this]
theorem Me{t:Tn}{m v s:Nat}{i:Ip}(h:t.ins[m]?=some i):(gn (bD t m i v s)).length=(gn t).length:=by
 have b:=yW (f:=Ge) t.ins m i ⟨i.hash,i.idx,s,i.wit⟩ h (by simp[Ge,aO]);have a:=yW (f:=fun i=>nq i.wit) t.ins m i ⟨i.hash,i.idx,s,i.wit⟩ h rfl;unfold gn mD bD vU Wg;simp only[b_,aO,List.length_set,b,a]
theorem A4{t:Tn}{m v s:Nat}{i:Ip}{n:Int}{coins:List (Nat×List Nat)}(h:t.ins[m]?=some i):iZ (bD t m i v s)=iZ t∧bI (bD t m i v s) n coins=bI t n coins:=by
 have e:iZ (bD t m i v s)=iZ t:=by unfold iZ;rw[Me h]
 refine⟨e,?_⟩;unfold bI;rw[e];simp only[bD,List.length_set]
theorem yX{t:Tn}{m v s:Nat}{i:Ip}(h:t.ins[m]?=some i)(k:Sm t)(f:v<4294967296)(e:s<4294967296):Sm (bD t m i v s):=by
 obtain⟨⟨o,l,a,d⟩,g,b2,b3,b4⟩:=k;have c:=cr h;refine⟨⟨f,l,fun j b=>?_,d⟩,by simp only[bD,List.length_set];exact g,b2,b3,fun j b=>?_⟩;rcases List.mem_or_eq_of_mem_set b with q|rfl;exact a j q;exact⟨(a i c).1,(a i c).2.1,e⟩;rcases List.mem_or_eq_of_mem_set b with q|rfl;exact b4 j q;exact b4 i c
theorem F4{t:Tn}{m v s:Nat}{i:Ip}(h:t.ins[m]?=some i):(bD t m i v s).ins[m]?=some ⟨i.hash,i.idx,s,i.wit⟩:=by
 show(t.ins.set m _)[m]?=_;rw[List.getElem?_set_self (ci.1 h).1]
theorem Z8{i:Ip}{s:Nat}(h:i.hash.length=32):List.take 33 ((eI i).map AV.d)++AV.d (.int .u32 (s:Int))::List.drop 34 ((eI i).map AV.d)=(eI ⟨i.hash,i.idx,s,i.wit⟩).map AV.d:=by
 unfold eI;simp only[List.map_append];have a:((cd i.hash).map AV.d).length=32:=by rw[List.length_map,b7,h]
 rw[List.take_append,List.drop_append,cx aq,c_ aq,a];simp
theorem ez{i:Ip}(h:i.hash.length=32):(eI i).length=35:=by simp[eI,b7,h]
theorem WQ{i:Ip}(h:i.hash.length=32):(eI i)[33]?=some (.int .u32 (i.seq:Int)):=by
 unfold eI;rw[dn (by rw[b7,h];omega),b7,h];rfl
theorem MA{l:List Nat}{k c:Nat}(hc:l[k]?=some c)(e:k+1<l.length):gu (l.drop k)=(decide (c≠0)||gu (l.drop (k+1))):=by
 have d:l.drop k=c::l.drop (k+1):=by
  rw[List.drop_eq_getElem_cons aq];congr 1;exact(List.getElem_of_getElem? hc).2
 rw[d];cases a:l.drop (k+1)with
 |nil =>
  have:=congrArg List.length a;rw[e_]at this;simp at this;omega
 |cons b r=>rfl
theorem MB{l:List Nat}{k c:Nat}(hc:l[k]?=some c)(b:k+1=l.length):gu (l.drop k)=decide (c≠0∧c≠128):=by
 have a:l.drop k=c::l.drop (k+1):=by
  rw[List.drop_eq_getElem_cons aq];congr 1;exact(List.getElem_of_getElem? hc).2
 rw[a,c_ aq];rfl
theorem Ik(T:List Nat)(e:T.length=32)(t:bytes T):fm prog 36 [.agg (cb T)] (.d (.bool (gu T))):=by
 refine bL func36 ntmps36 (rs:=[.tmp 2]) (c8 T) ?_;have p:∀k c:Nat,T[k]?=some c→(cb T)[k]?=some (.d (.int .u8 (c:Int))):=fun k c h=>by simp[cb,h]
 generalize q:gu T=V;simp[go_sem,aj,e,al e]
 refine av (fun k:Nat=>⟨[(1,.ptr 0 0 0 1),(2,.d (.bool false)),(3,.d (.int .i64 (k:Int)))],[(0,⟨29,32,[cb T]⟩)],1000⟩)
  (fun k=>k≤31∧gu (T.drop k)=V) (fun k=>31-k) 0 ⟨aq,q⟩ (by
   simp[aA,ai,fv,lk,AV.low,AV.l]
   exact aI _ _) ?_
 rintro k⟨u,f⟩;obtain⟨c,hc⟩:∃c,T[k]?=some c:=⟨_,cm aq⟩;have b:=p k c hc;have a:∀h:k<(cb T).length,(cb T)[k]'h=.d (.int .u8 (c:Int)):=fun h=>(List.getElem_of_getElem? b).2;have s:=ay (k:=k) aq;simp[go_sem];refine⟨fun h=>?_,fun h=>?_⟩
 ·rw[MA hc aq]at f;have o:(k:Int)<32:=aq;have i2:k<32:=aq;by_cases g:c=0
  ·subst g;simp at f;simp[go_sem,b,a,aj,e,o,i2,s];refine ao (k+1) ⟨aq,f⟩ aq ?_;simp[aA,ai,fv,lk,AV.low,AV.l];exact aI _ _
  ·have l:¬(c:Int)=0:=aq;simp[g]at f;subst f;simp[go_sem,b,a,aj,e,o,i2,g,l,ah];exact aa a9 rfl
 ·have i:k=31:=aq;subst i;rw[MB hc aq]at f;subst f;by_cases g:c=0
  ·subst g;simp[go_sem,b,a,aj,e,ah];exact aa a9 rfl
  ·have l:¬(c:Int)=0:=aq;by_cases m:c=128
   ·subst m;simp[go_sem,b,a,aj,e,ah];exact aa a9 rfl
   ·have j:¬(c:Int)=128:=aq;simp[go_sem,b,a,aj,e,g,l,m,j,ah];exact aa a9 rfl
def Do(t:Tn)(i:Ip)(d:Nat):Prop:=¬(t.ver:Int)<2∧gw 31 (i.seq:Int)=false∧gw 22 (i.seq:Int)=false∧¬(i.seq:Int)%65536<(d:Int)
theorem Z9{sg:bm→bm→bm→Bool}{msg:bm}{out:bm→bm×Int}{t:Tn}{m:Nat}{coins:List (Nat×List Nat)}{inner U:List Nat}{ps:List (List Nat)}{D:Nat}{i:Ip}(hi:t.ins[m]?=some i)(d:U.length=32)(f:D≤65535){P:List (Int×Int)×Int}
  (a:P=Ia ⟨t,(m:Int),coins,inner,ps,bw (df U (D:Int)),[],[],1000⟩ (xK ⟨t,(m:Int),coins,inner,ps,bw (df U (D:Int)),[],[],1000⟩ sg msg out) (bw (df U (D:Int))) []) :
  P.1=[]∧(P.2=0→Do t i D∧U=oC t m)∧(bI t (m:Int) coins=0→Do t i D→U=oC t m→gu U=true→P.2=0):=by
 obtain⟨p,b⟩:=Ru (x:=xK ⟨t,(m:Int),coins,inner,ps,bw (df U (D:Int)),[],[],1000⟩ sg msg out) (bud:=1000) d f;have g:(xK ⟨t,(m:Int),coins,inner,ps,bw (df U (D:Int)),[],[],1000⟩ sg msg out).seq=(i.seq:Int):=by
  show(((t.ins[((m:Int)).toNat]?.map Ip.seq).getD 0:Nat):Int)=_;rw[Int.toNat_natCast,hi];rfl
 have c:(xK ⟨t,(m:Int),coins,inner,ps,bw (df U (D:Int)),[],[],1000⟩ sg msg out).tpl=oC t m:=by
  show oC t ((m:Int)).toNat=_;rw[Int.toNat_natCast]
 have j:(xK ⟨t,(m:Int),coins,inner,ps,bw (df U (D:Int)),[],[],1000⟩ sg msg out).ver=(t.ver:Int):=rfl;have o:Dn (xK ⟨t,(m:Int),coins,inner,ps,bw (df U (D:Int)),[],[],1000⟩ sg msg out) (D:Int)↔Do t i D:=by
  unfold Dn Do;rw[g,j]
 rw[o,c]at b;have l:=qH (D:Int) d;unfold Ia at a;by_cases hc:bI t (m:Int) coins=0;rw[if_neg (by rintro(h|h);exact h hc;omega)]at a;rw[a];exact⟨p,fun h=>⟨(b.1 h).1,(b.1 h).2.1⟩,fun _ e k q=>b.2 ⟨e,k,q⟩⟩;rw[if_pos (.inl hc)]at a;rw[a];exact⟨rfl,fun h=>absurd h (by show ¬(1:Int)=0;omega),fun h=>absurd h hc⟩
theorem F5{t:List Nat}(d:Int)(e:t.length=32)(b:bytes t):bytes (bw (df t d)):=xU (fun w a=>by
 simp only[df,d_]at a;rcases a with rfl|a;exact⟨my aq,(kC aq b).2,kD b⟩
 ·have h:=sU d w a;refine⟨h.2,h.1.2,?_⟩;simp only[fU,d_,List.mem_nil_iff,or_false]at a;rcases a with rfl|rfl|rfl|rfl;exact kD (eG d)
  all_goals exact fun z c=>(by cases c))
structure WdH(inner rec trig:List Nat)(t:Tn)(m:Nat)(coins:List (Nat×List Nat))(i:Ip)(D:Nat):Prop where
 il:inner.length=32
 ib:bytes inner
 tl:trig.length=32
 tb:bytes trig
 sm:Sm t
 cc:WL coins
 cby:∀o,o∈coins→bytes o.2
 ob:∀o,o∈t.outs→bytes o.2
 ml:m<coins.length
 it:t.ins[m]?=some i
 dl:D≤65535
theorem Kw{inner g b:List Nat}{t:Tn}{m:Nat}{coins:List (Nat×List Nat)}{i:Ip}{D:Nat}(h:WdH inner g b t m coins i D){U k x:List Nat}{b0 f:Lf}{A j:Bool}(q:U.length=32)(u:bytes U)(o:LfK inner b0 x k A)(a:LfK inner f (bw (df U (D:Int))) k j)
  (hp:fm prog 31 [.agg (cg inner g (D:Int) b),.agg (cb U)] (If inner b0 f)) :
  ∃(w:List (List Nat))(P:List (Int×Int)×Int),fm prog 32 [.agg (eS t (m:Int) coins),.d (.ro 34 [eP inner b0,eP inner f]),.d (.int .u64 ((9:Nat):Int))] (.tup [.agg (eS t (m:Int) (coins.set m (9,81::32::k))),.d (.bool (decide ((0:Int)=0)))]) ∧
   fm prog 35 [.agg (cg inner g (D:Int) b),.agg (cb U)] (.tup [.d (.ro 1 (w.map bX)),.d (.int .i64 0)]) ∧
   fm prog 34 [.agg (eS t (m:Int) (coins.set m (9,81::32::k))),.d (.ro 1 (w.map bX))] (yT P) ∧
   P.1=[]∧(P.2=0→Do t i D∧U=oC t m)∧(bI t (m:Int) coins=0→Do t i D→U=oC t m→gu U=true→P.2=0):=by
 have y:(81::32::k).length≤1000:=by simp[o.kl]
 have l:(coins.set m (9,81::32::k))[m]?=some (9,81::32::k):=by rw[List.getElem?_set_self h.ml]
 have B:=qH (D:Int) q;obtain⟨sg,msg,out,e⟩:=Ro t m (coins.set m (9,81::32::k)) inner f (bw (df U (D:Int))) k j h.sm (Kv h.cc aq aq) (AZ h.cby (A0 o.kb)) h.ob h.il h.ib a (F5 (D:Int) q u);have e:=e [] ⟨aw,aw,aw,aw⟩ _ rfl;obtain⟨E,C,z⟩:=Z9 (sg:=sg) (msg:=msg) (out:=out) (coins:=coins.set m (9,81::32::k)) (inner:=inner) (ps:=f.1) h.it q h.dl rfl;refine⟨[]++[f.2,iC j inner f.1],_,L8 t m coins inner b0 f _ 0 9 h.il h.ml (by have:=h.cc.1;omega) (nF h.il o.kl o.t),?_,Ih t m _ inner f _ k j 9 [] _ h.il a l aw e,E,C,fun c=>z (VN (v:=9) c y)⟩;have:=zB inner g (D:Int) b U h.il h.tl q b0 f hp (iC j inner f.1) 0 (by rw[a.s];omega) (.inl rfl) (HZ h.il a.p (by have:=a.pl;omega) a.kl a.t);unfold mK at this;rw[if_pos rfl]at this;exact this
theorem tV(inner b:List Nat)(d:Int)(a U:List Nat)(t:Tn)(n:Int)(coins:List (Nat×List Nat)):∀v,v∈[AV.agg (cg inner b d a),.agg (eS t n coins),.agg (cb U)]→v.deep:=by
 intro v c;simp only[d_,List.mem_nil_iff,or_false]at c;rcases c with rfl|rfl|rfl;exact dC inner b d a _ aw;exact tK t n coins _ aw;exact bp _
theorem F6(t:Tn)(n:Nat)(coins:List (Nat×List Nat))(inner:List Nat)(b a:Lf)(v:Nat):∀y,y∈[AV.agg (eS t (n:Int) coins),.d (.ro 34 [eP inner b,eP inner a]),.d (.int .u64 (v:Int))]→y.deep:=vJ t n coins inner b a v
theorem A5{inner a:List Nat}{d:Int}{U:List Nat}{V W:AV}(h:LvQ inner a d U V W):W=vI∨∃l0 l1 k o0 o1,W=If inner l0 l1∧LfK inner l0 (bw (ie a)) k o0∧LfK inner l1 (bw (df U d)) k o1:=h.imp id And.right
theorem tW{inner c a:List Nat}{t:Tn}{m:Nat}{coins:List (Nat×List Nat)}{i:Ip}{D:Nat}(h:WdH inner c a t m coins i D)(U:List Nat)(f:U.length=32)(o:bytes U) :
  ∃b:Bool,(b=true→Do t i D∧U=oC t m)∧fm prog 37 [.agg (cg inner c (D:Int) a),.agg (eS t (m:Int) coins),.agg (cb U)] (.d (.bool b)):=by
 have O:=h.dl;obtain⟨V,I,B⟩:=AW inner c (D:Int) a h.il h.ib h.tl h.tb aq aq;obtain⟨W,K,u⟩:=yS inner c (D:Int) a U h.il h.ib h.tl f o aq aq V I B;have s:=ep h.il h.tl c (D:Int);have g:=bF h.il h.tl c (D:Int);have e:=jO inner c (D:Int) a U;have l:(eS t (m:Int) coins).length=6:=rfl;have j:List.take 6 (eS t (m:Int) coins)=eS t (m:Int) coins:=rfl;have p:=tV inner c (D:Int) a U t (m:Int) coins;rcases A5 K with rfl|⟨F,H,k,R,Q,rfl,C,y⟩
 ·refine⟨false,fun q=>(by cases q),?_⟩;have M:=zA inner c (D:Int) a U h.il h.tl f u;refine bL func37 ntmps37 (rs:=[.tmp 6]) p ?_;generalize cg inner c (D:Int) a=PC at *;generalize eS t (m:Int) coins=S at *;simp[go_sem,s,g,l,j,aj,f,al f];refine ag u e ?_;simp[go_sem,vI,s,g,aj,f,al f];refine ag M e ?_;simp[go_sem,ah];exact aa (v:=.d (.bool false)) trivial rfl
 ·obtain⟨w,P,A,G,J,_,L,_⟩:=Kw h f o C y u;refine⟨decide (P.2=0),fun q=>L (of_decide_eq_true q),?_⟩;have x:=F6 t m coins inner F H 9;have z:=rV t m (coins.set m (9,81::32::k)) w;have E:(eS t (m:Int) (coins.set m (9,81::32::k))).length=6:=rfl;have N:List.take 6 (eS t (m:Int) (coins.set m (9,81::32::k)))=eS t (m:Int) (coins.set m (9,81::32::k)):=rfl;refine bL func37 ntmps37 (rs:=[.tmp 6]) p ?_;generalize cg inner c (D:Int) a=PC at *;generalize eS t (m:Int) (coins.set m (9,81::32::k))=X at *;generalize eS t (m:Int) coins=S at *;simp[go_sem,s,g,l,j,aj,f,al f];refine ag u e ?_;simp[go_sem,If,s,g,aj,f,al f];refine ag G e ?_;simp[go_sem,l,j];refine ag A x ?_;simp[go_sem,E,N];refine ag J z ?_;simp[go_sem,yT,ah];exact aa (v:=.d (.bool _)) trivial rfl
theorem Rw{t:Tn}{m:Nat}{i:Ip}{s d:Nat}(b:s≤65535)(a:d≤s):Do (bD t m i 2 s) ⟨i.hash,i.idx,s,i.wit⟩ d:=by
 have b31:gw 31 (s:Int)=false:=by unfold gw;simp only[decide_eq_false_iff_not];rw[Int.fdiv_eq_ediv_of_nonneg _ aq];omega
 have b22:gw 22 (s:Int)=false:=by unfold gw;simp only[decide_eq_false_iff_not];rw[Int.fdiv_eq_ediv_of_nonneg _ aq];omega
 exact⟨by show ¬((2:Nat):Int)<2;omega,b31,b22,by show ¬(s:Int)%65536<(d:Int);omega⟩
theorem MC{t:Tn}{m:Nat}{i:Ip}{s d:Nat}(b:s≤65535)(a:s<d):¬Do (bD t m i 2 s) ⟨i.hash,i.idx,s,i.wit⟩ d:=fun h=>h.2.2.2 (by show(s:Int)%65536<(d:Int);omega)
theorem set_set{t:Tn}{m:Nat}{i:Ip}{v b s a:Nat}:bD (bD t m i v s) m ⟨i.hash,i.idx,s,i.wit⟩ b a=bD t m i b a:=by
 unfold bD;simp only[List.set_set]
theorem F7{t:Tn}{m:Nat}{i:Ip}{v s:Nat}(hi:t.ins[m]?=some i)(h:i.hash.length=32) :
  (List.map ((fun r=>List.map AV.d r)∘eI) t.ins).set m ((List.map AV.d (eI i)).set 33 (AV.d (.int .u32 (s:Int))))=(bD t m i v s).ins.map (fun j=>(eI j).map AV.d):=by
 rw[List.set_eq_take_append_cons_drop (i:=33),if_pos (by rw[List.length_map,lS h];omega),Z8 h];show _=(t.ins.set m _).map _;rw[List.map_set];rfl
theorem VP{hp:Hp}{I:Nat→Prop}{id n:Nat}{l:List Ip}(f:lk id hp=some ⟨68,35,l.map (fun j=>(eI j).map AV.d)⟩)(c:I id)(e:l.length=n)(g:∀j,j∈l→j.hash.length=32):SnapD hp I (.own id 0 n n) (.ro 35 (l.map eI)) :=
 eB (es:=l.map eI) (by rw[f,List.map_map];rfl) c (by simp[e]) (fun r a=>by
  rw[List.mem_map]at a;obtain⟨w,b,rfl⟩:=a
  exact lS (g w b))
theorem zC(inner rec trig O:List Nat)(d:Int)(t:Tn)(n:Int)(coins:List (Nat×List Nat))(hi:inner.length=32)(hib:bytes inner)(ht:trig.length=32)(htb:bytes trig)(hO:O.length=32)(hOb:bytes O)(h1:-9223372036854775808≤d)(h2:d<9223372036854775808)(hok:t.ok)(hob:∀o,o∈t.outs→bytes o.2)(hcb:∀o,o∈coins→o.1<18446744073709551616∧bytes o.2) :
    fm prog 9 [.agg (cg inner rec d trig),.agg (eS t n coins),.agg (cb O)] (.d (.bool true)):=by
  refine qd func9 (by kernel_rfl) rfl ntmps9 (rs:=[.tmp 6]) rfl (dN rfl) (tV inner rec d trig O t n coins) ?_;have hl:=ep hi ht rec d;have hpt:=bF hi ht rec d;have h32:=sV hi rec d trig;have h32g:=uw hi rec d trig;have h33:=sW hi rec d trig;have h33g:=uy hi rec d trig;have hpd:=dC inner rec d trig;have hplow:=fun N=>AP inner rec d trig N;have hsl:(eS t n coins).length=6:=rfl;have htk:List.take 6 (eS t n coins)=eS t n coins:=rfl;have hSm:=Lq t n coins hok;have hSd:=tK t n coins;by_cases hr:rec.length≤600
  case neg =>
    have i1:(600:Int)<(rec.length:Int):=aq;generalize cg inner rec d trig=PC at *;generalize eS t n coins=S at *;refine aN ?_;simp[go_sem,hl,hpt,h32,h32g,hsl,htk,aj,hO,al hO,nb,i1];refine ag gW aw ?_;simp[go_sem,ah];exact aa (v:=.d (.bool true)) trivial rfl
  have i1:¬(600:Int)<(rec.length:Int):=aq;cases hs:ye t coins with
  | false =>
    rw[hs]at hSm;generalize cg inner rec d trig=PC at *;generalize eS t n coins=S at *;refine aN ?_;simp[go_sem,hl,hpt,h32,h32g,hsl,htk,aj,hO,al hO,nb,i1];refine ag hSm hSd ?_;simp[go_sem];refine ag gW aw ?_;simp[go_sem,ah];exact aa (v:=.d (.bool true)) trivial rfl
  |true =>
  rw[hs]at hSm;have hS:Sm t∧WL coins:=by
    simp only[ye,Bool.and_eq_true,decide_eq_true_eq,cT,fa]at hs;exact⟨aby hok hs.1,⟨hs.2.1,fun o ho=>⟨(hcb o ho).1,hs.2.2 o ho⟩⟩⟩
  obtain⟨hk,hcc⟩:=hS;have hCk:=He t n coins hk (by have:=hcc.1;omega);by_cases c0:bI t n coins=0
  case neg =>
    generalize bI t n coins=ck at *;generalize cg inner rec d trig=PC at *;generalize eS t n coins=S at *;refine aN ?_;simp[go_sem,hl,hpt,h32,h32g,hsl,htk,aj,hO,al hO,nb,i1];refine ag hSm hSd ?_;simp[go_sem,hsl,htk];refine ag hCk hSd ?_;simp[go_sem,c0];refine ag gW aw ?_;simp[go_sem,ah];exact aa (v:=.d (.bool true)) trivial rfl
  rw[c0]at hCk;by_cases hd0:0≤d
  case neg =>
    have i2:d<0:=aq;generalize cg inner rec d trig=PC at *;generalize eS t n coins=S at *;refine aN ?_;simp[go_sem,hl,hpt,h32,h32g,h33,h33g,hsl,htk,aj,hO,al hO,nb,i1];refine ag hSm hSd ?_;simp[go_sem,hsl,htk];refine ag hCk hSd ?_;simp[go_sem,hl,h33,h33g,i2];refine ag gW aw ?_;simp[go_sem,ah];exact aa (v:=.d (.bool true)) trivial rfl
  have i2:¬d<0:=aq;by_cases hd1:d≤65535
  case neg =>
    have i3:65535<d:=aq;generalize cg inner rec d trig=PC at *;generalize eS t n coins=S at *;refine aN ?_;simp[go_sem,hl,hpt,h32,h32g,h33,h33g,hsl,htk,aj,hO,al hO,nb,i1];refine ag hSm hSd ?_;simp[go_sem,hsl,htk];refine ag hCk hSd ?_;simp[go_sem,hl,h33,h33g,i2,i3];refine ag gW aw ?_;simp[go_sem,ah];exact aa (v:=.d (.bool true)) trivial rfl
  have i3:¬ 65535<d:=aq;obtain⟨D,rfl⟩:∃D:Nat,d=(D:Int):=⟨d.toNat,aq⟩;have hcx:iZ t=0∧coins.length=t.ins.length∧0≤n∧n<(coins.length:Int):=by
    unfold bI at c0;split at c0
    · cases c0
    · rename_i hq
      simp only[not_or,Int.not_lt,Int.not_le,ne_eq,Classical.not_not]at hq;exact⟨hq.1,hq.2.1,hq.2.2.1,hq.2.2.2.1⟩
  obtain⟨m,rfl⟩:∃m:Nat,n=(m:Int):=⟨n.toNat,aq⟩;have hml:m<coins.length:=aq;have hmi:m<t.ins.length:=aq;obtain⟨i,hii⟩:∃i,t.ins[m]?=some i:=⟨_,cm hmi⟩;have hih:=(hk.1.2.2.1 i (cr hii)).1;have hil:=hk.2.1;have hic:=hcc.1
  -- the transaction as it is changed
  have T1s:=yX (v:=2) (s:=D) hii hk aq aq;obtain⟨T1t,T1c⟩:=A4 (v:=2) (s:=D) (n:=(m:Int)) (coins:=coins) hii;rw[hcx.1]at T1t;rw[c0]at T1c;have T1i:=F4 (v:=2) (s:=D) hii;have tp1:=H7 (bD t m i 2 D) m T1s T1t (by simp[bD];omega);have hT:(oC (bD t m i 2 D) m).length=32:=aR _;have hTb:bytes (oC (bD t m i 2 D) m):=eE _;have H1:WdH inner rec trig (bD t m i 2 D) m coins ⟨i.hash,i.idx,D,i.wit⟩ D:=⟨hi,hib,ht,htb,T1s,hcc,fun o ho=>(hcb o ho).2,hob,hml,T1i,aq⟩;have tr1:=Ik _ hT hTb;obtain⟨V,hV,fV⟩:=AW inner rec (D:Int) trig hi hib ht htb aq aq;obtain⟨W,hW,fW⟩:=yS inner rec (D:Int) trig _ hi hib ht hT hTb aq aq V hV fV;have htwo:=jO inner rec (D:Int) trig (oC (bD t m i 2 D) m);have hrows:=F7 (v:=2) (s:=D) hii hih;have h33':(eI i)[33]?=some (.int .u32 (i.seq:Int)):=WQ hih;have hlen:=lS hih;have wD:IntKind.u32.wrap (D:Int)=(D:Int):=by simp[IntKind.wrap,IntKind.bits,IntKind.signed];omega
  generalize hPC:cg inner rec (D:Int) trig=PC at *;simp only[eS]at hSm hCk hSd;refine dh (aN ?_);simp[go_sem,hl,hpt,eS,aj,hO,al hO];simp only[jP];refine dh (aN ?_);simp[go_sem,hl,hpt,h32,h32g,h33,h33g,nb,i1];refine ag hSm hSd ?_;simp[go_sem];refine ag hCk hSd ?_;simp[go_sem,hl,h33,h33g,i2,i3];simp only[jP];refine dh (aN ?_);simp[go_sem];refine⟨aq,?_⟩;simp only[jP];refine dh (aN ?_);simp[go_sem,hl,h33,h33g,wD,hii,h33',hlen];refine⟨hmi,?_⟩;simp only[jP];refine dh (aN ?_);simp[go_sem];simp only[jP];refine dh (aN ?_);simp[go_sem];simp only[jP];rw[hrows]
  have hcell:∀(T:Tn)(hp:Hp)(id n:Nat)(C:List (Nat×List Nat)),lk id hp=some ⟨68,35,T.ins.map (fun j=>(eI j).map AV.d)⟩→T.ins.length=n→(∀j,j∈T.ins→j.hash.length=32) →
      ∀(a:Nat)(x x':List AV),[[AV.d (.int .u32 (T.ver:Int)),AV.own id 0 n n,.d (.ro 2 (T.outs.map eO)),.d (.int .u32 (T.lock:Int)),.d (.int .i64 (m:Int)),.d (.ro 2 (C.map eO))]][a]?=some x→[eS T (m:Int) C][a]?=some x'→x'.length=x.length∧∀(j:Nat)(v v':AV),x[j]?=some v→x'[j]?=some v'→OG hp [id] v v':=by
    intro T hp id n C hb hn hh a x x' hx hx';cases a with
    |succ a=>simp at hx
    | zero =>
      simp at hx hx';subst hx hx';refine⟨rfl,fun j v v' h1 h2=>?_⟩
      match j,h1,h2 with
      |0,h1,h2=>simp[eS]at h1 h2;subst h1 h2;exact .inl rfl
      |1,h1,h2=>simp[eS]at h1 h2;subst h1 h2;exact .inr ⟨_,rfl,VP hb aw hn hh⟩
      |2,h1,h2=>simp[eS]at h1 h2;subst h1 h2;exact .inl rfl
      |3,h1,h2=>simp[eS]at h1 h2;subst h1 h2;exact .inl rfl
      |4,h1,h2=>simp[eS]at h1 h2;subst h1 h2;exact .inl rfl
      |5,h1,h2=>simp[eS]at h1 h2;subst h1 h2;exact .inl rfl
      |j+6,h1,_=>simp at h1
  have hh1:∀j,j∈(bD t m i 2 D).ins→j.hash.length=32:=fun j hj=>(T1s.1.2.2.1 j hj).1;have hn1:(bD t m i 2 D).ins.length=t.ins.length:=by simp[bD]
  refine uo (st':=⟨[(3,.ptr 0 0 0 1),(4,.ptr 32 0 0 1),(5,.ptr 64 0 0 1),(6,.d (.bool false))],[(32,⟨28,6,[eS (bD t m i 2 D) (m:Int) coins]⟩),(64,⟨29,32,[cb O]⟩),(0,⟨76,66,[PC]⟩)],9000⟩) (Wk.trans (x4 (L:=32) (es':=[eS (bD t m i 2 D) (m:Int) coins]) [896] aw rfl aw rfl (hcell (bD t m i 2 D) _ 896 _ coins rfl hn1 hh1)) (b8 ?_)) ?_
  · simp [aA,ai,fv,lk,AV.low,AV.l,aC,bV]
    exact⟨tP _ _ _ _,aI _ _,hplow _⟩
  have s6:(eS (bD t m i 2 D) (m:Int) coins).length=6:=rfl;have st6:List.take 6 (eS (bD t m i 2 D) (m:Int) coins)=eS (bD t m i 2 D) (m:Int) coins:=rfl;have s4:List.take 4 (eS (bD t m i 2 D) (m:Int) coins)=eT (bD t m i 2 D):=rfl;have e4:(eS (bD t m i 2 D) (m:Int) coins)[4]?=some (.d (.int .i64 (m:Int))):=rfl;have e4g:∀h:4<(eS (bD t m i 2 D) (m:Int) coins).length,(eS (bD t m i 2 D) (m:Int) coins)[4]'h=_:=fun h=>(List.getElem_of_getElem? e4).2;have dT:∀(T:Tn),∀v,v∈[AV.agg (eT T),.d (.int .i64 (m:Int))]→v.deep:=by simp[AV.deep,AV.deep1,eT]
  have dT1:=dT (bD t m i 2 D);have hT32:=al hT;have sl1:=tP (bD t m i 2 D) m coins;rcases A5 hW with rfl|⟨b0,b1,k,o0,o1,rfl,hB,hB1⟩
  · generalize oC (bD t m i 2 D) m=T at *
    generalize eS (bD t m i 2 D) (m:Int) coins=S1 at *;generalize eT (bD t m i 2 D)=ET at *;refine aN ?_;simp[go_sem,hl,hpt,s6,s4,e4,e4g];refine ag tp1 dT1 ?_;simp[go_sem,hl,hpt,aj,hT,hT32,cf];refine ag fW htwo ?_;simp[go_sem,vI];refine ag gW aw ?_;simp[go_sem,ah];exact aa (v:=.d (.bool true)) trivial rfl
  obtain⟨w,P,f1,f2,f3,a1,a2,a3⟩:=Kw H1 hT hTb hB hB1 (by rw[hPC];exact fW);rw[hPC]at f2;have f1d:=F6 (bD t m i 2 D) m coins inner b0 b1 9;have f3d:=rV (bD t m i 2 D) m (coins.set m (9,81::32::k)) w;have hfine:gu (oC (bD t m i 2 D) m)=true→P.2=0:=a3 T1c (Rw aq aq) rfl;obtain⟨bo,hbo,fbo⟩:=tW H1 O hO hOb;rw[hPC]at fbo;have fbd:=tV inner rec (D:Int) trig O (bD t m i 2 D) (m:Int) coins;rw[hPC]at fbd;have hOT:bo=true→O=oC (bD t m i 2 D) m:=fun q=>(hbo q).2
  -- the one that waits less
  have key:0<D→∃u:List Nat,u.length=32∧(bD t m i 2 (D-1)).ins.length=t.ins.length∧fm prog 18 [.agg (eT (bD t m i 2 (D-1))),.d (.int .i64 (m:Int))] (.tup [.agg (cb u),.d (.int .i64 0)]) ∧
      fm prog 37 [.agg PC,.agg (eS (bD t m i 2 (D-1)) (m:Int) (coins.set m (9,81::32::k))),.agg (cb u)] (.d (.bool false)):=by
    intro hD0;have T2s:=yX (v:=2) (s:=D-1) hii hk aq aq;obtain⟨T2t,_⟩:=A4 (v:=2) (s:=D-1) (n:=(m:Int)) (coins:=coins) hii;rw[hcx.1]at T2t;have T2i:=F4 (v:=2) (s:=D-1) hii;have hcl:(81::32::k).length≤1000:=(by simp[hB.kl]);have H2:WdH inner rec trig (bD t m i 2 (D-1)) m (coins.set m (9,81::32::k)) ⟨i.hash,i.idx,D-1,i.wit⟩ D:=⟨hi,hib,ht,htb,T2s,Kv hcc aq aq,AZ (fun o ho=>(hcb o ho).2) (A0 hB.kb),hob,by rw[List.length_set];exact hml,T2i,aq⟩;obtain⟨b,hb,fb⟩:=tW H2 (oC (bD t m i 2 (D-1)) m) (aR _) (eE _);have hbf:b=false:=by
      cases b with
      |false=>rfl
      |true=>exact absurd (hb rfl).1 (MC aq aq)
    subst hbf;rw[hPC]at fb;exact⟨_,aR _,by simp[bD],H7 (bD t m i 2 (D-1)) m T2s T2t (by simp[bD];omega),fb⟩
  have hT2:bD (bD t m i 2 D) m ⟨i.hash,i.idx,D,i.wit⟩ 2 (D-1)=bD t m i 2 (D-1):=set_set;have rows2:=F7 (v:=2) (s:=D-1) T1i hih;have h33b:(eI ⟨i.hash,i.idx,D,i.wit⟩)[33]?=some (.int .u32 (D:Int)):=WQ hih;have hlb:(eI ⟨i.hash,i.idx,D,i.wit⟩).length=35:=lS hih;have h33c:∀h:33<(eI ⟨i.hash,i.idx,D,i.wit⟩).length,(eI ⟨i.hash,i.idx,D,i.wit⟩)[33]'h=.int .u32 (D:Int):=fun h=>(List.getElem_of_getElem? h33b).2;rw[hT2]at rows2;have v1:(bD t m i 2 D).ver=2:=rfl;have v2:(bD t m i 2 (D-1)).ver=2:=rfl;have ou1:(bD t m i 2 D).outs=(bD t m i 2 (D-1)).outs:=rfl;have lo1:(bD t m i 2 D).lock=(bD t m i 2 (D-1)).lock:=rfl;have hh2:0<D→∀j,j∈(bD t m i 2 (D-1)).ins→j.hash.length=32:=fun q j hj=>((yX (v:=2) (s:=D-1) hii hk aq aq).1.2.2.1 j hj).1;have dT2:=dT (bD t m i 2 (D-1));clear H1 hT2;generalize hT1e:bD t m i 2 D=T1 at *;generalize hT2e:bD t m i 2 (D-1)=T2 at *;generalize hC:coins.set m (9,81::32::k)=C at *;generalize oC T1 m=T at *;have x6:(eS T1 (m:Int) C).length=6:=rfl;have xt6:List.take 6 (eS T1 (m:Int) C)=eS T1 (m:Int) C:=rfl;have sl1:=tP T1 m coins;generalize hS1:eS T1 (m:Int) coins=S1 at *;refine dh (aN ?_);simp[go_sem,hl,hpt,s6,s4,e4,e4g];refine ag tp1 dT1 ?_;simp[go_sem,aj,hT,hT32,cf];simp only[jP];refine dh (aN ?_);simp[go_sem,hl,hpt,aj,hT,hT32];refine ag fW htwo ?_;simp[go_sem,If];simp only[jP];refine dh (aN ?_);simp[go_sem];simp only[jP];refine dh (aN ?_);simp[go_sem];simp only[jP];refine dh (aN ?_);simp[go_sem,s6,st6];refine ag f1 f1d ?_;simp[go_sem,x6,xt6];simp only[jP];refine dh (aN ?_);simp[go_sem,hl,hpt,aj,hT,hT32];refine ag f2 htwo ?_;simp[go_sem];simp only[jP];refine dh (aN ?_);simp[go_sem,x6,xt6];refine ag f3 f3d ?_;simp[go_sem,yT,a1];simp only[jP]
  have hfT:P.2=0∨(¬P.2=0∧gu T=false):=by
    by_cases hf:P.2=0
    · exact .inl hf
    · cases htb:gu T with
      |true=>exact absurd (hfine htb) hf
      |false=>exact .inr ⟨hf,rfl⟩
  have aD:∀v,v∈([]:List AV)→v.deep:=by simp
  refine dh (aN ?_);rcases hfT with hf|⟨hf,htf⟩
  all_goals
    simp[go_sem,hf,aj,hT,hT32]
    try(refine ag tr1 (c8 _) ?_)
    try(simp[go_sem,htf])
    simp only[jP];refine dh (aN ?_);simp[go_sem,hl,hpt,s6,st6,aj,hO,al hO];refine ag fbo fbd ?_
    cases bo
  all_goals
    try(have hOT2:=hOT rfl;subst hOT2)
    simp[go_sem,aj,hO,hT,hT32,al hO,we];simp only[jP];refine dh (aN ?_);by_cases hD0:D=0
  all_goals
    first
      | (subst hD0
         simp[go_sem,hl,h33,h33g];refine ag gW aw ?_;simp[go_sem,ah]
         exact aa (v:=.d (.bool true)) trivial rfl)
      |skip
  all_goals
    have hDi:¬(D:Int)=0:=aq;obtain⟨u,hu,hn2,tp2,fu⟩:=key aq;have hhs:=hh2 aq;have w23:IntKind.u32.wrap ((D:Int)-1)=((D-1:Nat):Int):=by simp[IntKind.wrap,IntKind.bits,IntKind.signed];omega
    have hm1:m<T1.ins.length:=aq;have hud:=tV inner rec (D:Int) trig u T2 (m:Int) C;rw[hPC]at hud;simp[go_sem,hl,h33,h33g,hD0,hDi];simp only[jP];refine dh (aN ?_);simp[go_sem,eS];refine⟨aq,?_⟩;simp only[jP];refine dh (aN ?_);simp[go_sem,T1i,h33b,h33c,hlb,w23];refine⟨hm1,?_⟩;simp only[jP];refine dh (aN ?_);simp[go_sem];simp only[jP];rw[rows2,show T1.ver=T2.ver from v1.trans v2.symm,ou1,lo1];refine uo (st':=⟨[(3,.ptr 0 0 0 1),(12,.ptr 10088 0 0 1)],[(10088,⟨28,6,[eS T2 (m:Int) C]⟩),(0,⟨76,66,[PC]⟩)],20000⟩) (Wk.trans (x4 (L:=10088) (es':=[eS T2 (m:Int) C]) [11688] aw rfl aw rfl (hcell T2 _ 11688 _ C rfl aq hhs)) (b8 ?_)) ?_
    · simp [aA,ai,fv,lk,AV.low,AV.l,aC,bV]
      exact⟨tP _ _ _ _,hplow _⟩
    have y6:(eS T2 (m:Int) C).length=6:=rfl;have yt6:List.take 6 (eS T2 (m:Int) C)=eS T2 (m:Int) C:=rfl;have y4:List.take 4 (eS T2 (m:Int) C)=eT T2:=rfl;have ye4:(eS T2 (m:Int) C)[4]?=some (.d (.int .i64 (m:Int))):=rfl;have ye4g:∀h:4<(eS T2 (m:Int) C).length,(eS T2 (m:Int) C)[4]'h=_:=fun h=>(List.getElem_of_getElem? ye4).2;generalize eS T2 (m:Int) C=S2 at *;generalize eT T2=ET2 at *;refine aN ?_;simp[go_sem,y6,y4,ye4,ye4g];refine ag tp2 dT2 ?_;simp[go_sem,aj,hu,al hu,cf];refine ag gW aw ?_;simp[go_sem,hl,hpt,y6,yt6,aj,hu,al hu];refine ag fu hud ?_;simp[go_sem,ah];exact aa (v:=.d (.bool true)) trivial rfl
end Go.Proofs.YtmfnimjnneflnaaGreat
