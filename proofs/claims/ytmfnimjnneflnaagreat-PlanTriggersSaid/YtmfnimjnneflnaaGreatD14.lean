/-
 Part 15 of what the claim rests on.
-/
import Derived.Test.YtmfnimjnneflnaaGreatD12
import Derived.Test.YtmfnimjnneflnaaGreatD13
set_option linter.unusedVariables false
set_option linter.unusedSimpArgs false
set_option maxRecDepth 100000
set_option maxHeartbeats 16000000
namespace Go.Proofs.YtmfnimjnneflnaaGreat
open Go.Am Go.Sha Go.Ec
theorem OA{xs:List (List Nat)}{l:Lf}(h:l∈lL (bp xs) xs):(∀p,p∈l.1→p.length=32)∧l.1.length≤7∧l.2∈xs:=by
 obtain⟨j,a,c⟩:=Bf h;refine⟨?_,?_,c⟩;rw[a];exact sB 7 (fj xs) (fun _=>[]) (rJ xs) (fun j p b=>by simp at b) j
 rw[a];have:=py 7 (fj xs) (fun _=>[]) 0 (fun _=>by simp) j;show((dP 7 (fj xs) fun _=>[]).2 j).length≤7;omega
theorem tK{t d b r:List Nat}(a:b7 t=d)(c:b7 (d++(d++b))=r):eH t b=r:=by unfold eH;rw[a];exact c
theorem OB:pG []=dR0:=by
 have e:ax ([]:List Nat).length++[]=(0::[]):=by kernel_rfl
 unfold pG;rw[e];exact tK XF XH
theorem Eh:aQ (fZ [])=Yj:=by
 unfold fZ;rw[OB]
 kernel_rfl
theorem SX:aQ (cH z32 3)=Ou:=by kernel_rfl
def t9:List Nat:=9::(z32.drop 1)
theorem Iq:aQ (eV t9 3)=x4:=by kernel_rfl
theorem Bm{x:List Nat}{n:Nat}{d:List Nat}(h:ax x.length++x=n::x)(a:b7 (Gv++(Gv++(192::n::x)))=d):db x=d:=by
 unfold db;rw[h];exact tK XG a
theorem Un:db Yj=dX:=Bm (by kernel_rfl) aa4
theorem XT:db Ou=SN:=Bm (by kernel_rfl) XI
theorem XU:db x4=SQ:=Bm (by kernel_rfl) XJ
theorem SY:cq dX SN=dB1:=by
 have e:(if 0<Lib.compareBytes (mL dX) (mL SN)then SN++dX else dX++SN)=SN++dX:=by kernel_rfl
 unfold cq;rw[e];exact tK Oq XK
theorem SZ:cq dX SQ=dB2:=by
 have e:(if 0<Lib.compareBytes (mL dX) (mL SQ)then SQ++dX else dX++SQ)=SQ++dX:=by kernel_rfl
 unfold cq;rw[e];exact tK Oq XM
theorem Uo(X Y:List Nat):∀l,l∈lL (bp [X,Y]) [X,Y]→jd l.1 (db l.2)=cq (db X) (db Y):=by
 obtain⟨h,a⟩:=D6 [X,Y] aw;have b:=a (bp [X,Y] 0,X) (by simp[lL]);have d:bp [X,Y] 0=[db Y]:=by simp[bp,fj,dP,fF,cy,dG]
 rw[d]at b;intro l c;rw[a l c,←b];rfl
theorem Gz:bG.length=32:=by kernel_rfl
theorem Ei:bytes bG:=by
 have h:bG.all (fun x=>Nat.blt x 256)=true:=by kernel_rfl
 intro x a;exact fD (d7.1 h x a)
theorem Ej(xs:List (List Nat))(B D:List Nat)(i:∀x,x∈xs→x.length≤1000)(t:∀l,l∈lL (bp xs) xs→jd l.1 (db l.2)=B)(p:eH jH (bG++B)=D)
  (A:eo D<115792089237316195423570985008687907852837564279074904382605163141518161494337) (m:mp fd (1+eo D) (PV gX gY false)≠none) :
  ∃O:Lf→List Nat,∀l,l∈lL (bp xs) xs→ap Tryz.prog 46 [.agg (ar bG (.d (bS l.1)) (.d (nb l.2)))] (fun r=>r=.tup [.d (nb (O l)),.d (.int .i64 0)]):=by
 have g:∀ l,∃ a:List Nat,l ∈ lL (bp xs) xs→ap Tryz.prog 46 [.agg (ar bG (.d (bS l.1)) (.d (nb l.2)))] (fun r=>r=.tup [.d (nb a),.d (.int .i64 0)]):=by
  intro l;by_cases h:l∈lL (bp xs) xs;obtain⟨v,E,j⟩:=OA h;obtain⟨k,o,e,u,y,C,z,_,b⟩:=pn bG l.1 l.2 Gz Ei v aq (by have:=i _ j;omega);have f:e=0:=by
   have c:=lA pe;rcases b with ⟨n,_⟩|⟨_,b⟩;exact absurd ⟨aq,i _ j⟩ n;rw[t l h,p]at b;rcases b with ⟨q,_⟩|⟨_,f,_⟩;rcases q with q|q;exact absurd ⟨JH,A⟩ q;unfold turnQ at q;rw[JI,←mV fd c]at q;exact absurd q m;exact f
  subst f;exact⟨81::32::k,fun _=>jr Gz u z⟩;exact⟨[],fun w=>absurd w h⟩
 obtain⟨F,s⟩:=Classical.axiomOfChoice g;exact⟨F,s⟩
theorem adt:∃O:Lf→List Nat,∀l,l∈lL (bp [aQ (fZ []),aQ (cH z32 3)]) [aQ (fZ []),aQ (cH z32 3)]→ap Tryz.prog 46 [.agg (ar bG (.d (bS l.1)) (.d (nb l.2)))] (fun r=>r=.tup [.d (nb (O l)),.d (.int .i64 0)]):=by
 rw[Eh,SX];have a:eo dT1=9422285451324570057901192470951034667041824789260974292028693021899629171894:=by kernel_rfl
 refine Ej [Yj,Ou] dB1 dT1 ?_ ?_ (tK Ot XL) (by rw[a];omega) (by rw[a];exact XO);intro x b;simp only[d_,List.mem_nil_iff,or_false]at b;rcases b with rfl|rfl<;>exact fD (by kernel_rfl);intro l c;rw[Uo _ _ l c,Un,XT,SY]
theorem adu:∃O:Lf→List Nat,∀l,l∈lL (bp [aQ (fZ []),aQ (eV t9 3)]) [aQ (fZ []),aQ (eV t9 3)]→ap Tryz.prog 46 [.agg (ar bG (.d (bS l.1)) (.d (nb l.2)))] (fun r=>r=.tup [.d (nb (O l)),.d (.int .i64 0)]):=by
 rw[Eh,Iq];have a:eo dT2=4449286791923882000517327537479225864197293264887270585588255640113699980116:=by kernel_rfl
 refine Ej [Yj,x4] dB2 dT2 ?_ ?_ (tK Ot XN) (by rw[a];omega) (by rw[a];exact XP);intro x b;simp only[d_,List.mem_nil_iff,or_false]at b;rcases b with rfl|rfl<;>exact fD (by kernel_rfl);intro l c;rw[Uo _ _ l c,Un,XU,SZ]
def zPn:List AV:=cb z32++[.nil,.d (.int .i64 0)]++cb z32
theorem abd:fK Tryz.prog 76=some zPn:=by kernel_rfl
attribute [go_sem] abd
theorem zB:ap Tryz.prog 68 [] (fun r=>r=.agg (cb bG)):=by
 refine bz Tryz.func68 Tryz.ntmps68 (rs:=[.cell 0 29]) aw ?_;simp[go_sem];exact ae (v:=.agg (cb bG)) (aW bG) rfl
def zC(inner:List Nat)(d:Int):List AV:=cb inner++([.nil,.d (.int .i64 d)]++cb z32)
theorem xE{hp:Hp}{I:Nat→Prop}(inner:List Nat)(d:Int):Snap hp I (.agg (zC inner d)) (.agg (bB inner [] d z32)) :=
 .agg ⟨by simp[zC,bB],yD _ (aW _) (ay (ao (.nil 1)) (ay (aM trivial) (fun i c e a b=>by
  rw[a]at b;cases b
  exact aM (aW _ _ (cr a)))))⟩
theorem OC(inner:List Nat)(l:Lf)(hi:inner.length=32):(dY inner l)[33]?=some (nb l.2):=by
 unfold dY;rw[dn (by rw[bV];omega),bV,hi];rfl
theorem JL(inner:List Nat)(l:Lf)(hi:inner.length=32)(h:33<(dY inner l).length):(dY inner l)[33]=nb l.2:=by
 have:=OC inner l hi;rw[cm h]at this;exact Option.some.inj this
theorem Ir:zPn.length=66:=rfl
theorem JM{inner:List Nat}(hi:inner.length=32)(d:Int):(zC inner d).length=66:=by simp[zC,aj,hi];rfl
theorem OD{inner:List Nat}(hi:inner.length=32)(d:Int):List.take 33 (cb inner++List.drop 32 zPn)++AV.d (DV.int IntKind.i64 d)::List.drop 34 (cb inner++List.drop 32 zPn)=zC inner d:=by
 have e:List.drop 32 zPn=.nil::.d (.int .i64 0)::cb z32:=rfl;have a:(cb inner).length=32:=by rw[aj,hi]
 rw[e,List.take_append,List.drop_append,cx aq,c_ aq,a];simp[zC]
theorem Ek(inner X Y:List Nat):eE inner [X,Y] (fun _=>0)=.tup [.d (.ro 34 [dY inner (bp [X,Y] 0,X),dY inner (bp [X,Y] 1,Y)]),.d (.int .i64 0)]:=by
 unfold eE;rw[if_neg (by simp[rL])];rfl
theorem fw:ap Tryz.prog 29 [] (fun r=>r=.d (.bool true)):=by
 refine bz Tryz.func29 Tryz.ntmps29 (rs:=[.tmp 0]) aw ?_;have u:bytes z32:=fun x i=>by simp[z32]at i;omega
 have l:z32.length=32:=rfl;have o:t9.length=32:=rfl;have q:bytes t9:=fun x i=>by simp[t9,z32]at i;omega
 have a:=Gz;have E:=JM a 3;obtain⟨A,h⟩:=adt;obtain⟨B,k⟩:=adu;obtain⟨y,v,f,_⟩:=tJ bG (aQ (fZ [])) (aQ (cH z32 (-1))) a Ei (by have:=ox [];omega) (by have:=mA (-1) l;omega);have p:px bG [] 3 z32 (fun _=>0)=eE bG [aQ (fZ []),aQ (cH z32 3)] (fun _=>0):=if_pos ⟨aq,aq,aw⟩;rw[Ek]at p;have e:=qJ bG [] 3 z32 a l u aq aq A (fun _=>0) h;rw[p]at e;have c:=t7 bG [] 3 z32 t9 a l o q aq aq _ (.inr ⟨aw,_,rfl⟩) e B (fun _=>0) k;simp only[Yi,↓reduceIte]at c;rw[Ek,Iq]at c;have g:=qJ bG [] (-1) z32 a l u aq aq y v f;have t:px bG [] (-1) z32 v=.tup [.nil,.d (.int .i64 1)]:=if_neg aq;rw[t]at g;generalize bp [aQ (fZ []),x4] 0=p0 at c;generalize bp [aQ (fZ []),x4] 1=p1 at c;generalize aQ (fZ [])=xr at c;clear e p t h k f;have m:=OD a 3;have n:=OD a (-1);have z:AV.d (DV.int IntKind.u8 9)::(cb z32).tail=cb t9:=rfl;simp[go_sem];refine ag zB aw ?_;simp[go_sem,a,aj,Ir,m,z];refine bn [] c rfl (ak (xE bG 3) (ak (.deep (aW _)) aC)) ?_;simp[go_sem];refine ag zB aw ?_;simp[go_sem,a,aj,Ir,n];refine bn [] g rfl (ak (xE bG (-1)) aC) ?_;have s:x4.length=37:=by kernel_rfl
 have D:x4.drop 33=[83,178,117,179]:=by kernel_rfl
 generalize x4=Y at *;have C:=ku a (p1,Y);have w:=JL bG (p1,Y) a;simp[go_sem,C,w,nb,s]
 have j:List.drop 33 (List.take 37 (List.map (fun(b:Nat)=>[DV.int IntKind.u8 (b:Int)]) Y))=[83,178,117,179].map fun(b:Nat)=>[DV.int IntKind.u8 (b:Int)]:=by
  rw[cx (by simp[s]),←List.map_drop,D]
 rw[j];refine Xy [83,178,117,179] 5 (by intro x i;simp at i;omega) (by simp[go_sem]) (by simp[go_sem]) Tryz.underlying5 ?_;simp[go_sem,sb,ai];exact ae a9 rfl
def lD(things:List (List Nat))(x c:List Nat)(e:Int):AV:=if e=0 then .tup [.d (.ro 1 ((things++[x,c]).map lg)),.d (.int .i64 0)]else .tup [.nil,.d (.int .i64 1)]
def sF(things:List (List Nat)):List (List AV):=things.map fun y=>[.d (nb y)]
theorem OE(n:Nat)(things:List (List Nat)):∀r,r∈sF things→∀v,v∈r→v.low1 n:=by
 intro r b v a;obtain⟨y,_,rfl⟩:=List.mem_map.1 b;simp at a;subst a;trivial
theorem xF(inner:List Nat)(a b:DV)(n:Nat):∀v,v∈ar inner (.d a) (.d b)→v.low1 n:=by
 intro v c;unfold ar at c;rcases cD.1 c with h|h;exact aE _ _ _ h;simp at h;rcases h with rfl|rfl<;>trivial
theorem OF(things:List (List Nat)):sF things=(things.map lg).map fun r=>r.map AV.d:=by simp[sF,lg]
theorem OG{Q:AV→Prop}{st:St}{id n:Nat}{L:List (List Nat)}(b:L.length=n)(a:lk id st.hp=some ⟨31,1,sF L⟩)(hq:Q (.tup [.d (.ro 1 (L.map lg)),.d (.int .i64 0)])):dm Q (.tup [.own id 0 n n,.d (.int .i64 0)]) st :=
 ew (ay (ao (eu (es:=L.map lg) (by rw[a,OF]) trivial (by simp[b]) (by simp[lg]))) (ay (aM trivial) bO)) rfl a9 hq
theorem GA(inner:List Nat)(b:List (List Nat))(x c:List Nat)(e:Int)(things:List (List Nat))(hi:inner.length=32)(s:x.length≤100000)(p:e=0∨e=1)(hc:ap Tryz.prog 118 [cF inner b x] (fun r=>r=.tup [.d (nb c),.d (.int .i64 e)]))
  (u:things.length≤1000) (q:∀y,y∈things→y.length≤100000) :
  ap Tryz.prog 75 [cF inner b x,.d (.ro 1 (things.map lg))] (fun r=>r=lD things x c e):=by
 refine bz Tryz.func75 Tryz.ntmps75 (rs:=[.tmp 4,.tmp 5]) (by
  intro v i;simp at i;rcases i with rfl|rfl;exact iw _ _ _
  trivial) ?_
 have g:(ar inner (.d (bS b)) (.d (nb x))).length=34:=jk hi _ _;have f:=jl hi (.d (bS b)) (.d (nb x));unfold cF at *;unfold lD;rcases p with rfl|rfl
 ·rw[if_pos rfl];simp[go_sem,g,f];refine ag hc (mP _ _ _) ?_;simp[go_sem]
  refine au (fun k:Nat=>⟨[(2,.ptr 0 0 0 1),(6,.d (nb c)),(8,.own 1000 0 k k),(19,.d (.ro 1 (things.map lg))),(20,.d (.int .i64 (things.length:Int))),(21,.d (.int .i64 (k:Int)))],[(0,⟨33,34,[ar inner (.d (bS b)) (.d (nb x))]⟩),(1000,⟨31,1,sF (things.take k)⟩)],1001⟩)
   (fun k=>k≤things.length) (fun k=>things.length-k) 0 aq (by
    simp[av,ah,fv,lk,AV.low,AV.low1,sF]
    exact xF _ _ _ _) ?_
  intro k t;simp[go_sem];refine⟨fun h=>?_,fun h=>?_⟩
  ·obtain⟨y,l⟩:∃y,things[k]?=some y:=⟨_,cm h⟩;have o:=az (k:=k) aq;have a:(sF (things.take k)).length=k:=by simp[sF];omega
   simp[go_sem,l,lg];refine ag (ek y (by have:=q y (cr l);omega)) a9 ?_;simp[go_sem,a,o];refine⟨aq,?_⟩;refine am (k+1) aq aq ?_;have j:sF (things.take (k+1))=sF (things.take k)++[[.d (nb y)]]:=by rw[List.take_add_one,l];simp[sF]
   simp[av,ah,fv,lk,AV.low,AV.low1,j];refine⟨xF _ _ _ _,fun r n=>?_⟩;rcases n with n|rfl;exact OE _ _ r n;intro v i;simp at i;subst i;trivial
  ·have a:k=things.length:=aq;subst a;have a:(sF things).length=things.length:=(by simp[sF]);have m:(ar inner (.d (bS b)) (.d (nb x)))[33]?=some (.d (nb x)):=kM hi _ _;simp[go_sem,m];refine ag (ek x aq) a9 ?_;simp[go_sem,a,ai];refine⟨aq,?_⟩;exact OG (L:=things++[x,c]) aw (by simp[lk,sF]) aw
 ·rw[if_neg aq];simp[go_sem,g,f];refine ag hc (mP _ _ _) ?_;simp[go_sem,ai];exact ae a9 rfl
theorem x5(things:List (List Nat))(x c:List Nat)(e:Int):lD things x c e=.tup [.nil,.d (.int .i64 1)]∨lD things x c e=.tup [.d (.ro 1 ((things++[x,c]).map lg)),.d (.int .i64 0)]:=by
 unfold lD;split;exact .inr rfl;exact .inl rfl
theorem Em(inner b:List Nat)(d:Int)(trig:List Nat)(e t:List Nat)(o0 o1 a:Int):∀v,v∈[AV.agg (bB inner b d trig),.d (nb e),.agg (cb t),.agg [.d (.int .i64 o0),.d (.int .i64 o1)],.d (.int .i64 a)]→v.deep:=by
 intro v c;simp at c;rcases c with rfl|rfl|rfl|rfl|rfl;exact kS _ _ _ _;trivial;exact aW _;simp[AV.deep,AV.deep1];trivial
theorem Bn(inner g:List Nat)(d:Int)(trig i t:List Nat)(o0 o1 a:Int)(hi:inner.length=32)(n:trig.length=32)(h:t.length=32)(v:i.length≤100000)
  (j:(-9223372036854775808≤a∧a<9223372036854775808)∧(-9223372036854775808≤o0∧o0<9223372036854775808)∧(-9223372036854775808≤o1∧o1<9223372036854775808)) (z f:Lf)
  (hp:ap Tryz.prog 30 [.agg (bB inner g d trig)] (fun r=>r=.tup [.d (.ro 34 [dY inner z,dY inner f]),.d (.int .i64 0)]))
  (c:List Nat) (e:Int) (x:f.2.length≤100000) (C:e=0∨e=1) (hc:ap Tryz.prog 118 [cF inner f.1 f.2] (fun r=>r=.tup [.d (nb c),.d (.int .i64 e)])) :
  ap Tryz.prog 48 [.agg (bB inner g d trig),.d (nb i),.agg (cb t),.agg [.d (.int .i64 o0),.d (.int .i64 o1)],.d (.int .i64 a)] (fun r=>r=lD [aU a,aU o1,aU o0,t,i] f.2 c e):=by
 refine mh Tryz.func48 (by kernel_rfl) rfl Tryz.ntmps48 (rs:=[.tmp 10,.tmp 11]) rfl (fD rfl) (Em _ _ _ _ _ _ _ _ _) ?_;have u:=dK hi n g d;have H:=iT a;have E:=iT o1;have F:=iT o0;have q:=GA inner f.1 f.2 c e [aU a,aU o1,aU o0,t,i] hi x C hc aw (by
  intro y s;simp at s
  rcases s with rfl|rfl|rfl|rfl|rfl<;>omega)
 have B:=x5 [aU a,aU o1,aU o0,t,i] f.2 c e;generalize lD [aU a,aU o1,aU o0,t,i] f.2 c e=V at *;have A:=mN a j.1.1 j.1.2;have D:=mN o1 j.2.2.1 j.2.2.2;have w:=mN o0 j.2.1.1 j.2.1.2;generalize aU a=y0 at *;generalize aU o1=y1 at *;generalize aU o0=y2 at *;refine bQ (aD ?_);simp[go_sem,u,bq hi n,aj,h,al h];simp only[fN];refine nS (st':=⟨[(1,.d (nb i)),(4,.d (.int .i64 a)),(5,.ptr 0 0 0 1),(7,.rop (cd t)),(8,.ptr 64 0 0 1)],[(0,⟨76,66,[bB inner g d trig]⟩),(64,⟨73,2,[[.d (.int .i64 o0),.d (.int .i64 o1)]]⟩)],9000⟩) (rj [32] [(7,.rop (cd t))] ?_ ?_) ?_
 intro p hp;simp only[d_,List.mem_nil_iff,or_false]at hp;subst hp;exact .ptr aw rfl rfl rfl (by rw[List.drop_zero,←cQ];exact jg _);simp[av,ah,fv,lk,aN,AV.low,AV.low1];exact tG _ _ _ _ _;refine aD ?_;have o:List.map (fun c=>[c]) (List.take 32 (cd t))=t.map fun(b:Nat)=>[DV.int .u8 (b:Int)]:=by
  rw[cx (by simp[bV,h])];simp[cd]
 have l:=ku hi f;simp[go_sem,u,bq hi n];refine ag hp (de _ _ _ _) ?_;simp[go_sem];refine cG [0,1,2,3,5,6,8,9,11,12] [(4,[]),(7,[]),(10,[]),(13,[]),(14,[15,16,17,18])] 5 (k:=19) ?_;intro G m;simp[go_sem,l,oV,jk hi,jl hi,bV,h,o];refine ag A a9 ?_;simp[go_sem];refine ag D a9 ?_;simp[go_sem];refine ag w a9 ?_;simp[go_sem];refine bn [9704] q rfl (ak (.deep (iw _ _ _)) (ak (.one (ao (eu (ty:=31) (e:=1) (es:=[y0,y1,y2,t,i].map lg) (by simp[lk,lg,nb]) aw rfl (by simp[lg])))) aC)) ?_;rcases B with rfl|rfl
 ·simp[go_sem,aN];refine m _ _ ?_;clear m G;simp[go_sem,ai];exact ae a9 rfl
 ·simp[go_sem,aN];refine m _ _ ?_;clear m G;simp[go_sem,ai];exact ae a9 rfl
open Go.Am Go.Sha
theorem S3{m v:Nat}{coins:List (Nat×List Nat)}{s:List Nat}(h:Ul coins)(c:v<18446744073709551616)(a:s.length≤1100):Ul (coins.set m (v,s)) :=
 ⟨by rw[List.length_set];exact h.1,fun o b=>by
  rcases List.mem_or_eq_of_mem_set b with q|rfl;exact h.2 o q
  exact⟨c,a⟩⟩
theorem JO{m v:Nat}{coins:List (Nat×List Nat)}{s:List Nat}(h:∀o,o∈coins→bytes o.2)(a:bytes s):∀o,o∈coins.set m (v,s)→bytes o.2:=fun o b=>by
 rcases List.mem_or_eq_of_mem_set b with q|rfl;exact h o q;exact a
theorem pA{k:List Nat}(h:bytes k):bytes (81::32::k):=by
 intro y a;simp only[d_]at a;rcases a with rfl|rfl|a;omega;omega;exact h y a
theorem XV(F:RnF)(h:RnS0 F){z:bL→bL→bL→Bool}{j:bL→bL×Int}(p:XA z)(k:Oj F.inner F.path j)(g:bL)(hc:cp F.t (F.n:Int) F.coins=0)(D:g.length=32)(B:bytes g)
  (C:ap Tryz.prog 43 [.agg (eS F.t (F.n:Int) F.coins),.d (nb (db F.script)),.d (nb F.annex)] (fun r=>r=.tup [.agg (cb g),.d (.int .i64 0)])) :
  RnE F ⟨b7,QW,z,g,(F.t.lock:Int),(F.t.ver:Int),(((F.t.ins[F.n]?.map Ip.seq).getD 0:Nat):Int),Oa F.t F.n,wQ F.t (F.n:Int) F.coins,fun s o0 o1 bk=>pS F.t (F.n:Int) F.coins o0 o1 bk (j s).1 (j s).2⟩:=by
 have l:mR F.t=0∧F.coins.length=F.t.ins.length∧(F.n:Int)<(F.coins.length:Int):=by
  unfold cp at hc;split at hc;cases hc;rename_i m;simp only[not_or,Int.not_lt,Int.not_le,ne_eq,Classical.not_not]at m;exact⟨m.1,m.2.1,m.2.2.2.1⟩
 have u:F.n<F.t.ins.length:=by have:=l.2.1;have:=l.2.2;omega
 have hi:=cm u;have q:(F.t.ins[F.n]).ok:=h.t.1.2.2.1 _ (List.getElem_mem u);exact {
  hi:=h.i
  hs:=h.s
  ml:=D
  mb:=B
  mg:=⟨0,C⟩
  vf:=fun w g v a b c d e f=>p w g v a b d e f
  tl:=bo _
  tb:=ik _
  tg:=⟨0,Xv F.t F.n h.t l.1 u⟩
  rc:=fun y o A x=>FI F.t (F.n:Int) F.coins y o h.t (by have:=h.c.1;omega) A
  tr:=fun s o0 o1 bk A x G E=>⟨Oi (Gt F.t (F.n:Int) F.coins F.inner F.path F.script s (j s).1 o0 o1 bk (j s).2 h.t (by have:=h.c.1;omega) h.i (k s x).1 h.ob h.cb E (k s x).2),zq _ _ _ _ _ _ _ _⟩
  sq:=⟨F.t.ins[F.n],hi,q,by rw[hi];rfl⟩
  lk:=⟨h.t.1.2.1,rfl⟩
  vr:=⟨h.t.1.1,rfl⟩
  hh:=⟨rfl,rfl⟩ }
structure TrH(inner rec key t1:List Nat)(D:Nat)(t:Tn)(m:Nat)(coins:List (Nat×List Nat))(l0 l1 b1:Lf)(k k2 q sg:List Nat)(o1 p1:Bool)(j bk:Nat):Prop where
 il:inner.length=32
 ib:bytes inner
 kl:key.length=32
 kb:bytes key
 tl:t1.length=32
 tb:bytes t1
 dl:D≤65535
 sm:Sm t
 cc:Ul coins
 cby:∀o,o∈coins→bytes o.2
 ob:∀o,o∈t.outs→bytes o.2
 L1:LfK inner l1 (aQ (cH key (D:Int))) k o1
 B1:LfK inner b1 (aQ (eV t1 (D:Int))) k2 p1
 pa:l1.1=b1.1
 at':coins[m]?=some (64,81::32::k)
 oj:∃v,t.outs[j]?=some (v,81::32::k2)
 ok:∃v,t.outs[j+1]?=some (v,81::32::k)
 j1:j<60
 bk:bk<64
 ck:cp t (m:Int) coins=0
 ql:q.length=32
 qb:bytes q
 sl:sg.length=64
 sb:bytes sg
 ms:ap Tryz.prog 43 [.agg (eS t (m:Int) coins),.d (nb (db (aQ (cH key (D:Int))))),.d (nb [])] (fun r=>r=.tup [.agg (cb q),.d (.int .i64 0)])
 vf:ap Tryz.prog 156 [.agg (cb key),.d (nb q),.d (nb sg)] (fun v=>v=.d (.bool true))
theorem En{trig:List Nat}(d:Int)(e:trig.length=32)(c:bytes trig):bytes (aQ (cH trig d)):=wj (fun w a=>by
 have:=rM d e c w a;refine⟨this.2,this.1.2,?_⟩;simp[cH]at a;rcases a with rfl|rfl|rfl|rfl|rfl;exact jS c;exact fun z b=>by simp at b
 exact jS (nW d)
 all_goals exact fun z b=>by simp at b)
theorem S4{inner l key g:List Nat}{D:Nat}{t:Tn}{m:Nat}{coins:List (Nat×List Nat)}{P f X:Lf}{k k2 q i:List Nat}{o1 p1:Bool}{j bk:Nat}(h:TrH inner l key g D t m coins P f X k k2 q i o1 p1 j bk)
  (hp:ap Tryz.prog 30 [.agg (bB inner l (D:Int) key)] (fun r=>r=xB inner P f)) :
  ∃w:List (List Nat),ap Tryz.prog 48 [.agg (bB inner l (D:Int) key),.d (nb i),.agg (cb g),.agg [.d (.int .i64 (j:Int)),.d (.int .i64 ((j+1:Nat):Int))],.d (.int .i64 (bk:Int))] (fun r=>r=.tup [.d (.ro 1 (w.map bP)),.d (.int .i64 0)]) ∧
   ap Tryz.prog 34 [.agg (eS t (m:Int) coins),.d (.ro 1 (w.map bP))] (fun r=>r=Bl ([((j:Int),64-(bk:Int)),(((j+1:Nat):Int),(bk:Int))],0)):=by
 have af:=mA (D:Int) h.kl;have ac:=tH (D:Int) h.tl;have L:=En (D:Int) h.kl h.kb;obtain⟨y,E⟩:=aaW;have u:f.1.length≤1000:=by have:=h.L1.pl;omega
 obtain⟨b,A⟩:=SE inner f.1 h.il h.ib h.L1.p u;have M:XA (fun a s c=>if a=key∧s=i∧c=q then true else y a s c):=by
  intro a c s h1 B Y h4 h5;by_cases e:a=key∧s=i∧c=q;obtain⟨rfl,rfl,rfl⟩:=e;simp only[and_self,↓reduceIte];exact h.vf;simp only[e,↓reduceIte];exact E a c s h1 B Y h4 h5
 have F:Oj inner f.1 (fun s=>if s=aQ (eV g (D:Int))then(81::32::k2,0)else b s):=by
  intro s W;by_cases e:s=aQ (eV g (D:Int));subst e;simp only[↓reduceIte];have:=jr h.il h.B1.kl h.B1.t;rw[←h.pa,h.B1.s]at this;exact⟨pA h.B1.kb,this⟩;simp only[e,↓reduceIte];exact A s W
 obtain⟨v0,R⟩:=h.oj;obtain⟨v1,T⟩:=h.ok;have O:∀o,o∈coins→bytes o.2∧o.1<18446744073709551616:=fun o U=>⟨h.cby o U,(h.cc.2 o U).1⟩;have J:RnS0 ⟨t,m,coins,inner,f.1,aQ (cH key (D:Int)),[]⟩:=⟨h.sm,h.cc,O,h.ob,h.il,h.ib,by show(aQ (cH key (D:Int))).length≤_;omega,h.L1.p,u,by show([]:List Nat).length≤1000;simp⟩;have Z:=XV ⟨t,m,coins,inner,f.1,aQ (cH key (D:Int)),[]⟩ J M F q h.ck h.ql h.qb h.ms;have z:∀n:Nat,n<64→(aU (n:Int)).length≤1:=jZ;have H:StOk [aU (bk:Int),aU ((j+1:Nat):Int),aU (j:Int),g,i] []:=by
  refine⟨aw,aw,?_,aw⟩;intro x V;simp only[d_,List.mem_nil_iff,or_false]at V;rcases V with rfl|rfl|rfl|rfl|rfl;exact⟨by have:=z bk h.bk;omega,fi _⟩;exact⟨by have:=z (j+1) (by have:=h.j1;omega);omega,fi _⟩;exact⟨by have:=z j (by have:=h.j1;omega);omega,fi _⟩;exact⟨by have:=h.tl;omega,h.tb⟩;exact⟨by have:=h.sl;omega,h.sb⟩
 have K:XD (aQ (cH key (D:Int))) ((aQ (cH key (D:Int))).length+1) 0:=Ii _ (cH key (D:Int)) 0 (by
  intro w N;have lw:=jm (D:Int);have kl:=h.kl;have B:=(rM (D:Int) h.kl h.kb w N).2;simp only[cH,d_,List.mem_nil_iff,or_false]at N;rcases N with rfl|rfl|rfl|rfl|rfl;exact⟨⟨pz _ aq,B⟩,fun q=>by rw[tC aq]at q;cases q⟩
  exact⟨⟨Nat.zero_le _,B⟩,fun _=>.inl rfl⟩;exact⟨⟨pz _ aq,B⟩,fun q=>by rw[tC aq]at q;cases q⟩
  exact⟨⟨Nat.zero_le _,B⟩,fun q=>by cases q⟩
  exact⟨⟨Nat.zero_le _,B⟩,fun _=>.inr rfl⟩) (List.drop_zero ..)
 have hr:=aaY ⟨t,m,coins,inner,f.1,aQ (cH key (D:Int)),[]⟩ _ [aU (bk:Int),aU ((j+1:Nat):Int),aU (j:Int),g,i] 1000 h.sm (by have:=h.cc.1;show coins.length≤1000;omega) h.il L H ⟨aq,aq⟩ (fun _ _=>Z) (fun s o0 o1 bk=>zq _ _ _ _ _ _ _ _) K;have ab:=h.j1;have I:=h.bk;have v:(81::32::k)=(fu coins (m:Int)).2∧(fu coins (m:Int)).1=64:=by
  unfold fu;rw[Int.toNat_natCast,h.at'];exact⟨rfl,rfl⟩
 have Q:pS t (m:Int) coins (j:Int) ((j+1:Nat):Int) (bk:Int) (81::32::k2) 0=([((j:Int),64-(bk:Int)),(((j+1:Nat):Int),(bk:Int))],0):=by
  have S:xX t (j:Int) (81::32::k2) 0=true:=by
   unfold xX;rw[Int.toNat_natCast,R];simp
  have G:xX t ((j+1:Nat):Int) (fu coins (m:Int)).2 0=true:=by
   unfold xX;rw[Int.toNat_natCast,T];simp[←v.1];omega
  unfold pS;rw[if_neg (by rw[h.ck];simp),if_neg (by rw[S,v.2];simp;omega),if_neg aq,if_neg (by rw[G];simp;omega),v.2];rfl
 have C:=SR (x:=⟨b7,QW,fun a s c=>if a=key∧s=i∧c=q then true else y a s c,q,(t.lock:Int),(t.ver:Int),(((t.ins[m]?.map Ip.seq).getD 0:Nat):Int),Oa t m,wQ t (m:Int) coins,fun s o0 o1 bk=>pS t (m:Int) coins o0 o1 bk (if s=aQ (eV g (D:Int))then(81::32::k2,0)else b s).1 (if s=aQ (eV g (D:Int))then(81::32::k2,0)else b s).2⟩)
  (trig:=key) (sig:=i) (t:=g) (d:=D) (o0:=j) (o1:=j+1) (bk:=bk) h.kl h.kb h.sl h.tl aq aq I aw (by simp only[↓reduceIte];exact Q)
 have hP:Jw ⟨t,m,coins,inner,f.1,aQ (cH key (D:Int)),[]⟩ ⟨b7,QW,fun a s c=>if a=key∧s=i∧c=q then true else y a s c,q,(t.lock:Int),(t.ver:Int),(((t.ins[m]?.map Ip.seq).getD 0:Nat):Int),Oa t m,wQ t (m:Int) coins,fun s o0 o1 bk=>pS t (m:Int) coins o0 o1 bk (if s=aQ (eV g (D:Int))then(81::32::k2,0)else b s).1 (if s=aQ (eV g (D:Int))then(81::32::k2,0)else b s).2⟩ [aU (bk:Int),aU ((j+1:Nat):Int),aU (j:Int),g,i] 1000 =
   .tup [.d (.ro 2 (([((j:Int),64-(bk:Int)),(((j+1:Nat):Int),(bk:Int))]:List (Int×Int)).map eQ)),.d (.int .i64 0)]:=by
  unfold Jw;rw[if_neg (by rintro(q|q);exact q h.ck;simp only at q;omega),C]
 refine⟨[aU (bk:Int),aU ((j+1:Nat):Int),aU (j:Int),g,i]++[f.2,gy o1 inner f.1],?_,Gy t m coins inner f _ k o1 64 _ ([((j:Int),64-(bk:Int)),(((j+1:Nat):Int),(bk:Int))],0) h.il h.L1 h.at' aw (by
  rw[←hP,h.L1.s]
  exact hr)⟩
 have:=Bn inner l (D:Int) key i g (j:Int) ((j+1:Nat):Int) (bk:Int) h.il h.kl h.tl (by have:=h.sl;omega) ⟨⟨aq,aq⟩,⟨aq,aq⟩,⟨aq,aq⟩⟩ P f hp (gy o1 inner f.1) 0 (by rw[h.L1.s];omega) (.inl rfl) (Gm h.il h.L1.p u h.L1.kl h.L1.t);unfold lD at this;rw[if_pos rfl]at this;exact this
theorem Eo(inner a:List Nat)(d:Int)(trig:List Nat)(t:Tn)(n:Int)(coins:List (Nat×List Nat)):∀v,v∈[AV.agg (bB inner a d trig),.agg (eS t n coins)]→v.deep:=by
 intro v b;simp only[d_,List.mem_nil_iff,or_false]at b;rcases b with rfl|rfl;exact kS _ _ _ _;exact ow t n coins _ aw
theorem OH(k:List Nat)(e:Int):(AV.tup [.agg (cb k),.d (.int .i64 e)]).deep:=by
 intro c hc;simp only[d_,List.mem_nil_iff,or_false]at hc;rcases hc with rfl|rfl;exact .inr ⟨_,rfl,aW _⟩;exact .inl trivial
theorem OI(k:List Nat)(e:Int):(AV.tup [.agg (cb k),.d (.int .i64 e)]).flat:=by
 intro c hc;simp only[d_,List.mem_nil_iff,or_false]at hc;rcases hc with rfl|rfl;refine .inr ⟨_,rfl,?_⟩;intro x a;simp only[cb,List.mem_map]at a;obtain⟨y,_,rfl⟩:=a;trivial;exact .inl trivial
theorem S5(inner a:List Nat)(d:Int)(trig:List Nat)(t:Tn)(n:Int)(coins:List (Nat×List Nat))(k:List Nat)(hi:inner.length=32)(f:trig.length=32)(B:bytes trig)(z:-9223372036854775808≤d)(D:d<9223372036854775808)(i:k.length=32)
  (u:ap Tryz.prog 73 [.agg (bB inner a d trig)] (fun r=>r=.d (.int .i64 0)))
  (w:ap Tryz.prog 43 [.agg (eS t n coins),.d (nb (db (aQ (cH trig d)))),.d (nb [])] (fun r=>r=.tup [.agg (cb k),.d (.int .i64 0)])) :
  ap Tryz.prog 47 [.agg (bB inner a d trig),.agg (eS t n coins)] (fun r=>r=.tup [.agg (cb k),.d (.int .i64 0)]):=by
 refine bz Tryz.func47 Tryz.ntmps47 (rs:=[.cell 4 29,.tmp 5]) (Eo _ _ _ _ _ _ _) ?_;have m:=dK hi f a d;have c:=bq hi f a d;have b:=de inner a d trig;have p:=tX inner a d trig hi f B z D;have s:=mA d f;have o:=lq (aQ (cH trig d)) aq;rw[show eH [84,97,112,76,101,97,102] (192::(ax (aQ (cH trig d)).length++aQ (cH trig d)))=db (aQ (cH trig d))from rfl]at o;have e:=kt (aQ (cH trig d));generalize aQ (cH trig d)=x at *;generalize db x=y at *;have l:(eS t n coins).length=6:=rfl;have E:List.take 6 (eS t n coins)=eS t n coins:=rfl;have h:=ow t n coins;generalize eS t n coins=S at *;simp[go_sem,m,c,l];refine ag u b ?_;simp[go_sem,m,c];refine ag p b ?_;simp[go_sem];refine ag o a9 ?_;simp[go_sem,e,aj,bK];refine cO [0,1] [2,4,5,6] [0,1,3] (.step 2 [3] true (bt 4 (a_ [5,6]))) ⟨[(4,.ptr 64 0 0 1),(5,.d (.int .i64 0))],[(64,⟨29,32,[cb k]⟩)],5000⟩ (k:=7) ?h3 ?hq
 case h3 =>
  intro G q;have A:∀(g:Fr)(j:Hp),(fv 4 g=.ptr 64 0 0 1∧fv 5 g=.d (.int .i64 0)∧lk 64 j=some ⟨29,32,[cb k]⟩)→G g j:=by
   rintro g j⟨v,C,F⟩;refine q _ _ (aV ⟨?_,?_,aw⟩);simp[ah,AV.low,AV.low1,v,C];simp[F];exact aE _ _
  simp[go_sem,l,E];refine jx w rfl (ak (.deep (h _ aw)) (ak (.one (ao (dE rfl trivial e))) (ak (.one (ao (.nil 1))) aC))) (OI _ _) ?_;simp[go_sem,aj,i,bK];refine A _ _ ?_;simp[fv,lk]
 case hq =>
  simp[go_sem,aj,i,al i,ai];exact ae (OH _ _) rfl
theorem ksQ:d6 Tryz.prog 8 55=some [some .i64,some .u64]:=by kernel_rfl
theorem egQ:Tryz.prog.eqGuardType Tryz.prog.depth 55=false:=by kernel_rfl
theorem S7{n:Nat}{b:List DV}(h:jh Tryz.prog (n+1) 2 b):∃x:Int,b=[.int .i64 x]∧-9223372036854775808≤x∧x<9223372036854775808:=by
 rw[jh]at h;simp only[Tryz.underlying2]at h;obtain⟨x,rfl,c⟩:=h;have a:-9223372036854775808≤x∧x<9223372036854775808:=by simp[IntKind.has,IntKind.min,IntKind.max,IntKind.signed,IntKind.bits]at c;omega
 exact⟨x,rfl,a⟩
theorem OJ{n:Nat}{a:AV}(h:rm Tryz.prog (n+4) 76 a):∃(inner c:List Nat)(d:Int)(trig:List Nat),a=.agg (bB inner c d trig)∧inner.length=32∧bytes inner∧bytes c∧(-9223372036854775808≤d∧d<9223372036854775808)∧trig.length=32∧bytes trig:=by
 unfold rm at h;simp only[Tryz.underlying76]at h;obtain⟨s,rfl,h⟩:=h;rw[jh]at h;simp only[Tryz.underlying76,List.map_cons,List.map_nil]at h;obtain⟨a,b,rfl,t,i,p,x,rfl,j,e,w,b3,rfl,hc,g,u,b4,rfl,v,f,rfl⟩:=h;obtain⟨inner,rfl,l,r⟩:=E7 i;rw[show Tryz.prog.cellsOf 31=1 by kernel_rfl]at j;obtain⟨d,rfl,k⟩:=S7 g;obtain⟨trig,rfl,m,o⟩:=E7 f
 match p,j,e with
 |[y],_,e =>
  obtain⟨c,rfl,_,q⟩:=vP e;exact⟨inner,c,d,trig,by simp[bB,cQ],l,r,q,k,m,o⟩
end Go.Proofs.YtmfnimjnneflnaaGreat
