/-
 Part 9 of what the claim rests on.
-/
import Derived.Test.YtmfnimjnneflnaaGreatP6
import Derived.Test.YtmfnimjnneflnaaGreatP7
import Derived.Laws.Externs
import Derived.Laws.MathBits
import Derived.Laws.Bits64b
set_option linter.unusedVariables false
set_option linter.unusedSimpArgs false
set_option maxRecDepth 100000
set_option maxHeartbeats 16000000
namespace Go.Proofs.YtmfnimjnneflnaaGreat
open Go.Am Go.Sha
def RS(b:Bool):Int:=if b then 1 else 0
theorem Cf(b:Bool):ay Tryz.prog 259 [.d (.bool b)] (fun r=>r=.d (.int .i64 (RS b))):=by
 refine bL Tryz.func259 Tryz.ntmps259 (rs:=[.tmp 2]) a9 ?_
 cases b with
 |true =>
  simp[go_sem,ah,RS];exact aa a9 rfl
 |false =>
  simp[go_sem,ah,RS];exact aa a9 rfl
def lT(o:Option Int):AV:=.tup [.d (.int .i64 (o.getD 0)),.d (.bool o.isSome)]
def jZ(o:Option Bool):AV:=.tup [.d (.bool (o.getD false)),.d (.bool o.isSome)]
theorem dk(o:Option Int):(lT o).deep:=by
 intro c hc;simp[lT]at hc;rcases hc with rfl|rfl<;>exact .inl trivial
theorem dm(o:Option Bool):(jZ o).deep:=by
 intro c hc;simp[jZ]at hc;rcases hc with rfl|rfl<;>exact .inl trivial
theorem aT{v r:AV}{st:St}(h:v=r)(hd:r.deep):dy (fun x=>x=r) v st:=by
 subst h;exact aa hd rfl
theorem PN(op:Nat)(ho:op<256)(a:Int)(ha:-2147483648<a∧a<2147483648):ay Tryz.prog 255 [.d (.int .u8 (op:Int)),.d (.int .i64 a)] (fun r=>r=lT (sB op a)):=by
 refine bL Tryz.func255 Tryz.ntmps255 (rs:=[.tmp 4,.tmp 5]) a9 ?_;simp[go_sem];by_cases h139:op=139
 ·subst h139;rw[show sB 139 a=some (a+1)from rfl];have w:IntKind.i64.wrap (a+1)=a+1:=IntWalk.i64_in _ aq;simp[go_sem,w,ah];exact aT rfl (dk _)
 have i139:¬(op:Int)=139:=aq;simp[go_sem,h139,i139];by_cases h140:op=140
 ·subst h140;rw[show sB 140 a=some (a-1)from rfl];have w:IntKind.i64.wrap (a-1)=a-1:=IntWalk.i64_in _ aq;simp[go_sem,w,ah];exact aT rfl (dk _)
 have i140:¬(op:Int)=140:=aq;simp[go_sem,h140,i140];by_cases h143:op=143
 ·subst h143;rw[show sB 143 a=some (-a)from rfl];have w:IntKind.i64.wrap (0-a)=-a:=by rw[IntWalk.i64_in _ aq];omega
  have w':IntKind.i64.wrap (-a)=-a:=IntWalk.i64_in _ aq;simp[go_sem,w,w',ah];exact aT rfl (dk _)
 have i143:¬(op:Int)=143:=aq;simp[go_sem,h143,i143];by_cases h144:op=144
 ·subst h144;rw[show sB 144 a=some (max a (-a))from rfl];have w:IntKind.i64.wrap (0-a)=-a:=by rw[IntWalk.i64_in _ aq];omega
  have w':IntKind.i64.wrap (-a)=-a:=IntWalk.i64_in _ aq;have hm:(if a < -a then -a else a)=max a (-a):=aq;simp[go_sem,w,w',Xm,hm,ah];exact aT rfl (dk _)
 have i144:¬(op:Int)=144:=aq;simp[go_sem,h144,i144];by_cases h145:op=145
 ·subst h145;rw[show sB 145 a=some (if a=0 then 1 else 0)from rfl];simp[go_sem];refine ag (Cf _) a9 ?_;simp[go_sem,ah];exact aT (by by_cases h:a=0<;>simp[lT,RS,h]) (dk _)
 have i145:¬(op:Int)=145:=aq;simp[go_sem,h145,i145];by_cases h146:op=146
 ·subst h146;rw[show sB 146 a=some (if a=0 then 0 else 1)from rfl];simp[go_sem];refine ag (Cf _) a9 ?_;simp[go_sem,ah];exact aT (by by_cases h:a=0<;>simp[lT,RS,h]) (dk _)
 have i146:¬(op:Int)=146:=aq;have hn:sB op a=none:=by simp[sB,h139,h140,h143,h144,h145,h146]
 rw[hn];simp[go_sem,h146,i146,ah];exact aT rfl (dk _)
theorem VO(op:Nat)(ho:op<256)(a:Int)(ha:-2147483648<a∧a<2147483648)(b:Int)(hb:-2147483648<b∧b<2147483648):ay Tryz.prog 260 [.d (.int .u8 (op:Int)),.d (.int .i64 a),.d (.int .i64 b)] (fun r=>r=jZ (A8 op a b)):=by
 refine bL Tryz.func260 Tryz.ntmps260 (rs:=[.tmp 6,.tmp 7]) a9 ?_;simp[go_sem];by_cases h154:op=154
 ·subst h154;rw[show A8 154 a b=some (decide (a≠0)&&decide (b≠0))from rfl];by_cases ha0:a=0
  ·simp[go_sem,ha0,ah];exact aT (by simp[jZ]) (dm _)
  ·simp[go_sem,ha0,ah];exact aT (by simp[jZ]) (dm _)
 have i154:¬(op:Int)=154:=aq;simp[go_sem,h154,i154];by_cases h155:op=155
 ·subst h155;rw[show A8 155 a b=some (decide (a≠0)||decide (b≠0))from rfl];by_cases ha0:a=0
  ·simp[go_sem,ha0,ah];exact aT (by simp[jZ]) (dm _)
  ·simp[go_sem,ha0,ah];exact aT (by simp[jZ]) (dm _)
 have i155:¬(op:Int)=155:=aq;simp[go_sem,h155,i155];by_cases h156:op=156
 ·subst h156;rw[show A8 156 a b=some (decide (a=b))from rfl];simp[go_sem,ah];exact aT (by simp[jZ]) (dm _)
 have i156:¬(op:Int)=156:=aq;simp[go_sem,h156,i156];by_cases h157:op=157
 ·subst h157;rw[show A8 157 a b=some (decide (a=b))from rfl];simp[go_sem,ah];exact aT (by simp[jZ]) (dm _)
 have i157:¬(op:Int)=157:=aq;simp[go_sem,h157,i157];by_cases h158:op=158
 ·subst h158;rw[show A8 158 a b=some (decide (a≠b))from rfl];simp[go_sem,ah];exact aT (by simp[jZ]) (dm _)
 have i158:¬(op:Int)=158:=aq;simp[go_sem,h158,i158];by_cases h159:op=159
 ·subst h159;rw[show A8 159 a b=some (decide (a<b))from rfl];simp[go_sem,ah];exact aT (by simp[jZ]) (dm _)
 have i159:¬(op:Int)=159:=aq;simp[go_sem,h159,i159];by_cases h160:op=160
 ·subst h160;rw[show A8 160 a b=some (decide (b<a))from rfl];simp[go_sem,ah];exact aT (by simp[jZ]) (dm _)
 have i160:¬(op:Int)=160:=aq;simp[go_sem,h160,i160];by_cases h161:op=161
 ·subst h161;rw[show A8 161 a b=some (decide (a≤b))from rfl];simp[go_sem,ah];exact aT (by simp[jZ]) (dm _)
 have i161:¬(op:Int)=161:=aq;simp[go_sem,h161,i161];by_cases h162:op=162
 ·subst h162;rw[show A8 162 a b=some (decide (b≤a))from rfl];simp[go_sem,ah];exact aT (by simp[jZ]) (dm _)
 have i162:¬(op:Int)=162:=aq;have hn:A8 op a b=none:=by simp[A8,h154,h155,h156,h157,h158,h159,h160,h161,h162]
 rw[hn];simp[go_sem,h162,i162,ah];exact aT rfl (dm _)
theorem PO(op:Nat)(ho:op<256)(a:Int)(ha:-2147483648<a∧a<2147483648)(b:Int)(hb:-2147483648<b∧b<2147483648):ay Tryz.prog 256 [.d (.int .u8 (op:Int)),.d (.int .i64 a),.d (.int .i64 b)] (fun r=>r=lT (tB op a b)):=by
 refine bL Tryz.func256 Tryz.ntmps256 (rs:=[.tmp 6,.tmp 7]) a9 ?_;simp[go_sem];by_cases h147:op=147
 ·subst h147;rw[show tB 147 a b=some (a+b)from rfl];have w:IntKind.i64.wrap (a+b)=a+b:=IntWalk.i64_in _ aq;simp[go_sem,w,ah];exact aT rfl (dk _)
 have i147:¬(op:Int)=147:=aq;simp[go_sem,h147,i147];by_cases h148:op=148
 ·subst h148;rw[show tB 148 a b=some (a-b)from rfl];have w:IntKind.i64.wrap (a-b)=a-b:=IntWalk.i64_in _ aq;simp[go_sem,w,ah];exact aT rfl (dk _)
 have i148:¬(op:Int)=148:=aq;simp[go_sem,h148,i148];by_cases h163:op=163
 ·subst h163;rw[show tB 163 a b=some (min a b)from rfl];have hm:(if b<a then b else a)=min a b:=aq;simp[go_sem,Yf,hm,ah];exact aT rfl (dk _)
 have i163:¬(op:Int)=163:=aq;simp[go_sem,h163,i163];by_cases h164:op=164
 ·subst h164;rw[show tB 164 a b=some (max a b)from rfl];have hm:(if a<b then b else a)=max a b:=aq;simp[go_sem,Xm,hm,ah];exact aT rfl (dk _)
 have i164:¬(op:Int)=164:=aq;have hn:tB op a b=(A8 op a b).map fun v=>if v then 1 else 0:=by simp[tB,h147,h148,h163,h164]
 rw[hn];simp[go_sem,h164,i164];refine ag (VO op ho a ha b hb) a9 ?_;simp[go_sem,jZ];refine ag (Cf _) a9 ?_;simp[go_sem,ah]
 exact aT (by cases A8 op a b with
  |none=>simp[lT,RS]
  |some v=>cases v<;>simp[lT,RS]) (dk _)
def jk(l:List Int):List (List AV):=l.map fun v=>[.d (.int .i64 v)]
theorem Jg(ρ:Nat→Nat)(l:List Int):aM ρ (jk l)=jk l:=by
 simp only[aM,jk,List.map_map];exact List.map_congr_left fun v _=>rfl
theorem Jh(l:List Int):(jk l).length=l.length:=by simp[jk]
theorem tW(n:Nat)(l:List Int):∀r,r∈jk l→∀v,v∈r→v.low1 n:=by
 intro r hr v hv;obtain⟨x,_,rfl⟩:=List.mem_map.1 hr;simp only[et,List.mem_nil_iff,or_false]at hv;subst hv;trivial
def PP(g:FuncId)(C:Nat)(ty:TypeId)(s:McS)(ars:List AV)(R:List Int→McS→Prop):Prop :=
 cj Tryz.prog g 3 (ia 3 bq s id) ars (fun r hp'=>∃vs s',R vs s'∧r=.own C 0 vs.length vs.length∧lk C hp'=some ⟨ty,1,jk vs⟩∧rZ 3 bq s' id hp')
theorem Ji{N C:Nat}{Pp:Hp}{g:FuncId}{ty:TypeId}{s:McS}{ars:List AV}{R:List Int→McS→Prop}{K:AV→Hp→Prop}(h:PP g C ty s (.ptr 0 0 0 1::ars) R)(hC:3≤C)(hN:3≤N)(hP:∀p,p∈Pp→p.1<N∧3≤p.1)(has:∀ ρ,AV.renL ρ ars=ars)
  (hK:∀vs s',R vs s'→K (.own N 0 vs.length vs.length) ((N,⟨ty,1,jk vs⟩)::(Pp++ia 3 bq s' id))):sn Tryz.prog g (.ptr 0 0 0 1::ars) (Pp++ia 3 bq s id) N K:=by
 have hid:∀j,j<3→bQ (jX 3 id id) 3 (id j)=j:=fun j hj=>sC id 3 (aU 3) hj;have hnw:cy (jX 3 id id) [(C,0)]=true:=BW hC
 have hix:rZ 3 bq s id (Pp++ia 3 bq s id):=fun j hj=>by
  rw[lD]
  cases hl:lk (id j) Pp with
  |none=>exact xC _ (aU 3) hj
  |some x=>have:=(hP _ (bK hl)).2;exact absurd hj (by show ¬j<3;simp[id]at this;omega)
 refine .inl (nE (n:=3) (b0:=bq s id) id h (fun i x hi=>D1 i x hi) (aU 3) (fun i hi=>by show i<N;omega) (fun j hj=>⟨_,hix j hj,bG.2 _ _ _ hj,(bG.1 s id _ id j hj hid).symm⟩) ?_ [(C,0)] hnw ?_)
 ·rw[AV.renL,has,AV.ren];rfl
 rintro r hp'⟨vs,s',hR,rfl,hrow,hs'⟩hpX q1 q2 q3;have hro:∀j,j<3→v6 3 id [(C,0)] N (id j)=id j:=fun j hj=>xE hnw hj;have hrn:v6 3 id [(C,0)] N C=N:=xF (c:=C) (j:=0) hnw (d7 ..);refine⟨(N,⟨ty,1,jk vs⟩)::(Pp++ia 3 bq s' id),fun i x hi=>?_,?_⟩
 ·rw[nh]at hi
  split at hi
  ·rename_i e;subst e
   cases hi
   have:=q2 C 0 aw _ hrow;rw[Blk.ren,Jg]at this;exact this
  ·rw[lD]at hi
   cases hl:lk i Pp with
   |some x' =>
    rw[hl]at hi
    cases hi
    obtain⟨p1,p2⟩:=hP _ (bK hl);rw[q3 i p1 (fun j hj=>by show j≠i;simp at p2;omega),lD,hl]
   |none =>
    rw[hl]at hi;obtain⟨j,hj',e⟩:=lC.1 (bK hi)
    cases e
    have:=q1 j hj' _ (hs' j hj');rw[bG.1 s' id _ id j hj' hro]at this;exact this
 ·rw[AV.ren,hrn];exact hK vs s' hR
theorem Ef:∀(k:Nat)(x:Int)(tl:List Int),(jk (List.replicate (k+1) 0++tl)).set k [.d (.int .i64 x)]=jk (List.replicate k 0++x::tl)
 |0,x,tl=>by simp[jk]
 |k+1,x,tl=>by
  have h:=Ef k x tl;rw[List.replicate_succ,List.cons_append];show[.d (.int .i64 0)]::(jk (List.replicate (k+1) 0++tl)).set k [.d (.int .i64 x)]=_;rw[h];rfl
theorem tX(m:Mc)(Q:a8→Prop)(h:∀x,x∈m.main→Q x)(hl:m.main.length≤1000):(∀x,x∈(dj m).2.main→Q x)∧(dj m).2.main.length≤1000∧((aQ 1 m).e=0→(dj m).1∈m.main):=by
 by_cases h1:(aQ 1 m).e=0
 ·obtain⟨l,x,hm,hp,h2⟩:=xT h1;rw[hp,hm];refine⟨fun y hy=>h y (by rw[hm];exact List.mem_append_left _ hy),?_,fun _=>aw⟩;rw[hm]at hl;simp at hl⊢;omega
 ·have hp:dj m=([],aQ 1 m):=if_neg h1;rw[hp];simp only[(nJ 1 m).1];exact⟨h,hl,fun h=>absurd h h1⟩
theorem qW(most:Nat)(x:a8)(m:Mc):(fq most x m).2.main=m.main:=by
 unfold fq
 split
 ·cases fN most x with
  |none=>simp only;unfold gB;split<;>rfl
  |some n=>rfl
 ·rfl
theorem xU(n:Nat)(hn:n≤3)(hn0:1≤n)(m:Mc)(J H:List Jk)(hl:m.main.length≤1000)(hx:∀x,x∈m.main→x.length≤1000000)(hb:∀x,x∈m.main→bytes x) :
  PP 254 68 2 ⟨m,J,H⟩ [.ptr 0 0 0 1,.d (.int .i64 (n:Int))] (fun vs s'=>vs=(dA n m).1∧∃J',s'=⟨(dA n m).2,J',H⟩):=by
 refine al Tryz.func254 (by kernel_rfl) rfl Tryz.ntmps254 (rs:=[.tmp 4]) rfl (dV rfl) (by decide) ?_;obtain⟨main,alt,e⟩:=m;simp only at hl hx hb;rw[bP];simp only[bq,id];simp[go_sem];refine⟨aq,aq,aq,?_⟩;refine dO (Pp:=[(68,⟨2,1,List.replicate n [.d (.int .i64 0)]⟩)]) (s:=⟨⟨main,alt,e⟩,J,H⟩) (ku ⟨main,alt,e⟩ J H n) aq aw (by simp[AV.renL,AV.ren]) ?_;rintro v s' ρ ⟨rfl,rfl⟩ hρ;by_cases h:(aQ n ⟨main,alt,e⟩).e=0
 ·obtain⟨h1,h2,h3⟩:=ie h;simp only at h1 h2;subst h2;have hv:dA n ⟨main,alt,0⟩=ma n ⟨main,alt,0⟩:=if_pos h;rw[hv,h3];simp only[bP,bq,id];have w1:IntKind.i64.wrap ((n:Int)-1)=(n:Int)-1:=IntWalk.i64_in _ aq;simp[go_sem,AV.ren,w1]
  refine ar (fun u:Nat×List Int×Mc×List Jk=>⟨[(0,.ptr 0 0 0 1),(5,.own 68 0 n n),(6,.d (.int .i64 ((u.1:Int)-1)))],
   [(68,⟨2,1,jk (List.replicate u.1 0++u.2.1)⟩),(0,⟨283,3,[[.own 1 0 u.2.2.1.main.length (u.2.2.1.main.length+u.2.2.2.length),.own 2 0 u.2.2.1.alt.length (u.2.2.1.alt.length+H.length),.d (.int .i64 u.2.2.1.e)]]⟩),(1,⟨31,1,cQ u.2.2.1.main u.2.2.2⟩),(2,⟨31,1,cQ u.2.2.1.alt H⟩)],9000⟩)
   (fun u=>u.1+u.2.1.length=n∧ma n ⟨main,alt,0⟩=((ma u.1 u.2.2.1).1++u.2.1,(ma u.1 u.2.2.1).2)∧u.2.2.1.main.length≤1000∧(∀x,x∈u.2.2.1.main→x.length≤1000000∧bytes x)) (fun u=>u.1) (n,[],⟨main,alt,0⟩,J)
   ⟨aw,aw,hl,fun x h=>⟨hx x h,hb x h⟩⟩
   ⟨by simp[ai,fv,lk,AV.low,AV.low1],List.forall_mem_cons.2 ⟨⟨.inl (by simp[lk,jk]),by show 68<9000;omega,tW _ _⟩,IR (m:=⟨main,alt,0⟩) rfl rfl rfl (dV rfl) trivial⟩,aw⟩ ?_
  rintro⟨k,tl,m,K⟩⟨hk,ho,hml,hmx⟩;simp only at hk ho hml hmx;simp only[go_sem,Nat.reduceEqDiff,Nat.reduceAdd,Nat.reduceLT,↓reduceIte,Nat.reduceMul];refine⟨fun hh=>?_,fun hh=>?_⟩
  ·obtain⟨k,rfl⟩:∃k',k=k'+1:=⟨k-1,aq⟩;have hkn:k<n:=aq;have hkn2:(k:Int)<(n:Int):=aq
   have hgk:(jk (List.replicate (k+1) 0++tl))[k]?=some [.d (.int .i64 0)]:=by
    simp only[jk,c_];rw[List.getElem?_append_left aw,List.getElem?_replicate,if_pos aq];rfl
   have hgg:∀h:k<(jk (List.replicate (k+1) 0++tl)).length,(jk (List.replicate (k+1) 0++tl))[k]=[.d (.int .i64 0)]:=fun h=>Option.some.inj ((cm h).symm.trans hgk);have hkk:((k+1:Nat):Int)-1=(k:Int):=aq;rw[hkk];have hset:=fun x=>Ef k x tl;have hrl:(jk (List.replicate (k+1) 0++tl)).length=n:=by rw[Jh];simp;omega
   generalize jk (List.replicate (k+1) 0++tl)=row at *;refine dO (Pp:=[(68,⟨2,1,row⟩)]) (s:=⟨m,K,H⟩) (v8 m K H aq) aq aw (by simp[AV.renL,AV.ren]) ?_;rintro v s' ρ ⟨rfl,K',rfl⟩ hρ;obtain⟨ps1,ps2,ps3⟩:=tX m _ hmx hml;have hq:ma (k+1) m=((ma k (fq 4 (dj m).1 (dj m).2).2).1++[(fq 4 (dj m).1 (dj m).2).1],(ma k (fq 4 (dj m).1 (dj m).2).2).2):=rfl;rw[hq]at ho;by_cases hp:(aQ 1 m).e=0
   ·rw[if_pos hp];obtain⟨hx1,hx2⟩:=hmx _ (ps3 hp);generalize dj m=p at *;obtain⟨x,m1⟩:=p;simp only[bP,bq,id];simp[go_sem,AV.ren];refine dO (Pp:=[(68,⟨2,1,row⟩)]) (s:=⟨m1,K',H⟩) (I2 m1 K' H 4 x hx2 (by decide) hx1) aq aw (by simp[AV.renL,AV.ren,nb]) ?_;rintro v s' ρ ⟨rfl,rfl⟩ hρ;have hrm:=qW 4 x m1;simp only at ho ps1 ps2;generalize fq 4 x m1=r at *;obtain⟨r1,m2⟩:=r;simp only at hrm ho;simp only[bP,bq,id];simp[go_sem,AV.ren,hkn,hkn2,hgk,hgg,hrl,hset];have wk:IntKind.i64.wrap ((k:Int)-1)=(k:Int)-1:=IntWalk.i64_in _ aq;refine ao (k,r1::tl,m2,K') ⟨by simp;omega,by rw[ho];simp,by show m2.main.length≤1000;rw[hrm];exact ps2,by intro x hx;exact ps1 x (by rw[←hrm];exact hx)⟩ (by show k<k+1;omega) ⟨by simp[ai,fv,lk,AV.low,AV.low1,wk],List.forall_mem_cons.2 ⟨⟨.inl rfl,by show 68<9000;omega,tW _ _⟩,IR (m:=m2) rfl rfl rfl (dV rfl) trivial⟩,aw⟩
   ·rw[if_neg hp];have hpm:dj m=([],aQ 1 m):=if_neg hp;rw[hpm]at ho ps1 ps2⊢;generalize aQ 1 m=m1 at *;have hr0:fq 4 [] m1=(0,m1):=if_neg hp;simp only[hr0]at ho;simp only[bP,bq,id];simp[go_sem,AV.ren];refine dO (Pp:=[(68,⟨2,1,row⟩)]) (s:=⟨m1,K',H⟩) (Ea m1 K' H 4 hp) aq aw (by simp[AV.renL,AV.ren,nb]) ?_;rintro v s' ρ ⟨rfl,rfl⟩ hρ;simp only[bP,bq,id];simp[go_sem,AV.ren,hkn,hkn2,hgk,hgg,hrl,hset];have wk:IntKind.i64.wrap ((k:Int)-1)=(k:Int)-1:=IntWalk.i64_in _ aq;refine ao (k,0::tl,m1,K') ⟨by simp;omega,by rw[ho];simp,ps2,ps1⟩ (by show k<k+1;omega) ⟨by simp[ai,fv,lk,AV.low,AV.low1,wk],List.forall_mem_cons.2 ⟨⟨.inl rfl,by show 68<9000;omega,tW _ _⟩,IR (m:=m1) rfl rfl rfl (dV rfl) trivial⟩,aw⟩
  ·obtain rfl:k=0:=aq;have hz:ma 0 m=([],m):=rfl;rw[hz]at ho;rw[ho];simp[go_sem,ah];exact⟨tl,_,⟨rfl,K,rfl⟩,aq,rfl,aW rfl rfl rfl⟩
 ·have hv:dA n ⟨main,alt,e⟩=(List.replicate n 0,aQ n ⟨main,alt,e⟩):=if_neg h;rw[hv];generalize aQ n ⟨main,alt,e⟩=m1 at *;simp only[bP,bq,id];simp[go_sem,AV.ren,h,ah];exact⟨_,_,⟨rfl,J,rfl⟩,aw,by simp[lk,jk],aW rfl rfl rfl⟩
theorem Eg{b:a8}{n:Int}(hb:bytes b)(h:fN 4 b=some n):-2147483648<n∧n<2147483648:=by
 unfold fN at h
 split at h
 ·rename_i h1;obtain rfl:=Option.some.inj h;have hl:b.length≤4:=aq;rcases eD b with rfl|⟨a,x,rfl⟩
  ·decide
  ·have hx:x<256:=hb x aw;have ha:=qR (b:=a) (fun y hy=>hb y (List.mem_append_left _ hy));simp at hl;rw[nD];have hc:a.length=0∨a.length=1∨a.length=2∨a.length=3:=aq;rcases hc with e|e|e|e<;>rw[e]at ha⊢<;>simp at ha⊢<;>split<;>omega
 ·cases h
def i31(v:Int):Prop:=-2147483648<v∧v<2147483648
theorem Jj{x:a8}{m:Mc}(hb:bytes x):i31 (fq 4 x m).1:=by
 unfold fq
 split
 ·cases h:fN 4 x with
  |none=>exact⟨aw,aw⟩
  |some n=>exact Eg hb h
 ·exact⟨aw,aw⟩
theorem Eh:∀(k:Nat)(m:Mc),(∀x,x∈m.main→bytes x)→m.main.length≤1000→(ma k m).1.length=k∧∀v,v∈(ma k m).1→i31 v
 |0,m,_,_=>⟨rfl,fun v h=>by cases h⟩
 | k+1,m,hb,hl=>by
  obtain⟨p1,p2,p3⟩:=tX m _ hb hl
  have hx:bytes (dj m).1:=by
   by_cases h:(aQ 1 m).e=0
   ·exact hb _ (p3 h)
   ·rw[show dj m=([],aQ 1 m)from if_neg h];intro x hx;cases hx
  have hr:=Jj (m:=(dj m).2) hx;have hs:=qW 4 (dj m).1 (dj m).2;obtain⟨i1,i2⟩:=Eh k (fq 4 (dj m).1 (dj m).2).2 (by rw[hs];exact p1) (by rw[hs];exact p2);rw[ma];refine⟨by simp[i1],fun v hv=>?_⟩;rcases cL.1 hv with h|h
  ·exact i2 v h
  ·simp at h;subst h;exact hr
theorem tY(n:Nat)(m:Mc)(hb:∀x,x∈m.main→bytes x)(hl:m.main.length≤1000):(dA n m).1.length=n∧∀v,v∈(dA n m).1→i31 v:=by
 unfold dA
 split
 ·exact Eh n m hb hl
 ·refine⟨aw,fun v hv=>?_⟩;rw[List.mem_replicate]at hv;rw[hv.2];exact⟨by decide,by decide⟩
theorem Ad:∀(k:Nat)(m:Mc),m.main.length≤1000→(ma k m).2.main.length≤1000
 |0,m,h=>h
 |k+1,m,h=>by
  rw[ma];refine Ad k _ ?_;rw[qW];exact(tX m (fun _=>True) (fun _ _=>trivial) h).2.1
theorem qX(n:Nat)(m:Mc)(hl:m.main.length≤1000):(dA n m).2.main.length≤1000:=by
 unfold dA
 split
 ·exact Ad n m hl
 ·rw[(nJ n m).1];exact hl
theorem Jl(op:Nat)(a:Int):(sB op a).isSome=(sB op 0).isSome:=by
 unfold sB;repeat' split<;>try rfl
theorem RU(op:Nat)(a:Int)(h:i31 a):-4294967296<(sB op a).getD 0∧(sB op a).getD 0<4294967296:=by
 obtain⟨h1,h2⟩:=h;unfold sB
 repeat' split
 all_goals simp only[Option.getD_some,Option.getD_none]
 all_goals omega
theorem RV(op:Nat)(a b:Int)(h:i31 a)(k:i31 b):-4294967297<(tB op a b).getD 0∧(tB op a b).getD 0<4294967297:=by
 obtain⟨h1,h2⟩:=h;obtain⟨k1,k2⟩:=k;unfold tB
 split
 ·simp only[Option.getD_some];omega
 ·split
  ·simp only[Option.getD_some];omega
  ·split
   ·simp only[Option.getD_some];omega
   ·split
    ·simp only[Option.getD_some];omega
    ·cases A8 op a b with
     |none=>simp
     |some v=>cases v<;>simp
theorem Gn(m:Mc)(J H:List Jk)(op:Nat)(ho:op<256)(hl:m.main.length≤1000)(hx:∀x,x∈m.main→x.length≤1000000)(hb:∀x,x∈m.main→bytes x):cX Tryz.prog 3 bq 237 ⟨m,J,H⟩ [.ptr 0 0 0 1,.d (.int .u8 (op:Int))]
  (fun v s'=>v=.d (.bool (nV op m).isSome)∧∃J',s'=⟨(nV op m).getD m,J',H⟩):=by
 refine al Tryz.func237 (by kernel_rfl) rfl Tryz.ntmps237 (rs:=[.tmp 4]) rfl (dV rfl) (by decide) ?_;obtain⟨main,alt,e⟩:=m;simp only at hl hx hb;rw[bP];simp only[bq,id];simp[go_sem];by_cases h165:op=165
 ·subst h165;have hv:nV 165 ⟨main,alt,e⟩=some (dX [iM (decide ((dA 3 ⟨main,alt,e⟩).1.getD 1 0≤(dA 3 ⟨main,alt,e⟩).1.getD 0 0)&&decide ((dA 3 ⟨main,alt,e⟩).1.getD 0 0<(dA 3 ⟨main,alt,e⟩).1.getD 2 0))] (dA 3 ⟨main,alt,e⟩).2):=rfl;rw[hv];simp[go_sem];refine Ji (Pp:=[]) (s:=⟨⟨main,alt,e⟩,J,H⟩) (xU 3 (by decide) (by decide) ⟨main,alt,e⟩ J H hl hx hb) (by decide) aq aw (by simp[AV.renL,AV.ren]) ?_;rintro vs s'⟨rfl,J',rfl⟩;obtain⟨ln,bd⟩:=tY 3 ⟨main,alt,e⟩ hb hl;have ml:=qX 3 ⟨main,alt,e⟩ hl;generalize dA 3 ⟨main,alt,e⟩=p at *;obtain⟨vs,m1⟩:=p;simp only at ln bd ml
  match vs,ln with
  | [a,b,c],_ =>
   simp only[bP,bq,id];simp[go_sem,jk];have hfl:∀b:Bool,(iM b).length≤1:=fun b=>by cases b<;>decide
   by_cases hba:b≤a
   ·
    refine b7 [0,1,2,3,4,5,6,7,8,9,10,11,12,13,14,15,16] [(17,[]),(18,[]),(19,[])] 2 (k:=20) ?_;intro G hG;simp[go_sem,hba];refine ag (lG _) (by intro v hv;simp at hv;subst hv;trivial) ?_;generalize hyq:iM (decide (a<c))=y;have hyl:y.length≤1:=by rw[←hyq];exact hfl _
    simp[go_sem]
    refine cq [772] [] (args':=[.ptr 0 0 0 1,.d (.ro 1 [[nb y]])]) bG id (fO m1 J' H y aq aq) (aU 3) (fun j hj=>by show j<804;omega) (by simp[bP,bq,aE,lk]) rfl
     (gm rfl) aw rfl ?_
    rintro v s' ρ ⟨J2,rfl⟩ hρ;simp only[bP,bq,dX,id];simp[go_sem];refine hG _ _ ?_;clear hG G;simp[go_sem,ah];exact⟨⟨⟨m1.main++[y],m1.alt,m1.e⟩,J2,H⟩,⟨J2,by simp[dX,hba,hyq]⟩,aW (by simp[lk]) rfl rfl⟩
   ·
    refine b7 [0,1,2,3,4,5,6,7,8,9,10,11,12,13,14,15,16] [(17,[]),(18,[]),(19,[])] 2 (k:=20) ?_;intro G hG;simp[go_sem,hba];refine ag (lG _) (by intro v hv;simp at hv;subst hv;trivial) ?_;generalize hyq:iM false=y;have hyl:y.length≤1:=by rw[←hyq];exact hfl _
    simp[go_sem]
    refine cq [772] [] (args':=[.ptr 0 0 0 1,.d (.ro 1 [[nb y]])]) bG id (fO m1 J' H y aq aq) (aU 3) (fun j hj=>by show j<804;omega) (by simp[bP,bq,aE,lk]) rfl
     (gm rfl) aw rfl ?_
    rintro v s' ρ ⟨J2,rfl⟩ hρ;simp only[bP,bq,dX,id];simp[go_sem];refine hG _ _ ?_;clear hG G;simp[go_sem,ah];exact⟨⟨⟨m1.main++[y],m1.alt,m1.e⟩,J2,H⟩,⟨J2,by simp[dX,hba,hyq]⟩,aW (by simp[lk]) rfl rfl⟩
 have i165:¬(op:Int)=165:=aq;simp[go_sem,h165,i165];refine ag (PN op ho 0 ⟨aq,aq⟩) a9 ?_;simp[go_sem,lT];by_cases hu:(sB op 0).isSome=true
 ·simp[go_sem,hu]
  have hv:nV op ⟨main,alt,e⟩=some (dX [dN ((sB op ((dA 1 ⟨main,alt,e⟩).1.getD 0 0)).getD 0)] (dA 1 ⟨main,alt,e⟩).2):=by
   unfold nV;rw[if_neg h165]
   cases hq:sB op 0 with
   |none=>rw[hq]at hu;simp at hu
   |some q=>rfl
  rw[hv];refine Ji (Pp:=[]) (s:=⟨⟨main,alt,e⟩,J,H⟩) (xU 1 (by decide) (by decide) ⟨main,alt,e⟩ J H hl hx hb) (by decide) aq aw (by simp[AV.renL,AV.ren]) ?_;rintro vs s'⟨rfl,J',rfl⟩;obtain⟨ln,bd⟩:=tY 1 ⟨main,alt,e⟩ hb hl;have ml:=qX 1 ⟨main,alt,e⟩ hl;generalize dA 1 ⟨main,alt,e⟩=p at *;obtain⟨vs,m1⟩:=p;simp only at ln bd ml
  match vs,ln with
  | [a],_ =>
   simp only[bP,bq,id];have ba:=bd a aw;have hua:=Jl op a;simp[go_sem,jk];refine ag (PN op ho a ba) a9 ?_;simp[go_sem,lT];have hbd:=RU op a ba;refine ag (kG _ aq aq) (by intro v hv;simp at hv;subst hv;trivial) ?_;have hyl:=hJ ((sB op a).getD 0);generalize dN ((sB op a).getD 0)=y at *;simp[go_sem]
   refine cq [804] [] (args':=[.ptr 0 0 0 1,.d (.ro 1 [[nb y]])]) bG id (fO m1 J' H y aq aq) (aU 3) (fun j hj=>by show j<836;omega) (by simp[bP,bq,aE,lk]) rfl
    (gm rfl) aw rfl ?_
   rintro v s' ρ ⟨J2,rfl⟩ hρ;simp only[bP,bq,dX,id];simp[go_sem,ah];exact⟨⟨⟨m1.main++[y],m1.alt,m1.e⟩,J2,H⟩,⟨J2,rfl⟩,aW (by simp[lk]) rfl rfl⟩
 ·simp[go_sem,hu];refine ag (PO op ho 0 ⟨aq,aq⟩ 0 ⟨aq,aq⟩) a9 ?_;simp[go_sem,lT];by_cases hw:(tB op 0 0).isSome=true
  ·have hw2:(tB op 0 0).isNone=false:=by cases hq:tB op 0 0 with
    |none=>rw[hq]at hw;simp at hw
    |some q=>rfl
   simp[go_sem,hw2];refine Ji (Pp:=[]) (s:=⟨⟨main,alt,e⟩,J,H⟩) (xU 2 (by decide) (by decide) ⟨main,alt,e⟩ J H hl hx hb) (by decide) aq aw (by simp[AV.renL,AV.ren]) ?_;rintro vs s'⟨rfl,J',rfl⟩;obtain⟨ln,bd⟩:=tY 2 ⟨main,alt,e⟩ hb hl;have ml:=qX 2 ⟨main,alt,e⟩ hl
   have hv:nV op ⟨main,alt,e⟩=some (if op=157 then js (decide ((tB op ((dA 2 ⟨main,alt,e⟩).1.getD 0 0) ((dA 2 ⟨main,alt,e⟩).1.getD 1 0)).getD 0≠0)) (dA 2 ⟨main,alt,e⟩).2 else dX [dN ((tB op ((dA 2 ⟨main,alt,e⟩).1.getD 0 0) ((dA 2 ⟨main,alt,e⟩).1.getD 1 0)).getD 0)] (dA 2 ⟨main,alt,e⟩).2):=by
    unfold nV;rw[if_neg h165]
    cases hq:sB op 0 with
    |some q=>rw[hq]at hu;simp at hu
    |none =>
     cases hq2:tB op 0 0 with
     |none=>rw[hq2]at hw;simp at hw
     |some q=>rfl
   rw[hv];clear hv;generalize dA 2 ⟨main,alt,e⟩=p at *;obtain⟨vs,m1⟩:=p;simp only at ln bd ml
   match vs,ln with
   | [a,b],_ =>
    simp only[bP,bq,id];have ba:=bd a aw;have bb:=bd b aw;simp[go_sem,jk];refine b7 [0,1,2,3,4,5,6] [(7,[8,9,10,11,12])] 1 (k:=13) ?_;intro G hG;simp[go_sem];refine ag (PO op ho a ba b bb) a9 ?_;simp[go_sem,lT];refine hG _ _ ?_;clear hG G;have hbd:=RV op a b ba bb;simp[go_sem];refine⟨fun h7=>?_,fun h7=>?_⟩
    ·rw[if_pos (show op=157 by omega)];refine dO (Pp:=[(676,⟨2,1,[[.d (.int .i64 a)],[.d (.int .i64 b)]]⟩)]) (s:=⟨m1,J',H⟩) (xR m1 J' H _) aq aw (by simp[AV.renL,AV.ren]) ?_;rintro v s' ρ rfl hρ;generalize js _ m1=m';simp only[bP,bq,id];simp[go_sem,ah];exact⟨⟨m',J',H⟩,⟨J',rfl⟩,aW rfl rfl rfl⟩
    ·rw[if_neg (show ¬op=157 by omega)];refine ag (kG _ aq aq) (by intro v hv;simp at hv;subst hv;trivial) ?_;have hyl:=hJ ((tB op a b).getD 0);generalize dN ((tB op a b).getD 0)=y at *;simp[go_sem]
     refine cq [1316] [] (args':=[.ptr 0 0 0 1,.d (.ro 1 [[nb y]])]) bG id (fO m1 J' H y aq aq) (aU 3) (fun j hj=>by show j<1348;omega) (by simp[bP,bq,aE,lk]) rfl
      (gm rfl) aw rfl ?_
     rintro v s' ρ ⟨J2,rfl⟩ hρ;simp only[bP,bq,dX,id];simp[go_sem,ah];exact⟨⟨⟨m1.main++[y],m1.alt,m1.e⟩,J2,H⟩,⟨J2,rfl⟩,aW (by simp[lk]) rfl rfl⟩
  ·have hw2:(tB op 0 0).isNone=true:=by cases hq:tB op 0 0 with
    |none=>rfl
    |some q=>rw[hq]at hw;simp at hw
   have hv:nV op ⟨main,alt,e⟩=none:=by
    unfold nV;rw[if_neg h165]
    cases hq:sB op 0 with
    |some q=>rw[hq]at hu;simp at hu
    |none =>
     cases hq2:tB op 0 0 with
     |some q=>rw[hq2]at hw;simp at hw
     |none=>rfl
   rw[hv];simp[go_sem,hw2,ah];exact⟨⟨⟨main,alt,e⟩,J,H⟩,⟨J,rfl⟩,aW rfl rfl rfl⟩
theorem RX(e:Int)(he:e≠0)(n k:Nat)(J H:List Jk):cX Tryz.prog 3 xQ 223 (.z e n k J H) [.ptr 0 0 0 1]
  (fun v s'=>v=.tup [.agg [.nil,.nil],.d (.int .i64 e)]):=by
 refine al Tryz.func223 (by kernel_rfl) rfl Tryz.ntmps223 (rs:=[.cell 2 155,.tmp 3]) rfl (dV rfl) (by decide) ?_;show lY _ _ _ _ ⟨_,[(0,⟨283,3,[[.own 1 0 n J.length,.own 2 0 k H.length,.d (.int .i64 e)]]⟩),(1,⟨31,1,cQ [] J⟩),(2,⟨31,1,cQ [] H⟩)],_⟩;simp[go_sem,he];refine b7 [0,1,2,3,4,5,6,7,8] [(9,[]),(10,[])] 1 (k:=11) ?_;intro G hG;simp[go_sem];refine hG _ _ ?_;clear hG G;simp[go_sem,he];refine b7 [0,1,2,3,4] [(5,[6])] 1 (k:=7) ?_;intro G hG;simp[go_sem];refine hG _ _ ?_;clear hG G;simp[go_sem,ah];refine⟨.z e n k J H,fun i hi=>?_⟩
 match i,hi with
 |0,_=>rfl
 |1,_=>rfl
 |2,_=>rfl
def kz(m:Mc)(a b:Nat):Prop:=m.main.length≤a∧m.alt.length≤b
theorem xW{m:Mc}{a b:Nat}(x:Int)(h:kz m a b):kz (gB x m) a b:=by unfold gB;split<;>exact h
theorem jC{m:Mc}{a b:Nat}(n:Nat)(h:kz m a b):kz (aQ n m) a b:=by
 obtain⟨e1,e2⟩:=nJ n m;unfold kz;rw[e1,e2];exact h
theorem tZ{m:Mc}{a b:Nat}(h:kz m a b):kz (dj m).2 a b:=by
 unfold dj
 split
 ·refine⟨?_,h.2⟩;have:=h.1;simp;omega
 ·exact jC 1 h
theorem kJ{m:Mc}{a b:Nat}(l:List a8)(h:kz m a b):kz (dX l m) (a+l.length) b:=by
 refine⟨?_,h.2⟩;have:=h.1;simp[dX];omega
theorem eF{m:Mc}{a b:Nat}(k:Nat)(put:List Nat)(h:kz m a b):kz (cn k put m) (a+put.length) b:=by
 unfold cn
 split
 ·refine⟨?_,h.2⟩;have:=h.1;simp;omega
 ·exact⟨Nat.le_trans (jC k h).1 aq,(jC k h).2⟩
theorem Ei{m:Mc}{a b:Nat}(most:Nat)(x:a8)(h:kz m a b):kz (fq most x m).2 a b:=by
 unfold fq
 split
 ·cases fN most x with
  |none=>exact xW 15 h
  |some n=>exact h
 ·exact h
theorem Jm{a b:Nat}:∀(k:Nat)(m:Mc),kz m a b→kz (ma k m).2 a b
 |0,m,h=>h
 |k+1,m,h=>by rw[ma];exact Jm k _ (Ei 4 _ (tZ h))
theorem sF{m:Mc}{a b:Nat}(n:Nat)(h:kz m a b):kz (dA n m).2 a b:=by
 unfold dA
 split
 ·exact Jm n m h
 ·exact jC n h
theorem xX{m:Mc}{a b:Nat}(c:Bool)(h:kz m a b):kz (js c m) a b:=by unfold js;split;exact h;exact xW 16 h
theorem Ej{m:Mc}{a b:Nat}(h:kz m a b):kz (fZ m).2 a b:=by
 unfold fZ
 split
 ·exact eF 2 [] h
 ·exact jC 2 h
theorem cK{m:Mc}{a b c d:Nat}(h:kz m a b)(h1:a≤c)(h2:b≤d):kz m c d:=⟨Nat.le_trans h.1 h1,Nat.le_trans h.2 h2⟩
theorem Ek{m:Mc}{a b:Nat}(f:a8→a8)(h:kz m a b):kz (kq f m) (a+1) b:=by
 unfold kq
 split
 ·exact kJ _ (tZ h)
 ·exact cK (jC 1 h) aq (cR _)
theorem Em{m:Mc}{a b:Nat}(r:Bool)(h:kz m a b):kz (jr r m) (a+1) b:=by
 unfold jr;have h2:=Ei 4 (dj m).1 (tZ h);simp only
 split
 ·split
  ·exact cK (xW 12 h2) aq (cR _)
  ·refine kJ [_] ⟨?_,h2.2⟩;have h3:=h2.1;simp only
   split
   ·exact Nat.le_trans (List.length_eraseIdx_le ..) h3
   ·exact h3
 ·exact cK h2 aq (cR _)
theorem cf{c:Prop}[Decidable c]{x y:Mc}{r:Option Mc}(h:(if c then some x else r)=some y)(hx:kz x 2000 2000)(hr:r=some y→kz y 2000 2000):kz y 2000 2000:=by
 split at h
 ·cases h;exact hx
 ·exact hr h
theorem Jn{m:Mc}{a b:Nat}(h:kz m a b):kz (lB m) a (b+1):=by
 have hp:=tZ h;refine⟨hp.1,?_⟩;have:=hp.2;simp[lB];omega
theorem NM{m:Mc}{a b:Nat}(h:kz m a b):kz (nY m) (a+1) b:=by
 unfold nY
 split
 ·exact cK (xW 12 h) aq (cR _)
 ·have h1:=h.1;have h2:=h.2;refine⟨?_,?_⟩<;>simp<;>omega
theorem NN{m:Mc}{a b:Nat}(h:kz m a b):kz (nZ m) (a+1) b:=by
 unfold nZ
 split
 ·exact kJ _ (eF 2 [] h)
 ·exact cK (jC 2 h) aq (cR _)
theorem Ci{op:Nat}{m m':Mc}(h:iN op m=some m')(h1:m.main.length≤1000)(h2:m.alt.length≤1000):m'.main.length≤2000∧m'.alt.length≤2000:=by
 have hs:kz m 1000 1000:=⟨h1,h2⟩;show kz m' 2000 2000;unfold iN at h;refine cf h (cK hs (by decide) (by decide)) fun h=>?_;refine cf h (cK (Jn hs) (by decide) (by decide)) fun h=>?_;refine cf h (cK (NM hs) (by decide) (by decide)) fun h=>?_;refine cf h (cK (eF _ _ hs) (by decide) (by decide)) fun h=>?_;refine cf h (cK (eF _ _ hs) (by decide) (by decide)) fun h=>?_;refine cf h (cK (eF _ _ hs) (by decide) (by decide)) fun h=>?_;refine cf h (cK (eF _ _ hs) (by decide) (by decide)) fun h=>?_;refine cf h (cK (eF _ _ hs) (by decide) (by decide)) fun h=>?_;refine cf h (cK (eF _ _ hs) (by decide) (by decide)) fun h=>?_;refine cf h (cK (eF _ _ hs) (by decide) (by decide)) fun h=>?_;refine cf h (cK (eF _ _ hs) (by decide) (by decide)) fun h=>?_;refine cf h (cK (eF _ _ hs) (by decide) (by decide)) fun h=>?_;refine cf h (cK (eF _ _ hs) (by decide) (by decide)) fun h=>?_;refine cf h (cK (eF _ _ hs) (by decide) (by decide)) fun h=>?_;refine cf h (cK (eF _ _ hs) (by decide) (by decide)) fun h=>?_;refine cf h (cK (eF _ _ hs) (by decide) (by decide)) fun h=>?_
 cases h
theorem Gp{op:Nat}{m m':Mc}(h:uM bu dY op m=some m')(h1:m.main.length≤1000)(h2:m.alt.length≤1000):m'.main.length≤2000∧m'.alt.length≤2000:=by
 have hs:kz m 1000 1000:=⟨h1,h2⟩;show kz m' 2000 2000;unfold uM at h;refine cf h (cK (Em _ hs) (by decide) (by decide)) fun h=>?_;refine cf h (cK (Em _ hs) (by decide) (by decide)) fun h=>?_;refine cf h (cK (xX _ (tZ hs)) (by decide) (by decide)) fun h=>?_;refine cf h ?_ fun h=>?_
 ·show kz _ 2000 2000
  split
  ·split
   ·exact cK (kJ _ hs) aw (by decide)
   ·exact cK hs (by decide) (by decide)
  ·exact cK (jC 1 hs) (by decide) (by decide)
 refine cf h (cK (kJ _ hs) aw (by decide)) fun h=>?_;refine cf h (cK (NN hs) (by decide) (by decide)) fun h=>?_;refine cf h ?_ fun h=>?_
 ·show kz _ 2000 2000
  split
  ·exact cK (kJ _ hs) aw (by decide)
  ·exact cK (jC 1 hs) (by decide) (by decide)
 refine cf h (cK (kJ _ (Ej hs)) aw (by decide)) fun h=>?_;refine cf h (cK (xX _ (Ej hs)) (by decide) (by decide)) fun h=>?_;refine cf h (cK (Ek _ hs) (by decide) (by decide)) fun h=>?_;refine cf h (cK (Ek _ hs) (by decide) (by decide)) fun h=>?_
 cases h
theorem Cj{op:Nat}{m m':Mc}(h:nV op m=some m')(h1:m.main.length≤1000)(h2:m.alt.length≤1000):m'.main.length≤2000∧m'.alt.length≤2000:=by
 have hs:kz m 1000 1000:=⟨h1,h2⟩;show kz m' 2000 2000;unfold nV at h
 split at h
 ·obtain rfl:=Option.some.inj h;exact cK (kJ _ (sF 3 hs)) aw (by decide)
 ·split at h
  ·obtain rfl:=Option.some.inj h;exact cK (kJ _ (sF 1 hs)) aw (by decide)
  ·split at h
   ·cases h
   ·obtain rfl:=Option.some.inj h;simp only
    split
    ·exact cK (xX _ (sF 2 hs)) (by decide) (by decide)
    ·exact cK (kJ _ (sF 2 hs)) aw (by decide)
def yM(op:Nat)(main alt:List a8):AV:=.tup [.agg (jB (vZ bu dY op main alt).1 (vZ bu dY op main alt).2.1),.d (.int .i64 (vZ bu dY op main alt).2.2)]
theorem NP(op:Nat)(ho:op<256)(main alt:List a8)(h1:main.length≤1000)(h2:alt.length≤1000)(h3:∀x,x∈main→x.length≤100000)(h4:∀x,x∈alt→x.length≤100000)(hb:∀x,x∈main→bytes x) :
  ay Tryz.prog 204 [.d (.int .u8 (op:Int)),.agg (jB main alt)] (fun r=>r=yM op main alt):=by
 refine bL Tryz.func204 Tryz.ntmps204 (rs:=[.cell 4 155,.tmp 5]) (by intro v hv;simp at hv;rcases hv with rfl|rfl;trivial;exact eK _ _) ?_;have h3':∀x,x∈main→x.length≤1000000:=fun x h=>Nat.le_trans (h3 x h) (by decide);have h4':∀x,x∈alt→x.length≤1000000:=fun x h=>Nat.le_trans (h4 x h) (by decide);simp[go_sem,jB];refine aP [] (xP main alt aq aq h3' h4') rfl aw aw aw (by simp[AV.renL,AV.ren,jB]) ?_;rintro r hp'⟨rfl,hI,hA,hB⟩;refine⟨[(289,0),(129,1),(225,2)],by simp[cy,fg],?_⟩;simp[go_sem,bO,bB,hI,hA,hB,Blk.ren,mR,AV.renL,AV.ren,bQ,aM]
 refine cq [] [(32,⟨155,2,[[.nil,.nil]]⟩)] Eb (fun j=>128+j) (NJ ⟨main,alt,0⟩ [] [] op ho h1 h2 h3' h4') lH (fun j hj=>by show 128+j<256;omega) (by simp[Xq,bP,bq,aE,lk]) rfl ij
  (fun p hp=>by simp at hp;subst hp;exact⟨by show 32<256;omega,fun j hj=>by show 128+j≠32;omega⟩) rfl ?_
 rintro v s' ρ ⟨rfl,hlf⟩ hρ
 cases hmv:iN op ⟨main,alt,0⟩with
 | some m =>
  rw[hmv]at hlf;have hdo:vZ bu dY op main alt=dp m:=by unfold vZ;rw[hmv]
  obtain⟨hs1,hs2⟩:=Ci hmv h1 h2;rcases hlf with ⟨J',H',rfl⟩|⟨he,n,k,J',H',rfl⟩
  ·simp only[Option.getD_some];rw[Xq];simp only[bP,bq];simp[go_sem,AV.ren]
   refine cq [] [(32,⟨155,2,[[.nil,.nil]]⟩)] bG (fun j=>128+j) (xO m J' H' aq aq) lH (fun j hj=>by show 128+j<352;omega) (by simp[bP,bq,aE,lk]) rfl ij
    (fun p hp=>by simp at hp;subst hp;exact⟨by show 32<352;omega,fun j hj=>by show 128+j≠32;omega⟩) rfl ?_
   rintro v s' ρ ⟨rfl,e',rfl⟩ hρ;have r1:ρ 1=129:=hρ 1 aq;have r2:ρ 2=130:=hρ 2 aq;simp only[bP,bq];unfold pN;by_cases hc:(dp m).2.2=0
   ·have hdm:=lI hc;rw[if_pos hc];have hR:yM op main alt=.tup [.agg (jB m.main m.alt),.d (.int .i64 0)]:=by unfold yM;rw[hdo,hdm]
    rw[hR];simp[go_sem,AV.ren,AV.renL,r1,r2,ah];exact nI (J:=J') (H:=H') rfl rfl
   ·have hdm:=nH hc;rw[if_neg hc];have hR:yM op main alt=.tup [.agg (jB [] []),.d (.int .i64 (dp m).2.2)]:=by unfold yM;rw[hdo,hdm]
    rw[hR];simp[go_sem,AV.ren,AV.renL,r1,r2,ah];exact jK
  ·simp only[Option.getD_some]at he⊢;have hdm:dp m=([],[],m.e):=if_neg he;have hR:yM op main alt=.tup [.agg (jB [] []),.d (.int .i64 m.e)]:=by unfold yM;rw[hdo,hdm]
   rw[hR];generalize m.e=e at *;show BB _ _ _ _ _ _ _ _ _ [(32,⟨155,2,[[.nil,.nil]]⟩),(128,⟨283,3,[[.own 129 0 n J'.length,.own 130 0 k H'.length,.d (.int .i64 e)]]⟩),(129,⟨31,1,cQ [] J'⟩),(130,⟨31,1,cQ [] H'⟩)];simp[go_sem,AV.ren]
   refine cq [] [(32,⟨155,2,[[.nil,.nil]]⟩)] Eb (fun j=>128+j) (RX e he n k J' H') lH (fun j hj=>by show 128+j<352;omega) (by
    intro p hp;have hp2:p∈[((32:Nat),(⟨155,2,[[.nil,.nil]]⟩:Blk)),(128,⟨283,3,[[.own 129 0 n J'.length,.own 130 0 k H'.length,.d (.int .i64 e)]]⟩),(129,⟨31,1,cQ [] J'⟩),(130,⟨31,1,cQ [] H'⟩)]:=hp;simp only[et,List.mem_nil_iff,or_false]at hp2
    rcases hp2 with rfl|rfl|rfl|rfl<;>simp[aE,lk]) rfl ij
    (fun p hp=>by simp at hp;subst hp;exact⟨by show 32<352;omega,fun j hj=>by show 128+j≠32;omega⟩) rfl ?_
   rintro v s' ρ rfl hρ;simp[go_sem,AV.ren,AV.renL,ah];exact jK
 | none =>
  rw[hmv]at hlf;simp only[Option.getD_none]at hlf;rcases hlf with ⟨J',H',rfl⟩|⟨he,_⟩
  rotate_left
  ·exact absurd rfl he
  rw[Xq];simp only[bP,bq];simp[go_sem,AV.ren]
  refine cq [] [(32,⟨155,2,[[.nil,.nil]]⟩)] bG (fun j=>128+j) (NL ⟨main,alt,0⟩ J' H' op ho h1 h3 hb) lH (fun j hj=>by show 128+j<384;omega) (by simp[bP,bq,aE,lk]) rfl ij
   (fun p hp=>by simp at hp;subst hp;exact⟨by show 32<384;omega,fun j hj=>by show 128+j≠32;omega⟩) rfl ?_
  rintro v s' ρ ⟨rfl,J2,rfl⟩ hρ
  cases hrd:uM bu dY op ⟨main,alt,0⟩with
  | some m =>
   have hdo:vZ bu dY op main alt=dp m:=by unfold vZ;rw[hmv,hrd]
   obtain⟨hs1,hs2⟩:=Gp hrd h1 h2;simp only[Option.getD_some];simp only[bP,bq];simp[go_sem,AV.ren]
   refine cq [] [(32,⟨155,2,[[.nil,.nil]]⟩)] bG (fun j=>128+j) (xO m J2 H' aq aq) lH (fun j hj=>by show 128+j<480;omega) (by simp[bP,bq,aE,lk]) rfl ij
    (fun p hp=>by simp at hp;subst hp;exact⟨by show 32<480;omega,fun j hj=>by show 128+j≠32;omega⟩) rfl ?_
   rintro v s' ρ ⟨rfl,e',rfl⟩ hρ;have r1:ρ 1=129:=hρ 1 aq;have r2:ρ 2=130:=hρ 2 aq;simp only[bP,bq];unfold pN;by_cases hc:(dp m).2.2=0
   ·have hdm:=lI hc;rw[if_pos hc];have hR:yM op main alt=.tup [.agg (jB m.main m.alt),.d (.int .i64 0)]:=by unfold yM;rw[hdo,hdm]
    rw[hR];simp[go_sem,AV.ren,AV.renL,r1,r2,ah];exact nI (J:=J2) (H:=H') rfl rfl
   ·have hdm:=nH hc;rw[if_neg hc];have hR:yM op main alt=.tup [.agg (jB [] []),.d (.int .i64 (dp m).2.2)]:=by unfold yM;rw[hdo,hdm]
    rw[hR];simp[go_sem,AV.ren,AV.renL,r1,r2,ah];exact jK
  | none =>
   simp only[Option.getD_none];simp only[bP,bq];simp[go_sem,AV.ren]
   refine cq [] [(32,⟨155,2,[[.nil,.nil]]⟩)] bG (fun j=>128+j) (Gn ⟨main,alt,0⟩ J2 H' op ho h1 h3' hb) lH (fun j hj=>by show 128+j<512;omega) (by simp[bP,bq,aE,lk]) rfl ij
    (fun p hp=>by simp at hp;subst hp;exact⟨by show 32<512;omega,fun j hj=>by show 128+j≠32;omega⟩) rfl ?_
   rintro v s' ρ ⟨rfl,J3,rfl⟩ hρ
   cases hrc:nV op ⟨main,alt,0⟩with
   | some m =>
    have hdo:vZ bu dY op main alt=dp m:=by unfold vZ;rw[hmv,hrd,hrc]
    obtain⟨hs1,hs2⟩:=Cj hrc h1 h2;simp only[Option.getD_some];simp only[bP,bq];simp[go_sem,AV.ren]
    refine cq [] [(32,⟨155,2,[[.nil,.nil]]⟩)] bG (fun j=>128+j) (xO m J3 H' aq aq) lH (fun j hj=>by show 128+j<608;omega) (by simp[bP,bq,aE,lk]) rfl ij
     (fun p hp=>by simp at hp;subst hp;exact⟨by show 32<608;omega,fun j hj=>by show 128+j≠32;omega⟩) rfl ?_
    rintro v s' ρ ⟨rfl,e',rfl⟩ hρ;have r1:ρ 1=129:=hρ 1 aq;have r2:ρ 2=130:=hρ 2 aq;simp only[bP,bq];unfold pN;by_cases hc:(dp m).2.2=0
    ·have hdm:=lI hc;rw[if_pos hc];have hR:yM op main alt=.tup [.agg (jB m.main m.alt),.d (.int .i64 0)]:=by unfold yM;rw[hdo,hdm]
     rw[hR];simp[go_sem,AV.ren,AV.renL,r1,r2,ah];exact nI (J:=J3) (H:=H') rfl rfl
    ·have hdm:=nH hc;rw[if_neg hc];have hR:yM op main alt=.tup [.agg (jB [] []),.d (.int .i64 (dp m).2.2)]:=by unfold yM;rw[hdo,hdm]
     rw[hR];simp[go_sem,AV.ren,AV.renL,r1,r2,ah];exact jK
   |none =>
    have hdo:vZ bu dY op main alt=([],[],10):=by unfold vZ;rw[hmv,hrd,hrc]
    have hR:yM op main alt=.tup [.agg (jB [] []),.d (.int .i64 10)]:=by unfold yM;rw[hdo]
    rw[hR];simp only[Option.getD_none];simp only[bP,bq];simp[go_sem,AV.ren,ah];exact jK
def im:a8→Option (Nat×Nat)
 |[]=>none
 |op::r =>
  if 0<op∧op≤75 then some (op,1)
  else if op=76 then(match r with|a::_=>some (a,2) | []=>none)
  else if op=77 then(match r with|a::b::_=>some (a+256*b,3)|_=>none)
  else some (0,1)
def mS(s:a8)(at':Nat):Option (Wd×Nat) :=
 match im (s.drop at')with
 |none=>none
 |some (n,h)=>if(s.drop at').length-h<n then none else some (((s.drop at').headD 0,((s.drop at').drop h).take n),at'+h+n)
def eN(w:Wd):Option a8 :=
 if w.1≤77 then some w.2 else if w.1=79 then some [129]else if 80<w.1∧w.1≤96 then some [w.1-80]else none
def rQ(w:Wd):Bool:=match eN w with
 |none=>true
 |some b=>decide (bo b=w)
def mh(op:Nat):Bool:=[97,99,100,103,104,105,106,107,108,109,110,111,112,113,114,115,116,117,118,119,120,121,122,123,124,125,126,130,135,136,139,140,143,144,145,146,147,148,154,155,156,157,158,159,160,161,162,163,164,165,168,170,172,173,177,178,179,186,187,188,204].contains op
structure Rn where
 main:List a8
 alt:List a8
 br:List Bool
 bud:Int
 cl:List (Int×Int)
 e:Int
structure Rx where
 h1:a8→a8
 h2:a8→a8
 /-- whether a thing is a key's signature of a message -/
 sg:a8→a8→a8→Bool
 /-- what a signature of the spending signs -/
 msg:a8
 lock:Int
 ver:Int
 seq:Int
 tpl:a8
 rcv:a8→Int→Int×Int×Int
 trg:a8→Int→Int→Int→List (Int×Int)×Int
def az(x:Int)(r:Rn):Rn:=if r.e=0 then { r with e:=x }else r
def bp(r:Rn):a8×Rn :=
 if r.e=0 then(if r.main.length=0 then([],az 12 r)else(r.main.getLastD [],{ r with main:=r.main.dropLast }))else([],r)
def dP(most:Nat)(r:Rn):Int×Rn :=
 let p:=bp r
 if p.2.e=0 then(match fN most p.1 with|some n=>(n,p.2)|none=>(0,az 15 p.2))else(0,p.2)
def mi(r:Rn):a8×Rn:=if r.main.length=0 then([],az 12 r)else(r.main.getLastD [],r)
def dB(b:a8)(r:Rn):Rn :=
 if r.e=0 then(if fu (r.main++[b]) r.alt=0 then { r with main:=r.main++[b] }else az (fu (r.main++[b]) r.alt) r)else r
def kY(b:Bool)(r:Rn):Rn:={ r with br:=r.br++[b] }
def lJ(r:Rn):Option Bool×Rn:=if r.br.length=0 then(none,az 18 r)else(some (r.br.getLastD false),{ r with br:=r.br.dropLast })
def gG(r:Rn):Nat:=(r.br.filter fun b=>!b).length
def lU(r:Rn):Bool×Rn :=
 let p:=bp r
 (decide (p.1.length=1),if 1<p.1.length∨(p.1.length=1∧p.1.headD 0≠1)then az 19 p.2 else p.2)
def mT(op:Nat)(r:Rn):Option Rn :=
 if op=99∨op=100 then
  some (if gG r=0 then(let p:=lU r;kY (decide (p.1=decide (op=99))) p.2)else kY false r)
 else if op=103 then
  some (match lJ r with|(some b,r')=>kY (!b) r'|(none,r')=>r')
 else if op=104 then some (lJ r).2
 else none
def fA(sg:a8→a8→a8→Bool)(key sig msg:a8)(r:Rn):Bool×Rn :=
 if r.e=0∧sig.length≠0 then
  (if r.bud<50 then(false,az 21 r)
  else if key.length=32∧sg key sig msg then(true,{ r with bud:=r.bud-50 })else(false,az 20 { r with bud:=r.bud-50 }))
 else(false,r)
def qY(x:Rx)(op:Nat)(r:Rn):Rn :=
 let k:=bp r
 if op=172 then
  let s:=bp k.2
  let g:=fA x.sg k.1 s.1 x.msg s.2
  dB (iM g.1) g.2
 else if op=173 then
  let s:=bp k.2
  let g:=fA x.sg k.1 s.1 x.msg s.2
  if g.1 then g.2 else az 16 g.2
 else if op=186 then
  let n:=dP 4 k.2
  let s:=bp n.2
  let g:=fA x.sg k.1 s.1 x.msg s.2
  dB (dN (if g.1 then n.1+1 else n.1)) g.2
 else if op=204 then
  let m:=bp k.2
  let s:=bp m.2
  let g:=fA x.sg k.1 s.1 m.1 s.2
  dB (iM g.1) g.2
 else k.2
def lV(r:Rn):Int×Rn :=
 let t:=mi r
 if t.2.e=0 then
  (match fN 5 t.1 with
  |some n=>(n,if n<0 then az 22 t.2 else t.2)
  |none=>(0,az 15 t.2))
 else(0,t.2)
def t6(x:Rx)(r:Rn):Rn :=
 let p:=lV r
 if(decide (p.1<500000000) != decide (x.lock<500000000))||decide (x.lock<p.1)||decide (x.seq=4294967295)then az 22 p.2 else p.2
def oL(k:Nat)(n:Int):Bool:=decide (n.fdiv (2 ^ k)%2=1)
def Cm(x:Rx)(r:Rn):Rn :=
 let p:=lV r
 if oL 31 p.1 then p.2
 else if decide (x.ver<2)||oL 31 x.seq||(oL 22 p.1 != oL 22 x.seq)||decide (x.seq%65536<p.1%65536)then az 22 p.2 else p.2
def CB(x:Rx)(r:Rn):Rn :=
 let p:=mi r
 if p.1=x.tpl then p.2 else az 23 p.2
def xY(l:List (Int×Int))(e:Int)(r:Rn):Rn :=
 if r.e=0 then dB (iM true) { az e r with cl:=r.cl++l }else r
def CC(x:Rx)(r:Rn):Rn :=
 let h:=bp r
 let o:=dP 4 h.2
 if o.2.e=0 then xY [((x.rcv h.1 o.1).1,(x.rcv h.1 o.1).2.1)] (x.rcv h.1 o.1).2.2 o.2 else o.2
def cv:Nat→Rn→List a8×Rn
 |0,r=>([],r)
 |k+1,r=>let p:=bp r;let q:=cv k p.2;(q.1++[p.1],q.2)
def gr(n:Int)(r:Rn):List a8×Rn :=
 let r1:=if n<0∨(r.main.length:Int)<n then az 12 r else r
 if r1.e=0 then cv n.toNat r1 else([],r1)
def xZ(x:Rx)(r:Rn):Rn :=
 let n:=dP 4 r
 let b:=bp n.2
 let l:=gr n.1 b.2
 let o:=dP 4 l.2
 let t:=dP 4 o.2
 let k:=dP 8 t.2
 if k.2.e=0 then
  (if(gZ l.1 b.1).2=0 then xY (x.trg (gZ l.1 b.1).1 o.1 t.1 k.1).1 (x.trg (gZ l.1 b.1).1 o.1 t.1 k.1).2 k.2 else az (gZ l.1 b.1).2 k.2)
 else k.2
def pQ(x:Rx)(op:Nat)(r:Rn):Rn :=
 if op=106 then az 17 r
 else if op=172∨op=173∨op=186∨op=204 then qY x op r
 else if op=177 then t6 x r
 else if op=178 then Cm x r
 else if op=179 then CB x r
 else if op=187 then xZ x r
 else if op=188 then CC x r
 else
  let d:=vZ x.h1 x.h2 op r.main r.alt
  { az d.2.2 r with main:=d.1,alt:=d.2.1 }
def mj (x:Rx) (w:Wd) (r:Rn):Rn :=
 if !mh w.1&&(eN w).isNone then az 10 r
 else match mT w.1 r with
  |some r'=>r'
  | none =>
   if 0<gG r then r
   else match eN w with
    |some b=>if rQ w then dB b r else az 11 r
    |none=>pQ x w.1 r
def jf(x:Rx)(s:a8):Nat→Nat→Rn→Rn
 |0,_,r=>r
 | k+1,a,r =>
  if a<s.length∧r.e=0 then
   (match mS s a with
   |none=>az 2 r
   |some (w,b)=>jf x s k b (mj x w r))
  else r
def jD(r:Rn):Rn :=
 let r1:=if 0<r.br.length then az 18 r else r
 if r1.main.length=1∧jW (r1.main.headD [])=true then r1 else az 25 r1
def mn(x:Rx)(s:a8)(start:List a8)(bud:Int):List (Int×Int)×Int :=
 let r:=jD (jf x s (s.length+1) 0 (az (fu start []) ⟨start,[],[],bud,[],0⟩))
 if r.e=0 then(r.cl,0)else([],r.e)
def wy(o:Option (Nat×Nat)):AV:=match o with
 |none=>.tup [.d (.int .i64 0),.d (.int .i64 0),.d (.bool false)]
 |some (n,h)=>.tup [.d (.int .i64 (n:Int)),.d (.int .i64 (h:Int)),.d (.bool true)]
theorem fB(o:Option (Nat×Nat)):(wy o).deep:=by
 rcases o with _|⟨n,h⟩
 ·intro c hc;simp at hc;rcases hc with rfl|rfl<;>exact .inl trivial
 ·intro c hc;simp at hc;rcases hc with rfl|rfl|rfl<;>exact .inl trivial
theorem RY(a b:Nat)(ha:a<4294967296)(hb:b<4294967296):Go.bits .or .i64 (a:Int) (b:Int)=((a ||| b:Nat):Int):=by
 show IntKind.i64.wrap (((BitVec.ofInt 64 (a:Int)) ||| (BitVec.ofInt 64 (b:Int))).toNat:Int)=_;rw[BitVec.toNat_or,eR,eR,←Nat.or_mod_two_pow];have:a ||| b<2 ^ 32:=Nat.or_lt_two_pow aq aq;rw[IntWalk.i64_in _ aq];omega
theorem Jo (op:Nat) (r:a8) (hb:bytes (op :: r)) (hl:r.length≤1000000):ay Tryz.prog 167 [.d (nb (op :: r))] (fun v=>v=wy (im (op :: r))):=by
 refine bL Tryz.func167 Tryz.ntmps167 (rs:=[.tmp 2,.tmp 3,.tmp 4]) a9 ?_;have h0:op<256:=hb op aw;have w0:IntKind.i64.wrap (op:Int)=(op:Int):=IntWalk.i64_in _ aq;simp[go_sem,nb];by_cases hp:0<op
 ·have hpi:(0:Int)<(op:Int):=aq;have hpn:¬ op=0:=aq;by_cases h75:op≤75
  ·have h75i:(op:Int)≤75:=aq;have hv:im (op::r)=some (op,1):=by simp[im,hp,h75]
   rw[hv];simp[go_sem,hp,hpi,hpn,h75,h75i,w0,ah];exact aT rfl (fB (some (op,1)))
  ·have h75i:¬ (op:Int)≤75:=aq;by_cases h76:op=76
   ·subst h76;rcases r with _|⟨a,r⟩
    ·have hv:im [76]=none:=rfl;rw[hv];simp[go_sem,ah];exact aT rfl (fB none)
    ·have hv:im (76::a::r)=some (a,2):=rfl;have ha:a<256:=hb a aw;have wa:IntKind.i64.wrap (a:Int)=(a:Int):=IntWalk.i64_in _ aq;rw[hv];simp[go_sem,wa,ah];refine⟨fun _=>aT rfl (fB (some (a,2))),fun h=>absurd h aq⟩
   ·have h76i:¬(op:Int)=76:=aq;by_cases h77:op=77
    ·subst h77;rcases r with _|⟨a,r⟩
     ·have hv:im [77]=none:=rfl;rw[hv];simp[go_sem,ah];exact aT rfl (fB none)
     ·rcases r with _|⟨b,r⟩
      ·have hv:im [77,a]=none:=rfl;rw[hv];simp[go_sem,ah];exact aT rfl (fB none)
      ·have hv:im (77::a::b::r)=some (a+256*b,3):=rfl;have ha:a<256:=hb a aw;have hb2:b<256:=hb b aw;have wa:IntKind.i64.wrap (a:Int)=(a:Int):=IntWalk.i64_in _ aq;have wb:IntKind.i64.wrap (b:Int)=(b:Int):=IntWalk.i64_in _ aq;rw[hv];simp[go_sem,wa,wb,ah];refine⟨fun _=>?_,fun h=>absurd h aq⟩;refine b7 [0,1,2,3,4,5,6,7,8,9,10,11,12] [] 0 (k:=13) ?_;intro G hG;have e1:IntKind.i64.wrap ((b:Int)*256)=((b*2 ^ 8:Nat):Int):=by rw[IntWalk.i64_in _ aq];omega
       have e2:Go.bits .or .i64 (a:Int) ((b*2 ^ 8:Nat):Int)=((a+256*b:Nat):Int):=by
        rw[RY a (b*2 ^ 8) aq aq,I0 aq];omega
       generalize((b*2 ^ 8:Nat):Int)=q at *;simp[go_sem,wa,wb,e1,e2];refine hG _ _ ?_;clear hG G;simp[go_sem,ah];exact aT (by simp[wy]) (fB (some (a+256*b,3)))
    ·have h77i:¬(op:Int)=77:=aq;have hv:im (op::r)=some (0,1):=by simp[im,h75,h76,h77]
     rw[hv];simp[go_sem,hp,hpi,hpn,h75,h75i,h76,h76i,h77,h77i,ah];exact aT rfl (fB (some (0,1)))
 ·have h00:op=0:=aq;subst h00;have hv:im (0::r)=some (0,1):=rfl;rw[hv];simp[go_sem,ah];exact aT rfl (fB (some (0,1)))
def uV(w:Wd):List AV:=[.d (.int .u8 (w.1:Int)),.d (nb w.2)]
def Jp(o:Option (Wd×Nat)):AV:=match o with
 |some (w,p)=>.tup [.agg (uV w),.d (.int .i64 (p:Int)),.d (.int .i64 0)]
 |none=>.tup [.agg (uV (0,[])),.d (.int .i64 0),.d (.int .i64 2)]
theorem Ae{op n h:Nat}{r:a8}(hb:bytes (op::r))(hw:im (op::r)=some (n,h)):1≤h∧h≤r.length+1∧n≤65535:=by
 have h0:op<256:=hb op aw;unfold im at hw;simp only at hw
 split at hw
 ·cases hw;omega
 ·split at hw
  ·rcases r with _|⟨a,r⟩
   ·cases hw
   ·have ha:a<256:=hb a aw
    cases hw
    simp;omega
  ·split at hw
   ·rcases r with _|⟨a,_|⟨b,r⟩⟩
    ·cases hw
    ·cases hw
    ·have ha:a<256:=hb a aw;have hb':b<256:=hb b aw
     cases hw
     simp;omega
   ·cases hw;omega
theorem qZ{cs cs':List AV}{a b:AV}{st:St}(hc:s7 st.hp (fun _=>True) cs cs')(hdc:∀c,c∈cs'→c.deep1)(ha:a.deep1)(hb:b.deep1) :
  dy (fun r=>r=.tup [.agg cs',a,b]) (.tup [.agg cs,a,b]) st:=by
 refine⟨_,.tup (cs':=[.agg cs',a,b]) rfl (fun i c c' h1 h2=>?_),?_,rfl⟩
 ·match i with
  |0=>simp at h1 h2;subst h1;subst h2;exact .inr ⟨_,_,rfl,rfl,hc⟩
  |1=>simp at h1 h2;subst h1;subst h2;exact .inl (.inl ⟨rfl,ha⟩)
  |2=>simp at h1 h2;subst h1;subst h2;exact .inl (.inl ⟨rfl,hb⟩)
  |i+3=>simp at h1
 ·intro c hc;simp at hc;rcases hc with rfl|rfl|rfl
  ·exact .inr ⟨_,rfl,hdc⟩
  ·exact .inl ha
  ·exact .inl hb
theorem j5(w:Wd):∀c,c∈uV w→c.deep1:=by
 intro c hc;simp[uV]at hc;rcases hc with rfl|rfl<;>trivial
theorem Jq (s:a8) (at':Nat) (hb:bytes s) (hl:s.length≤1000000) (ha:at'<s.length):ay Tryz.prog 139 [.d (nb s),.d (.int .i64 (at':Int))] (fun v=>v=Jp (mS s at')):=by
  refine bL Tryz.func139 Tryz.ntmps139 (rs:=[.cell 4 42,.tmp 5,.tmp 6]) a9 ?_;have h1:¬(at':Int)<0:=aq;have h2:¬(s.length:Int)≤(at':Int):=aq;have h3:(at':Int)≤(s.length:Int):=aq
  obtain⟨op,r,hd⟩:∃op r,s.drop at'=op::r:=by
    rcases h:s.drop at' with _|⟨op,r⟩
    · have:=congrArg List.length h
      simp at this;omega
    · exact⟨op,r,rfl⟩
  have hdb:bytes (op::r):=fun x hx=>hb x (by rw[←hd]at hx;exact List.mem_of_mem_drop hx)
  have hrl:r.length≤1000000:=by
    have:=congrArg List.length hd;simp at this;omega
  simp[go_sem,nb,h1,h2,h3,←List.map_drop,hd]
  have hdr:List.drop at' (List.take s.length (s.map fun(b:Nat)=>[DV.int .u8 (b:Int)]))=(op::r).map fun(b:Nat)=>[DV.int .u8 (b:Int)]:=by
    rw[cA aw,←List.map_drop,hd]
  rw[hdr];refine ag (Jo op r hdb hrl) a9 ?_
  have hnx:mS s at'=match im (op::r)with
    |none=>none
    |some (n,h)=>if(op::r).length-h<n then none else some ((op,((op::r).drop h).take n),at'+h+n):=by
    unfold mS;rw[hd];rfl
  rw[hnx]
  cases hw:im (op::r)with
  | none =>
    simp[go_sem,wy];exact qZ (cs':=uV (0,[])) ⟨rfl,ap (be trivial) (ap (ak (.nil 1)) bA)⟩ (j5 _) trivial trivial
  | some p =>
    obtain⟨n,h⟩:=p;obtain⟨t1,t2,t3⟩:=Ae hdb hw
    have hrs:at'+(r.length+1)=s.length:=by
      have:=congrArg List.length hd;simp at this;omega
    have w1:IntKind.i64.wrap ((r.length:Int)+1-(h:Int))=((r.length+1-h:Nat):Int):=by rw[IntWalk.i64_in _ aq];omega
    by_cases hlt:r.length+1-h<n
    · have hlti:((r.length+1 - h:Nat):Int)<(n:Int):=aq
      simp[go_sem,wy,w1,hlt,hlti];exact qZ (cs':=uV (0,[])) ⟨rfl,ap (be trivial) (ap (ak (.nil 1)) bA)⟩ (j5 _) trivial trivial
    · have hlti:¬ ((r.length+1 - h:Nat):Int)<(n:Int):=aq
      have w2:IntKind.i64.wrap ((h:Int)+(n:Int))=((h+n:Nat):Int):=by rw[IntWalk.i64_in _ aq];omega
      have w3:IntKind.i64.wrap ((at':Int)+(h:Int))=((at'+h:Nat):Int):=by rw[IntWalk.i64_in _ aq];omega
      have w4:IntKind.i64.wrap (((at'+h:Nat):Int)+(n:Int))=((at'+h+n:Nat):Int):=by rw[IntWalk.i64_in _ aq];omega
      simp[go_sem,wy,w1,hlt,hlti];refine ep [0,1,2,3,4,5,6,7,8,11,12,13,14,15] [9,16] [0,1,2,3,4,5,6,7,8,10,11,12,13,14,15,17,18] (.step 9 [10] true (.step 16 [17,18] false .done)) ⟨[(4,.ptr 0 0 0 1),(5,.d (.int .i64 ((at'+h+n:Nat):Int))),(6,.d (.int .i64 0))],[(0,⟨42,2,[uV (op,List.take n (List.drop h (op::r)))]⟩)],9000⟩ (k:=19) ?h3 ?hq
      case h3 =>
        intro G hG;have w3':IntKind.i64.wrap ((at':Int)+(h:Int))=(at':Int)+(h:Int):=IntWalk.i64_in _ aq;have w4':IntKind.i64.wrap ((at':Int)+(h:Int)+(n:Int))=(at':Int)+(h:Int)+(n:Int):=IntWalk.i64_in _ aq;have hTn:((h:Int)+(n:Int)).toNat=h+n:=aq
        have hdt:List.drop h (List.take (h+n) ([DV.int .u8 (op:Int)]::r.map fun(b:Nat)=>[DV.int .u8 (b:Int)]))=(List.take n (List.drop h (op::r))).map fun(b:Nat)=>[DV.int .u8 (b:Int)]:=by
          show List.drop h (List.take (h+n) ((op::r).map fun(b:Nat)=>[DV.int .u8 (b:Int)]))=_;rw[←List.map_take,←List.map_drop,List.drop_take,Nat.add_sub_cancel_left]
        have hdl:(List.take n (List.drop h (op::r))).length≤100000:=by simp;omega
        generalize List.take n (List.drop h (op::r))=y at *;simp (config := { maxSteps := 3000000 }) [go_sem,w2,w3',w4',hTn,hdt];have hc:=fG y aq
        repeat' apply And.intro
        all_goals first
          |omega
          | (refine ag hc a9 ?_
             simp (config := { maxSteps := 3000000 }) [go_sem,w3',w4']
             repeat' apply And.intro
             all_goals
               refine hG _ _ (cB ?_)
               simp[aA,ai,fv,lk,AV.low,AV.low1,uV])
      case hq =>
        simp[go_sem,ah,uV];exact qZ (cs':=uV (op,List.take n (List.drop h (op::r)))) ⟨rfl,ap (be trivial) (ap (be trivial) bA)⟩ (j5 _) trivial trivial
def Jr(o:Option a8):AV:=match o with
 |some b=>.tup [.d (nb b),.d (.bool true)]
 |none=>.tup [.d (nb []),.d (.bool false)]
theorem Gq(o:Option a8):(Jr o).deep:=by
 rcases o with _|b
 ·intro c hc;simp at hc;rcases hc with rfl|rfl<;>exact .inl trivial
 ·intro c hc;simp at hc;rcases hc with rfl|rfl<;>exact .inl trivial
theorem wC{Q:AV→Prop}{st:St}{b:Bool}(hq:Q (.tup [.d (nb []),.d (.bool b)])):dy Q (.tup [.nil,.d (.bool b)]) st :=
 dE (ap (ak (.nil 1)) (ap (be trivial) bA)) rfl a9 hq
theorem t7(w:Wd)(h8:w.1<256)(hl:w.2.length≤100000):ay Tryz.prog 21 [.agg (uV w)] (fun v=>v=Jr (eN w)):=by
 refine bL Tryz.func21 Tryz.ntmps21 (rs:=[.tmp 2,.tmp 3]) (by intro v hv;simp at hv;subst hv;exact j5 _) ?_;obtain⟨op,b⟩:=w;simp only at h8 hl;simp[go_sem,uV];by_cases h1:op≤77
 ·have h1i:(op:Int)≤77:=aq;have h1j:¬(77:Int)<(op:Int):=aq;have hv:eN (op,b)=some b:=by simp[eN,h1]
  rw[hv];simp[go_sem,h1,h1i,h1j];have hc:=fG b aq;refine ag hc a9 ?_;simp[go_sem,ah];exact aT rfl (Gq (some b))
 ·have h1i:¬(op:Int)≤77:=aq;have h1j:(77:Int)<(op:Int):=aq;by_cases h2:op=79
  ·subst h2;have hv:eN (79,b)=some [129]:=by simp[eN]
   rw[hv];simp[go_sem,ah];exact jV (L:=[129]) rfl rfl rfl
  ·have h2i:¬(op:Int)=79:=aq;by_cases h3:80<op
   ·have h3i:(80:Int)<(op:Int):=aq;have h3j:¬(op:Int)≤80:=aq;by_cases h4:op≤96
    ·have h4i:(op:Int)≤96:=aq;have h4j:¬(96:Int)<(op:Int):=aq;have hv:eN (op,b)=some [op-80]:=by simp[eN,h1,h2,h3,h4]
     have w1:IntKind.u8.wrap ((op:Int)-80)=((op-80:Nat):Int):=by rw[G7];omega
     rw[hv];simp[go_sem,h1,h1i,h1j,h2,h2i,h3,h3i,h3j,h4,h4i,h4j,w1,ah];generalize op-80=q at *;exact jV (L:=[q]) rfl rfl rfl
    ·have h4i:¬(op:Int)≤96:=aq;have h4j:(96:Int)<(op:Int):=aq;have hv:eN (op,b)=none:=by simp[eN,h1,h2,h3,h4]
     rw[hv];simp[go_sem,h1,h1i,h1j,h2,h2i,h3,h3i,h3j,h4,h4i,h4j,ah];exact wC rfl
   ·have h3i:¬(80:Int)<(op:Int):=aq;have h3j:(op:Int)≤80:=aq;have hv:eN (op,b)=none:=by simp[eN,h1,h2,h3]
    rw[hv];simp[go_sem,h1,h1i,h1j,h2,h2i,h3,h3i,h3j,ah];exact wC rfl
theorem En{w:Wd}{b:a8}(h:eN w=some b):b.length≤w.2.length+1:=by
 unfold eN at h
 split at h
 ·cases h;omega
 ·split at h
  ·cases h;simp
  ·split at h
   ·cases h;simp
   ·cases h
theorem ua{w:Wd}{b:a8}(hb:bytes w.2)(h8:w.1<256)(h:eN w=some b):bytes b:=by
 unfold eN at h
 split at h
 ·cases h;exact hb
 ·split at h
  ·cases h;intro x hx;simp at hx;omega
  ·split at h
   ·cases h;intro x hx;simp at hx;omega
   ·cases h
theorem Gs(w:Wd)(h8:w.1<256)(hb:bytes w.2)(hl:w.2.length≤50000):ay Tryz.prog 170 [.agg (uV w)] (fun v=>v=.d (.bool (rQ w))):=by
 refine bL Tryz.func170 Tryz.ntmps170 (rs:=[.tmp 2]) (by intro v hv;simp at hv;subst hv;exact j5 _) ?_;obtain⟨op,b⟩:=w;simp only at h8 hl hb;have hp:=t7 (op,b) h8 (by show b.length≤100000;omega);simp only[uV]at hp;simp[go_sem,uV];refine ag hp (by intro v hv;simp at hv;subst hv;exact j5 (op,b)) ?_;unfold rQ
 cases hq:eN (op,b)with
 |none =>
  simp[go_sem,Jr,ah];exact aa trivial rfl
 |some y =>
  have hy:=En hq;have hyb:=ua hb h8 hq;simp only at hy;have hpu:=sx y aq hyb;simp[go_sem,Jr];refine ag hpu a9 ?_;have hpl:=vW y;have hpb:=rN hyb;have hp8:=(kU aq hyb:qN (bo y)).2;rcases hr:bo y with ⟨o2,b2⟩;rw[hr]at hpl hpb hp8;simp only at hpl hpb hp8;simp only[oy];by_cases ho:o2=op
  ·subst ho;simp[go_sem];refine ag (ii b2 b hpb hb) a9 ?_;simp[go_sem,ah];exact aa trivial rfl
  ·have hoi:¬(o2:Int)=(op:Int):=aq;simp[go_sem,ho,hoi,ah];exact aa trivial rfl
def oM(op:Nat):List (Nat×List Int)→List Int
 |[]=>[]
 |p::t=>if op=p.1 then p.2 else oM op t
theorem aB{op:Nat}{s:List Int}{t:List (Nat×List Int)}{n:Nat}(h:op=n):oM op ((n,s)::t)=s:=if_pos h
theorem aF{op:Nat}{s:List Int}{t:List (Nat×List Int)}{n:Nat}(h:¬op=n):oM op ((n,s)::t)=oM op t:=if_neg h
def pR:List (Nat×List Int):=(97,78::79::80::[])::(99,73::70::[])::(100,78::79::84::73::70::[])::(103,69::76::83::69::[])::(104,69::78::68::73::70::[])::(105,86::69::82::73::70::89::[])::(106,82::69::84::85::82::78::[])::(107,84::79::65::76::84::[])::(108,70::82::79::77::65::76::84::[])::(109,50::68::82::79::80::[])::(110,50::68::85::80::[])::(111,51::68::85::80::[])::(112,50::79::86::69::82::[])::(113,50::82::79::84::[])::(114,50::83::87::65::80::[])::(115,73::70::68::85::80::[])::(116,68::69::80::84::72::[])::(117,68::82::79::80::[])::(118,68::85::80::[])::(119,78::73::80::[])::(120,79::86::69::82::[])::(121,80::73::67::75::[])::(122,82::79::76::76::[])::(123,82::79::84::[])::(124,83::87::65::80::[])::(125,84::85::67::75::[])::[]
def j6:List (Nat×List Int):=(126,67::65::84::[])::(130,83::73::90::69::[])::(135,69::81::85::65::76::[])::(136,69::81::85::65::76::86::69::82::73::70::89::[])::(139,49::65::68::68::[])::(140,49::83::85::66::[])::(143,78::69::71::65::84::69::[])::(144,65::66::83::[])::(145,78::79::84::[])::(146,48::78::79::84::69::81::85::65::76::[])::(147,65::68::68::[])::(148,83::85::66::[])::(154,66::79::79::76::65::78::68::[])::(155,66::79::79::76::79::82::[])::(156,78::85::77::69::81::85::65::76::[])::(157,78::85::77::69::81::85::65::76::86::69::82::73::70::89::[])::(158,78::85::77::78::79::84::69::81::85::65::76::[])::(159,76::69::83::83::84::72::65::78::[])::(160,71::82::69::65::84::69::82::84::72::65::78::[])::(161,76::69::83::83::79::82::69::81::85::65::76::[])::[]
def nK:List (Nat×List Int):=(162,71::82::69::65::84::69::82::79::82::69::81::85::65::76::[])::(163,77::73::78::[])::(164,77::65::88::[])::(165,87::73::84::72::73::78::[])::(168,83::72::65::50::53::54::[])::(170,72::65::83::72::50::53::54::[])::(172,67::72::69::67::75::83::73::71::[])::(173,67::72::69::67::75::83::73::71::86::69::82::73::70::89::[])::(177,67::76::84::86::[])::(178,67::83::86::[])::(179,67::84::86::[])::(186,67::72::69::67::75::83::73::71::65::68::68::[])::(187,86::65::85::76::84::[])::(188,82::69::67::79::86::69::82::[])::(204,67::83::70::83::[])::[]
set_option maxRecDepth 4000 in
theorem Gt(op:Nat)(h8:op<256):ay Tryz.prog 191 [.d (.int .u8 (op:Int))] (fun v=>v=.d (.str (oM op pR))):=by
 refine bL Tryz.func191 Tryz.ntmps191 (rs:=[.tmp 2]) a9 ?_;simp[go_sem,pR];by_cases h97:op=97
 ·have hi:(op:Int)=97:=aq;rw[aB h97];simp[go_sem,h97,hi,ah];exact aa trivial rfl
 have hi97:¬(op:Int)=97:=aq;rw[aF h97];simp[go_sem,h97,hi97];by_cases h99:op=99
 ·have hi:(op:Int)=99:=aq;rw[aB h99];simp[go_sem,h99,hi,ah];exact aa trivial rfl
 have hi99:¬(op:Int)=99:=aq;rw[aF h99];simp[go_sem,h99,hi99];by_cases h100:op=100
 ·have hi:(op:Int)=100:=aq;rw[aB h100];simp[go_sem,h100,hi,ah];exact aa trivial rfl
 have hi100:¬(op:Int)=100:=aq;rw[aF h100];simp[go_sem,h100,hi100];by_cases h103:op=103
 ·have hi:(op:Int)=103:=aq;rw[aB h103];simp[go_sem,h103,hi,ah];exact aa trivial rfl
 have hi103:¬(op:Int)=103:=aq;rw[aF h103];simp[go_sem,h103,hi103];by_cases h104:op=104
 ·have hi:(op:Int)=104:=aq;rw[aB h104];simp[go_sem,h104,hi,ah];exact aa trivial rfl
 have hi104:¬(op:Int)=104:=aq;rw[aF h104];simp[go_sem,h104,hi104];by_cases h105:op=105
 ·have hi:(op:Int)=105:=aq;rw[aB h105];simp[go_sem,h105,hi,ah];exact aa trivial rfl
 have hi105:¬(op:Int)=105:=aq;rw[aF h105];simp[go_sem,h105,hi105];by_cases h106:op=106
 ·have hi:(op:Int)=106:=aq;rw[aB h106];simp[go_sem,h106,hi,ah];exact aa trivial rfl
 have hi106:¬(op:Int)=106:=aq;rw[aF h106];simp[go_sem,h106,hi106];by_cases h107:op=107
 ·have hi:(op:Int)=107:=aq;rw[aB h107];simp[go_sem,h107,hi,ah];exact aa trivial rfl
 have hi107:¬(op:Int)=107:=aq;rw[aF h107];simp[go_sem,h107,hi107];by_cases h108:op=108
 ·have hi:(op:Int)=108:=aq;rw[aB h108];simp[go_sem,h108,hi,ah];exact aa trivial rfl
 have hi108:¬(op:Int)=108:=aq;rw[aF h108];simp[go_sem,h108,hi108];by_cases h109:op=109
 ·have hi:(op:Int)=109:=aq;rw[aB h109];simp[go_sem,h109,hi,ah];exact aa trivial rfl
 have hi109:¬(op:Int)=109:=aq;rw[aF h109];simp[go_sem,h109,hi109];by_cases h110:op=110
 ·have hi:(op:Int)=110:=aq;rw[aB h110];simp[go_sem,h110,hi,ah];exact aa trivial rfl
 have hi110:¬(op:Int)=110:=aq;rw[aF h110];simp[go_sem,h110,hi110];by_cases h111:op=111
 ·have hi:(op:Int)=111:=aq;rw[aB h111];simp[go_sem,h111,hi,ah];exact aa trivial rfl
 have hi111:¬(op:Int)=111:=aq;rw[aF h111];simp[go_sem,h111,hi111];by_cases h112:op=112
 ·have hi:(op:Int)=112:=aq;rw[aB h112];simp[go_sem,h112,hi,ah];exact aa trivial rfl
 have hi112:¬(op:Int)=112:=aq;rw[aF h112];simp[go_sem,h112,hi112];by_cases h113:op=113
 ·have hi:(op:Int)=113:=aq;rw[aB h113];simp[go_sem,h113,hi,ah];exact aa trivial rfl
 have hi113:¬(op:Int)=113:=aq;rw[aF h113];simp[go_sem,h113,hi113];by_cases h114:op=114
 ·have hi:(op:Int)=114:=aq;rw[aB h114];simp[go_sem,h114,hi,ah];exact aa trivial rfl
 have hi114:¬(op:Int)=114:=aq;rw[aF h114];simp[go_sem,h114,hi114];by_cases h115:op=115
 ·have hi:(op:Int)=115:=aq;rw[aB h115];simp[go_sem,h115,hi,ah];exact aa trivial rfl
 have hi115:¬(op:Int)=115:=aq;rw[aF h115];simp[go_sem,h115,hi115];by_cases h116:op=116
 ·have hi:(op:Int)=116:=aq;rw[aB h116];simp[go_sem,h116,hi,ah];exact aa trivial rfl
 have hi116:¬(op:Int)=116:=aq;rw[aF h116];simp[go_sem,h116,hi116];by_cases h117:op=117
 ·have hi:(op:Int)=117:=aq;rw[aB h117];simp[go_sem,h117,hi,ah];exact aa trivial rfl
 have hi117:¬(op:Int)=117:=aq;rw[aF h117];simp[go_sem,h117,hi117];by_cases h118:op=118
 ·have hi:(op:Int)=118:=aq;rw[aB h118];simp[go_sem,h118,hi,ah];exact aa trivial rfl
 have hi118:¬(op:Int)=118:=aq;rw[aF h118];simp[go_sem,h118,hi118];by_cases h119:op=119
 ·have hi:(op:Int)=119:=aq;rw[aB h119];simp[go_sem,h119,hi,ah];exact aa trivial rfl
 have hi119:¬(op:Int)=119:=aq;rw[aF h119];simp[go_sem,h119,hi119];by_cases h120:op=120
 ·have hi:(op:Int)=120:=aq;rw[aB h120];simp[go_sem,h120,hi,ah];exact aa trivial rfl
 have hi120:¬(op:Int)=120:=aq;rw[aF h120];simp[go_sem,h120,hi120];by_cases h121:op=121
 ·have hi:(op:Int)=121:=aq;rw[aB h121];simp[go_sem,h121,hi,ah];exact aa trivial rfl
 have hi121:¬(op:Int)=121:=aq;rw[aF h121];simp[go_sem,h121,hi121];by_cases h122:op=122
 ·have hi:(op:Int)=122:=aq;rw[aB h122];simp[go_sem,h122,hi,ah];exact aa trivial rfl
 have hi122:¬(op:Int)=122:=aq;rw[aF h122];simp[go_sem,h122,hi122];by_cases h123:op=123
 ·have hi:(op:Int)=123:=aq;rw[aB h123];simp[go_sem,h123,hi,ah];exact aa trivial rfl
 have hi123:¬(op:Int)=123:=aq;rw[aF h123];simp[go_sem,h123,hi123];by_cases h124:op=124
 ·have hi:(op:Int)=124:=aq;rw[aB h124];simp[go_sem,h124,hi,ah];exact aa trivial rfl
 have hi124:¬(op:Int)=124:=aq;rw[aF h124];simp[go_sem,h124,hi124];by_cases h125:op=125
 ·have hi:(op:Int)=125:=aq;rw[aB h125];simp[go_sem,h125,hi,ah];exact aa trivial rfl
 have hi125:¬(op:Int)=125:=aq;rw[aF h125];simp[go_sem,h125,hi125];exact aa trivial rfl
set_option maxRecDepth 4000 in
theorem x5(op:Nat)(h8:op<256):ay Tryz.prog 192 [.d (.int .u8 (op:Int))] (fun v=>v=.d (.str (oM op j6))):=by
 refine bL Tryz.func192 Tryz.ntmps192 (rs:=[.tmp 2]) a9 ?_;simp[go_sem,j6];by_cases h126:op=126
 ·have hi:(op:Int)=126:=aq;rw[aB h126];simp[go_sem,h126,hi,ah];exact aa trivial rfl
 have hi126:¬(op:Int)=126:=aq;rw[aF h126];simp[go_sem,h126,hi126];by_cases h130:op=130
 ·have hi:(op:Int)=130:=aq;rw[aB h130];simp[go_sem,h130,hi,ah];exact aa trivial rfl
 have hi130:¬(op:Int)=130:=aq;rw[aF h130];simp[go_sem,h130,hi130];by_cases h135:op=135
 ·have hi:(op:Int)=135:=aq;rw[aB h135];simp[go_sem,h135,hi,ah];exact aa trivial rfl
 have hi135:¬(op:Int)=135:=aq;rw[aF h135];simp[go_sem,h135,hi135];by_cases h136:op=136
 ·have hi:(op:Int)=136:=aq;rw[aB h136];simp[go_sem,h136,hi,ah];exact aa trivial rfl
 have hi136:¬(op:Int)=136:=aq;rw[aF h136];simp[go_sem,h136,hi136];by_cases h139:op=139
 ·have hi:(op:Int)=139:=aq;rw[aB h139];simp[go_sem,h139,hi,ah];exact aa trivial rfl
 have hi139:¬(op:Int)=139:=aq;rw[aF h139];simp[go_sem,h139,hi139];by_cases h140:op=140
 ·have hi:(op:Int)=140:=aq;rw[aB h140];simp[go_sem,h140,hi,ah];exact aa trivial rfl
 have hi140:¬(op:Int)=140:=aq;rw[aF h140];simp[go_sem,h140,hi140];by_cases h143:op=143
 ·have hi:(op:Int)=143:=aq;rw[aB h143];simp[go_sem,h143,hi,ah];exact aa trivial rfl
 have hi143:¬(op:Int)=143:=aq;rw[aF h143];simp[go_sem,h143,hi143];by_cases h144:op=144
 ·have hi:(op:Int)=144:=aq;rw[aB h144];simp[go_sem,h144,hi,ah];exact aa trivial rfl
 have hi144:¬(op:Int)=144:=aq;rw[aF h144];simp[go_sem,h144,hi144];by_cases h145:op=145
 ·have hi:(op:Int)=145:=aq;rw[aB h145];simp[go_sem,h145,hi,ah];exact aa trivial rfl
 have hi145:¬(op:Int)=145:=aq;rw[aF h145];simp[go_sem,h145,hi145];by_cases h146:op=146
 ·have hi:(op:Int)=146:=aq;rw[aB h146];simp[go_sem,h146,hi,ah];exact aa trivial rfl
 have hi146:¬(op:Int)=146:=aq;rw[aF h146];simp[go_sem,h146,hi146];by_cases h147:op=147
 ·have hi:(op:Int)=147:=aq;rw[aB h147];simp[go_sem,h147,hi,ah];exact aa trivial rfl
 have hi147:¬(op:Int)=147:=aq;rw[aF h147];simp[go_sem,h147,hi147];by_cases h148:op=148
 ·have hi:(op:Int)=148:=aq;rw[aB h148];simp[go_sem,h148,hi,ah];exact aa trivial rfl
 have hi148:¬(op:Int)=148:=aq;rw[aF h148];simp[go_sem,h148,hi148];by_cases h154:op=154
 ·have hi:(op:Int)=154:=aq;rw[aB h154];simp[go_sem,h154,hi,ah];exact aa trivial rfl
 have hi154:¬(op:Int)=154:=aq;rw[aF h154];simp[go_sem,h154,hi154];by_cases h155:op=155
 ·have hi:(op:Int)=155:=aq;rw[aB h155];simp[go_sem,h155,hi,ah];exact aa trivial rfl
 have hi155:¬(op:Int)=155:=aq;rw[aF h155];simp[go_sem,h155,hi155];by_cases h156:op=156
 ·have hi:(op:Int)=156:=aq;rw[aB h156];simp[go_sem,h156,hi,ah];exact aa trivial rfl
 have hi156:¬(op:Int)=156:=aq;rw[aF h156];simp[go_sem,h156,hi156];by_cases h157:op=157
 ·have hi:(op:Int)=157:=aq;rw[aB h157];simp[go_sem,h157,hi,ah];exact aa trivial rfl
 have hi157:¬(op:Int)=157:=aq;rw[aF h157];simp[go_sem,h157,hi157];by_cases h158:op=158
 ·have hi:(op:Int)=158:=aq;rw[aB h158];simp[go_sem,h158,hi,ah];exact aa trivial rfl
 have hi158:¬(op:Int)=158:=aq;rw[aF h158];simp[go_sem,h158,hi158];by_cases h159:op=159
 ·have hi:(op:Int)=159:=aq;rw[aB h159];simp[go_sem,h159,hi,ah];exact aa trivial rfl
 have hi159:¬(op:Int)=159:=aq;rw[aF h159];simp[go_sem,h159,hi159];by_cases h160:op=160
 ·have hi:(op:Int)=160:=aq;rw[aB h160];simp[go_sem,h160,hi,ah];exact aa trivial rfl
 have hi160:¬(op:Int)=160:=aq;rw[aF h160];simp[go_sem,h160,hi160];by_cases h161:op=161
 ·have hi:(op:Int)=161:=aq;rw[aB h161];simp[go_sem,h161,hi,ah];exact aa trivial rfl
 have hi161:¬(op:Int)=161:=aq;rw[aF h161];simp[go_sem,h161,hi161];exact aa trivial rfl
set_option maxRecDepth 4000 in
theorem Af(op:Nat)(h8:op<256):ay Tryz.prog 193 [.d (.int .u8 (op:Int))] (fun v=>v=.d (.str (oM op nK))):=by
 refine bL Tryz.func193 Tryz.ntmps193 (rs:=[.tmp 2]) a9 ?_;simp[go_sem,nK];by_cases h162:op=162
 ·have hi:(op:Int)=162:=aq;rw[aB h162];simp[go_sem,h162,hi,ah];exact aa trivial rfl
 have hi162:¬(op:Int)=162:=aq;rw[aF h162];simp[go_sem,h162,hi162];by_cases h163:op=163
 ·have hi:(op:Int)=163:=aq;rw[aB h163];simp[go_sem,h163,hi,ah];exact aa trivial rfl
 have hi163:¬(op:Int)=163:=aq;rw[aF h163];simp[go_sem,h163,hi163];by_cases h164:op=164
 ·have hi:(op:Int)=164:=aq;rw[aB h164];simp[go_sem,h164,hi,ah];exact aa trivial rfl
 have hi164:¬(op:Int)=164:=aq;rw[aF h164];simp[go_sem,h164,hi164];by_cases h165:op=165
 ·have hi:(op:Int)=165:=aq;rw[aB h165];simp[go_sem,h165,hi,ah];exact aa trivial rfl
 have hi165:¬(op:Int)=165:=aq;rw[aF h165];simp[go_sem,h165,hi165];by_cases h168:op=168
 ·have hi:(op:Int)=168:=aq;rw[aB h168];simp[go_sem,h168,hi,ah];exact aa trivial rfl
 have hi168:¬(op:Int)=168:=aq;rw[aF h168];simp[go_sem,h168,hi168];by_cases h170:op=170
 ·have hi:(op:Int)=170:=aq;rw[aB h170];simp[go_sem,h170,hi,ah];exact aa trivial rfl
 have hi170:¬(op:Int)=170:=aq;rw[aF h170];simp[go_sem,h170,hi170];by_cases h172:op=172
 ·have hi:(op:Int)=172:=aq;rw[aB h172];simp[go_sem,h172,hi,ah];exact aa trivial rfl
 have hi172:¬(op:Int)=172:=aq;rw[aF h172];simp[go_sem,h172,hi172];by_cases h173:op=173
 ·have hi:(op:Int)=173:=aq;rw[aB h173];simp[go_sem,h173,hi,ah];exact aa trivial rfl
 have hi173:¬(op:Int)=173:=aq;rw[aF h173];simp[go_sem,h173,hi173];by_cases h177:op=177
 ·have hi:(op:Int)=177:=aq;rw[aB h177];simp[go_sem,h177,hi,ah];exact aa trivial rfl
 have hi177:¬(op:Int)=177:=aq;rw[aF h177];simp[go_sem,h177,hi177];by_cases h178:op=178
 ·have hi:(op:Int)=178:=aq;rw[aB h178];simp[go_sem,h178,hi,ah];exact aa trivial rfl
 have hi178:¬(op:Int)=178:=aq;rw[aF h178];simp[go_sem,h178,hi178];by_cases h179:op=179
 ·have hi:(op:Int)=179:=aq;rw[aB h179];simp[go_sem,h179,hi,ah];exact aa trivial rfl
 have hi179:¬(op:Int)=179:=aq;rw[aF h179];simp[go_sem,h179,hi179];by_cases h186:op=186
 ·have hi:(op:Int)=186:=aq;rw[aB h186];simp[go_sem,h186,hi,ah];exact aa trivial rfl
 have hi186:¬(op:Int)=186:=aq;rw[aF h186];simp[go_sem,h186,hi186];by_cases h187:op=187
 ·have hi:(op:Int)=187:=aq;rw[aB h187];simp[go_sem,h187,hi,ah];exact aa trivial rfl
 have hi187:¬(op:Int)=187:=aq;rw[aF h187];simp[go_sem,h187,hi187];by_cases h188:op=188
 ·have hi:(op:Int)=188:=aq;rw[aB h188];simp[go_sem,h188,hi,ah];exact aa trivial rfl
 have hi188:¬(op:Int)=188:=aq;rw[aF h188];simp[go_sem,h188,hi188];by_cases h204:op=204
 ·have hi:(op:Int)=204:=aq;rw[aB h204];simp[go_sem,h204,hi,ah];exact aa trivial rfl
 have hi204:¬(op:Int)=204:=aq;rw[aF h204];simp[go_sem,h204,hi204];exact aa trivial rfl
def Eo(op:Nat):List Int:=if oM op pR=[]then(if oM op j6=[]then oM op nK else oM op j6)else oM op pR
theorem NQ:(List.range 256).all (fun op=>mh op==!decide (Eo op=[]))=true:=by kernel_rfl
theorem RZ{op:Nat}(h:op<256):mh op=!decide (Eo op=[]):=by
 have:=d9.1 NQ op (List.mem_range.2 h)
 simpa using this
@[go_sem] theorem ZG:eW Tryz.prog 253=some [.any,.any,.any]:=by kernel_rfl
@[go_sem] theorem ZH:bR Tryz.prog 253=.arr 3 252:=by kernel_rfl
@[go_sem] theorem ZI:Tryz.prog.cellsOf 252=1:=by kernel_rfl
@[go_sem] theorem ZJ:bR Tryz.prog 252=.scal:=by kernel_rfl
theorem NR(op:Nat)(h8:op<256):ay Tryz.prog 168 [.d (.int .u8 (op:Int))] (fun v=>v=.tup [.d (.str (Eo op)),.d (.bool (mh op))]):=by
 rw[RZ h8];refine bL Tryz.func168 Tryz.ntmps168 (rs:=[.tmp 2,.tmp 3]) a9 ?_;simp[go_sem];have m1:=Gt op h8;have m2:=x5 op h8;have m3:=Af op h8;unfold Eo;generalize oM op pR=a1 at *;generalize oM op j6=a2 at *;generalize oM op nK=a3 at *
 refine ar (fun k:Nat=>⟨[(0,.d (.int .u8 (op:Int))),(7,.agg [.fn 191 [],.fn 192 [],.fn 193 []]),(8,.d (.int .i64 (k:Int)))],[],1000⟩)
  (fun k=>k≤3∧(1≤k→a1=[])∧(2≤k→a2=[])∧(3≤k→a3=[])) (fun k=>3-k) 0 ⟨aq,fun h=>aq,fun h=>aq,fun h=>aq⟩ (by simp[aA,ai,fv,lk,AV.low,AV.low1]) ?_
 rintro k⟨hk,h1,h2,h3⟩;have hk4:k=0∨k=1∨k=2∨k=3:=aq;rcases hk4 with rfl|rfl|rfl|rfl
 ·simp[go_sem];refine ag m1 a9 ?_;by_cases ha:a1=[]
  ·subst ha;simp[go_sem];refine ao 1 aw aq ?_;simp[aA,ai,fv,lk,AV.low,AV.low1];rfl
  ·simp[go_sem,ha,ah];exact aa a9 rfl
 ·simp[go_sem];obtain rfl:=h1 aq;refine ag m2 a9 ?_;by_cases ha:a2=[]
  ·subst ha;simp[go_sem];refine ao 2 aw aq ?_;simp[aA,ai,fv,lk,AV.low,AV.low1];rfl
  ·simp[go_sem,ha,ah];exact aa a9 rfl
 ·simp[go_sem];obtain rfl:=h1 aq;obtain rfl:=h2 aq;refine ag m3 a9 ?_;by_cases ha:a3=[]
  ·subst ha;simp[go_sem];refine ao 3 aw aq ?_;simp[aA,ai,fv,lk,AV.low,AV.low1];rfl
  ·simp[go_sem,ha,ah];exact aa a9 rfl
 ·obtain rfl:=h1 aq;obtain rfl:=h2 aq;obtain rfl:=h3 aq;simp[go_sem,ah];exact aa a9 rfl
end Go.Proofs.YtmfnimjnneflnaaGreat
namespace Go.Sha
open Go.Proofs.YtmfnimjnneflnaaGreat
structure RnS where
 r:Rn
 J:List Bool
 H:Nat
end Go.Sha
namespace Go.Proofs.YtmfnimjnneflnaaGreat
open Go.Am Go.Sha
def bE(r:Rn)(b c:AV):List AV:=[.d (.ro 1 (r.main.map bC)),.d (.ro 1 (r.alt.map bC)),b,.d (.int .i64 (gG r:Int)),.d (.int .i64 r.bud),c,.d (.int .i64 r.e)]
def rR(l J:List Bool):List (List AV):=(l++J).map fun b=>[AV.d (.bool b)]
def Ui(c:Int×Int):List AV:=[.d (.int .i64 c.1),.d (.int .u64 c.2)]
def G9(l:List (Int×Int))(H:Nat):List (List AV):=l.map Ui++List.replicate H [AV.d (.int .i64 0),.d (.int .u64 0)]
def bF(C:List AV)(s:RnS)(f:Nat→Nat):List AV:=C++bE s.r (.own (f 1) 0 s.r.br.length (s.r.br.length+s.J.length)) (.own (f 2) 0 s.r.cl.length (s.r.cl.length+s.H))
def aH(C:List AV)(s:RnS)(f:Nat→Nat):Nat→Blk
 |0=>⟨158,48,[bF C s f]⟩
 |1=>⟨4,1,rR s.r.br s.J⟩
 |_=>⟨55,2,G9 s.r.cl s.H⟩
def iC(C:List AV):Prop:=(∀v,v∈C→∀ ρ,AV.ren ρ v=v)∧(∀v,v∈C→∀n,v.low1 n)∧C.length=41
theorem Js{C:List AV}(h:iC C)(ρ:Nat→Nat)(l:List AV):AV.renL ρ (C++l)=C++AV.renL ρ l:=by
 rw[pL,pL,List.map_append];congr 1;rw[List.map_congr_left (g:=id) (fun v hv=>h.1 v hv ρ),List.map_id]
theorem R7(ρ:Nat→Nat)(l J:List Bool):aM ρ (rR l J)=rR l J:=by
 unfold aM rR;rw[List.map_map];rfl
theorem R9(ρ:Nat→Nat)(l:List (Int×Int))(H:Nat):aM ρ (G9 l H)=G9 l H:=by
 unfold aM G9;rw[List.map_append,List.map_map,List.map_replicate];rfl
theorem rf{C:List AV}(hC:iC C):F4 3 (aH C):=by
 refine⟨fun s f ρ g i hi h=>?_,fun s f i hi=>?_⟩
 ·match i with
  |0=>simp[aH,bF,bE,Blk.ren,aM,Js hC,AV.renL,AV.ren,h 1 aq,h 2 aq]
  |1=>simp only[aH,Blk.ren,R7]
  |i+2=>simp only[aH,Blk.ren,R9]
 ·match i with
  |0=>exact Nat.succ_ne_zero 47
  |1=>exact Nat.succ_ne_zero 0
  |i+2=>exact Nat.succ_ne_zero 1
theorem bD(C:List AV)(s:RnS)(f:Nat→Nat):ia 3 (aH C) s f=[(f 0,aH C s f 0),(f 1,aH C s f 1),(f 2,aH C s f 2)]:=rfl
theorem aC{C:List AV}{s:RnS}{hp:Hp}(h0:lk 0 hp=some (aH C s id 0))(h1:lk 1 hp=some (aH C s id 1))(h2:lk 2 hp=some (aH C s id 2)):rZ 3 (aH C) s id hp:=by
 intro i hi
 match i with
 |0=>exact h0
 |1=>exact h1
 |2=>exact h2
theorem bz{C:List AV}(hC:iC C)(r:Rn)(J:List Bool)(H:Nat)(x:Int):cX Tryz.prog 3 (aH C) 96 ⟨r,J,H⟩ [.ptr 0 0 0 1,.d (.int .i64 x)] (fun v s'=>s'=⟨az x r,J,H⟩):=by
 refine al Tryz.func96 (by kernel_rfl) rfl Tryz.ntmps96 (rs:=[]) rfl (dV rfl) (by decide) ?_;rw[bD];simp only[aH,bF,bE,id];have hl:=hC.2.2;by_cases h:r.e=0
 ·have hf:az x r={ r with e:=x }:=if_pos h;simp[go_sem,h,ah,hl,hf];exact aC rfl rfl rfl
 ·have hf:az x r=r:=if_neg h;simp[go_sem,h,ah,hl,hf];exact aC rfl rfl rfl
theorem eG{C:List AV}(hC:iC C)(r:Rn)(J:List Bool)(H:Nat):cX Tryz.prog 3 (aH C) 100 ⟨r,J,H⟩ [.ptr 0 0 0 1] (fun v s'=>v=.d (.bool (decide (r.e=0)))∧s'=⟨r,J,H⟩):=by
 refine al Tryz.func100 (by kernel_rfl) rfl Tryz.ntmps100 (rs:=[.tmp 2]) rfl (dV rfl) (by decide) ?_;rw[bD];simp only[aH,bF,bE,id];have hl:=hC.2.2;simp[go_sem,ah,hl];exact aC rfl rfl rfl
theorem dQ{C:List AV}(hC:iC C){N:Nat}{Pp:Hp}{g:FuncId}{s:RnS}{ars:List AV}{R:AV→RnS→Prop}{K:AV→Hp→Prop}(h:cX Tryz.prog 3 (aH C) g s (.ptr 0 0 0 1::ars) R)(hN:3≤N)(hP:∀p,p∈Pp→p.1<N∧3≤p.1)(has:∀ ρ,AV.renL ρ ars=ars)
  (hK:∀v s' ρ,R v s'→(∀j,j<3→ρ j=j)→K (v.ren ρ) (Pp++ia 3 (aH C) s' id)):sn Tryz.prog g (.ptr 0 0 0 1::ars) (Pp++ia 3 (aH C) s id) N K:=by
 refine sD (rf hC) h (aU 3) (fun j hj=>by show j<N;omega) (fun p hp=>⟨(hP p hp).1,fun j hj=>by have:=(hP p hp).2;show j≠p.1;omega⟩) ?_ hK;rw[AV.renL,has,AV.ren];rfl
structure StOk(main alt:List a8):Prop where
 m:main.length≤1000
 a:alt.length≤1000
 mb:∀x,x∈main→x.length≤1000∧bytes x
 ab:∀x,x∈alt→x.length≤1000∧bytes x
theorem StOk.m1{main alt:List a8}(h:StOk main alt):∀x,x∈main→x.length≤1000000:=fun x hx=>by have:=(h.mb x hx).1;omega
theorem StOk.a1{main alt:List a8}(h:StOk main alt):∀x,x∈alt→x.length≤1000000:=fun x hx=>by have:=(h.ab x hx).1;omega
theorem CE{C l:List AV}(a b:AV)(h:C.length=41):List.drop 43 (C++a::b::l)=l:=by rw[List.drop_append,h,dg aq];rfl
theorem NS{C:List AV}(hC:iC C)(r:Rn)(J:List Bool)(H:Nat)(hk:StOk r.main r.alt):cX Tryz.prog 3 (aH C) 220 ⟨r,J,H⟩ [.ptr 0 0 0 1] (fun v s'=>(v=.nil∧(bp r).1=[]∨v=.d (nb (bp r).1))∧s'=⟨(bp r).2,J,H⟩):=by
 refine al Tryz.func220 (by kernel_rfl) rfl Tryz.ntmps220 (rs:=[.tmp 2]) rfl (dV rfl) (by decide) ?_;have hl:=hC.2.2;simp[go_sem];refine dQ (Pp:=[]) hC (eG hC r J H) aq aw (by simp[AV.renL,AV.ren]) ?_;rintro v s' ρ ⟨rfl,rfl⟩ hρ;by_cases h:r.e=0
 ·have hpop:=Aa r.main r.alt hk.m hk.a hk.m1 hk.a1;obtain⟨main,alt,br,bud,cl,e⟩:=r;simp only at h hpop;subst h;rw[bD];simp only[aH,bF,bE,id,jB]at *;simp[go_sem,hl,AV.ren];refine ag hpop (by intro v hv;simp at hv;subst hv;exact eK main alt) ?_;rcases main.eq_nil_or_concat with rfl|⟨l,x,hm⟩
  ·have ht:bp ⟨[],alt,br,bud,cl,0⟩=([],az 12 ⟨[],alt,br,bud,cl,0⟩):=rfl;rw[ht];simp[go_sem,Cd,jB];refine dQ (Pp:=[(420,⟨155,2,[[.d (.ro 1 []),.d (.ro 1 [])]]⟩)]) (s:=⟨⟨[],alt,br,bud,cl,0⟩,J,H⟩) hC (bz hC ⟨[],alt,br,bud,cl,0⟩ J H 12) aq (by intro p hp;simp at hp;subst hp;simp) (by simp[AV.renL,AV.ren]) ?_;rintro v s' ρ rfl hρ;rw[bD];generalize az 12 ⟨[],alt,br,bud,cl,0⟩=r';simp only[aH,bF,bE,id];simp[go_sem,ah];exact aC rfl rfl rfl
  ·rw[List.concat_eq_append]at hm;subst hm;have ht:bp ⟨l++[x],alt,br,bud,cl,0⟩=(x,⟨l,alt,br,bud,cl,0⟩):=by simp[bp]
   rw[ht];simp[go_sem,Cd,jB,hl,ah,CE];exact aC rfl rfl rfl
 ·have hf:bp r=([],r):=if_neg h;rw[hf,bD];simp only[aH,bF,bE,id];simp[go_sem,h,ah,AV.ren];exact aC rfl rfl rfl
theorem j7{C:List AV}(hC:iC C)(r:Rn)(J:List Bool)(H:Nat)(hk:StOk r.main r.alt):cX Tryz.prog 3 (aH C) 220 ⟨r,J,H⟩ [.ptr 0 0 0 1] (fun v s'=>v=.d (nb (bp r).1)∧s'=⟨(bp r).2,J,H⟩):=by
 refine NI (NS hC r J H hk) ?_;rintro v s'⟨⟨rfl,h⟩|h,rfl⟩
 ·exact .inr ⟨rfl,1,by rw[h];rfl,rfl⟩
 ·exact .inl ⟨h,rfl⟩
theorem Jt{l:List a8}{x:a8}{alt:List a8}(h:StOk (l++[x]) alt):StOk l alt∧x.length≤1000∧bytes x :=
 ⟨⟨by have:=h.m;simp at this;omega,h.a,fun y hy=>h.mb y (by simp[hy]),h.ab⟩,h.mb x aw⟩
theorem ga{x:Int}{r:Rn}(h:StOk r.main r.alt):StOk (az x r).main (az x r).alt:=by
 unfold az;split<;>exact h
theorem dG{r:Rn}(h:StOk r.main r.alt):StOk (bp r).2.main (bp r).2.alt∧(bp r).1.length≤1000∧bytes (bp r).1:=by
 unfold bp
 split
 ·split
  ·exact⟨ga h,aw,fun x hx=>by simp at hx⟩
  ·rename_i h2;rcases r.main.eq_nil_or_concat with e|⟨l,x,hm⟩
   ·exact absurd (by rw[e];rfl) h2
   ·rw[List.concat_eq_append]at hm;rw[hm]at h⊢;simp only[List.dropLast_concat,List.getLastD_concat];exact Jt h
 ·exact⟨h,aw,fun x hx=>by simp at hx⟩
theorem oN(r:Rn):az 0 r=r:=by
 unfold az
 split
 ·rename_i h;obtain⟨a,b,c,d,f,e⟩:=r;simp only at h;subst h;rfl
 ·rfl
theorem x6{x:Int}{r:Rn}(hx:x≠0):(az x r).e≠0:=by
 unfold az
 split
 ·exact hx
 ·rename_i h;exact h
theorem Ju{C:List AV}(hC:iC C)(r:Rn)(J:List Bool)(H:Nat)(hk:StOk r.main r.alt):cX Tryz.prog 3 (aH C) 231 ⟨r,J,H⟩ [.ptr 0 0 0 1] (fun v s'=>v=.d (nb (mi r).1)∧s'=⟨(mi r).2,J,H⟩):=by
 refine al Tryz.func231 (by kernel_rfl) rfl Tryz.ntmps231 (rs:=[.tmp 2]) rfl (dV rfl) (by decide) ?_;have hl:=hC.2.2;have hpop:=Aa r.main r.alt hk.m hk.a hk.m1 hk.a1;obtain⟨main,alt,br,bud,cl,e⟩:=r;simp only at hpop;rw[bD];simp only[aH,bF,bE,id,jB]at *;simp[go_sem,hl];refine ag hpop (by intro v hv;simp at hv;subst hv;exact eK main alt) ?_;rcases main.eq_nil_or_concat with rfl|⟨l,x,hm⟩
 ·have ht:mi ⟨[],alt,br,bud,cl,e⟩=([],az 12 ⟨[],alt,br,bud,cl,e⟩):=rfl;rw[ht];simp[go_sem,Cd,jB];refine dQ (Pp:=[(324,⟨155,2,[[.d (.ro 1 []),.d (.ro 1 [])]]⟩)]) (s:=⟨⟨[],alt,br,bud,cl,e⟩,J,H⟩) hC (bz hC ⟨[],alt,br,bud,cl,e⟩ J H 12) aq (by intro p hp;simp at hp;subst hp;simp) (by simp[AV.renL,AV.ren]) ?_;rintro v s' ρ rfl hρ;rw[bD];generalize az 12 ⟨[],alt,br,bud,cl,e⟩=r';simp only[aH,bF,bE,id];simp[go_sem,ah];exact⟨_,⟨rfl,rfl⟩,aC rfl rfl rfl⟩
 ·rw[List.concat_eq_append]at hm;subst hm;have ht:mi ⟨l++[x],alt,br,bud,cl,e⟩=(x,⟨l++[x],alt,br,bud,cl,e⟩):=by simp[mi]
  rw[ht];have hf:=bz hC ⟨l++[x],alt,br,bud,cl,e⟩ J H 0;rw[oN]at hf;simp[go_sem,Cd,jB,hl,-List.map_append];refine dQ (Pp:=[(324,⟨155,2,[[.d (.ro 1 (l.map bC)),.d (.ro 1 (alt.map bC))]]⟩)]) (s:=⟨⟨l++[x],alt,br,bud,cl,e⟩,J,H⟩) hC hf aq (by intro p hp;simp at hp;subst hp;simp) (by simp[AV.renL,AV.ren]) ?_;rintro v s' ρ rfl hρ;rw[bD];simp only[aH,bF,bE,id];simp[go_sem,ah,-List.map_append];exact aC rfl rfl rfl
theorem rS{C:List AV}(hC:iC C)(r:Rn)(J:List Bool)(H:Nat)(hk:StOk r.main r.alt)(most:Nat)(hm:most≤8):cX Tryz.prog 3 (aH C) 227 ⟨r,J,H⟩ [.ptr 0 0 0 1,.d (.int .i64 (most:Int))] (fun v s'=>v=.d (.int .i64 (dP most r).1)∧s'=⟨(dP most r).2,J,H⟩):=by
 refine al Tryz.func227 (by kernel_rfl) rfl Tryz.ntmps227 (rs:=[.tmp 4]) rfl (dV rfl) (by decide) ?_;have hl:=hC.2.2;simp[go_sem];refine dQ (Pp:=[]) hC (j7 hC r J H hk) aq aw (by simp[AV.renL,AV.ren]) ?_;rintro v s' ρ ⟨rfl,rfl⟩ hρ;obtain⟨hk2,hb1,hb2⟩:=dG hk;unfold dP;generalize bp r=p at *;obtain⟨b,r2⟩:=p;simp only at hk2 hb1 hb2⊢;simp[go_sem,AV.ren];refine dQ (Pp:=[]) hC (eG hC r2 J H) aq aw (by simp[AV.renL,AV.ren]) ?_;rintro v s' ρ' ⟨rfl,rfl⟩ hρ';by_cases h:r2.e=0
 ·have hd:=Cb most b hb2 hm aq;simp[go_sem,AV.ren,h];refine ag hd a9 ?_
  cases hq:fN most b with
  |none =>
   simp[go_sem];refine dQ (Pp:=[]) (s:=⟨r2,J,H⟩) hC (bz hC r2 J H 15) aq aw (by simp[AV.renL,AV.ren]) ?_;rintro v s' ρ rfl hρ;rw[bD];generalize az 15 r2=r';simp only[aH,bF,bE,id];simp[go_sem,ah];exact aC rfl rfl rfl
  |some n =>
   have hf:=bz hC r2 J H 0;rw[oN]at hf;simp[go_sem];refine dQ (Pp:=[]) (s:=⟨r2,J,H⟩) hC hf aq aw (by simp[AV.renL,AV.ren]) ?_;rintro v s' ρ rfl hρ;rw[bD];simp only[aH,bF,bE,id];simp[go_sem,ah];exact aC rfl rfl rfl
 ·simp[go_sem,AV.ren,h,ah];rw[bD];exact aC rfl rfl rfl
theorem oO{C:List AV}(hC:iC C)(r:Rn)(J:List Bool)(H:Nat)(hk:StOk r.main r.alt)(b:a8)(hb:b.length≤1000000):cX Tryz.prog 3 (aH C) 171 ⟨r,J,H⟩ [.ptr 0 0 0 1,.d (nb b)] (fun v s'=>s'=⟨dB b r,J,H⟩):=by
 refine al Tryz.func171 (by kernel_rfl) rfl Tryz.ntmps171 (rs:=[]) rfl (dV rfl) (by decide) ?_;have hl:=hC.2.2;have hpu:=Gm r.main r.alt b hk.m hk.a hk.m1 hk.a1 hb;simp[go_sem];refine dQ (Pp:=[]) hC (eG hC r J H) aq aw (by simp[AV.renL,AV.ren]) ?_;rintro v s' ρ ⟨rfl,rfl⟩ hρ;obtain⟨main,alt,br,bud,cl,e⟩:=r;simp only at hpu;by_cases h:e=0
 ·subst h;rw[bD];simp only[aH,bF,bE,id,jB]at *;simp[go_sem,AV.ren,hl];refine ag hpu (by intro v hv;simp at hv;rcases hv with rfl|rfl;exact eK main alt;trivial) ?_;by_cases hc:fu (main++[b]) alt=0
  ·have hd:wo ⟨main++[b],alt,0⟩=.tup [.agg (jB (main++[b]) alt),.d (.int .i64 0)]:=by simp[wo,dp,hc]
   have hp:dB b ⟨main,alt,br,bud,cl,0⟩=⟨main++[b],alt,br,bud,cl,0⟩:=by simp[dB,hc]
   rw[hd,hp];simp[go_sem,jB,hl,CE,ah];refine aC ?_ rfl rfl;simp[lk,aH,bF,bE];rfl
  ·have hd:wo ⟨main++[b],alt,0⟩=.tup [.agg (jB [] []),.d (.int .i64 (fu (main++[b]) alt))]:=by simp[wo,dp,hc]
   have hp:dB b ⟨main,alt,br,bud,cl,0⟩=az (fu (main++[b]) alt) ⟨main,alt,br,bud,cl,0⟩:=by simp[dB,hc]
   rw[hd,hp];generalize fu (main++[b]) alt=x at *;simp[go_sem,jB,hl,hc];refine dQ (Pp:=[(388,⟨155,2,[[.d (.ro 1 []),.d (.ro 1 [])]]⟩)]) (s:=⟨⟨main,alt,br,bud,cl,0⟩,J,H⟩) hC (bz hC ⟨main,alt,br,bud,cl,0⟩ J H x) aq (by intro p hp;simp at hp;subst hp;simp) (by simp[AV.renL,AV.ren]) ?_;rintro v s' ρ rfl hρ;rw[bD];generalize az x ⟨main,alt,br,bud,cl,0⟩=r';simp only[aH,bF,bE,id];simp[go_sem,ah];exact aC rfl rfl rfl
 ·have hp:dB b ⟨main,alt,br,bud,cl,e⟩=⟨main,alt,br,bud,cl,e⟩:=if_neg h;rw[hp];simp[go_sem,AV.ren,h,ah];rw[bD];exact aC rfl rfl rfl
theorem CG(r:Rn):gG r≤r.br.length:=List.length_filter_le _ _
theorem NT(b:Bool)(r:Rn):gG (kY b r)=gG r+(if b then 0 else 1):=by
 unfold gG kY;simp only[List.filter_append,b_]
 cases b<;>rfl
theorem sG(l J:List Bool):(rR l J).length=l.length+J.length:=by simp[rR]
theorem Ag{l J:List Bool}:(rR l J).take l.length=l.map fun b=>[AV.d (.bool b)]:=by
 unfold rR;rw[←List.map_take,List.take_left]
theorem NU(l:List Bool)(b:Bool):(l.map fun b=>[AV.d (.bool b)])++[[AV.d (.bool b)]]=rR (l++[b]) []:=by simp[rR]
theorem NV(l:List Bool)(j b:Bool)(J:List Bool):(l.map fun b=>[AV.d (.bool b)])++[AV.d (.bool b)]::(rR l (j::J)).drop (l.length+1)=rR (l++[b]) J:=by
 unfold rR;rw[←List.map_drop,←List.drop_drop,List.drop_left];simp
theorem pS{C:List AV}(hC:iC C)(r:Rn)(J:List Bool)(H:Nat)(b:Bool)(hb:r.br.length≤1000000):cX Tryz.prog 3 (aH C) 195 ⟨r,J,H⟩ [.ptr 0 0 0 1,.d (.bool b)] (fun v s'=>∃J',s'=⟨kY b r,J',H⟩):=by
 refine al Tryz.func195 (by kernel_rfl) rfl Tryz.ntmps195 (rs:=[]) rfl (dV rfl) (by decide) ?_;have hl:=hC.2.2;have hi:=CG r;have hie:=NT b r;have w1:IntKind.i64.wrap ((gG r:Int)+1)=(gG r:Int)+1:=IntWalk.i64_in _ aq;rw[bD];simp only[aH,bF,bE,id];simp[go_sem,hl];obtain⟨main,alt,br,bud,cl,e⟩:=r;simp only at hb hi w1 hie⊢;generalize hq:gG ⟨main,alt,br,bud,cl,e⟩=q at *
 have e0:∀J':List Bool,aH C ⟨kY b ⟨main,alt,br,bud,cl,e⟩,J',H⟩ id 0=⟨158,48,[C++[.d (.ro 1 (main.map bC)),.d (.ro 1 (alt.map bC)),.own 1 0 (br.length+1) (br.length+1+J'.length),.d (.int .i64 ((q+(if b then 0 else 1):Nat):Int)),.d (.int .i64 bud),.own 2 0 cl.length (cl.length+H),.d (.int .i64 e)]]⟩:=by
  intro J';simp only[aH,bF,bE,hie];simp[kY]
 have e1:∀J':List Bool,aH C ⟨kY b ⟨main,alt,br,bud,cl,e⟩,J',H⟩ id 1=⟨4,1,rR (br++[b]) J'⟩:=fun _=>rfl;have e2:∀J':List Bool,aH C ⟨kY b ⟨main,alt,br,bud,cl,e⟩,J',H⟩ id 2=⟨55,2,G9 cl H⟩:=fun _=>rfl;rcases J with _|⟨j,J⟩
 ·have hT:List.take br.length (rR br [])=br.map fun b=>[AV.d (.bool b)]:=Ag;have hln:(rR br []).length=br.length+([]:List Bool).length:=sG _ _;have e0:=e0 [];have e1:=e1 [];have e2:=e2 [];rw[←NU]at e1
  cases b
  ·simp[go_sem,ed,DC,hT,hln,hl,w1];exact⟨aq,fun h=>aq,_,⟨[],rfl⟩,aC (e0▸rfl) (e1▸rfl) (e2▸rfl)⟩
  ·simp[go_sem,ed,DC,hT,hln,hl];exact⟨aq,fun h=>aq,_,⟨[],rfl⟩,aC (e0▸rfl) (e1▸rfl) (e2▸rfl)⟩
 ·have hT:List.take br.length (rR br (j::J))=br.map fun b=>[AV.d (.bool b)]:=Ag;have hln:(rR br (j::J)).length=br.length+(j::J:List Bool).length:=sG _ _;have e0:=e0 J;have e1:=e1 J;have e2:=e2 J;rw[←NV br j b J]at e1;rw[show br.length+1+J.length=br.length+(J.length+1)by omega]at e0
  cases b
  ·simp[go_sem,ed,DC,hT,hln,hl,w1];exact⟨aq,_,⟨J,rfl⟩,aC (e0▸rfl) (e1▸rfl) (e2▸rfl)⟩
  ·simp[go_sem,ed,DC,hT,hln,hl];exact⟨aq,_,⟨J,rfl⟩,aC (e0▸rfl) (e1▸rfl) (e2▸rfl)⟩
def NW(o:Option Bool):AV:=match o with
 |some b=>.tup [.d (.bool b),.d (.bool true)]
 |none=>.tup [.d (.bool false),.d (.bool false)]
theorem Si{l:List Bool}{J:List Bool}{k:Nat}{b:Bool}(h:l[k]?=some b):(rR l J)[k]?=some [.d (.bool b)]:=by
 unfold rR;rw[c_,List.getElem?_append_left (ci.1 h).1,h];rfl
theorem NX{main alt:List a8}{l:List Bool}{b:Bool}{bud e:Int}{cl:List (Int×Int)}:gG ⟨main,alt,l++[b],bud,cl,e⟩=gG ⟨main,alt,l,bud,cl,e⟩+(if b then 0 else 1):=by
 unfold gG;simp only[List.filter_append,b_]
 cases b<;>rfl
theorem Ep{C:List AV}(hC:iC C)(r:Rn)(J:List Bool)(H:Nat)(hb:r.br.length≤1000000):cX Tryz.prog 3 (aH C) 196 ⟨r,J,H⟩ [.ptr 0 0 0 1] (fun v s'=>v=NW (lJ r).1∧∃J',s'=⟨(lJ r).2,J',H⟩):=by
 refine al Tryz.func196 (by kernel_rfl) rfl Tryz.ntmps196 (rs:=[.tmp 2,.tmp 3]) rfl (dV rfl) (by decide) ?_;have hl:=hC.2.2;have hi:=CG r;obtain⟨main,alt,br,bud,cl,e⟩:=r;simp only at hb hi;rw[bD];simp only[aH,bF,bE,id];rcases br.eq_nil_or_concat with rfl|⟨l,b,hm⟩
 ·have ht:lJ ⟨main,alt,[],bud,cl,e⟩=(none,az 18 ⟨main,alt,[],bud,cl,e⟩):=rfl;rw[ht];simp[go_sem,hl];rw[show AV.own 1 0 0 J.length=AV.own 1 0 ([]:List Bool).length (([]:List Bool).length+J.length)by simp];refine dQ (Pp:=[]) (s:=⟨⟨main,alt,[],bud,cl,e⟩,J,H⟩) hC (bz hC ⟨main,alt,[],bud,cl,e⟩ J H 18) aq aw (by simp[AV.renL,AV.ren]) ?_;rintro v s' ρ rfl hρ;rw[bD];generalize az 18 ⟨main,alt,[],bud,cl,e⟩=r';simp only[aH,bF,bE,id];simp[go_sem,ah,NW];exact⟨_,⟨J,rfl⟩,aC rfl rfl rfl⟩
 ·rw[List.concat_eq_append]at hm;subst hm;have ht:lJ ⟨main,alt,l++[b],bud,cl,e⟩=(some b,⟨main,alt,l,bud,cl,e⟩):=by simp[lJ]
  rw[ht];rw[NX]at hi⊢;have w1:IntKind.i64.wrap (((l++[b]).length:Int)-1)=(l.length:Int):=by rw[IntWalk.i64_in _ (by simp at hb⊢;omega)];simp
  have hs:(rR (l++[b]) J)[l.length]?=some [.d (.bool b)]:=Si aw;have hsg:∀h:l.length<(rR (l++[b]) J).length,(rR (l++[b]) J)[l.length]=[.d (.bool b)]:=fun h=>Option.some.inj ((cm h).symm.trans hs);have hr:rR (l++[b]) J=rR l (b::J):=by simp[rR]
  generalize hn:(l++[b]).length=n at *;have hnl:n=l.length+1:=by rw[←hn];simp
  have hn0:¬n=0:=aq;have hn1:l.length<n:=aq;have hn2:(l.length:Int)<(n:Int):=aq;have hn3:(l.length:Int)≤(n:Int):=aq;have hnJ:n+J.length=l.length+(b::J).length:=by simp;omega
  generalize hq:gG ⟨main,alt,l,bud,cl,e⟩=q at *
  cases b
  ·have w2:IntKind.i64.wrap (((q:Int)+1)-1)=(q:Int):=by simp only[Bool.false_eq_true,if_false]at hi;rw[IntWalk.i64_in _ aq];omega
   have w3:IntKind.i64.wrap (q:Int)=(q:Int):=by simp only[Bool.false_eq_true,if_false]at hi;exact IntWalk.i64_in _ aq
   simp[go_sem,hl,hn0,w1,hs,hsg,hn1,hn2,hn3,sG,hn,w2,w3];exact⟨_,⟨rfl,false::J,rfl⟩,aC (by simp only[lk,aH,bF,bE,hq,hnJ];rfl) (congrArg (fun r=>some (⟨4,1,r⟩:Blk)) hr) rfl⟩
  ·simp[go_sem,hl,hn0,w1,hs,hsg,hn1,hn2,hn3,sG,hn];exact⟨_,⟨rfl,true::J,rfl⟩,aC (by simp only[lk,aH,bF,bE,hq,hnJ];rfl) (congrArg (fun r=>some (⟨4,1,r⟩:Blk)) hr) rfl⟩
theorem Sj{C:List AV}(hC:iC C)(r:Rn)(J:List Bool)(H:Nat)(hk:StOk r.main r.alt):cX Tryz.prog 3 (aH C) 194 ⟨r,J,H⟩ [.ptr 0 0 0 1] (fun v s'=>v=.d (.bool (lU r).1)∧s'=⟨(lU r).2,J,H⟩):=by
 refine al Tryz.func194 (by kernel_rfl) rfl Tryz.ntmps194 (rs:=[.tmp 2]) rfl (dV rfl) (by decide) ?_;have hl:=hC.2.2;simp[go_sem];refine dQ (Pp:=[]) hC (j7 hC r J H hk) aq aw (by simp[AV.renL,AV.ren]) ?_;rintro v s' ρ ⟨rfl,rfl⟩ hρ;obtain⟨hk2,hb1,hb2⟩:=dG hk;unfold lU;generalize bp r=p at *;obtain⟨b,r2⟩:=p;simp only at hk2 hb1 hb2⊢;have rK:∀(d:Bool)(r':Rn)(st:St),st.hp=ia 3 (aH C) ⟨r',J,H⟩ id→∃s',(AV.d (.bool d)=.d (.bool d)∧s'=⟨r',J,H⟩)∧rZ 3 (aH C) s' id st.hp:=fun d r' st h=>⟨_,⟨rfl,rfl⟩,by rw[h];exact aC rfl rfl rfl⟩;rcases b with _|⟨x,_|⟨y,b⟩⟩
 ·simp[go_sem,AV.ren,nb,ah];exact aC rfl rfl rfl
 ·by_cases hx:x=1
  ·subst hx;simp[go_sem,AV.ren,nb,ah];exact aC rfl rfl rfl
  ·have hxi:¬(x:Int)=1:=aq;simp[go_sem,AV.ren,nb,hx,hxi];refine dQ (Pp:=[]) (s:=⟨r2,J,H⟩) hC (bz hC r2 J H 19) aq aw (by simp[AV.renL,AV.ren]) ?_;rintro v s' ρ rfl hρ;rw[bD];generalize az 19 r2=r';simp only[aH,bF,bE,id];simp[go_sem,ah];exact aC rfl rfl rfl
 ·have hn1:(1:Int)<(b.length:Int)+1+1:=aq;have hn2:¬(b.length:Int)+1+1=1:=aq;simp[go_sem,AV.ren,nb,hn1,hn2];refine dQ (Pp:=[]) (s:=⟨r2,J,H⟩) hC (bz hC r2 J H 19) aq aw (by simp[AV.renL,AV.ren]) ?_;rintro v s' ρ rfl hρ;rw[bD];generalize az 19 r2=r';simp only[aH,bF,bE,id];simp[go_sem,ah,hn2];exact aC rfl rfl rfl
theorem aR{C:List AV}(hC:iC C){N:Nat}{Pp hp:Hp}{g:FuncId}{s:RnS}{ars:List AV}{R:AV→RnS→Prop}{K:AV→Hp→Prop}(h:cX Tryz.prog 3 (aH C) g s (.ptr 0 0 0 1::ars) R)(he:hp=Pp++ia 3 (aH C) s id)(hN:3≤N)(hP:∀p,p∈Pp→p.1<N∧3≤p.1)(has:∀ ρ,AV.renL ρ ars=ars)
  (hK:∀v s' ρ,R v s'→(∀j,j<3→ρ j=j)→K (v.ren ρ) (Pp++ia 3 (aH C) s' id)):sn Tryz.prog g (.ptr 0 0 0 1::ars) hp N K:=he▸dQ hC h hN hP has hK
theorem PQ:Tryz.prog.underlying 4=some .bool:=by kernel_rfl
theorem PR(a b:Bool)(K:AV→Hp→Prop)(hp:Hp):cO Tryz.prog .eql 4 (.d (.bool a)) (.d (.bool b)) K hp=K (.d (.bool (a==b))) hp:=by
 show(_∧_)=_;rw[PQ];simp
theorem NY{r:Rn}:(lJ r).2.br.length≤r.br.length:=by
 unfold lJ
 split
 ·unfold az;split<;>exact cR _
 ·simp
theorem Jv(r:Rn):(lU r).2.br=r.br:=by
 have ht:(bp r).2.br=r.br:=by
  unfold bp
  split
  ·split
   ·unfold az;split<;>rfl
   ·rfl
  ·rfl
 unfold lU;simp only
 split
 ·unfold az;split<;>exact ht
 ·exact ht
theorem Jw{C:List AV}(hC:iC C)(op:Nat)(h8:op<256)(r:Rn)(J:List Bool)(H:Nat)(hk:StOk r.main r.alt)(hb:r.br.length≤100000):cX Tryz.prog 3 (aH C) 169 ⟨r,J,H⟩ [.ptr 0 0 0 1,.d (.int .u8 (op:Int))]
  (fun v s'=>v=.d (.bool (mT op r).isSome)∧∃J',s'=⟨(mT op r).getD r,J',H⟩):=by
 refine al Tryz.func169 (by kernel_rfl) rfl Tryz.ntmps169 (rs:=[.tmp 4]) rfl (dV rfl) (by decide) ?_;have hl:=hC.2.2;have hi:=CG r;by_cases h1:op=99∨op=100
 ·have hv:mT op r=some (if gG r=0 then kY (decide ((lU r).1=decide (op=99))) (lU r).2 else kY false r):=if_pos h1;rw[hv];by_cases hid:gG r=0
  ·rw[if_pos hid];have hb2:(lU r).2.br.length≤1000000:=by rw[Jv];omega
   have hcd:=Sj hC r J H hk;generalize lU r=p at *;obtain⟨d,r2⟩:=p;simp only at hb2 hcd⊢;rcases h1 with rfl|rfl
   ·simp[go_sem];rw[bD];simp only[aH,bF,bE,id];simp[go_sem,hl,hid];refine aR (Pp:=[]) (s:=⟨r,J,H⟩) hC hcd (by simp[bD,aH,bF,bE,hid]) aq aw (by simp[AV.renL,AV.ren]) ?_;rintro v s' ρ ⟨rfl,rfl⟩ hρ;simp[go_sem,AV.ren,PR];refine aR (Pp:=[]) (s:=⟨r2,J,H⟩) hC (pS hC (r2) J H (d) aq) (by first|rfl|simp[bD,aH,bF,bE,hid]) aq aw (by simp[AV.renL,AV.ren]) ?_;rintro v s' ρ' ⟨J',rfl⟩ hρ';rw[bD];generalize kY (d) (r2)=r';simp only[aH,bF,bE,id];simp[go_sem,ah];exact⟨_,⟨J',rfl⟩,aC rfl rfl rfl⟩
   ·simp[go_sem];rw[bD];simp only[aH,bF,bE,id];simp[go_sem,hl,hid];refine aR (Pp:=[]) (s:=⟨r,J,H⟩) hC hcd (by simp[bD,aH,bF,bE,hid]) aq aw (by simp[AV.renL,AV.ren]) ?_;rintro v s' ρ ⟨rfl,rfl⟩ hρ;simp[go_sem,AV.ren,PR];refine aR (Pp:=[]) (s:=⟨r2,J,H⟩) hC (pS hC (r2) J H (!d) aq) (by first|rfl|simp[bD,aH,bF,bE,hid]) aq aw (by simp[AV.renL,AV.ren]) ?_;rintro v s' ρ' ⟨J',rfl⟩ hρ';rw[bD];generalize kY (!d) (r2)=r';simp only[aH,bF,bE,id];simp[go_sem,ah];exact⟨_,⟨J',rfl⟩,aC rfl rfl rfl⟩
  ·rw[if_neg hid];rcases h1 with rfl|rfl
   ·simp[go_sem];rw[bD];simp only[aH,bF,bE,id];simp[go_sem,hl,hid];refine aR (Pp:=[]) (s:=⟨r,J,H⟩) hC (pS hC (r) J H (false) aq) (by first|rfl|simp[bD,aH,bF,bE,hid]) aq aw (by simp[AV.renL,AV.ren]) ?_;rintro v s' ρ' ⟨J',rfl⟩ hρ';rw[bD];generalize kY (false) (r)=r';simp only[aH,bF,bE,id];simp[go_sem,ah];exact⟨_,⟨J',rfl⟩,aC rfl rfl rfl⟩
   ·simp[go_sem];rw[bD];simp only[aH,bF,bE,id];simp[go_sem,hl,hid];refine aR (Pp:=[]) (s:=⟨r,J,H⟩) hC (pS hC (r) J H (false) aq) (by first|rfl|simp[bD,aH,bF,bE,hid]) aq aw (by simp[AV.renL,AV.ren]) ?_;rintro v s' ρ' ⟨J',rfl⟩ hρ';rw[bD];generalize kY (false) (r)=r';simp only[aH,bF,bE,id];simp[go_sem,ah];exact⟨_,⟨J',rfl⟩,aC rfl rfl rfl⟩
 ·by_cases h3:op=103
  ·subst h3;have hv:mT 103 r=some (match lJ r with|(some b,r')=>kY (!b) r'|(none,r')=>r'):=rfl;rw[hv];have hb2:(lJ r).2.br.length≤1000000:=by have:=@NY r;omega
   have hcd:=Ep hC r J H aq;generalize lJ r=p at *;obtain⟨d,r2⟩:=p;simp only at hb2 hcd⊢;simp[go_sem];refine dQ (Pp:=[]) (s:=⟨r,J,H⟩) hC hcd aq aw (by simp[AV.renL,AV.ren]) ?_;rintro v s' ρ ⟨rfl,J2,rfl⟩ hρ
   cases d with
   |none =>
    rw[bD];simp only[aH,bF,bE,id];simp[go_sem,AV.ren,AV.renL,NW,ah];exact⟨_,⟨J2,rfl⟩,aC rfl rfl rfl⟩
   |some b =>
    simp[go_sem,AV.ren,AV.renL,NW];refine aR (Pp:=[]) (s:=⟨r2,J2,H⟩) hC (pS hC (r2) J2 H (!b) aq) (by first|rfl|simp[bD,aH,bF,bE]) aq aw (by simp[AV.renL,AV.ren]) ?_;rintro v s' ρ' ⟨J',rfl⟩ hρ';rw[bD];generalize kY (!b) (r2)=r';simp only[aH,bF,bE,id];simp[go_sem,ah];exact⟨_,⟨J',rfl⟩,aC rfl rfl rfl⟩
  ·by_cases h4:op=104
   ·subst h4;have hv:mT 104 r=some (lJ r).2:=rfl;rw[hv];have hcd:=Ep hC r J H aq;generalize lJ r=p at *;obtain⟨d,r2⟩:=p;simp only at hcd⊢;simp[go_sem];refine dQ (Pp:=[]) (s:=⟨r,J,H⟩) hC hcd aq aw (by simp[AV.renL,AV.ren]) ?_;rintro v s' ρ ⟨rfl,J2,rfl⟩ hρ;rw[bD];simp only[aH,bF,bE,id];simp[go_sem,ah];exact⟨_,⟨J2,rfl⟩,aC rfl rfl rfl⟩
   ·have hv:mT op r=none:=by
     unfold mT;rw[if_neg h1,if_neg h3,if_neg h4]
    rw[hv];have i1:¬(op:Int)=99:=aq;have i2:¬(op:Int)=100:=aq;have i3:¬(op:Int)=103:=aq;have i4:¬(op:Int)=104:=aq;have j1:¬op=99:=aq;have j2:¬op=100:=aq;rw[bD];simp only[aH,bF,bE,id];simp[go_sem,i1,i2,i3,i4,j1,j2,h3,h4,ah];exact⟨_,⟨J,rfl⟩,aC rfl rfl rfl⟩
end Go.Proofs.YtmfnimjnneflnaaGreat
namespace Go.Sha
def dr(x:Int):Prop:=0≤x∧x<18446744073709551616
def Wn(n:Nat)(l:List Int):Prop:=l.length=n∧∀x,x∈l→dr x
def eV{σ:Type}(f:Nat→σ→σ)(s:σ):Nat→σ
 |0=>s
 |k+1=>f k (eV f s k)
theorem iW{σ:Type}{f:Nat→σ→σ}{s:σ}{P:Nat→σ→Prop}(h0:P 0 s)(hs:∀k s,P k s→P (k+1) (f k s)):∀k,P k (eV f s k)
 |0=>h0
 |k+1=>hs k _ (iW h0 hs k)
theorem pick{α β:Type}[Inhabited β]{A:α→Prop}{B:α→β→Prop}(h:∀x,A x→∃y,B x y):∃F:α→β,∀x,A x→B x (F x):=by
 classical
 refine⟨fun x=>if hx:A x then(h x hx).choose else default,fun x hx=>?_⟩;simp only[dif_pos hx];exact(h x hx).choose_spec
theorem ub:dr 0:=⟨aq,aq⟩
theorem NZ(x:Int):dr (IntKind.u64.wrap x):=by
 have:IntKind.u64.wrap x=x%18446744073709551616:=by simp[IntKind.wrap,IntKind.bits,IntKind.signed]
 rw[this];exact⟨Int.emod_nonneg _ aq,Int.emod_lt_of_pos _ aq⟩
theorem oP{n k:Nat}{l:List Int}{x:Int}(h:Wn n l)(hx:dr x):Wn n (l.set k x):=by
 refine⟨by rw[List.length_set];exact h.1,fun y hy=>?_⟩;rcases List.mem_or_eq_of_mem_set hy with hy|rfl
 ·exact h.2 y hy
 ·exact hx
theorem VP(n:Nat):Wn n (List.replicate n 0):=⟨aw,fun x hx=>by rw[List.eq_of_mem_replicate hx];exact ub⟩
theorem Sl{n k:Nat}{l:List Int}(h:Wn n l)(hk:k<n):∃x,l[k]?=some x∧dr x:=by
 obtain⟨h1,h2⟩:=h;refine⟨l[k]'aq,cm aq,h2 _ (List.getElem_mem _)⟩
def gI(l:List Int)(k:Nat):Int:=l.getD k 0
theorem c6{n k:Nat}{l:List Int}(h:Wn n l):dr (gI l k):=by
 unfold gI;rw[cS];by_cases hk:k<n
 ·obtain⟨x,e,hx⟩:=Sl h hk;rw[e];exact hx
 ·rw[List.getElem?_eq_none (by rw[h.1];omega)];exact ub
theorem jg{l:List Int}{k:Nat}(h:k<l.length):l[k]?=some (gI l k):=by
 unfold gI;rw[cS,cm h];rfl
end Go.Sha
namespace Go.Proofs.YtmfnimjnneflnaaGreat
open Go.Am Go.Sha
def cI(l:List Int):List AV:=l.map fun x=>AV.d (.int .u64 x)
theorem eH(l:List Int):(cI l).length=l.length:=by simp[cI]
theorem CH(l:List Int)(i:Nat):(cI l)[i]?=(l[i]?).map fun x=>AV.d (.int .u64 x):=by simp[cI]
theorem mU(l:List Int)(i:Nat)(x:Int):(cI l).set i (.d (.int .u64 x))=cI (l.set i x):=by simp[cI,List.map_set]
theorem bU(n:Nat)(l:List Int):∀v,v∈cI l→v.low1 n:=by
 intro v hv;rw[cI,List.mem_map]at hv;obtain⟨x,_,rfl⟩:=hv
 trivial
theorem iY(l:List Int):∀c,c∈cI l→c.deep1:=by
 intro c hc;rw[cI,List.mem_map]at hc;obtain⟨x,_,rfl⟩:=hc
 trivial
theorem eP(l:List Int):(AV.agg (cI l)).deep:=iY l
theorem ae{l:List Int}{n:Nat}(h:l.length=n):(cI l).take n=cI l:=cA (by rw[eH];omega)
theorem aZ{l:List Int}{n:Nat}(h:l.length=n):(cI l).drop n=[]:=dg (by rw[eH];omega)
theorem aK(a b:List Int):∀v,v∈[AV.agg (cI a),AV.agg (cI b)]→v.deep:=by
 intro v hv;simp at hv;rcases hv with rfl|rfl<;>exact eP _
theorem aS(a:List Int):∀v,v∈[AV.agg (cI a)]→v.deep:=by
 intro v hv;simp at hv;subst hv;exact eP _
def zI:List Int:=[0,0,0,0]
theorem jE:Wn 4 zI:=VP 4
theorem nL{w:World}{S:Nat→Prop}{σ:Nat→Option Nat}{hp:Hp}{U:Nat→Prop}{k:IntKind}{n:Int}{x:Value}(h:AIs w S σ hp U (.d (.int k n)) x):x=.int k n:=by
 cases h with
 |d h=>cases h;rfl
def Jx:Array Value→Sem Value:=fun args=>do
 let (x, y, b) ← Extern.MathBitsCarry.three "Sub64" args
 pure (Extern.MathBitsCarry.pair ((x+Extern.MathBitsCarry.m64-y-b)%Extern.MathBitsCarry.m64) (if x<y+b then 1 else 0))
theorem CJ{P:Program}(x y:Int)(k:Nat)(hk:k≤1)(w:World) :
  (Jx #[.int .u64 x,.int .u64 y,.int .u64 (k:Int)]).run P w =
   .ok (Extern.MathBitsCarry.pair ((x.toNat+Extern.MathBitsCarry.m64-y.toNat-k)%Extern.MathBitsCarry.m64) (if x.toNat<y.toNat+k then 1 else 0)) w:=by
 have:k=0∨k=1:=aq;rcases this with rfl|rfl<;>rfl
def C1(c:Int):Prop:=0≤c∧c≤1
theorem Ah:C1 0:=⟨aq,aq⟩
theorem Es{w:World}{S:Nat→Prop}{σ:Nat→Option Nat}{hp:Hp}{U:Nat→Prop}{a b:Int}:AIs w S σ hp U (.tup [.d (.int .u64 a),.d (.int .u64 b)]) (.tuple #[.int .u64 a,.int .u64 b]):=by
 refine .tup _ #[.int .u64 a,.int .u64 b] rfl fun i c x hc hx=>?_
 match i with
 |0=>simp at hc hx;subst hc hx;exact .d (.int _ _)
 |1=>simp at hc hx;subst hc hx;exact .d (.int _ _)
 |n+2=>simp at hc
theorem Jy(x y c:Int)(hx:dr x)(hy:dr y)(hc:C1 c):∃s d:Int,dr s∧C1 d∧s+18446744073709551616*d=x+y+c∧o8 Tryz.prog 162 [.d (.int .u64 x),.d (.int .u64 y),.d (.int .u64 c)] (.tup [.d (.int .u64 s),.d (.int .u64 d)]):=by
 refine⟨(x+y+c)%18446744073709551616,(x+y+c)/18446744073709551616,⟨Int.emod_nonneg _ aq,Int.emod_lt_of_pos _ aq⟩,?_,aq,?_⟩
 ·obtain⟨h1,h2⟩:=hx;obtain⟨h3,h4⟩:=hy;obtain⟨h5,h6⟩:=hc;exact⟨aq,aq⟩
 ·intro w S σ hp U vs hl hv
  match vs,hl with
  |[a,b,e],_ =>
   have ha:=nL (hv 0 _ a rfl rfl);have hb:=nL (hv 1 _ b rfl rfl);have he:=nL (hv 2 _ e rfl rfl);subst ha hb he;refine⟨_,?_,Es⟩;rw[run_callFunc_extern Tryz.func162 (by kernel_rfl) (by kernel_rfl) (by kernel_rfl) (e:=add64Entry) (by kernel_rfl),run_add64 x y c hx.1 hy.1 hc.1 hc.2];rfl
theorem Jz(x y c:Int)(hx:dr x)(hy:dr y)(hc:C1 c):∃s d:Int,dr s∧C1 d∧s-18446744073709551616*d=x-y-c∧o8 Tryz.prog 179 [.d (.int .u64 x),.d (.int .u64 y),.d (.int .u64 c)] (.tup [.d (.int .u64 s),.d (.int .u64 d)]):=by
 obtain⟨k,rfl⟩:=Int.eq_ofNat_of_zero_le hc.1;have hk:k≤1:=by have:=hc.2;omega
 refine⟨((((x.toNat+Extern.MathBitsCarry.m64-y.toNat-k)%Extern.MathBitsCarry.m64:Nat)):Int),(((if x.toNat<y.toNat+k then 1 else 0:Nat)):Int),?_,?_,?_,?_⟩
 ·have hm:(x.toNat+Extern.MathBitsCarry.m64-y.toNat-k)%Extern.MathBitsCarry.m64<Extern.MathBitsCarry.m64:=Nat.mod_lt _ (by decide);have e:Extern.MathBitsCarry.m64=18446744073709551616:=by decide
  exact⟨Int.natCast_nonneg _,by rw[e]at hm⊢;omega⟩
 ·split
  ·exact⟨aq,aq⟩
  ·exact⟨aq,aq⟩
 ·have e:Extern.MathBitsCarry.m64=18446744073709551616:=by decide
  obtain⟨h1,h2⟩:=hx;obtain⟨h3,h4⟩:=hy;rw[e]
  split<;>omega
 ·intro w S σ hp U vs hl hv
  match vs,hl with
  |[a,b,e],_ =>
   have ha:=nL (hv 0 _ a rfl rfl);have hb:=nL (hv 1 _ b rfl rfl);have he:=nL (hv 2 _ e rfl rfl);subst ha hb he;refine⟨_,?_,Es⟩;rw[run_callFunc_extern Tryz.func179 (by kernel_rfl) (by kernel_rfl) (by kernel_rfl) (e:=Jx) (by kernel_rfl),CJ x y k hk];rfl
theorem JA(z:Int)(h0:0≤z)(h1:z<18446744073709551616):Go.bits .and .u64 z 4294967295=z%4294967296:=by
 obtain⟨n,rfl⟩:=Int.eq_ofNat_of_zero_le h0;have h:=bits_and_u64_nat n 4294967295 aq aq;rw[nat_mask32]at h;rw[Int.natCast_emod]at h;exact h
theorem JB(x y:Int)(hx:dr x)(hy:dr y):∃s d:Int,dr s∧dr d∧d+18446744073709551616*s=x*y∧ay Tryz.prog 187 [.d (.int .u64 x),.d (.int .u64 y)] (fun r=>r=.tup [.d (.int .u64 s),.d (.int .u64 d)]):=by
 have hp:0≤x*y∧x*y≤18446744073709551615*18446744073709551615:=⟨Int.mul_nonneg hx.1 hy.1,by
  have h1:=hx.2;have h2:=hy.2;have h3:=hy.1
  exact Int.mul_le_mul aq aq h3 aq⟩
 have hm:=mul64_arith x y hx.1 hx.2 hy.1 hy.2;have w:∀z,IntKind.u64.wrap z=z%18446744073709551616:=fun z=>by simp[IntKind.wrap,IntKind.bits,IntKind.signed]
 refine⟨x*y/18446744073709551616,x*y%18446744073709551616,⟨aq,aq⟩,⟨Int.emod_nonneg _ aq,Int.emod_lt_of_pos _ aq⟩,aq,?_⟩;refine bL Tryz.func187 Tryz.ntmps187 (rs:=[.tmp 4,.tmp 5]) a9 ?_;simp[go_sem,ah,IntKind.bits,w];refine aa a9 ?_;have f32:∀z:Int,Int.fdiv z 4294967296=z/4294967296:=fun z=>Int.fdiv_eq_ediv_of_nonneg _ aq;have a3:∀z:Int,Go.bits .and .u64 (z%18446744073709551616) 4294967295=z%18446744073709551616%4294967296:=fun z=>JA _ (Int.emod_nonneg _ aq) (Int.emod_lt_of_pos _ aq);simp only[f32,JA x hx.1 hx.2,JA y hy.1 hy.2,a3]
 have e:∀A B C D:Int,0≤A∧A≤18446744065119617025→0≤B∧B≤18446744065119617025→0≤C∧C≤18446744065119617025→0≤D∧D≤18446744065119617025 →
   (A+(B+C%18446744073709551616/4294967296)%18446744073709551616/4294967296+((B+C%18446744073709551616/4294967296)%18446744073709551616%4294967296+D)%18446744073709551616/4294967296)%18446744073709551616=(A*18446744073709551616+(B+D)*4294967296+C)/18446744073709551616:=by
  intro A B C D hA hB hC hD;omega
 obtain⟨x1,x0,hxx,q1,q2,q3,q4⟩:∃x1 x0:Int,x=x1*4294967296+x0∧0≤x1∧x1≤4294967295∧0≤x0∧x0≤4294967295:=⟨x/4294967296,x%4294967296,aq,by have:=hx.1;omega,by have:=hx.2;omega,aq,aq⟩;obtain⟨y1,y0,hyy,q5,q6,q7,q8⟩:∃y1 y0:Int,y=y1*4294967296+y0∧0≤y1∧y1≤4294967295∧0≤y0∧y0≤4294967295:=⟨y/4294967296,y%4294967296,aq,by have:=hy.1;omega,by have:=hy.2;omega,aq,aq⟩;have r1:x/4294967296=x1:=aq;have r2:x%4294967296=x0:=aq;have r3:y/4294967296=y1:=aq;have r4:y%4294967296=y0:=aq;rw[r1,r2,r3,r4,e _ _ _ _ (prod_bound x1 y1 q1 q2 q5 q6) (prod_bound x1 y0 q1 q2 q7 q8) (prod_bound x0 y0 q3 q4 q7 q8) (prod_bound x0 y1 q3 q4 q5 q6),←split_mul,←hxx,←hyy]
theorem x7(x:Int):IntKind.u64.wrap x=x%18446744073709551616:=by simp[IntKind.wrap,IntKind.bits,IntKind.signed]
def kZ(A:Int×Int×Int→Int×Int)(a b:List Int)(k:Nat)(s:List Int×Int):List Int×Int :=
 (s.1.set k (A (gI a k,gI b k,s.2)).1,(A (gI a k,gI b k,s.2)).2)
def uW(A:Int×Int×Int→Int×Int)(M:Int×Int→Int×Int)(a:List Int)(k:Nat)(s:List Int×Int):List Int×Int :=
 (s.1.set k (A ((M (gI a k,4294968273)).2,s.2,0)).1,IntKind.u64.wrap ((M (gI a k,4294968273)).1+(A ((M (gI a k,4294968273)).2,s.2,0)).2))
def A9:List Int:=[0,0,0,0,0,0,0,0]
theorem VQ:Wn 8 A9:=VP 8
def pl(i k:Nat):Nat:=i+k
def Ai(A:Int×Int×Int→Int×Int)(M:Int×Int→Int×Int)(a b:List Int)(i k:Nat)(s:List Int×Int):List Int×Int :=
 (s.1.set (pl i k) (A ((A ((M (gI a i,gI b k)).2,gI s.1 (pl i k),0)).1,s.2,0)).1,IntKind.u64.wrap (IntKind.u64.wrap ((M (gI a i,gI b k)).1+(A ((M (gI a i,gI b k)).2,gI s.1 (pl i k),0)).2)+(A ((A ((M (gI a i,gI b k)).2,gI s.1 (pl i k),0)).1,s.2,0)).2))
def pT(A:Int×Int×Int→Int×Int)(M:Int×Int→Int×Int)(a b:List Int)(i:Nat)(p:List Int):List Int :=
 (eV (Ai A M a b i) (p,0) 4).1.set (pl i 4) (eV (Ai A M a b i) (p,0) 4).2
def V:List Int→Int
 |[]=>0
 |x::r=>x+18446744073709551616*V r
theorem V4(a b c d:Int):V [a,b,c,d]=a+18446744073709551616*(b+18446744073709551616*(c+18446744073709551616*d)):=by simp[V]
theorem jh{l:List Int}(h:Wn 4 l):∃a b c d,l=[a,b,c,d]∧dr a∧dr b∧dr c∧dr d:=by
 obtain⟨h1,h2⟩:=h
 match l,h1 with
 |[a,b,c,d],_=>exact⟨a,b,c,d,rfl,h2 a aw,h2 b aw,h2 c aw,h2 d aw⟩
theorem j8{l:List Int}(h:Wn 4 l):0≤V l∧V l<115792089237316195423570985008687907853269984665640564039457584007913129639936:=by
 obtain⟨a,b,c,d,rfl,ha,hb,hc,hd⟩:=jh h;rw[V4];unfold dr at *;omega
theorem PS{l m:List Int}(h:Wn 4 l)(h':Wn 4 m)(e:V l=V m):l=m:=by
 obtain⟨a,b,c,d,rfl,ha,hb,hc,hd⟩:=jh h;obtain⟨a',b',c',d',rfl,ha',hb',hc',hd'⟩:=jh h';rw[V4,V4]at e;unfold dr at *;have e1:a=a':=aq;have e2:b=b':=aq;have e3:c=c':=aq;have e4:d=d':=aq;rw[e1,e2,e3,e4]
def Gu(A:Int×Int×Int→Int×Int):Prop:=∀x,dr x.1∧dr x.2.1∧C1 x.2.2→dr (A x).1∧C1 (A x).2∧(A x).1+18446744073709551616*(A x).2=x.1+x.2.1+x.2.2
def VR(A:Int×Int×Int→Int×Int):Prop:=∀x,dr x.1∧dr x.2.1∧C1 x.2.2→dr (A x).1∧C1 (A x).2∧(A x).1-18446744073709551616*(A x).2=x.1-x.2.1-x.2.2
def JC(M:Int×Int→Int×Int):Prop:=∀x,dr x.1∧dr x.2→dr (M x).1∧dr (M x).2∧(M x).2+18446744073709551616*(M x).1=x.1*x.2
theorem Yx{A:Int×Int×Int→Int×Int}(hA:Gu A){a b:List Int}(ha:Wn 4 a)(hb:Wn 4 b) :
  V (eV (kZ A a b) (zI,0) 4).1+115792089237316195423570985008687907853269984665640564039457584007913129639936*(eV (kZ A a b) (zI,0) 4).2=V a+V b:=by
 obtain⟨a0,a1,a2,a3,rfl,ha0,ha1,ha2,ha3⟩:=jh ha;obtain⟨b0,b1,b2,b3,rfl,hb0,hb1,hb2,hb3⟩:=jh hb;have c0:C1 0:=⟨aq,aq⟩;have s0:=hA (a0,b0,0) ⟨ha0,hb0,c0⟩;have s1:=hA (a1,b1,(A (a0,b0,0)).2) ⟨ha1,hb1,s0.2.1⟩;have s2:=hA (a2,b2,(A (a1,b1,(A (a0,b0,0)).2)).2) ⟨ha2,hb2,s1.2.1⟩;have s3:=hA (a3,b3,(A (a2,b2,(A (a1,b1,(A (a0,b0,0)).2)).2)).2) ⟨ha3,hb3,s2.2.1⟩;have e:eV (kZ A [a0,a1,a2,a3] [b0,b1,b2,b3]) (zI,0) 4=([(A (a0,b0,0)).1,(A (a1,b1,(A (a0,b0,0)).2)).1,(A (a2,b2,(A (a1,b1,(A (a0,b0,0)).2)).2)).1,(A (a3,b3,(A (a2,b2,(A (a1,b1,(A (a0,b0,0)).2)).2)).2)).1],(A (a3,b3,(A (a2,b2,(A (a1,b1,(A (a0,b0,0)).2)).2)).2)).2):=rfl;rw[e,V4,V4,V4];generalize A (a3,b3,(A (a2,b2,(A (a1,b1,(A (a0,b0,0)).2)).2)).2)=q3 at *;generalize A (a2,b2,(A (a1,b1,(A (a0,b0,0)).2)).2)=q2 at *;generalize A (a1,b1,(A (a0,b0,0)).2)=q1 at *;generalize A (a0,b0,0)=q0 at *;obtain⟨_,_,e0⟩:=s0;obtain⟨_,_,e1⟩:=s1;obtain⟨_,_,e2⟩:=s2;obtain⟨_,_,e3⟩:=s3;dsimp only at *;omega
theorem Yy{A:Int×Int×Int→Int×Int}(hA:VR A){a b:List Int}(ha:Wn 4 a)(hb:Wn 4 b) :
  V (eV (kZ A a b) (zI,0) 4).1-115792089237316195423570985008687907853269984665640564039457584007913129639936*(eV (kZ A a b) (zI,0) 4).2=V a-V b:=by
 obtain⟨a0,a1,a2,a3,rfl,ha0,ha1,ha2,ha3⟩:=jh ha;obtain⟨b0,b1,b2,b3,rfl,hb0,hb1,hb2,hb3⟩:=jh hb;have c0:C1 0:=⟨aq,aq⟩;have s0:=hA (a0,b0,0) ⟨ha0,hb0,c0⟩;have s1:=hA (a1,b1,(A (a0,b0,0)).2) ⟨ha1,hb1,s0.2.1⟩;have s2:=hA (a2,b2,(A (a1,b1,(A (a0,b0,0)).2)).2) ⟨ha2,hb2,s1.2.1⟩;have s3:=hA (a3,b3,(A (a2,b2,(A (a1,b1,(A (a0,b0,0)).2)).2)).2) ⟨ha3,hb3,s2.2.1⟩;have e:eV (kZ A [a0,a1,a2,a3] [b0,b1,b2,b3]) (zI,0) 4=([(A (a0,b0,0)).1,(A (a1,b1,(A (a0,b0,0)).2)).1,(A (a2,b2,(A (a1,b1,(A (a0,b0,0)).2)).2)).1,(A (a3,b3,(A (a2,b2,(A (a1,b1,(A (a0,b0,0)).2)).2)).2)).1],(A (a3,b3,(A (a2,b2,(A (a1,b1,(A (a0,b0,0)).2)).2)).2)).2):=rfl;rw[e,V4,V4,V4];generalize A (a3,b3,(A (a2,b2,(A (a1,b1,(A (a0,b0,0)).2)).2)).2)=q3 at *;generalize A (a2,b2,(A (a1,b1,(A (a0,b0,0)).2)).2)=q2 at *;generalize A (a1,b1,(A (a0,b0,0)).2)=q1 at *;generalize A (a0,b0,0)=q0 at *;obtain⟨_,_,e0⟩:=s0;obtain⟨_,_,e1⟩:=s1;obtain⟨_,_,e2⟩:=s2;obtain⟨_,_,e3⟩:=s3;dsimp only at *;omega
theorem Et{A:Int×Int×Int→Int×Int}{M:Int×Int→Int×Int}(hA:Gu A)(hM:JC M){x y p c:Int}(hx:dr x)(hy:dr y)(hp:dr p)(hc:dr c) :
  dr (A ((A ((M (x,y)).2,p,0)).1,c,0)).1∧dr (IntKind.u64.wrap (IntKind.u64.wrap ((M (x,y)).1+(A ((M (x,y)).2,p,0)).2)+(A ((A ((M (x,y)).2,p,0)).1,c,0)).2)) ∧
  (A ((A ((M (x,y)).2,p,0)).1,c,0)).1+18446744073709551616*IntKind.u64.wrap (IntKind.u64.wrap ((M (x,y)).1+(A ((M (x,y)).2,p,0)).2)+(A ((A ((M (x,y)).2,p,0)).1,c,0)).2)=x*y+p+c:=by
 have c0:C1 0:=⟨aq,aq⟩;obtain⟨m1,m2,m3⟩:=hM (x,y) ⟨hx,hy⟩;generalize M (x,y)=m at *;obtain⟨n1,n2,n3⟩:=hA (m.2,p,0) ⟨m2,hp,c0⟩;generalize A (m.2,p,0)=q at *;obtain⟨k1,k2,k3⟩:=hA (q.1,c,0) ⟨n1,hc,c0⟩;generalize A (q.1,c,0)=r at *
 have hxy:x*y≤18446744073709551615*18446744073709551615:=by
  unfold dr at hx hy;exact Int.mul_le_mul aq aq aq aq
 dsimp only at *;simp only[x7]at *;unfold dr C1 at *;generalize x*y=z at *;refine⟨k1,⟨aq,aq⟩,aq⟩
theorem wE{l:List Int}{i j:Nat}{x:Int}(h:i≠j):gI (l.set i x) j=gI l j:=by
 unfold gI;rw[cS,cS,List.getElem?_set_ne h]
theorem Aj{n:Nat}{l:List Int}(h:Wn n l)(k:Nat):dr (gI l k):=by
 unfold gI;rw[cS]
 cases e:l[k]? with
 |none=>exact⟨aw,aw⟩
 |some x=>exact h.2 x (cr e)
theorem N1{A:Int×Int×Int→Int×Int}{M:Int×Int→Int×Int}(hA:Gu A)(hM:JC M){a b p:List Int}(ha:Wn 4 a)(hb:Wn 4 b)(hp:Wn 8 p)(i:Nat) :
  ∃r0 r1 r2 r3 c,dr r0∧dr r1∧dr r2∧dr r3∧dr c ∧
   r0+18446744073709551616*(r1+18446744073709551616*(r2+18446744073709551616*(r3+18446744073709551616*c)))=gI a i*V b+(gI p i+18446744073709551616*(gI p (i+1)+18446744073709551616*(gI p (i+2)+18446744073709551616*gI p (i+3)))) ∧
   pT A M a b i p=((((p.set i r0).set (i+1) r1).set (i+2) r2).set (i+3) r3).set (i+4) c:=by
 obtain⟨b0,b1,b2,b3,rfl,hb0,hb1,hb2,hb3⟩:=jh hb;have hx:=Aj ha i;generalize hxe:gI a i=x at *;have z:dr 0:=⟨aq,aq⟩;obtain⟨s1,s2,s3⟩:=Et hA hM hx hb0 (Aj hp i) z;obtain⟨t1,t2,t3⟩:=Et hA hM hx hb1 (Aj hp (i+1)) s2;obtain⟨u1,u2,u3⟩:=Et hA hM hx hb2 (Aj hp (i+2)) t2;obtain⟨v1,v2,v3⟩:=Et hA hM hx hb3 (Aj hp (i+3)) u2;refine⟨_,_,_,_,_,s1,t1,u1,v1,v2,?_,?_⟩
 ·have hm:∀u v:Int,x*(u+18446744073709551616*v)=x*u+18446744073709551616*(x*v):=fun u v=>by rw[Int.mul_add,Int.mul_left_comm]
  rw[V4,hm,hm,hm];revert s3 t3 u3 v3;generalize gI p i=p0;generalize gI p (i+1)=p1;generalize gI p (i+2)=p2;generalize gI p (i+3)=p3;generalize x*b0=y0;generalize x*b1=y1;generalize x*b2=y2;generalize x*b3=y3;intro s3 t3 u3 v3;omega
 ·have n1:∀(l:List Int)(y:Int),gI (l.set i y) (i+1)=gI l (i+1):=fun l y=>wE aq;have n2:∀(l:List Int)(y:Int),gI (l.set i y) (i+2)=gI l (i+2):=fun l y=>wE aq;have n3:∀(l:List Int)(y:Int),gI (l.set i y) (i+3)=gI l (i+3):=fun l y=>wE aq;have n4:∀(l:List Int)(y:Int),gI (l.set (i+1) y) (i+2)=gI l (i+2):=fun l y=>wE aq;have n5:∀(l:List Int)(y:Int),gI (l.set (i+1) y) (i+3)=gI l (i+3):=fun l y=>wE aq;have n6:∀(l:List Int)(y:Int),gI (l.set (i+2) y) (i+3)=gI l (i+3):=fun l y=>wE aq;have g0:gI [b0,b1,b2,b3] 0=b0:=rfl;have g1:gI [b0,b1,b2,b3] 1=b1:=rfl;have g2:gI [b0,b1,b2,b3] 2=b2:=rfl;have g3:gI [b0,b1,b2,b3] 3=b3:=rfl;simp only[pT,eV,Ai,pl,hxe,g0,g1,g2,g3,n1,n2,n3,n4,n5,n6,Nat.add_zero]
theorem JD{A:Int×Int×Int→Int×Int}{M:Int×Int→Int×Int}(hA:Gu A)(hM:JC M){a b:List Int}(ha:Wn 4 a)(hb:Wn 4 b) :
  Wn 8 (eV (pT A M a b) A9 4)∧V (eV (pT A M a b) A9 4)=V a*V b:=by
 obtain⟨a0,a1,a2,a3,rfl,ha0,ha1,ha2,ha3⟩:=jh ha;have z:dr 0:=⟨aq,aq⟩;have w0:Wn 8 A9:=⟨rfl,fun x hx=>by simp[A9]at hx;subst hx;exact z⟩;obtain⟨r0,r1,r2,r3,c0,hr0,hr1,hr2,hr3,hc0,e0,f0⟩:=N1 hA hM ha hb w0 0;have f0':pT A M [a0,a1,a2,a3] b 0 A9=[r0,r1,r2,r3,c0,0,0,0]:=f0;have w1:Wn 8 [r0,r1,r2,r3,c0,0,0,0]:=⟨rfl,fun x hx=>by simp at hx;rcases hx with rfl|rfl|rfl|rfl|rfl|rfl<;>assumption⟩;obtain⟨s0,s1,s2,s3,c1,hs0,hs1,hs2,hs3,hc1,e1,f1⟩:=N1 hA hM ha hb w1 1;have f1':pT A M [a0,a1,a2,a3] b 1 [r0,r1,r2,r3,c0,0,0,0]=[r0,s0,s1,s2,s3,c1,0,0]:=f1;have w2:Wn 8 [r0,s0,s1,s2,s3,c1,0,0]:=⟨rfl,fun x hx=>by simp at hx;rcases hx with rfl|rfl|rfl|rfl|rfl|rfl|rfl<;>assumption⟩;obtain⟨t0,t1,t2,t3,c2,ht0,ht1,ht2,ht3,hc2,e2,f2⟩:=N1 hA hM ha hb w2 2;have f2':pT A M [a0,a1,a2,a3] b 2 [r0,s0,s1,s2,s3,c1,0,0]=[r0,s0,t0,t1,t2,t3,c2,0]:=f2;have w3:Wn 8 [r0,s0,t0,t1,t2,t3,c2,0]:=⟨rfl,fun x hx=>by simp at hx;rcases hx with rfl|rfl|rfl|rfl|rfl|rfl|rfl|rfl<;>assumption⟩;obtain⟨u0,u1,u2,u3,c3,hu0,hu1,hu2,hu3,hc3,e3,f3⟩:=N1 hA hM ha hb w3 3;have f3':pT A M [a0,a1,a2,a3] b 3 [r0,s0,t0,t1,t2,t3,c2,0]=[r0,s0,t0,u0,u1,u2,u3,c3]:=f3
 have e:eV (pT A M [a0,a1,a2,a3] b) A9 4=[r0,s0,t0,u0,u1,u2,u3,c3]:=by
  simp only[eV];rw[f0',f1',f2',f3']
 rw[e];refine⟨⟨rfl,fun x hx=>by simp at hx;rcases hx with rfl|rfl|rfl|rfl|rfl|rfl|rfl|rfl<;>assumption⟩,?_⟩
 have k:V [a0,a1,a2,a3]*V b=a0*V b+18446744073709551616*(a1*V b+18446744073709551616*(a2*V b+18446744073709551616*(a3*V b))):=by
  rw[V4,Int.add_mul,Int.mul_assoc,Int.add_mul,Int.mul_assoc,Int.add_mul,Int.mul_assoc]
 have k2:V [r0,s0,t0,u0,u1,u2,u3,c3]=r0+18446744073709551616*(s0+18446744073709551616*(t0+18446744073709551616*(u0+18446744073709551616*(u1+18446744073709551616*(u2+18446744073709551616*(u3+18446744073709551616*c3)))))):=by simp[V]
 rw[k,k2];have g0:gI [a0,a1,a2,a3] 0*V b+(0+18446744073709551616*(0+18446744073709551616*(0+18446744073709551616*0)))=a0*V b:=by show a0*V b+_=_;omega
 have e0':r0+18446744073709551616*(r1+18446744073709551616*(r2+18446744073709551616*(r3+18446744073709551616*c0)))=a0*V b:=e0.trans g0;have e1':s0+18446744073709551616*(s1+18446744073709551616*(s2+18446744073709551616*(s3+18446744073709551616*c1)))=a1*V b+(r1+18446744073709551616*(r2+18446744073709551616*(r3+18446744073709551616*c0))):=e1;have e2':t0+18446744073709551616*(t1+18446744073709551616*(t2+18446744073709551616*(t3+18446744073709551616*c2)))=a2*V b+(s1+18446744073709551616*(s2+18446744073709551616*(s3+18446744073709551616*c1))):=e2;have e3':u0+18446744073709551616*(u1+18446744073709551616*(u2+18446744073709551616*(u3+18446744073709551616*c3)))=a3*V b+(t1+18446744073709551616*(t2+18446744073709551616*(t3+18446744073709551616*c2))):=e3;generalize a0*V b=y0 at *;generalize a1*V b=y1 at *;generalize a2*V b=y2 at *;generalize a3*V b=y3 at *;omega
theorem N2{A:Int×Int×Int→Int×Int}{M:Int×Int→Int×Int}(hA:Gu A)(hM:JC M){a:List Int}(ha:Wn 4 a) :
  V (eV (uW A M a) (zI,0) 4).1+115792089237316195423570985008687907853269984665640564039457584007913129639936*(eV (uW A M a) (zI,0) 4).2=V a*4294968273:=by
 obtain⟨a0,a1,a2,a3,rfl,ha0,ha1,ha2,ha3⟩:=jh ha;have z:dr 0:=⟨aq,aq⟩;have c0:C1 0:=⟨aq,aq⟩;have ov:dr 4294968273:=⟨aq,aq⟩
 have one:∀x c:Int,dr x→dr c→dr (A ((M (x,4294968273)).2,c,0)).1∧dr (IntKind.u64.wrap ((M (x,4294968273)).1+(A ((M (x,4294968273)).2,c,0)).2)) ∧
   (A ((M (x,4294968273)).2,c,0)).1+18446744073709551616*IntKind.u64.wrap ((M (x,4294968273)).1+(A ((M (x,4294968273)).2,c,0)).2)=x*4294968273+c:=by
  intro x c hx hc;obtain⟨m1,m2,m3⟩:=hM (x,4294968273) ⟨hx,ov⟩;generalize M (x,4294968273)=m at *;obtain⟨n1,n2,n3⟩:=hA (m.2,c,0) ⟨m2,hc,c0⟩;generalize A (m.2,c,0)=q at *;dsimp only at *;simp only[x7]at *;unfold dr C1 at *;refine⟨n1,⟨aq,aq⟩,aq⟩
 obtain⟨s1,s2,s3⟩:=one a0 0 ha0 z;obtain⟨t1,t2,t3⟩:=one a1 _ ha1 s2;obtain⟨u1,u2,u3⟩:=one a2 _ ha2 t2;obtain⟨v1,v2,v3⟩:=one a3 _ ha3 u2;have g0:gI [a0,a1,a2,a3] 0=a0:=rfl;have g1:gI [a0,a1,a2,a3] 1=a1:=rfl;have g2:gI [a0,a1,a2,a3] 2=a2:=rfl;have g3:gI [a0,a1,a2,a3] 3=a3:=rfl;have e:∀p q r s:Int,List.set (List.set (List.set (List.set zI 0 p) 1 q) 2 r) 3 s=[p,q,r,s]:=fun _ _ _ _=>rfl;simp only[eV,uW,g0,g1,g2,g3,e,V4];omega
theorem Yz:eW Tryz.prog 96=some (cI zI):=by kernel_rfl
attribute [go_sem] Yz
theorem Sr:zI.length=4:=rfl
attribute [go_sem] Sr eH CH
theorem x8{Q:AV→Prop}{st:St}{a:List Int}{b:Int}(hq:Q (.tup [.agg (cI a),.d (.int .u64 b)])):dy Q (.tup [.agg (cI a),.d (.int .u64 b)]) st :=
 aa (by
  intro c hc;simp at hc;rcases hc with rfl|rfl
  ·exact .inr ⟨_,rfl,iY _⟩
  ·exact .inl trivial) hq
theorem Ss:∃A:Int×Int×Int→Int×Int,Gu A∧∀x,(dr x.1∧dr x.2.1∧C1 x.2.2)→dr (A x).1∧C1 (A x).2∧o8 Tryz.prog 162 [.d (.int .u64 x.1),.d (.int .u64 x.2.1),.d (.int .u64 x.2.2)] (.tup [.d (.int .u64 (A x).1),.d (.int .u64 (A x).2)]):=by
 obtain⟨A,hA⟩:=pick (α:=Int×Int×Int) (β:=Int×Int) (A:=fun x=>dr x.1∧dr x.2.1∧C1 x.2.2) (B:=fun x y=>dr y.1∧C1 y.2∧y.1+18446744073709551616*y.2=x.1+x.2.1+x.2.2∧o8 Tryz.prog 162 [.d (.int .u64 x.1),.d (.int .u64 x.2.1),.d (.int .u64 x.2.2)] (.tup [.d (.int .u64 y.1),.d (.int .u64 y.2)])) (fun x hx=>by
  obtain⟨s,d,h1,h2,h3,h4⟩:=Jy x.1 x.2.1 x.2.2 hx.1 hx.2.1 hx.2.2
  exact⟨(s,d),h1,h2,h3,h4⟩)
 exact⟨A,fun x hx=>⟨(hA x hx).1,(hA x hx).2.1,(hA x hx).2.2.1⟩,fun x hx=>⟨(hA x hx).1,(hA x hx).2.1,(hA x hx).2.2.2⟩⟩
theorem YA:∃A:Int×Int×Int→Int×Int,VR A∧∀x,(dr x.1∧dr x.2.1∧C1 x.2.2)→dr (A x).1∧C1 (A x).2∧o8 Tryz.prog 179 [.d (.int .u64 x.1),.d (.int .u64 x.2.1),.d (.int .u64 x.2.2)] (.tup [.d (.int .u64 (A x).1),.d (.int .u64 (A x).2)]):=by
 obtain⟨A,hA⟩:=pick (α:=Int×Int×Int) (β:=Int×Int) (A:=fun x=>dr x.1∧dr x.2.1∧C1 x.2.2) (B:=fun x y=>dr y.1∧C1 y.2∧y.1-18446744073709551616*y.2=x.1-x.2.1-x.2.2∧o8 Tryz.prog 179 [.d (.int .u64 x.1),.d (.int .u64 x.2.1),.d (.int .u64 x.2.2)] (.tup [.d (.int .u64 y.1),.d (.int .u64 y.2)])) (fun x hx=>by
  obtain⟨s,d,h1,h2,h3,h4⟩:=Jz x.1 x.2.1 x.2.2 hx.1 hx.2.1 hx.2.2
  exact⟨(s,d),h1,h2,h3,h4⟩)
 exact⟨A,fun x hx=>⟨(hA x hx).1,(hA x hx).2.1,(hA x hx).2.2.1⟩,fun x hx=>⟨(hA x hx).1,(hA x hx).2.1,(hA x hx).2.2.2⟩⟩
theorem VS:∃M:Int×Int→Int×Int,∀x,dr (M x).1∧dr (M x).2∧(dr x.1∧dr x.2→(M x).2+18446744073709551616*(M x).1=x.1*x.2∧ay Tryz.prog 187 [.d (.int .u64 x.1),.d (.int .u64 x.2)] (fun r=>r=.tup [.d (.int .u64 (M x).1),.d (.int .u64 (M x).2)])):=by
 obtain⟨M,hM⟩:=pick (α:=Int×Int) (β:=Int×Int) (A:=fun _=>True) (B:=fun x y=>dr y.1∧dr y.2∧(dr x.1∧dr x.2→y.2+18446744073709551616*y.1=x.1*x.2∧ay Tryz.prog 187 [.d (.int .u64 x.1),.d (.int .u64 x.2)] (fun r=>r=.tup [.d (.int .u64 y.1),.d (.int .u64 y.2)]))) (fun x _=>by
  by_cases hx:dr x.1∧dr x.2
  ·obtain⟨s,d,h1,h2,h3,h4⟩:=JB x.1 x.2 hx.1 hx.2;exact⟨(s,d),h1,h2,fun _=>⟨h3,h4⟩⟩
  ·exact⟨(0,0),ub,ub,fun h=>absurd h hx⟩)
 exact⟨M,fun x=>hM x trivial⟩
theorem Eu{M:Int×Int→Int×Int}{C:Int×Int→Prop}(hM:∀x,dr (M x).1∧dr (M x).2∧(dr x.1∧dr x.2→(M x).2+18446744073709551616*(M x).1=x.1*x.2∧C x)):JC M :=
 fun x hx=>⟨(hM x).1,(hM x).2.1,((hM x).2.2 hx).1⟩
theorem nM(a b:List Int)(ha:Wn 4 a)(hb:Wn 4 b):∃(s:List Int)(c:Int),Wn 4 s∧C1 c∧V s+115792089237316195423570985008687907853269984665640564039457584007913129639936*c=V a+V b∧ay Tryz.prog 131 [.agg (cI a),.agg (cI b)] (fun r=>r=.tup [.agg (cI s),.d (.int .u64 c)]):=by
 obtain⟨A,hAV,hA⟩:=Ss
 have hS:∀k,Wn 4 (eV (kZ A a b) (zI,0) k).1∧C1 (eV (kZ A a b) (zI,0) k).2:=iW (P:=fun _(s:List Int×Int)=>Wn 4 s.1∧C1 s.2) ⟨jE,Ah⟩ fun k s hs=>by
  obtain⟨h1,h2,_⟩:=hA (gI a k,gI b k,s.2) ⟨c6 ha,c6 hb,hs.2⟩;exact⟨oP hs.1 h1,h2⟩
 refine⟨(eV (kZ A a b) (zI,0) 4).1,(eV (kZ A a b) (zI,0) 4).2,(hS 4).1,(hS 4).2,Yx hAV ha hb,?_⟩;refine bL Tryz.func131 Tryz.ntmps131 (rs:=[.cell 4 96,.tmp 5]) (aK a b) ?_;have hal:=ha.1;have hbl:=hb.1;simp[go_sem,hal,hbl,ae hal,ae hbl];generalize hSS:eV (kZ A a b) (zI,0)=S at *
 refine ar (fun k:Nat=>⟨[(2,.ptr 0 0 0 1),(3,.ptr 32 0 0 1),(4,.ptr 64 0 0 1),(6,.ptr 128 0 0 1),(7,.d (.int .u64 (S k).2)),(9,.d (.int .i64 (k:Int)))],[(128,⟨96,4,[cI (S k).1]⟩),(64,⟨96,4,[cI zI]⟩),(32,⟨96,4,[cI b]⟩),(0,⟨96,4,[cI a]⟩)],1000⟩)
  (fun k=>k≤4) (fun k=>4-k) 0 aq (by
   rw[←hSS];simp[aA,ai,fv,lk,AV.low,AV.low1,eV]
   and_intros<;>first|rfl|exact bU _ _) ?_
 intro k hk;obtain⟨hs1,hs2⟩:=hS k;have hsl:=hs1.1;have w3:=ax (k:=k) aq;simp only[go_sem,Nat.reduceEqDiff,Nat.reduceAdd,Nat.reduceLT,↓reduceIte];by_cases h4:k<4
 ·refine⟨fun h=>?_,fun h=>absurd (by exact_mod_cast h4) h⟩;have hka:=jg (l:=a) (k:=k) aq;have hkb:=jg (l:=b) (k:=k) aq;have hsn:S (k+1)=kZ A a b k (S k):=by rw[←hSS];rfl
  obtain⟨h1,h2,h3⟩:=hA (gI a k,gI b k,(S k).2) ⟨c6 ha,c6 hb,hs2⟩;simp only[kZ]at hsn;generalize A (gI a k,gI b k,(S k).2)=y at *;have hk4:(k:Int)<4:=aq;refine ep [0,1,2,3,4,5,6,7] [8,11,13,14] [0,1,2,3,4,5,6,7,9,10,12] (.step 8 [9,10,12] true (.alt (bt 11 (a_ [13,14])) (a_ [13,11,14]))) ⟨[(2,.ptr 0 0 0 1),(3,.ptr 32 0 0 1),(4,.ptr 64 0 0 1),(6,.ptr 128 0 0 1),(7,.d (.int .u64 y.2)),(9,.d (.int .i64 (k:Int)))],[(128,⟨96,4,[cI ((S k).1.set k y.1)]⟩),(64,⟨96,4,[cI zI]⟩),(32,⟨96,4,[cI b]⟩),(0,⟨96,4,[cI a]⟩)],9000⟩ (k:=15) ?h3 ?hq
  case h3 =>
   intro G hG
   have hW:∀fr:Fr,(fv 2 fr=.ptr 0 0 0 1∧fv 3 fr=.ptr 32 0 0 1∧fv 4 fr=.ptr 64 0 0 1∧fv 6 fr=.ptr 128 0 0 1∧fv 7 fr=.d (.int .u64 y.2)∧fv 9 fr=.d (.int .i64 (k:Int)))→G fr [(128,⟨96,4,[cI ((S k).1.set k y.1)]⟩),(64,⟨96,4,[cI zI]⟩),(32,⟨96,4,[cI b]⟩),(0,⟨96,4,[cI a]⟩)]:=by
    rintro fr⟨e2,e3,e4,e6,e7,e9⟩;exact hG _ _ rY
   simp[go_sem,hka,hkb,hal,hbl,hsl,dM,hk4];refine qE h3 ?_;simp[go_sem,hka,hkb,hal,hbl,hsl,mU,dM,hk4];and_intros<;>first|exact h4|exact hW _ ⟨rfl,rfl,rfl,rfl,rfl,rfl⟩|(refine hW _ ?_;simp[fv,lk])
  case hq =>
   simp[go_sem,w3];refine ao (k+1) aq aq ?_;rw[hsn];simp[aA,ai,fv,lk,AV.low,AV.low1];and_intros<;>exact bU _ _
 ·refine⟨fun h=>absurd (by exact_mod_cast h) h4,fun h=>?_⟩;have hk4:k=4:=aq;subst hk4;simp[go_sem,hsl,ae hsl,aZ (l:=zI) (n:=4) rfl,ah];exact x8 rfl
theorem pU(a b:List Int)(ha:Wn 4 a)(hb:Wn 4 b):∃(s:List Int)(c:Int),Wn 4 s∧C1 c∧V s-115792089237316195423570985008687907853269984665640564039457584007913129639936*c=V a-V b∧ay Tryz.prog 157 [.agg (cI a),.agg (cI b)] (fun r=>r=.tup [.agg (cI s),.d (.int .u64 c)]):=by
 obtain⟨A,hAV,hA⟩:=YA
 have hS:∀k,Wn 4 (eV (kZ A a b) (zI,0) k).1∧C1 (eV (kZ A a b) (zI,0) k).2:=iW (P:=fun _(s:List Int×Int)=>Wn 4 s.1∧C1 s.2) ⟨jE,Ah⟩ fun k s hs=>by
  obtain⟨h1,h2,_⟩:=hA (gI a k,gI b k,s.2) ⟨c6 ha,c6 hb,hs.2⟩;exact⟨oP hs.1 h1,h2⟩
 refine⟨(eV (kZ A a b) (zI,0) 4).1,(eV (kZ A a b) (zI,0) 4).2,(hS 4).1,(hS 4).2,Yy hAV ha hb,?_⟩;refine bL Tryz.func157 Tryz.ntmps157 (rs:=[.cell 4 96,.tmp 5]) (aK a b) ?_;have hal:=ha.1;have hbl:=hb.1;simp[go_sem,hal,hbl,ae hal,ae hbl];generalize hSS:eV (kZ A a b) (zI,0)=S at *
 refine ar (fun k:Nat=>⟨[(2,.ptr 0 0 0 1),(3,.ptr 32 0 0 1),(4,.ptr 64 0 0 1),(6,.ptr 128 0 0 1),(7,.d (.int .u64 (S k).2)),(9,.d (.int .i64 (k:Int)))],[(128,⟨96,4,[cI (S k).1]⟩),(64,⟨96,4,[cI zI]⟩),(32,⟨96,4,[cI b]⟩),(0,⟨96,4,[cI a]⟩)],1000⟩)
  (fun k=>k≤4) (fun k=>4-k) 0 aq (by
   rw[←hSS];simp[aA,ai,fv,lk,AV.low,AV.low1,eV]
   and_intros<;>first|rfl|exact bU _ _) ?_
 intro k hk;obtain⟨hs1,hs2⟩:=hS k;have hsl:=hs1.1;have w3:=ax (k:=k) aq;simp only[go_sem,Nat.reduceEqDiff,Nat.reduceAdd,Nat.reduceLT,↓reduceIte];by_cases h4:k<4
 ·refine⟨fun h=>?_,fun h=>absurd (by exact_mod_cast h4) h⟩;have hka:=jg (l:=a) (k:=k) aq;have hkb:=jg (l:=b) (k:=k) aq;have hsn:S (k+1)=kZ A a b k (S k):=by rw[←hSS];rfl
  obtain⟨h1,h2,h3⟩:=hA (gI a k,gI b k,(S k).2) ⟨c6 ha,c6 hb,hs2⟩;simp only[kZ]at hsn;generalize A (gI a k,gI b k,(S k).2)=y at *;have hk4:(k:Int)<4:=aq;refine ep [0,1,2,3,4,5,6,7] [8,11,13,14] [0,1,2,3,4,5,6,7,9,10,12] (.step 8 [9,10,12] true (.alt (bt 11 (a_ [13,14])) (a_ [13,11,14]))) ⟨[(2,.ptr 0 0 0 1),(3,.ptr 32 0 0 1),(4,.ptr 64 0 0 1),(6,.ptr 128 0 0 1),(7,.d (.int .u64 y.2)),(9,.d (.int .i64 (k:Int)))],[(128,⟨96,4,[cI ((S k).1.set k y.1)]⟩),(64,⟨96,4,[cI zI]⟩),(32,⟨96,4,[cI b]⟩),(0,⟨96,4,[cI a]⟩)],9000⟩ (k:=15) ?h3 ?hq
  case h3 =>
   intro G hG
   have hW:∀fr:Fr,(fv 2 fr=.ptr 0 0 0 1∧fv 3 fr=.ptr 32 0 0 1∧fv 4 fr=.ptr 64 0 0 1∧fv 6 fr=.ptr 128 0 0 1∧fv 7 fr=.d (.int .u64 y.2)∧fv 9 fr=.d (.int .i64 (k:Int)))→G fr [(128,⟨96,4,[cI ((S k).1.set k y.1)]⟩),(64,⟨96,4,[cI zI]⟩),(32,⟨96,4,[cI b]⟩),(0,⟨96,4,[cI a]⟩)]:=by
    rintro fr⟨e2,e3,e4,e6,e7,e9⟩;exact hG _ _ rY
   simp[go_sem,hka,hkb,hal,hbl,hsl,dM,hk4];refine qE h3 ?_;simp[go_sem,hka,hkb,hal,hbl,hsl,mU,dM,hk4];and_intros<;>first|exact h4|exact hW _ ⟨rfl,rfl,rfl,rfl,rfl,rfl⟩|(refine hW _ ?_;simp[fv,lk])
  case hq =>
   simp[go_sem,w3];refine ao (k+1) aq aq ?_;rw[hsn];simp[aA,ai,fv,lk,AV.low,AV.low1];and_intros<;>exact bU _ _
 ·refine⟨fun h=>absurd (by exact_mod_cast h) h4,fun h=>?_⟩;have hk4:k=4:=aq;subst hk4;simp[go_sem,hsl,ae hsl,aZ (l:=zI) (n:=4) rfl,ah];exact x8 rfl
theorem PT(x y:Int):∀v,v∈[AV.d (.int .u64 x),AV.d (.int .u64 y)]→v.deep:=by
 intro v hv;simp at hv;rcases hv with rfl|rfl<;>trivial
theorem wF(a:List Int)(ha:Wn 4 a):∃(s:List Int)(c:Int),Wn 4 s∧dr c∧V s+115792089237316195423570985008687907853269984665640564039457584007913129639936*c=V a*4294968273∧ay Tryz.prog 238 [.agg (cI a)] (fun r=>r=.tup [.agg (cI s),.d (.int .u64 c)]):=by
 obtain⟨A,hAV,hA⟩:=Ss;obtain⟨M,hM⟩:=VS
 have hS:∀k,Wn 4 (eV (uW A M a) (zI,0) k).1∧dr (eV (uW A M a) (zI,0) k).2:=iW (P:=fun _(s:List Int×Int)=>Wn 4 s.1∧dr s.2) ⟨jE,ub⟩ fun k s hs=>by
  obtain⟨h1,h2,_⟩:=hA ((M (gI a k,4294968273)).2,s.2,0) ⟨(hM _).2.1,hs.2,Ah⟩;exact⟨oP hs.1 h1,NZ _⟩
 refine⟨(eV (uW A M a) (zI,0) 4).1,(eV (uW A M a) (zI,0) 4).2,(hS 4).1,(hS 4).2,N2 hAV (Eu hM) ha,?_⟩;refine bL Tryz.func238 Tryz.ntmps238 (rs:=[.cell 2 96,.tmp 3]) (aS a) ?_;have hal:=ha.1;simp[go_sem,hal,ae hal];generalize hSS:eV (uW A M a) (zI,0)=S at *
 refine ar (fun k:Nat=>⟨[(1,.ptr 0 0 0 1),(2,.ptr 32 0 0 1),(4,.ptr 96 0 0 1),(5,.d (.int .u64 (S k).2)),(10,.d (.int .i64 (k:Int)))],[(96,⟨96,4,[cI (S k).1]⟩),(32,⟨96,4,[cI zI]⟩),(0,⟨96,4,[cI a]⟩)],1000⟩)
  (fun k=>k≤4) (fun k=>4-k) 0 aq (by
   rw[←hSS];simp[aA,ai,fv,lk,AV.low,AV.low1,eV]
   and_intros<;>first|rfl|exact bU _ _) ?_
 intro k hk;obtain⟨hs1,hs2⟩:=hS k;have hsl:=hs1.1;have w3:=ax (k:=k) aq;simp only[go_sem,Nat.reduceEqDiff,Nat.reduceAdd,Nat.reduceLT,↓reduceIte];by_cases h4:k<4
 ·refine⟨fun h=>?_,fun h=>absurd (by exact_mod_cast h4) h⟩;have hka:=jg (l:=a) (k:=k) aq;have hsn:S (k+1)=uW A M a k (S k):=by rw[←hSS];rfl
  obtain⟨m1,m2,m3⟩:=hM (gI a k,4294968273);obtain⟨h1,h2,h3⟩:=hA ((M (gI a k,4294968273)).2,(S k).2,0) ⟨m2,hs2,Ah⟩;simp only[uW]at hsn;have hk4:(k:Int)<4:=aq;simp[go_sem,hka,hal,hsl,hk4];refine ag (m3 ⟨c6 ha,⟨aq,aq⟩⟩).2 (PT _ _) ?_;simp[go_sem,hka,hal,hsl,hk4];refine qE h3 ?_;generalize A ((M (gI a k,4294968273)).2,(S k).2,0)=y at *;generalize M (gI a k,4294968273)=z at *;simp[go_sem,hka,hal,hsl,hk4,mU,w3];refine⟨h4,?_⟩;refine ao (k+1) aq aq ?_;rw[hsn];simp[aA,ai,fv,lk,AV.low,AV.low1];and_intros<;>exact bU _ _
 ·refine⟨fun h=>absurd (by exact_mod_cast h) h4,fun h=>?_⟩;have hk4:k=4:=aq;subst hk4;simp[go_sem,hsl,ae hsl,aZ (l:=zI) (n:=4) rfl,ah];exact x8 rfl
theorem YB:eW Tryz.prog 226=some (cI A9):=by kernel_rfl
attribute [go_sem] YB
theorem N3:A9.length=8:=rfl
attribute [go_sem] N3
theorem CL(a b:List Int)(ha:Wn 4 a)(hb:Wn 4 b):∃(s:List Int),Wn 8 s∧V s=V a*V b∧ay Tryz.prog 163 [.agg (cI a),.agg (cI b)] (fun r=>r=.agg (cI s)):=by
 obtain⟨A,hAV,hA⟩:=Ss;obtain⟨M,hM⟩:=VS
 have hI:∀i p,Wn 8 p→∀k,Wn 8 (eV (Ai A M a b i) (p,0) k).1∧dr (eV (Ai A M a b i) (p,0) k).2:=fun i p hp=>iW (P:=fun _(s:List Int×Int)=>Wn 8 s.1∧dr s.2) ⟨hp,ub⟩ fun k s hs=>by
  obtain⟨h1,h2,_⟩:=hA ((M (gI a i,gI b k)).2,gI s.1 (pl i k),0) ⟨(hM _).2.1,c6 hs.1,Ah⟩;obtain⟨h3,h4,_⟩:=hA ((A ((M (gI a i,gI b k)).2,gI s.1 (pl i k),0)).1,s.2,0) ⟨h1,hs.2,Ah⟩;exact⟨oP hs.1 h3,NZ _⟩
 have hS:∀i,Wn 8 (eV (pT A M a b) A9 i):=iW (P:=fun _(s:List Int)=>Wn 8 s) VQ fun i s hs=>oP (hI i s hs 4).1 (hI i s hs 4).2;refine⟨eV (pT A M a b) A9 4,hS 4,(JD hAV (Eu hM) ha hb).2,?_⟩;refine bL Tryz.func163 Tryz.ntmps163 (rs:=[.cell 4 226]) (aK a b) ?_;have hal:=ha.1;have hbl:=hb.1;simp[go_sem,hal,hbl,ae hal,ae hbl];generalize hSS:eV (pT A M a b) A9=S at *
 refine ar (fun i:Nat=>⟨[(2,.ptr 0 0 0 1),(3,.ptr 32 0 0 1),(4,.ptr 64 0 0 1),(5,.ptr 96 0 0 1),(12,.d (.int .i64 (i:Int)))],[(96,⟨226,8,[cI (S i)]⟩),(64,⟨226,8,[cI A9]⟩),(32,⟨96,4,[cI b]⟩),(0,⟨96,4,[cI a]⟩)],1000⟩)
  (fun k=>k≤4) (fun k=>4-k) 0 aq (by
   rw[←hSS];simp[aA,ai,fv,lk,AV.low,AV.low1,eV]
   and_intros<;>first|rfl|exact bU _ _) ?_
 intro i hi;have hs1:=hS i;have w3:=ax (k:=i) aq;simp only[go_sem,Nat.reduceEqDiff,Nat.reduceAdd,Nat.reduceLT,↓reduceIte];by_cases h4:i<4
 ·refine⟨fun h=>?_,fun h=>absurd (by exact_mod_cast h4) h⟩;have hka:=jg (l:=a) (k:=i) aq;have hi4:(i:Int)<4:=aq;have hsn:S (i+1)=pT A M a b i (S i):=by rw[←hSS];rfl
  have hIi:=hI i (S i) hs1;unfold pT at hsn;generalize hTT:eV (Ai A M a b i) (S i,0)=T at *;have hT0:T 0=(S i,0):=by rw[←hTT];rfl
  refine ar (fun k:Nat=>⟨[(2,.ptr 0 0 0 1),(3,.ptr 32 0 0 1),(4,.ptr 64 0 0 1),(5,.ptr 96 0 0 1),(12,.d (.int .i64 (i:Int))),(6,.d (.int .i64 (i:Int))),(7,.d (.int .u64 (T k).2)),(15,.d (.int .i64 (k:Int)))],[(96,⟨226,8,[cI (T k).1]⟩),(64,⟨226,8,[cI A9]⟩),(32,⟨96,4,[cI b]⟩),(0,⟨96,4,[cI a]⟩)],2000⟩)
   (fun k=>k≤4) (fun k=>4-k) 0 aq (by
    rw[hT0];simp[aA,ai,fv,lk,AV.low,AV.low1]
    and_intros<;>first|rfl|exact bU _ _) ?_
  intro k hk;obtain⟨ht1,ht2⟩:=hIi k;have htl:=ht1.1;have w4:=ax (k:=k) aq;have hpl:pl i k=i+k:=rfl;have hp4:pl i 4=i+4:=rfl;have w5:IntKind.i64.wrap ((i:Int)+(k:Int))=(pl i k:Int):=by rw[hpl,IntWalk.i64_in _ aq];omega
  have w6:IntKind.i64.wrap ((i:Int)+4)=(pl i 4:Int):=by rw[hp4,IntWalk.i64_in _ aq];omega
  simp only[go_sem,Nat.reduceEqDiff,Nat.reduceAdd,Nat.reduceLT,↓reduceIte];by_cases h5:k<4
  ·refine⟨fun h=>?_,fun h=>absurd (by exact_mod_cast h5) h⟩;have hkb:=jg (l:=b) (k:=k) aq;have hkt:=jg (l:=(T k).1) (k:=pl i k) aq;have hk4:(k:Int)<4:=aq;have hik:(pl i k:Int)<8:=aq;have hikn:pl i k<8:=aq;have htn:T (k+1)=Ai A M a b i k (T k):=by rw[←hTT];rfl
   obtain⟨m1,m2,m3⟩:=hM (gI a i,gI b k);obtain⟨h1,h2,h3⟩:=hA ((M (gI a i,gI b k)).2,gI (T k).1 (pl i k),0) ⟨m2,c6 ht1,Ah⟩;obtain⟨q1,q2,q3⟩:=hA ((A ((M (gI a i,gI b k)).2,gI (T k).1 (pl i k),0)).1,(T k).2,0) ⟨h1,ht2,Ah⟩;unfold Ai at htn;generalize A ((A ((M (gI a i,gI b k)).2,gI (T k).1 (pl i k),0)).1,(T k).2,0)=y2 at *;generalize A ((M (gI a i,gI b k)).2,gI (T k).1 (pl i k),0)=y at *;generalize M (gI a i,gI b k)=z at *;refine b7 [0,1,2,3,4,5] [(6,[7,8,9,10,11])] 1 (k:=12) ?_;intro G hG;simp[go_sem,hka,hkb,hal,hbl,hi4,hk4];refine ag (m3 ⟨c6 ha,c6 hb⟩).2 (PT _ _) ?_;simp[go_sem,hka,hkb,hal,hbl,hi4,hk4];refine hG _ _ ?_;clear hG G;simp[go_sem,hkt,htl,w5,hik]
   first|refine qE h3 ?_
   simp[go_sem,hkt,htl,w5,hik]
   first|refine qE q3 ?_
   simp[go_sem,hkt,htl,w5,hik,hikn,mU,w4]
   first|refine ao (k+1) aq aq ?_|refine⟨aq,ao (k+1) aq aq ?_⟩
   rw[htn];simp[aA,ai,fv,lk,AV.low,AV.low1];and_intros<;>exact bU _ _
  ·refine⟨fun h=>absurd (by exact_mod_cast h) h5,fun h=>?_⟩;have hk4:k=4:=aq;subst hk4;have hi8:(pl i 4:Int)<8:=aq;have hi8n:pl i 4<8:=aq;simp[go_sem,htl,w6,hi8,hi8n,mU,w3]
   first|refine ao (i+1) aq aq ?_|refine⟨aq,ao (i+1) aq aq ?_⟩
   rw[hsn];simp[aA,ai,fv,lk,AV.low,AV.low1];and_intros<;>exact bU _ _
 ·refine⟨fun h=>absurd (by exact_mod_cast h) h4,fun h=>?_⟩;have hk4:i=4:=aq;subst hk4;have hsl:=hs1.1;simp[go_sem,hsl,ae hsl,aZ (l:=A9) (n:=8) rfl,ah];exact aa (eP _) rfl
end Go.Proofs.YtmfnimjnneflnaaGreat
