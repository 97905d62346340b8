/-
 Part 9 of what the claim rests on.
-/
import Derived.Test.YtmfnimjnneflnaaGreatG6
import Derived.Test.YtmfnimjnneflnaaGreatG7
import Derived.Laws.Externs
import Derived.Laws.MathBits
import Derived.Laws.Bits64b
set_option linter.unusedVariables false
set_option linter.unusedSimpArgs false
set_option maxRecDepth 100000
set_option maxHeartbeats 16000000
namespace Go.Proofs.YtmfnimjnneflnaaGreat
open Go.Am Go.Sha
def RG (b:Bool):Int:=if b then 1 else 0
theorem BS (b:Bool):ax Tryz.prog 259 [.d (.bool b)] (fun r=>r=.d (.int .i64 (RG b))):=by
 refine bO Tryz.func259 Tryz.ntmps259 (rs:=[.tmp 2]) a9 ?_
 cases b with
 | true =>
  simp [go_sem,ah,RG];exact aa a9 rfl
 | false =>
  simp [go_sem,ah,RG];exact aa a9 rfl
def lZ (o:Option Int):AV:=.tup [.d (.int .i64 (o.getD 0)),.d (.bool o.isSome)]
def j5 (o:Option Bool):AV:=.tup [.d (.bool (o.getD false)),.d (.bool o.isSome)]
theorem dj (o:Option Int):(lZ o).deep:=by
 intro c hc;simp [lZ] at hc;rcases hc with rfl | rfl <;> exact .inl trivial
theorem dk (o:Option Bool):(j5 o).deep:=by
 intro c hc;simp [j5] at hc;rcases hc with rfl | rfl <;> exact .inl trivial
theorem aS {v r:AV} {st:St} (h:v=r) (hd:r.deep):dx (fun x=>x=r) v st:=by
 subst h;exact aa hd rfl
theorem PC (op:Nat) (ho:op<256) (a:Int) (ha:-2147483648<a∧a<2147483648):ax Tryz.prog 255 [.d (.int .u8 (op:Int)),.d (.int .i64 a)] (fun r=>r=lZ (sf op a)):=by
 refine bO Tryz.func255 Tryz.ntmps255 (rs:=[.tmp 4,.tmp 5]) a9 ?_;simp [go_sem];by_cases h139:op=139
 ·subst h139;rw [show sf 139 a=some (a+1) from rfl];have w:IntKind.i64.wrap (a+1)=a+1:=IntWalk.i64_in _ aq;simp [go_sem,w,ah];exact aS rfl (dj _)
 have i139:¬ (op:Int)=139:=aq;simp [go_sem,h139,i139];by_cases h140:op=140
 ·subst h140;rw [show sf 140 a=some (a - 1) from rfl];have w:IntKind.i64.wrap (a - 1)=a - 1:=IntWalk.i64_in _ aq;simp [go_sem,w,ah];exact aS rfl (dj _)
 have i140:¬ (op:Int)=140:=aq;simp [go_sem,h140,i140];by_cases h143:op=143
 ·subst h143;rw [show sf 143 a=some (-a) from rfl];have w:IntKind.i64.wrap (0 - a)=-a:=by rw [IntWalk.i64_in _ aq];omega
  have w':IntKind.i64.wrap (-a)=-a:=IntWalk.i64_in _ aq;simp [go_sem,w,w',ah];exact aS rfl (dj _)
 have i143:¬ (op:Int)=143:=aq;simp [go_sem,h143,i143];by_cases h144:op=144
 ·subst h144;rw [show sf 144 a=some (max a (-a)) from rfl];have w:IntKind.i64.wrap (0 - a)=-a:=by rw [IntWalk.i64_in _ aq];omega
  have w':IntKind.i64.wrap (-a)=-a:=IntWalk.i64_in _ aq;have hm:(if a < -a then -a else a)=max a (-a):=aq;simp [go_sem,w,w',Xg,hm,ah];exact aS rfl (dj _)
 have i144:¬ (op:Int)=144:=aq;simp [go_sem,h144,i144];by_cases h145:op=145
 ·subst h145;rw [show sf 145 a=some (if a=0 then 1 else 0) from rfl];simp [go_sem];refine ag (BS _) a9 ?_;simp [go_sem,ah];exact aS (by by_cases h:a=0 <;> simp [lZ,RG,h]) (dj _)
 have i145:¬ (op:Int)=145:=aq;simp [go_sem,h145,i145];by_cases h146:op=146
 ·subst h146;rw [show sf 146 a=some (if a=0 then 0 else 1) from rfl];simp [go_sem];refine ag (BS _) a9 ?_;simp [go_sem,ah];exact aS (by by_cases h:a=0 <;> simp [lZ,RG,h]) (dj _)
 have i146:¬ (op:Int)=146:=aq;have hn:sf op a=none:=by simp [sf,h139,h140,h143,h144,h145,h146]
 rw [hn];simp [go_sem,h146,i146,ah];exact aS rfl (dj _)
theorem VI (op:Nat) (ho:op<256) (a:Int) (ha:-2147483648<a∧a<2147483648) (b:Int) (hb:-2147483648<b∧b<2147483648):ax Tryz.prog 260 [.d (.int .u8 (op:Int)),.d (.int .i64 a),.d (.int .i64 b)] (fun r=>r=j5 (AN op a b)):=by
 refine bO Tryz.func260 Tryz.ntmps260 (rs:=[.tmp 6,.tmp 7]) a9 ?_;simp [go_sem];by_cases h154:op=154
 ·subst h154;rw [show AN 154 a b=some (decide (a ≠ 0) && decide (b ≠ 0)) from rfl];by_cases ha0:a=0
  ·simp [go_sem,ha0,ah];exact aS (by simp [j5]) (dk _)
  ·simp [go_sem,ha0,ah];exact aS (by simp [j5]) (dk _)
 have i154:¬ (op:Int)=154:=aq;simp [go_sem,h154,i154];by_cases h155:op=155
 ·subst h155;rw [show AN 155 a b=some (decide (a ≠ 0) || decide (b ≠ 0)) from rfl];by_cases ha0:a=0
  ·simp [go_sem,ha0,ah];exact aS (by simp [j5]) (dk _)
  ·simp [go_sem,ha0,ah];exact aS (by simp [j5]) (dk _)
 have i155:¬ (op:Int)=155:=aq;simp [go_sem,h155,i155];by_cases h156:op=156
 ·subst h156;rw [show AN 156 a b=some (decide (a=b)) from rfl];simp [go_sem,ah];exact aS (by simp [j5]) (dk _)
 have i156:¬ (op:Int)=156:=aq;simp [go_sem,h156,i156];by_cases h157:op=157
 ·subst h157;rw [show AN 157 a b=some (decide (a=b)) from rfl];simp [go_sem,ah];exact aS (by simp [j5]) (dk _)
 have i157:¬ (op:Int)=157:=aq;simp [go_sem,h157,i157];by_cases h158:op=158
 ·subst h158;rw [show AN 158 a b=some (decide (a ≠ b)) from rfl];simp [go_sem,ah];exact aS (by simp [j5]) (dk _)
 have i158:¬ (op:Int)=158:=aq;simp [go_sem,h158,i158];by_cases h159:op=159
 ·subst h159;rw [show AN 159 a b=some (decide (a<b)) from rfl];simp [go_sem,ah];exact aS (by simp [j5]) (dk _)
 have i159:¬ (op:Int)=159:=aq;simp [go_sem,h159,i159];by_cases h160:op=160
 ·subst h160;rw [show AN 160 a b=some (decide (b<a)) from rfl];simp [go_sem,ah];exact aS (by simp [j5]) (dk _)
 have i160:¬ (op:Int)=160:=aq;simp [go_sem,h160,i160];by_cases h161:op=161
 ·subst h161;rw [show AN 161 a b=some (decide (a≤b)) from rfl];simp [go_sem,ah];exact aS (by simp [j5]) (dk _)
 have i161:¬ (op:Int)=161:=aq;simp [go_sem,h161,i161];by_cases h162:op=162
 ·subst h162;rw [show AN 162 a b=some (decide (b≤a)) from rfl];simp [go_sem,ah];exact aS (by simp [j5]) (dk _)
 have i162:¬ (op:Int)=162:=aq;have hn:AN op a b=none:=by simp [AN,h154,h155,h156,h157,h158,h159,h160,h161,h162]
 rw [hn];simp [go_sem,h162,i162,ah];exact aS rfl (dk _)
theorem PD (op:Nat) (ho:op<256) (a:Int) (ha:-2147483648<a∧a<2147483648) (b:Int) (hb:-2147483648<b∧b<2147483648):ax Tryz.prog 256 [.d (.int .u8 (op:Int)),.d (.int .i64 a),.d (.int .i64 b)] (fun r=>r=lZ (tf op a b)):=by
 refine bO Tryz.func256 Tryz.ntmps256 (rs:=[.tmp 6,.tmp 7]) a9 ?_;simp [go_sem];by_cases h147:op=147
 ·subst h147;rw [show tf 147 a b=some (a+b) from rfl];have w:IntKind.i64.wrap (a+b)=a+b:=IntWalk.i64_in _ aq;simp [go_sem,w,ah];exact aS rfl (dj _)
 have i147:¬ (op:Int)=147:=aq;simp [go_sem,h147,i147];by_cases h148:op=148
 ·subst h148;rw [show tf 148 a b=some (a - b) from rfl];have w:IntKind.i64.wrap (a - b)=a - b:=IntWalk.i64_in _ aq;simp [go_sem,w,ah];exact aS rfl (dj _)
 have i148:¬ (op:Int)=148:=aq;simp [go_sem,h148,i148];by_cases h163:op=163
 ·subst h163;rw [show tf 163 a b=some (min a b) from rfl];have hm:(if b<a then b else a)=min a b:=aq;simp [go_sem,X9,hm,ah];exact aS rfl (dj _)
 have i163:¬ (op:Int)=163:=aq;simp [go_sem,h163,i163];by_cases h164:op=164
 ·subst h164;rw [show tf 164 a b=some (max a b) from rfl];have hm:(if a<b then b else a)=max a b:=aq;simp [go_sem,Xg,hm,ah];exact aS rfl (dj _)
 have i164:¬ (op:Int)=164:=aq;have hn:tf op a b=(AN op a b).map fun v=>if v then 1 else 0:=by simp [tf,h147,h148,h163,h164]
 rw [hn];simp [go_sem,h164,i164];refine ag (VI op ho a ha b hb) a9 ?_;simp [go_sem,j5];refine ag (BS _) a9 ?_;simp [go_sem,ah]
 exact aS (by cases AN op a b with
  | none=>simp [lZ,RG]
  | some v=>cases v <;> simp [lZ,RG]) (dj _)
def jm (l:List Int):List (List AV):=l.map fun v=>[.d (.int .i64 v)]
theorem Jd (ρ:Nat→Nat) (l:List Int):aL ρ (jm l)=jm l:=by
 simp only [aL,jm,List.map_map];exact List.map_congr_left fun v _=>rfl
theorem Je (l:List Int):(jm l).length=l.length:=by simp [jm]
theorem tG (n:Nat) (l:List Int):∀ r,r ∈ jm l→∀ v,v ∈ r→v.low1 n:=by
 intro r hr v hv;obtain ⟨x,_,rfl⟩:=List.mem_map.1 hr;simp only [d_,List.mem_nil_iff,or_false] at hv;subst hv;trivial
def PE (g:FuncId) (C:Nat) (ty:TypeId) (s:McS) (ars:List AV) (R:List Int→McS→Prop):Prop :=
 cj Tryz.prog g 3 (ie 3 bo s id) ars (fun r hp'=>∃ vs s',R vs s'∧r=.own C 0 vs.length vs.length∧lk C hp'=some ⟨ty,1,jm vs⟩∧rU 3 bo s' id hp')
theorem Jf {N C:Nat} {Pp:Hp} {g:FuncId} {ty:TypeId} {s:McS} {ars:List AV} {R:List Int→McS→Prop} {K:AV→Hp→Prop} (h:PE g C ty s (.ptr 0 0 0 1 :: ars) R) (hC:3≤C) (hN:3≤N) (hP:∀ p,p ∈ Pp→p.1<N∧3≤p.1) (has:∀ ρ,AV.renL ρ ars=ars)
  (hK:∀ vs s',R vs s'→K (.own N 0 vs.length vs.length) ((N,⟨ty,1,jm vs⟩) :: (Pp ++ ie 3 bo s' id))):rY Tryz.prog g (.ptr 0 0 0 1 :: ars) (Pp ++ ie 3 bo s id) N K:=by
 have hid:∀ j,j<3→bR (jY 3 id id) 3 (id j)=j:=fun j hj=>sk id 3 (aU 3) hj;have hnw:cv (jY 3 id id) [(C,0)]=true:=BG hC
 have hix:rU 3 bo s id (Pp ++ ie 3 bo s id):=fun j hj=>by
  rw [lI]
  cases hl:lk (id j) Pp with
  | none=>exact xk _ (aU 3) hj
  | some x=>have:=(hP _ (bL hl)).2;exact absurd hj (by show ¬ j<3;simp [id] at this;omega)
 refine .inl (nG (n:=3) (b0:=bo s id) id h (fun i x hi=>DL i x hi) (aU 3) (fun i hi=>by show i<N;omega) (fun j hj=>⟨_,hix j hj,bH.2 _ _ _ hj,(bH.1 s id _ id j hj hid).symm⟩) ?_ [(C,0)] hnw ?_)
 ·rw [AV.renL,has,AV.ren];rfl
 rintro r hp' ⟨vs,s',hR,rfl,hrow,hs'⟩ hpX q1 q2 q3;have hro:∀ j,j<3→vJ 3 id [(C,0)] N (id j)=id j:=fun j hj=>xm hnw hj;have hrn:vJ 3 id [(C,0)] N C=N:=xn (c:=C) (j:=0) hnw (dz ..);refine ⟨(N,⟨ty,1,jm vs⟩) :: (Pp ++ ie 3 bo s' id),fun i x hi=>?_,?_⟩
 ·rw [ni] at hi
  split at hi
  ·rename_i e;subst e
   cases hi
   have:=q2 C 0 aw _ hrow;rw [Blk.ren,Jd] at this;exact this
  ·rw [lI] at hi
   cases hl:lk i Pp with
   | some x' =>
    rw [hl] at hi
    cases hi
    obtain ⟨p1,p2⟩:=hP _ (bL hl);rw [q3 i p1 (fun j hj=>by show j ≠ i;simp at p2;omega),lI,hl]
   | none =>
    rw [hl] at hi;obtain ⟨j,hj',e⟩:=lH.1 (bL hi)
    cases e
    have:=q1 j hj' _ (hs' j hj');rw [bH.1 s' id _ id j hj' hro] at this;exact this
 ·rw [AV.ren,hrn];exact hK vs s' hR
theorem D4:∀ (k:Nat) (x:Int) (tl:List Int),(jm (List.replicate (k+1) 0 ++ tl)).set k [.d (.int .i64 x)]=jm (List.replicate k 0 ++ x :: tl)
 | 0,x,tl=>by simp [jm]
 | k+1,x,tl=>by
  have h:=D4 k x tl;rw [List.replicate_succ,List.cons_append];show [.d (.int .i64 0)] :: (jm (List.replicate (k+1) 0 ++ tl)).set k [.d (.int .i64 x)]=_;rw [h];rfl
theorem tH (m:Mc) (Q:be→Prop) (h:∀ x,x ∈ m.main→Q x) (hl:m.main.length≤1000):(∀ x,x ∈ (dh m).2.main→Q x)∧(dh m).2.main.length≤1000∧((aP 1 m).e=0→(dh m).1 ∈ m.main):=by
 by_cases h1:(aP 1 m).e=0
 ·obtain ⟨l,x,hm,hp,h2⟩:=xG h1;rw [hp,hm];refine ⟨fun y hy=>h y (by rw [hm];exact List.mem_append_left _ hy),?_,fun _=>aw⟩;rw [hm] at hl;simp at hl ⊢;omega
 ·have hp:dh m=([],aP 1 m):=if_neg h1;rw [hp];simp only [(nL 1 m).1];exact ⟨h,hl,fun h=>absurd h h1⟩
theorem qU (most:Nat) (x:be) (m:Mc):(fu most x m).2.main=m.main:=by
 unfold fu
 split
 ·cases fq most x with
  | none=>simp only;unfold gC;split <;> rfl
  | some n=>rfl
 ·rfl
theorem xH (n:Nat) (hn:n≤3) (hn0:1≤n) (m:Mc) (J H:List Jk) (hl:m.main.length≤1000) (hx:∀ x,x ∈ m.main→x.length≤1000000) (hb:∀ x,x ∈ m.main→bytes x) :
  PE 254 68 2 ⟨m,J,H⟩ [.ptr 0 0 0 1,.d (.int .i64 (n:Int))] (fun vs s'=>vs=(dy n m).1∧∃ J',s'=⟨(dy n m).2,J',H⟩):=by
 refine al Tryz.func254 (by kernel_rfl) rfl Tryz.ntmps254 (rs:=[.tmp 4]) rfl (dT rfl) (by decide) ?_;obtain ⟨main,alt,e⟩:=m;simp only at hl hx hb;rw [bQ];simp only [bo,id];simp [go_sem];refine ⟨aq,aq,aq,?_⟩;refine dN (Pp:=[(68,⟨2,1,List.replicate n [.d (.int .i64 0)]⟩)]) (s:=⟨⟨main,alt,e⟩,J,H⟩) (kz ⟨main,alt,e⟩ J H n) aq aw (by simp [AV.renL,AV.ren]) ?_;rintro v s' ρ ⟨rfl,rfl⟩ hρ;by_cases h:(aP n ⟨main,alt,e⟩).e=0
 ·obtain ⟨h1,h2,h3⟩:=ig h;simp only at h1 h2;subst h2;have hv:dy n ⟨main,alt,0⟩=mi n ⟨main,alt,0⟩:=if_pos h;rw [hv,h3];simp only [bQ,bo,id];have w1:IntKind.i64.wrap ((n:Int) - 1)=(n:Int) - 1:=IntWalk.i64_in _ aq;simp [go_sem,AV.ren,w1]
  refine ar (fun u:Nat × List Int × Mc × List Jk=>⟨[(0,.ptr 0 0 0 1),(5,.own 68 0 n n),(6,.d (.int .i64 ((u.1:Int) - 1)))],
   [(68,⟨2,1,jm (List.replicate u.1 0 ++ u.2.1)⟩),(0,⟨283,3,[[.own 1 0 u.2.2.1.main.length (u.2.2.1.main.length+u.2.2.2.length),.own 2 0 u.2.2.1.alt.length (u.2.2.1.alt.length+H.length),.d (.int .i64 u.2.2.1.e)]]⟩),(1,⟨31,1,cM u.2.2.1.main u.2.2.2⟩),(2,⟨31,1,cM u.2.2.1.alt H⟩)],9000⟩)
   (fun u=>u.1+u.2.1.length=n∧mi n ⟨main,alt,0⟩=((mi u.1 u.2.2.1).1 ++ u.2.1,(mi u.1 u.2.2.1).2)∧u.2.2.1.main.length≤1000∧(∀ x,x ∈ u.2.2.1.main→x.length≤1000000∧bytes x)) (fun u=>u.1) (n,[],⟨main,alt,0⟩,J)
   ⟨aw,aw,hl,fun x h=>⟨hx x h,hb x h⟩⟩
   ⟨by simp [ai,fv,lk,AV.low,AV.low1],List.forall_mem_cons.2 ⟨⟨.inl (by simp [lk,jm]),by show 68<9000;omega,tG _ _⟩,IOa (m:=⟨main,alt,0⟩) rfl rfl rfl (dT rfl) trivial⟩,aw⟩ ?_
  rintro ⟨k,tl,m,K⟩ ⟨hk,ho,hml,hmx⟩;simp only at hk ho hml hmx;simp only [go_sem,Nat.reduceEqDiff,Nat.reduceAdd,Nat.reduceLT,↓reduceIte,Nat.reduceMul];refine ⟨fun hh=>?_,fun hh=>?_⟩
  ·obtain ⟨k,rfl⟩:∃ k',k=k'+1:=⟨k - 1,aq⟩;have hkn:k<n:=aq;have hkn2:(k:Int)<(n:Int):=aq
   have hgk:(jm (List.replicate (k+1) 0 ++ tl))[k]?=some [.d (.int .i64 0)]:=by
    simp only [jm,cU];rw [List.getElem?_append_left aw,List.getElem?_replicate,if_pos aq];rfl
   have hgg:∀ h:k<(jm (List.replicate (k+1) 0 ++ tl)).length,(jm (List.replicate (k+1) 0 ++ tl))[k]=[.d (.int .i64 0)]:=fun h=>Option.some.inj ((cm h).symm.trans hgk);have hkk:((k+1:Nat):Int) - 1=(k:Int):=aq;rw [hkk];have hset:=fun x=>D4 k x tl;have hrl:(jm (List.replicate (k+1) 0 ++ tl)).length=n:=by rw [Je];simp;omega
   generalize jm (List.replicate (k+1) 0 ++ tl)=row at *;refine dN (Pp:=[(68,⟨2,1,row⟩)]) (s:=⟨m,K,H⟩) (vK m K H aq) aq aw (by simp [AV.renL,AV.ren]) ?_;rintro v s' ρ ⟨rfl,K',rfl⟩ hρ;obtain ⟨ps1,ps2,ps3⟩:=tH m _ hmx hml;have hq:mi (k+1) m=((mi k (fu 4 (dh m).1 (dh m).2).2).1 ++ [(fu 4 (dh m).1 (dh m).2).1],(mi k (fu 4 (dh m).1 (dh m).2).2).2):=rfl;rw [hq] at ho;by_cases hp:(aP 1 m).e=0
   ·rw [if_pos hp];obtain ⟨hx1,hx2⟩:=hmx _ (ps3 hp);generalize dh m=p at *;obtain ⟨x,m1⟩:=p;simp only [bQ,bo,id];simp [go_sem,AV.ren];refine dN (Pp:=[(68,⟨2,1,row⟩)]) (s:=⟨m1,K',H⟩) (IZ m1 K' H 4 x hx2 (by decide) hx1) aq aw (by simp [AV.renL,AV.ren,nb]) ?_;rintro v s' ρ ⟨rfl,rfl⟩ hρ;have hrm:=qU 4 x m1;simp only at ho ps1 ps2;generalize fu 4 x m1=r at *;obtain ⟨r1,m2⟩:=r;simp only at hrm ho;simp only [bQ,bo,id];simp [go_sem,AV.ren,hkn,hkn2,hgk,hgg,hrl,hset];have wk:IntKind.i64.wrap ((k:Int) - 1)=(k:Int) - 1:=IntWalk.i64_in _ aq;refine ao (k,r1 :: tl,m2,K') ⟨by simp;omega,by rw [ho];simp,by show m2.main.length≤1000;rw [hrm];exact ps2,by intro x hx;exact ps1 x (by rw [← hrm];exact hx)⟩ (by show k<k+1;omega) ⟨by simp [ai,fv,lk,AV.low,AV.low1,wk],List.forall_mem_cons.2 ⟨⟨.inl rfl,by show 68<9000;omega,tG _ _⟩,IOa (m:=m2) rfl rfl rfl (dT rfl) trivial⟩,aw⟩
   ·rw [if_neg hp];have hpm:dh m=([],aP 1 m):=if_neg hp;rw [hpm] at ho ps1 ps2 ⊢;generalize aP 1 m=m1 at *;have hr0:fu 4 [] m1=(0,m1):=if_neg hp;simp only [hr0] at ho;simp only [bQ,bo,id];simp [go_sem,AV.ren];refine dN (Pp:=[(68,⟨2,1,row⟩)]) (s:=⟨m1,K',H⟩) (DZ m1 K' H 4 hp) aq aw (by simp [AV.renL,AV.ren,nb]) ?_;rintro v s' ρ ⟨rfl,rfl⟩ hρ;simp only [bQ,bo,id];simp [go_sem,AV.ren,hkn,hkn2,hgk,hgg,hrl,hset];have wk:IntKind.i64.wrap ((k:Int) - 1)=(k:Int) - 1:=IntWalk.i64_in _ aq;refine ao (k,0 :: tl,m1,K') ⟨by simp;omega,by rw [ho];simp,ps2,ps1⟩ (by show k<k+1;omega) ⟨by simp [ai,fv,lk,AV.low,AV.low1,wk],List.forall_mem_cons.2 ⟨⟨.inl rfl,by show 68<9000;omega,tG _ _⟩,IOa (m:=m1) rfl rfl rfl (dT rfl) trivial⟩,aw⟩
  ·obtain rfl:k=0:=aq;have hz:mi 0 m=([],m):=rfl;rw [hz] at ho;rw [ho];simp [go_sem,ah];exact ⟨tl,_,⟨rfl,K,rfl⟩,aq,rfl,aW rfl rfl rfl⟩
 ·have hv:dy n ⟨main,alt,e⟩=(List.replicate n 0,aP n ⟨main,alt,e⟩):=if_neg h;rw [hv];generalize aP n ⟨main,alt,e⟩=m1 at *;simp only [bQ,bo,id];simp [go_sem,AV.ren,h,ah];exact ⟨_,_,⟨rfl,J,rfl⟩,aw,by simp [lk,jm],aW rfl rfl rfl⟩
theorem D5 {b:be} {n:Int} (hb:bytes b) (h:fq 4 b=some n):-2147483648<n∧n<2147483648:=by
 unfold fq at h
 split at h
 ·rename_i h1;obtain rfl:=Option.some.inj h;have hl:b.length≤4:=aq;rcases dZ b with rfl | ⟨a,x,rfl⟩
  ·decide
  ·have hx:x<256:=hb x aw;have ha:=qP (b:=a) (fun y hy=>hb y (List.mem_append_left _ hy));simp at hl;rw [gw];have hc:a.length=0 ∨ a.length=1 ∨ a.length=2 ∨ a.length=3:=aq;rcases hc with e | e | e | e <;> rw [e] at ha ⊢ <;> simp at ha ⊢ <;> split <;> omega
 ·cases h
def i31 (v:Int):Prop:=-2147483648<v∧v<2147483648
theorem Jg {x:be} {m:Mc} (hb:bytes x):i31 (fu 4 x m).1:=by
 unfold fu
 split
 ·cases h:fq 4 x with
  | none=>exact ⟨aw,aw⟩
  | some n=>exact D5 hb h
 ·exact ⟨aw,aw⟩
theorem D6:∀ (k:Nat) (m:Mc),(∀ x,x ∈ m.main→bytes x)→m.main.length≤1000→(mi k m).1.length=k∧∀ v,v ∈ (mi k m).1→i31 v
 | 0,m,_,_=>⟨rfl,fun v h=>by cases h⟩
 | k+1,m,hb,hl=>by
  obtain ⟨p1,p2,p3⟩:=tH m _ hb hl
  have hx:bytes (dh m).1:=by
   by_cases h:(aP 1 m).e=0
   ·exact hb _ (p3 h)
   ·rw [show dh m=([],aP 1 m) from if_neg h];intro x hx;cases hx
  have hr:=Jg (m:=(dh m).2) hx;have hs:=qU 4 (dh m).1 (dh m).2;obtain ⟨i1,i2⟩:=D6 k (fu 4 (dh m).1 (dh m).2).2 (by rw [hs];exact p1) (by rw [hs];exact p2);rw [mi];refine ⟨by simp [i1],fun v hv=>?_⟩;rcases cD.1 hv with h | h
  ·exact i2 v h
  ·simp at h;subst h;exact hr
theorem tJ (n:Nat) (m:Mc) (hb:∀ x,x ∈ m.main→bytes x) (hl:m.main.length≤1000):(dy n m).1.length=n∧∀ v,v ∈ (dy n m).1→i31 v:=by
 unfold dy
 split
 ·exact D6 n m hb hl
 ·refine ⟨aw,fun v hv=>?_⟩;rw [List.mem_replicate] at hv;rw [hv.2];exact ⟨by decide,by decide⟩
theorem zO:∀ (k:Nat) (m:Mc),m.main.length≤1000→(mi k m).2.main.length≤1000
 | 0,m,h=>h
 | k+1,m,h=>by
  rw [mi];refine zO k _ ?_;rw [qU];exact (tH m (fun _=>True) (fun _ _=>trivial) h).2.1
theorem qV (n:Nat) (m:Mc) (hl:m.main.length≤1000):(dy n m).2.main.length≤1000:=by
 unfold dy
 split
 ·exact zO n m hl
 ·rw [(nL n m).1];exact hl
theorem Jh (op:Nat) (a:Int):(sf op a).isSome=(sf op 0).isSome:=by
 unfold sf;repeat' split <;> try rfl
theorem RH (op:Nat) (a:Int) (h:i31 a):-4294967296<(sf op a).getD 0∧(sf op a).getD 0<4294967296:=by
 obtain ⟨h1,h2⟩:=h;unfold sf
 repeat' split
 all_goals simp only [Option.getD_some,Option.getD_none]
 all_goals omega
theorem RI (op:Nat) (a b:Int) (h:i31 a) (k:i31 b):-4294967297<(tf op a b).getD 0∧(tf op a b).getD 0<4294967297:=by
 obtain ⟨h1,h2⟩:=h;obtain ⟨k1,k2⟩:=k;unfold tf
 split
 ·simp only [Option.getD_some];omega
 ·split
  ·simp only [Option.getD_some];omega
  ·split
   ·simp only [Option.getD_some];omega
   ·split
    ·simp only [Option.getD_some];omega
    ·cases AN op a b with
     | none=>simp
     | some v=>cases v <;> simp
theorem Gi (m:Mc) (J H:List Jk) (op:Nat) (ho:op<256) (hl:m.main.length≤1000) (hx:∀ x,x ∈ m.main→x.length≤1000000) (hb:∀ x,x ∈ m.main→bytes x):cO Tryz.prog 3 bo 237 ⟨m,J,H⟩ [.ptr 0 0 0 1,.d (.int .u8 (op:Int))]
  (fun v s'=>v=.d (.bool (nX op m).isSome)∧∃ J',s'=⟨(nX op m).getD m,J',H⟩):=by
 refine al Tryz.func237 (by kernel_rfl) rfl Tryz.ntmps237 (rs:=[.tmp 4]) rfl (dT rfl) (by decide) ?_;obtain ⟨main,alt,e⟩:=m;simp only at hl hx hb;rw [bQ];simp only [bo,id];simp [go_sem];by_cases h165:op=165
 ·subst h165;have hv:nX 165 ⟨main,alt,e⟩=some (dV [iN (decide ((dy 3 ⟨main,alt,e⟩).1.getD 1 0≤(dy 3 ⟨main,alt,e⟩).1.getD 0 0) && decide ((dy 3 ⟨main,alt,e⟩).1.getD 0 0<(dy 3 ⟨main,alt,e⟩).1.getD 2 0))] (dy 3 ⟨main,alt,e⟩).2):=rfl;rw [hv];simp [go_sem];refine Jf (Pp:=[]) (s:=⟨⟨main,alt,e⟩,J,H⟩) (xH 3 (by decide) (by decide) ⟨main,alt,e⟩ J H hl hx hb) (by decide) aq aw (by simp [AV.renL,AV.ren]) ?_;rintro vs s' ⟨rfl,J',rfl⟩;obtain ⟨ln,bd⟩:=tJ 3 ⟨main,alt,e⟩ hb hl;have ml:=qV 3 ⟨main,alt,e⟩ hl;generalize dy 3 ⟨main,alt,e⟩=p at *;obtain ⟨vs,m1⟩:=p;simp only at ln bd ml
  match vs,ln with
  | [a,b,c],_ =>
   simp only [bQ,bo,id];simp [go_sem,jm];have hfl:∀ b:Bool,(iN b).length≤1:=fun b=>by cases b <;> decide
   by_cases hba:b≤a
   ·
    refine cf [0,1,2,3,4,5,6,7,8,9,10,11,12,13,14,15,16] [(17,[]),(18,[]),(19,[])] 2 (k:=20) ?_;intro G hG;simp [go_sem,hba];refine ag (lK _) (by intro v hv;simp at hv;subst hv;trivial) ?_;generalize hyq:iN (decide (a<c))=y;have hyl:y.length≤1:=by rw [← hyq];exact hfl _
    simp [go_sem]
    refine cq [772] [] (args':=[.ptr 0 0 0 1,.d (.ro 1 [[nb y]])]) bH id (fN m1 J' H y aq aq) (aU 3) (fun j hj=>by show j<804;omega) (by simp [bQ,bo,aE,lk]) rfl
     (gl rfl) aw rfl ?_
    rintro v s' ρ ⟨J2,rfl⟩ hρ;simp only [bQ,bo,dV,id];simp [go_sem];refine hG _ _ ?_;clear hG G;simp [go_sem,ah];exact ⟨⟨⟨m1.main ++ [y],m1.alt,m1.e⟩,J2,H⟩,⟨J2,by simp [dV,hba,hyq]⟩,aW (by simp [lk]) rfl rfl⟩
   ·
    refine cf [0,1,2,3,4,5,6,7,8,9,10,11,12,13,14,15,16] [(17,[]),(18,[]),(19,[])] 2 (k:=20) ?_;intro G hG;simp [go_sem,hba];refine ag (lK _) (by intro v hv;simp at hv;subst hv;trivial) ?_;generalize hyq:iN false=y;have hyl:y.length≤1:=by rw [← hyq];exact hfl _
    simp [go_sem]
    refine cq [772] [] (args':=[.ptr 0 0 0 1,.d (.ro 1 [[nb y]])]) bH id (fN m1 J' H y aq aq) (aU 3) (fun j hj=>by show j<804;omega) (by simp [bQ,bo,aE,lk]) rfl
     (gl rfl) aw rfl ?_
    rintro v s' ρ ⟨J2,rfl⟩ hρ;simp only [bQ,bo,dV,id];simp [go_sem];refine hG _ _ ?_;clear hG G;simp [go_sem,ah];exact ⟨⟨⟨m1.main ++ [y],m1.alt,m1.e⟩,J2,H⟩,⟨J2,by simp [dV,hba,hyq]⟩,aW (by simp [lk]) rfl rfl⟩
 have i165:¬ (op:Int)=165:=aq;simp [go_sem,h165,i165];refine ag (PC op ho 0 ⟨aq,aq⟩) a9 ?_;simp [go_sem,lZ];by_cases hu:(sf op 0).isSome=true
 ·simp [go_sem,hu]
  have hv:nX op ⟨main,alt,e⟩=some (dV [c8 ((sf op ((dy 1 ⟨main,alt,e⟩).1.getD 0 0)).getD 0)] (dy 1 ⟨main,alt,e⟩).2):=by
   unfold nX;rw [if_neg h165]
   cases hq:sf op 0 with
   | none=>rw [hq] at hu;simp at hu
   | some q=>rfl
  rw [hv];refine Jf (Pp:=[]) (s:=⟨⟨main,alt,e⟩,J,H⟩) (xH 1 (by decide) (by decide) ⟨main,alt,e⟩ J H hl hx hb) (by decide) aq aw (by simp [AV.renL,AV.ren]) ?_;rintro vs s' ⟨rfl,J',rfl⟩;obtain ⟨ln,bd⟩:=tJ 1 ⟨main,alt,e⟩ hb hl;have ml:=qV 1 ⟨main,alt,e⟩ hl;generalize dy 1 ⟨main,alt,e⟩=p at *;obtain ⟨vs,m1⟩:=p;simp only at ln bd ml
  match vs,ln with
  | [a],_ =>
   simp only [bQ,bo,id];have ba:=bd a aw;have hua:=Jh op a;simp [go_sem,jm];refine ag (PC op ho a ba) a9 ?_;simp [go_sem,lZ];have hbd:=RH op a ba;refine ag (kJ _ aq aq) (by intro v hv;simp at hv;subst hv;trivial) ?_;have hyl:=fX ((sf op a).getD 0);generalize c8 ((sf op a).getD 0)=y at *;simp [go_sem]
   refine cq [804] [] (args':=[.ptr 0 0 0 1,.d (.ro 1 [[nb y]])]) bH id (fN m1 J' H y aq aq) (aU 3) (fun j hj=>by show j<836;omega) (by simp [bQ,bo,aE,lk]) rfl
    (gl rfl) aw rfl ?_
   rintro v s' ρ ⟨J2,rfl⟩ hρ;simp only [bQ,bo,dV,id];simp [go_sem,ah];exact ⟨⟨⟨m1.main ++ [y],m1.alt,m1.e⟩,J2,H⟩,⟨J2,rfl⟩,aW (by simp [lk]) rfl rfl⟩
 ·simp [go_sem,hu];refine ag (PD op ho 0 ⟨aq,aq⟩ 0 ⟨aq,aq⟩) a9 ?_;simp [go_sem,lZ];by_cases hw:(tf op 0 0).isSome=true
  ·have hw2:(tf op 0 0).isNone=false:=by cases hq:tf op 0 0 with
    | none=>rw [hq] at hw;simp at hw
    | some q=>rfl
   simp [go_sem,hw2];refine Jf (Pp:=[]) (s:=⟨⟨main,alt,e⟩,J,H⟩) (xH 2 (by decide) (by decide) ⟨main,alt,e⟩ J H hl hx hb) (by decide) aq aw (by simp [AV.renL,AV.ren]) ?_;rintro vs s' ⟨rfl,J',rfl⟩;obtain ⟨ln,bd⟩:=tJ 2 ⟨main,alt,e⟩ hb hl;have ml:=qV 2 ⟨main,alt,e⟩ hl
   have hv:nX op ⟨main,alt,e⟩=some (if op=157 then jv (decide ((tf op ((dy 2 ⟨main,alt,e⟩).1.getD 0 0) ((dy 2 ⟨main,alt,e⟩).1.getD 1 0)).getD 0 ≠ 0)) (dy 2 ⟨main,alt,e⟩).2 else dV [c8 ((tf op ((dy 2 ⟨main,alt,e⟩).1.getD 0 0) ((dy 2 ⟨main,alt,e⟩).1.getD 1 0)).getD 0)] (dy 2 ⟨main,alt,e⟩).2):=by
    unfold nX;rw [if_neg h165]
    cases hq:sf op 0 with
    | some q=>rw [hq] at hu;simp at hu
    | none =>
     cases hq2:tf op 0 0 with
     | none=>rw [hq2] at hw;simp at hw
     | some q=>rfl
   rw [hv];clear hv;generalize dy 2 ⟨main,alt,e⟩=p at *;obtain ⟨vs,m1⟩:=p;simp only at ln bd ml
   match vs,ln with
   | [a,b],_ =>
    simp only [bQ,bo,id];have ba:=bd a aw;have bb:=bd b aw;simp [go_sem,jm];refine cf [0,1,2,3,4,5,6] [(7,[8,9,10,11,12])] 1 (k:=13) ?_;intro G hG;simp [go_sem];refine ag (PD op ho a ba b bb) a9 ?_;simp [go_sem,lZ];refine hG _ _ ?_;clear hG G;have hbd:=RI op a b ba bb;simp [go_sem];refine ⟨fun h7=>?_,fun h7=>?_⟩
    ·rw [if_pos (show op=157 by omega)];refine dN (Pp:=[(676,⟨2,1,[[.d (.int .i64 a)],[.d (.int .i64 b)]]⟩)]) (s:=⟨m1,J',H⟩) (xF m1 J' H _) aq aw (by simp [AV.renL,AV.ren]) ?_;rintro v s' ρ rfl hρ;generalize jv _ m1=m';simp only [bQ,bo,id];simp [go_sem,ah];exact ⟨⟨m',J',H⟩,⟨J',rfl⟩,aW rfl rfl rfl⟩
    ·rw [if_neg (show ¬ op=157 by omega)];refine ag (kJ _ aq aq) (by intro v hv;simp at hv;subst hv;trivial) ?_;have hyl:=fX ((tf op a b).getD 0);generalize c8 ((tf op a b).getD 0)=y at *;simp [go_sem]
     refine cq [1316] [] (args':=[.ptr 0 0 0 1,.d (.ro 1 [[nb y]])]) bH id (fN m1 J' H y aq aq) (aU 3) (fun j hj=>by show j<1348;omega) (by simp [bQ,bo,aE,lk]) rfl
      (gl rfl) aw rfl ?_
     rintro v s' ρ ⟨J2,rfl⟩ hρ;simp only [bQ,bo,dV,id];simp [go_sem,ah];exact ⟨⟨⟨m1.main ++ [y],m1.alt,m1.e⟩,J2,H⟩,⟨J2,rfl⟩,aW (by simp [lk]) rfl rfl⟩
  ·have hw2:(tf op 0 0).isNone=true:=by cases hq:tf op 0 0 with
    | none=>rfl
    | some q=>rw [hq] at hw;simp at hw
   have hv:nX op ⟨main,alt,e⟩=none:=by
    unfold nX;rw [if_neg h165]
    cases hq:sf op 0 with
    | some q=>rw [hq] at hu;simp at hu
    | none =>
     cases hq2:tf op 0 0 with
     | some q=>rw [hq2] at hw;simp at hw
     | none=>rfl
   rw [hv];simp [go_sem,hw2,ah];exact ⟨⟨⟨main,alt,e⟩,J,H⟩,⟨J,rfl⟩,aW rfl rfl rfl⟩
theorem RJ (e:Int) (he:e ≠ 0) (n k:Nat) (J H:List Jk):cO Tryz.prog 3 xE 223 (.z e n k J H) [.ptr 0 0 0 1]
  (fun v s'=>v=.tup [.agg [.nil,.nil],.d (.int .i64 e)]):=by
 refine al Tryz.func223 (by kernel_rfl) rfl Tryz.ntmps223 (rs:=[.cell 2 155,.tmp 3]) rfl (dT rfl) (by decide) ?_;show mf _ _ _ _ ⟨_,[(0,⟨283,3,[[.own 1 0 n J.length,.own 2 0 k H.length,.d (.int .i64 e)]]⟩),(1,⟨31,1,cM [] J⟩),(2,⟨31,1,cM [] H⟩)],_⟩;simp [go_sem,he];refine cf [0,1,2,3,4,5,6,7,8] [(9,[]),(10,[])] 1 (k:=11) ?_;intro G hG;simp [go_sem];refine hG _ _ ?_;clear hG G;simp [go_sem,he];refine cf [0,1,2,3,4] [(5,[6])] 1 (k:=7) ?_;intro G hG;simp [go_sem];refine hG _ _ ?_;clear hG G;simp [go_sem,ah];refine ⟨.z e n k J H,fun i hi=>?_⟩
 match i,hi with
 | 0,_=>rfl
 | 1,_=>rfl
 | 2,_=>rfl
def kA (m:Mc) (a b:Nat):Prop:=m.main.length≤a∧m.alt.length≤b
theorem xI {m:Mc} {a b:Nat} (x:Int) (h:kA m a b):kA (gC x m) a b:=by unfold gC;split <;> exact h
theorem jE {m:Mc} {a b:Nat} (n:Nat) (h:kA m a b):kA (aP n m) a b:=by
 obtain ⟨e1,e2⟩:=nL n m;unfold kA;rw [e1,e2];exact h
theorem tK {m:Mc} {a b:Nat} (h:kA m a b):kA (dh m).2 a b:=by
 unfold dh
 split
 ·refine ⟨?_,h.2⟩;have:=h.1;simp;omega
 ·exact jE 1 h
theorem kL {m:Mc} {a b:Nat} (l:List be) (h:kA m a b):kA (dV l m) (a+l.length) b:=by
 refine ⟨?_,h.2⟩;have:=h.1;simp [dV];omega
theorem eD {m:Mc} {a b:Nat} (k:Nat) (put:List Nat) (h:kA m a b):kA (cn k put m) (a+put.length) b:=by
 unfold cn
 split
 ·refine ⟨?_,h.2⟩;have:=h.1;simp;omega
 ·exact ⟨Nat.le_trans (jE k h).1 aq,(jE k h).2⟩
theorem D7 {m:Mc} {a b:Nat} (most:Nat) (x:be) (h:kA m a b):kA (fu most x m).2 a b:=by
 unfold fu
 split
 ·cases fq most x with
  | none=>exact xI 15 h
  | some n=>exact h
 ·exact h
theorem Ji {a b:Nat}:∀ (k:Nat) (m:Mc),kA m a b→kA (mi k m).2 a b
 | 0,m,h=>h
 | k+1,m,h=>by rw [mi];exact Ji k _ (D7 4 _ (tK h))
theorem sr {m:Mc} {a b:Nat} (n:Nat) (h:kA m a b):kA (dy n m).2 a b:=by
 unfold dy
 split
 ·exact Ji n m h
 ·exact jE n h
theorem xJ {m:Mc} {a b:Nat} (c:Bool) (h:kA m a b):kA (jv c m) a b:=by unfold jv;split;exact h;exact xI 16 h
theorem D8 {m:Mc} {a b:Nat} (h:kA m a b):kA (fY m).2 a b:=by
 unfold fY
 split
 ·exact eD 2 [] h
 ·exact jE 2 h
theorem cG {m:Mc} {a b c d:Nat} (h:kA m a b) (h1:a≤c) (h2:b≤d):kA m c d:=⟨Nat.le_trans h.1 h1,Nat.le_trans h.2 h2⟩
theorem D9 {m:Mc} {a b:Nat} (f:be→be) (h:kA m a b):kA (kr f m) (a+1) b:=by
 unfold kr
 split
 ·exact kL _ (tK h)
 ·exact cG (jE 1 h) aq (cL _)
theorem Ea {m:Mc} {a b:Nat} (r:Bool) (h:kA m a b):kA (ju r m) (a+1) b:=by
 unfold ju;have h2:=D7 4 (dh m).1 (tK h);simp only
 split
 ·split
  ·exact cG (xI 12 h2) aq (cL _)
  ·refine kL [_] ⟨?_,h2.2⟩;have h3:=h2.1;simp only
   split
   ·exact Nat.le_trans (List.length_eraseIdx_le ..) h3
   ·exact h3
 ·exact cG h2 aq (cL _)
theorem ca {c:Prop} [Decidable c] {x y:Mc} {r:Option Mc} (h:(if c then some x else r)=some y) (hx:kA x 2000 2000) (hr:r=some y→kA y 2000 2000):kA y 2000 2000:=by
 split at h
 ·cases h;exact hx
 ·exact hr h
theorem Jj {m:Mc} {a b:Nat} (h:kA m a b):kA (lG m) a (b+1):=by
 have hp:=tK h;refine ⟨hp.1,?_⟩;have:=hp.2;simp [lG];omega
theorem NG {m:Mc} {a b:Nat} (h:kA m a b):kA (oa m) (a+1) b:=by
 unfold oa
 split
 ·exact cG (xI 12 h) aq (cL _)
 ·have h1:=h.1;have h2:=h.2;refine ⟨?_,?_⟩ <;> simp <;> omega
theorem NH {m:Mc} {a b:Nat} (h:kA m a b):kA (oc m) (a+1) b:=by
 unfold oc
 split
 ·exact kL _ (eD 2 [] h)
 ·exact cG (jE 2 h) aq (cL _)
theorem BU {op:Nat} {m m':Mc} (h:iO op m=some m') (h1:m.main.length≤1000) (h2:m.alt.length≤1000):m'.main.length≤2000∧m'.alt.length≤2000:=by
 have hs:kA m 1000 1000:=⟨h1,h2⟩;show kA m' 2000 2000;unfold iO at h;refine ca h (cG hs (by decide) (by decide)) fun h=>?_;refine ca h (cG (Jj hs) (by decide) (by decide)) fun h=>?_;refine ca h (cG (NG hs) (by decide) (by decide)) fun h=>?_;refine ca h (cG (eD _ _ hs) (by decide) (by decide)) fun h=>?_;refine ca h (cG (eD _ _ hs) (by decide) (by decide)) fun h=>?_;refine ca h (cG (eD _ _ hs) (by decide) (by decide)) fun h=>?_;refine ca h (cG (eD _ _ hs) (by decide) (by decide)) fun h=>?_;refine ca h (cG (eD _ _ hs) (by decide) (by decide)) fun h=>?_;refine ca h (cG (eD _ _ hs) (by decide) (by decide)) fun h=>?_;refine ca h (cG (eD _ _ hs) (by decide) (by decide)) fun h=>?_;refine ca h (cG (eD _ _ hs) (by decide) (by decide)) fun h=>?_;refine ca h (cG (eD _ _ hs) (by decide) (by decide)) fun h=>?_;refine ca h (cG (eD _ _ hs) (by decide) (by decide)) fun h=>?_;refine ca h (cG (eD _ _ hs) (by decide) (by decide)) fun h=>?_;refine ca h (cG (eD _ _ hs) (by decide) (by decide)) fun h=>?_;refine ca h (cG (eD _ _ hs) (by decide) (by decide)) fun h=>?_
 cases h
theorem Gj {op:Nat} {m m':Mc} (h:uy bq dW op m=some m') (h1:m.main.length≤1000) (h2:m.alt.length≤1000):m'.main.length≤2000∧m'.alt.length≤2000:=by
 have hs:kA m 1000 1000:=⟨h1,h2⟩;show kA m' 2000 2000;unfold uy at h;refine ca h (cG (Ea _ hs) (by decide) (by decide)) fun h=>?_;refine ca h (cG (Ea _ hs) (by decide) (by decide)) fun h=>?_;refine ca h (cG (xJ _ (tK hs)) (by decide) (by decide)) fun h=>?_;refine ca h ?_ fun h=>?_
 ·show kA _ 2000 2000
  split
  ·split
   ·exact cG (kL _ hs) aw (by decide)
   ·exact cG hs (by decide) (by decide)
  ·exact cG (jE 1 hs) (by decide) (by decide)
 refine ca h (cG (kL _ hs) aw (by decide)) fun h=>?_;refine ca h (cG (NH hs) (by decide) (by decide)) fun h=>?_;refine ca h ?_ fun h=>?_
 ·show kA _ 2000 2000
  split
  ·exact cG (kL _ hs) aw (by decide)
  ·exact cG (jE 1 hs) (by decide) (by decide)
 refine ca h (cG (kL _ (D8 hs)) aw (by decide)) fun h=>?_;refine ca h (cG (xJ _ (D8 hs)) (by decide) (by decide)) fun h=>?_;refine ca h (cG (D9 _ hs) (by decide) (by decide)) fun h=>?_;refine ca h (cG (D9 _ hs) (by decide) (by decide)) fun h=>?_
 cases h
theorem BV {op:Nat} {m m':Mc} (h:nX op m=some m') (h1:m.main.length≤1000) (h2:m.alt.length≤1000):m'.main.length≤2000∧m'.alt.length≤2000:=by
 have hs:kA m 1000 1000:=⟨h1,h2⟩;show kA m' 2000 2000;unfold nX at h
 split at h
 ·obtain rfl:=Option.some.inj h;exact cG (kL _ (sr 3 hs)) aw (by decide)
 ·split at h
  ·obtain rfl:=Option.some.inj h;exact cG (kL _ (sr 1 hs)) aw (by decide)
  ·split at h
   ·cases h
   ·obtain rfl:=Option.some.inj h;simp only
    split
    ·exact cG (xJ _ (sr 2 hs)) (by decide) (by decide)
    ·exact cG (kL _ (sr 2 hs)) aw (by decide)
def yB (op:Nat) (main alt:List be):AV:=.tup [.agg (jD (vI bq dW op main alt).1 (vI bq dW op main alt).2.1),.d (.int .i64 (vI bq dW op main alt).2.2)]
theorem NI (op:Nat) (ho:op<256) (main alt:List be) (h1:main.length≤1000) (h2:alt.length≤1000) (h3:∀ x,x ∈ main→x.length≤100000) (h4:∀ x,x ∈ alt→x.length≤100000) (hb:∀ x,x ∈ main→bytes x) :
  ax Tryz.prog 204 [.d (.int .u8 (op:Int)),.agg (jD main alt)] (fun r=>r=yB op main alt):=by
 refine bO Tryz.func204 Tryz.ntmps204 (rs:=[.cell 4 155,.tmp 5]) (by intro v hv;simp at hv;rcases hv with rfl | rfl;trivial;exact eJ _ _) ?_;have h3':∀ x,x ∈ main→x.length≤1000000:=fun x h=>Nat.le_trans (h3 x h) (by decide);have h4':∀ x,x ∈ alt→x.length≤1000000:=fun x h=>Nat.le_trans (h4 x h) (by decide);simp [go_sem,jD];refine aN [] (xC main alt aq aq h3' h4') rfl aw aw aw (by simp [AV.renL,AV.ren,jD]) ?_;rintro r hp' ⟨rfl,hI,hA,hB⟩;refine ⟨[(289,0),(129,1),(225,2)],by simp [cv,ff],?_⟩;simp [go_sem,bP,bC,hI,hA,hB,Blk.ren,mS,AV.renL,AV.ren,bR,aL]
 refine cq [] [(32,⟨155,2,[[.nil,.nil]]⟩)] D1 (fun j=>128+j) (ND ⟨main,alt,0⟩ [] [] op ho h1 h2 h3' h4') lL (fun j hj=>by show 128+j<256;omega) (by simp [Xk,bQ,bo,aE,lk]) rfl ik
  (fun p hp=>by simp at hp;subst hp;exact ⟨by show 32<256;omega,fun j hj=>by show 128+j ≠ 32;omega⟩) rfl ?_
 rintro v s' ρ ⟨rfl,hlf⟩ hρ
 cases hmv:iO op ⟨main,alt,0⟩ with
 | some m =>
  rw [hmv] at hlf;have hdo:vI bq dW op main alt=dm m:=by unfold vI;rw [hmv]
  obtain ⟨hs1,hs2⟩:=BU hmv h1 h2;rcases hlf with ⟨J',H',rfl⟩ | ⟨he,n,k,J',H',rfl⟩
  ·simp only [Option.getD_some];rw [Xk];simp only [bQ,bo];simp [go_sem,AV.ren]
   refine cq [] [(32,⟨155,2,[[.nil,.nil]]⟩)] bH (fun j=>128+j) (xB m J' H' aq aq) lL (fun j hj=>by show 128+j<352;omega) (by simp [bQ,bo,aE,lk]) rfl ik
    (fun p hp=>by simp at hp;subst hp;exact ⟨by show 32<352;omega,fun j hj=>by show 128+j ≠ 32;omega⟩) rfl ?_
   rintro v s' ρ ⟨rfl,e',rfl⟩ hρ;have r1:ρ 1=129:=hρ 1 aq;have r2:ρ 2=130:=hρ 2 aq;simp only [bQ,bo];unfold pN;by_cases hc:(dm m).2.2=0
   ·have hdm:=lM hc;rw [if_pos hc];have hR:yB op main alt=.tup [.agg (jD m.main m.alt),.d (.int .i64 0)]:=by unfold yB;rw [hdo,hdm]
    rw [hR];simp [go_sem,AV.ren,AV.renL,r1,r2,ah];exact nK (J:=J') (H:=H') rfl rfl
   ·have hdm:=nJ hc;rw [if_neg hc];have hR:yB op main alt=.tup [.agg (jD [] []),.d (.int .i64 (dm m).2.2)]:=by unfold yB;rw [hdo,hdm]
    rw [hR];simp [go_sem,AV.ren,AV.renL,r1,r2,ah];exact jL
  ·simp only [Option.getD_some] at he ⊢;have hdm:dm m=([],[],m.e):=if_neg he;have hR:yB op main alt=.tup [.agg (jD [] []),.d (.int .i64 m.e)]:=by unfold yB;rw [hdo,hdm]
   rw [hR];generalize m.e=e at *;show Be _ _ _ _ _ _ _ _ _ [(32,⟨155,2,[[.nil,.nil]]⟩),(128,⟨283,3,[[.own 129 0 n J'.length,.own 130 0 k H'.length,.d (.int .i64 e)]]⟩),(129,⟨31,1,cM [] J'⟩),(130,⟨31,1,cM [] H'⟩)];simp [go_sem,AV.ren]
   refine cq [] [(32,⟨155,2,[[.nil,.nil]]⟩)] D1 (fun j=>128+j) (RJ e he n k J' H') lL (fun j hj=>by show 128+j<352;omega) (by
    intro p hp;have hp2:p ∈ [((32:Nat),(⟨155,2,[[.nil,.nil]]⟩:Blk)),(128,⟨283,3,[[.own 129 0 n J'.length,.own 130 0 k H'.length,.d (.int .i64 e)]]⟩),(129,⟨31,1,cM [] J'⟩),(130,⟨31,1,cM [] H'⟩)]:=hp;simp only [d_,List.mem_nil_iff,or_false] at hp2
    rcases hp2 with rfl | rfl | rfl | rfl <;> simp [aE,lk]) rfl ik
    (fun p hp=>by simp at hp;subst hp;exact ⟨by show 32<352;omega,fun j hj=>by show 128+j ≠ 32;omega⟩) rfl ?_
   rintro v s' ρ rfl hρ;simp [go_sem,AV.ren,AV.renL,ah];exact jL
 | none =>
  rw [hmv] at hlf;simp only [Option.getD_none] at hlf;rcases hlf with ⟨J',H',rfl⟩ | ⟨he,_⟩
  rotate_left
  ·exact absurd rfl he
  rw [Xk];simp only [bQ,bo];simp [go_sem,AV.ren]
  refine cq [] [(32,⟨155,2,[[.nil,.nil]]⟩)] bH (fun j=>128+j) (NF ⟨main,alt,0⟩ J' H' op ho h1 h3 hb) lL (fun j hj=>by show 128+j<384;omega) (by simp [bQ,bo,aE,lk]) rfl ik
   (fun p hp=>by simp at hp;subst hp;exact ⟨by show 32<384;omega,fun j hj=>by show 128+j ≠ 32;omega⟩) rfl ?_
  rintro v s' ρ ⟨rfl,J2,rfl⟩ hρ
  cases hrd:uy bq dW op ⟨main,alt,0⟩ with
  | some m =>
   have hdo:vI bq dW op main alt=dm m:=by unfold vI;rw [hmv,hrd]
   obtain ⟨hs1,hs2⟩:=Gj hrd h1 h2;simp only [Option.getD_some];simp only [bQ,bo];simp [go_sem,AV.ren]
   refine cq [] [(32,⟨155,2,[[.nil,.nil]]⟩)] bH (fun j=>128+j) (xB m J2 H' aq aq) lL (fun j hj=>by show 128+j<480;omega) (by simp [bQ,bo,aE,lk]) rfl ik
    (fun p hp=>by simp at hp;subst hp;exact ⟨by show 32<480;omega,fun j hj=>by show 128+j ≠ 32;omega⟩) rfl ?_
   rintro v s' ρ ⟨rfl,e',rfl⟩ hρ;have r1:ρ 1=129:=hρ 1 aq;have r2:ρ 2=130:=hρ 2 aq;simp only [bQ,bo];unfold pN;by_cases hc:(dm m).2.2=0
   ·have hdm:=lM hc;rw [if_pos hc];have hR:yB op main alt=.tup [.agg (jD m.main m.alt),.d (.int .i64 0)]:=by unfold yB;rw [hdo,hdm]
    rw [hR];simp [go_sem,AV.ren,AV.renL,r1,r2,ah];exact nK (J:=J2) (H:=H') rfl rfl
   ·have hdm:=nJ hc;rw [if_neg hc];have hR:yB op main alt=.tup [.agg (jD [] []),.d (.int .i64 (dm m).2.2)]:=by unfold yB;rw [hdo,hdm]
    rw [hR];simp [go_sem,AV.ren,AV.renL,r1,r2,ah];exact jL
  | none =>
   simp only [Option.getD_none];simp only [bQ,bo];simp [go_sem,AV.ren]
   refine cq [] [(32,⟨155,2,[[.nil,.nil]]⟩)] bH (fun j=>128+j) (Gi ⟨main,alt,0⟩ J2 H' op ho h1 h3' hb) lL (fun j hj=>by show 128+j<512;omega) (by simp [bQ,bo,aE,lk]) rfl ik
    (fun p hp=>by simp at hp;subst hp;exact ⟨by show 32<512;omega,fun j hj=>by show 128+j ≠ 32;omega⟩) rfl ?_
   rintro v s' ρ ⟨rfl,J3,rfl⟩ hρ
   cases hrc:nX op ⟨main,alt,0⟩ with
   | some m =>
    have hdo:vI bq dW op main alt=dm m:=by unfold vI;rw [hmv,hrd,hrc]
    obtain ⟨hs1,hs2⟩:=BV hrc h1 h2;simp only [Option.getD_some];simp only [bQ,bo];simp [go_sem,AV.ren]
    refine cq [] [(32,⟨155,2,[[.nil,.nil]]⟩)] bH (fun j=>128+j) (xB m J3 H' aq aq) lL (fun j hj=>by show 128+j<608;omega) (by simp [bQ,bo,aE,lk]) rfl ik
     (fun p hp=>by simp at hp;subst hp;exact ⟨by show 32<608;omega,fun j hj=>by show 128+j ≠ 32;omega⟩) rfl ?_
    rintro v s' ρ ⟨rfl,e',rfl⟩ hρ;have r1:ρ 1=129:=hρ 1 aq;have r2:ρ 2=130:=hρ 2 aq;simp only [bQ,bo];unfold pN;by_cases hc:(dm m).2.2=0
    ·have hdm:=lM hc;rw [if_pos hc];have hR:yB op main alt=.tup [.agg (jD m.main m.alt),.d (.int .i64 0)]:=by unfold yB;rw [hdo,hdm]
     rw [hR];simp [go_sem,AV.ren,AV.renL,r1,r2,ah];exact nK (J:=J3) (H:=H') rfl rfl
    ·have hdm:=nJ hc;rw [if_neg hc];have hR:yB op main alt=.tup [.agg (jD [] []),.d (.int .i64 (dm m).2.2)]:=by unfold yB;rw [hdo,hdm]
     rw [hR];simp [go_sem,AV.ren,AV.renL,r1,r2,ah];exact jL
   | none =>
    have hdo:vI bq dW op main alt=([],[],10):=by unfold vI;rw [hmv,hrd,hrc]
    have hR:yB op main alt=.tup [.agg (jD [] []),.d (.int .i64 10)]:=by unfold yB;rw [hdo]
    rw [hR];simp only [Option.getD_none];simp only [bQ,bo];simp [go_sem,AV.ren,ah];exact jL
def io:be→Option (Nat × Nat)
 | []=>none
 | op :: r =>
  if 0<op∧op≤75 then some (op,1)
  else if op=76 then (match r with | a :: _=>some (a,2) | []=>none)
  else if op=77 then (match r with | a :: b :: _=>some (a+256*b,3) | _=>none)
  else some (0,1)
def mT (s:be) (at':Nat):Option (Wd × Nat) :=
 match io (s.drop at') with
 | none=>none
 | some (n,h)=>if (s.drop at').length - h<n then none else some (((s.drop at').headD 0,((s.drop at').drop h).take n),at'+h+n)
def eK (w:Wd):Option be :=
 if w.1≤77 then some w.2 else if w.1=79 then some [129] else if 80<w.1∧w.1≤96 then some [w.1 - 80] else none
def rL (w:Wd):Bool:=match eK w with
 | none=>true
 | some b=>decide (bz b=w)
def lN (op:Nat):Bool:=[97,99,100,103,104,105,106,107,108,109,110,111,112,113,114,115,116,117,118,119,120,121,122,123,124,125,126,130,135,136,139,140,143,144,145,146,147,148,154,155,156,157,158,159,160,161,162,163,164,165,168,170,172,173,177,178,179,186,187,188,204].contains op
structure Rn where
 main:List be
 alt:List be
 br:List Bool
 bud:Int
 cl:List (Int × Int)
 e:Int
structure Rx where
 h1:be→be
 h2:be→be
 /-- whether a thing is a key's signature of a message -/
 sg:be→be→be→Bool
 /-- what a signature of the spending signs -/
 msg:be
 lock:Int
 ver:Int
 seq:Int
 tpl:be
 rcv:be→Int→Int × Int × Int
 trg:be→Int→Int→Int→List (Int × Int) × Int
def ay (x:Int) (r:Rn):Rn:=if r.e=0 then { r with e:=x } else r
def bp (r:Rn):be × Rn :=
 if r.e=0 then (if r.main.length=0 then ([],ay 12 r) else (r.main.getLastD [],{ r with main:=r.main.dropLast })) else ([],r)
def eo (most:Nat) (r:Rn):Int × Rn :=
 let p:=bp r
 if p.2.e=0 then (match fq most p.1 with | some n=>(n,p.2) | none=>(0,ay 15 p.2)) else (0,p.2)
def kZ (r:Rn):be × Rn:=if r.main.length=0 then ([],ay 12 r) else (r.main.getLastD [],r)
def dA (b:be) (r:Rn):Rn :=
 if r.e=0 then (if fw (r.main ++ [b]) r.alt=0 then { r with main:=r.main ++ [b] } else ay (fw (r.main ++ [b]) r.alt) r) else r
def lc (b:Bool) (r:Rn):Rn:={ r with br:=r.br ++ [b] }
def lO (r:Rn):Option Bool × Rn:=if r.br.length=0 then (none,ay 18 r) else (some (r.br.getLastD false),{ r with br:=r.br.dropLast })
def gJ (r:Rn):Nat:=(r.br.filter fun b=>!b).length
def ma (r:Rn):Bool × Rn :=
 let p:=bp r
 (decide (p.1.length=1),if 1<p.1.length ∨ (p.1.length=1∧p.1.headD 0 ≠ 1) then ay 19 p.2 else p.2)
def mU (op:Nat) (r:Rn):Option Rn :=
 if op=99 ∨ op=100 then
  some (if gJ r=0 then (let p:=ma r;lc (decide (p.1=decide (op=99))) p.2) else lc false r)
 else if op=103 then
  some (match lO r with | (some b,r')=>lc (!b) r' | (none,r')=>r')
 else if op=104 then some (lO r).2
 else none
def fB (sg:be→be→be→Bool) (key sig msg:be) (r:Rn):Bool × Rn :=
 if r.e=0∧sig.length ≠ 0 then
  (if r.bud<50 then (false,ay 21 r)
  else if key.length=32∧sg key sig msg then (true,{ r with bud:=r.bud - 50 }) else (false,ay 20 { r with bud:=r.bud - 50 }))
 else (false,r)
def qW (x:Rx) (op:Nat) (r:Rn):Rn :=
 let k:=bp r
 if op=172 then
  let s:=bp k.2
  let g:=fB x.sg k.1 s.1 x.msg s.2
  dA (iN g.1) g.2
 else if op=173 then
  let s:=bp k.2
  let g:=fB x.sg k.1 s.1 x.msg s.2
  if g.1 then g.2 else ay 16 g.2
 else if op=186 then
  let n:=eo 4 k.2
  let s:=bp n.2
  let g:=fB x.sg k.1 s.1 x.msg s.2
  dA (c8 (if g.1 then n.1+1 else n.1)) g.2
 else if op=204 then
  let m:=bp k.2
  let s:=bp m.2
  let g:=fB x.sg k.1 s.1 m.1 s.2
  dA (iN g.1) g.2
 else k.2
def jh (r:Rn):Int × Rn :=
 let t:=kZ r
 if t.2.e=0 then
  (match fq 5 t.1 with
  | some n=>(n,if n<0 then ay 22 t.2 else t.2)
  | none=>(0,ay 15 t.2))
 else (0,t.2)
def pQ (x:Rx) (r:Rn):Rn :=
 let p:=jh r
 if (decide (p.1<500000000) != decide (x.lock<500000000)) || decide (x.lock<p.1) || decide (x.seq=4294967295) then ay 22 p.2 else p.2
def iP (k:Nat) (n:Int):Bool:=decide (n.fdiv (2 ^ k) % 2=1)
def xM (x:Rx) (r:Rn):Rn :=
 let p:=jh r
 if iP 31 p.1 then p.2
 else if decide (x.ver<2) || iP 31 x.seq || (iP 22 p.1 != iP 22 x.seq) || decide (x.seq % 65536<p.1 % 65536) then ay 22 p.2 else p.2
def BW (x:Rx) (r:Rn):Rn :=
 let p:=kZ r
 if p.1=x.tpl then p.2 else ay 23 p.2
def zP (l:List (Int × Int)) (e:Int) (r:Rn):Rn :=
 if r.e=0 then dA (iN true) { ay e r with cl:=r.cl ++ l } else r
def BX (x:Rx) (r:Rn):Rn :=
 let h:=bp r
 let o:=eo 4 h.2
 if o.2.e=0 then zP [((x.rcv h.1 o.1).1,(x.rcv h.1 o.1).2.1)] (x.rcv h.1 o.1).2.2 o.2 else o.2
def cH:Nat→Rn→List be × Rn
 | 0,r=>([],r)
 | k+1,r=>let p:=bp r;let q:=cH k p.2;(q.1 ++ [p.1],q.2)
def iq (n:Int) (r:Rn):List be × Rn :=
 let r1:=if n<0 ∨ (r.main.length:Int)<n then ay 12 r else r
 if r1.e=0 then cH n.toNat r1 else ([],r1)
def BZ (x:Rx) (r:Rn):Rn :=
 let n:=eo 4 r
 let b:=bp n.2
 let l:=iq n.1 b.2
 let o:=eo 4 l.2
 let t:=eo 4 o.2
 let k:=eo 8 t.2
 if k.2.e=0 then
  (if (qM l.1 b.1).2=0 then zP (x.trg (qM l.1 b.1).1 o.1 t.1 k.1).1 (x.trg (qM l.1 b.1).1 o.1 t.1 k.1).2 k.2 else ay (qM l.1 b.1).2 k.2)
 else k.2
def oe (x:Rx) (op:Nat) (r:Rn):Rn :=
 if op=106 then ay 17 r
 else if op=172 ∨ op=173 ∨ op=186 ∨ op=204 then qW x op r
 else if op=177 then pQ x r
 else if op=178 then xM x r
 else if op=179 then BW x r
 else if op=187 then BZ x r
 else if op=188 then BX x r
 else
  let d:=vI x.h1 x.h2 op r.main r.alt
  { ay d.2.2 r with main:=d.1,alt:=d.2.1 }
def mn (x:Rx) (w:Wd) (r:Rn):Rn :=
 if !lN w.1 && (eK w).isNone then ay 10 r
 else match mU w.1 r with
  | some r'=>r'
  | none =>
   if 0<gJ r then r
   else match eK w with
    | some b=>if rL w then dA b r else ay 11 r
    | none=>oe x w.1 r
def j6 (x:Rx) (s:be):Nat→Nat→Rn→Rn
 | 0,_,r=>r
 | k+1,a,r =>
  if a<s.length∧r.e=0 then
   (match mT s a with
   | none=>ay 2 r
   | some (w,b)=>j6 x s k b (mn x w r))
  else r
def lg (r:Rn):Rn :=
 let r1:=if 0<r.br.length then ay 18 r else r
 if r1.main.length=1∧jX (r1.main.headD [])=true then r1 else ay 25 r1
def mo (x:Rx) (s:be) (start:List be) (bud:Int):List (Int × Int) × Int :=
 let r:=lg (j6 x s (s.length+1) 0 (ay (fw start []) ⟨start,[],[],bud,[],0⟩))
 if r.e=0 then (r.cl,0) else ([],r.e)
def vU (o:Option (Nat × Nat)):AV:=match o with
 | none=>.tup [.d (.int .i64 0),.d (.int .i64 0),.d (.bool false)]
 | some (n,h)=>.tup [.d (.int .i64 (n:Int)),.d (.int .i64 (h:Int)),.d (.bool true)]
theorem fC (o:Option (Nat × Nat)):(vU o).deep:=by
 rcases o with _ | ⟨n,h⟩
 ·intro c hc;simp at hc;rcases hc with rfl | rfl <;> exact .inl trivial
 ·intro c hc;simp at hc;rcases hc with rfl | rfl | rfl <;> exact .inl trivial
theorem RL (a b:Nat) (ha:a<4294967296) (hb:b<4294967296):Go.bits .or .i64 (a:Int) (b:Int)=((a ||| b:Nat):Int):=by
 show IntKind.i64.wrap (((BitVec.ofInt 64 (a:Int)) ||| (BitVec.ofInt 64 (b:Int))).toNat:Int)=_;rw [BitVec.toNat_or,eQ,eQ,← Nat.or_mod_two_pow];have:a ||| b<2 ^ 32:=Nat.or_lt_two_pow aq aq;rw [IntWalk.i64_in _ aq];omega
theorem Jl (op:Nat) (r:be) (hb:bytes (op :: r)) (hl:r.length≤1000000):ax Tryz.prog 167 [.d (nb (op :: r))] (fun v=>v=vU (io (op :: r))):=by
 refine bO Tryz.func167 Tryz.ntmps167 (rs:=[.tmp 2,.tmp 3,.tmp 4]) a9 ?_;have h0:op<256:=hb op aw;have w0:IntKind.i64.wrap (op:Int)=(op:Int):=IntWalk.i64_in _ aq;simp [go_sem,nb];by_cases hp:0<op
 ·have hpi:(0:Int)<(op:Int):=aq;have hpn:¬ op=0:=aq;by_cases h75:op≤75
  ·have h75i:(op:Int)≤75:=aq;have hv:io (op :: r)=some (op,1):=by simp [io,hp,h75]
   rw [hv];simp [go_sem,hp,hpi,hpn,h75,h75i,w0,ah];exact aS rfl (fC (some (op,1)))
  ·have h75i:¬ (op:Int)≤75:=aq;by_cases h76:op=76
   ·subst h76;rcases r with _ | ⟨a,r⟩
    ·have hv:io [76]=none:=rfl;rw [hv];simp [go_sem,ah];exact aS rfl (fC none)
    ·have hv:io (76 :: a :: r)=some (a,2):=rfl;have ha:a<256:=hb a aw;have wa:IntKind.i64.wrap (a:Int)=(a:Int):=IntWalk.i64_in _ aq;rw [hv];simp [go_sem,wa,ah];refine ⟨fun _=>aS rfl (fC (some (a,2))),fun h=>absurd h aq⟩
   ·have h76i:¬ (op:Int)=76:=aq;by_cases h77:op=77
    ·subst h77;rcases r with _ | ⟨a,r⟩
     ·have hv:io [77]=none:=rfl;rw [hv];simp [go_sem,ah];exact aS rfl (fC none)
     ·rcases r with _ | ⟨b,r⟩
      ·have hv:io [77,a]=none:=rfl;rw [hv];simp [go_sem,ah];exact aS rfl (fC none)
      ·have hv:io (77 :: a :: b :: r)=some (a+256*b,3):=rfl;have ha:a<256:=hb a aw;have hb2:b<256:=hb b aw;have wa:IntKind.i64.wrap (a:Int)=(a:Int):=IntWalk.i64_in _ aq;have wb:IntKind.i64.wrap (b:Int)=(b:Int):=IntWalk.i64_in _ aq;rw [hv];simp [go_sem,wa,wb,ah];refine ⟨fun _=>?_,fun h=>absurd h aq⟩;refine cf [0,1,2,3,4,5,6,7,8,9,10,11,12] [] 0 (k:=13) ?_;intro G hG;have e1:IntKind.i64.wrap ((b:Int)*256)=((b*2 ^ 8:Nat):Int):=by rw [IntWalk.i64_in _ aq];omega
       have e2:Go.bits .or .i64 (a:Int) ((b*2 ^ 8:Nat):Int)=((a+256*b:Nat):Int):=by
        rw [RL a (b*2 ^ 8) aq aq,IX aq];omega
       generalize ((b*2 ^ 8:Nat):Int)=q at *;simp [go_sem,wa,wb,e1,e2];refine hG _ _ ?_;clear hG G;simp [go_sem,ah];exact aS (by simp [vU]) (fC (some (a+256*b,3)))
    ·have h77i:¬ (op:Int)=77:=aq;have hv:io (op :: r)=some (0,1):=by simp [io,h75,h76,h77]
     rw [hv];simp [go_sem,hp,hpi,hpn,h75,h75i,h76,h76i,h77,h77i,ah];exact aS rfl (fC (some (0,1)))
 ·have h00:op=0:=aq;subst h00;have hv:io (0 :: r)=some (0,1):=rfl;rw [hv];simp [go_sem,ah];exact aS rfl (fC (some (0,1)))
def uH (w:Wd):List AV:=[.d (.int .u8 (w.1:Int)),.d (nb w.2)]
def Jm (o:Option (Wd × Nat)):AV:=match o with
 | some (w,p)=>.tup [.agg (uH w),.d (.int .i64 (p:Int)),.d (.int .i64 0)]
 | none=>.tup [.agg (uH (0,[])),.d (.int .i64 0),.d (.int .i64 2)]
theorem zQ {op n h:Nat} {r:be} (hb:bytes (op :: r)) (hw:io (op :: r)=some (n,h)):1≤h∧h≤r.length+1∧n≤65535:=by
 have h0:op<256:=hb op aw;unfold io at hw;simp only at hw
 split at hw
 ·cases hw;omega
 ·split at hw
  ·rcases r with _ | ⟨a,r⟩
   ·cases hw
   ·have ha:a<256:=hb a aw
    cases hw
    simp;omega
  ·split at hw
   ·rcases r with _ | ⟨a,_ | ⟨b,r⟩⟩
    ·cases hw
    ·cases hw
    ·have ha:a<256:=hb a aw;have hb':b<256:=hb b aw
     cases hw
     simp;omega
   ·cases hw;omega
theorem qX {cs cs':List AV} {a b:AV} {st:St} (hc:sS st.hp (fun _=>True) cs cs') (hdc:∀ c,c ∈ cs'→c.deep1) (ha:a.deep1) (hb:b.deep1) :
  dx (fun r=>r=.tup [.agg cs',a,b]) (.tup [.agg cs,a,b]) st:=by
 refine ⟨_,.tup (cs':=[.agg cs',a,b]) rfl (fun i c c' h1 h2=>?_),?_,rfl⟩
 ·match i with
  | 0=>simp at h1 h2;subst h1;subst h2;exact .inr ⟨_,_,rfl,rfl,hc⟩
  | 1=>simp at h1 h2;subst h1;subst h2;exact .inl (.inl ⟨rfl,ha⟩)
  | 2=>simp at h1 h2;subst h1;subst h2;exact .inl (.inl ⟨rfl,hb⟩)
  | i+3=>simp at h1
 ·intro c hc;simp at hc;rcases hc with rfl | rfl | rfl
  ·exact .inr ⟨_,rfl,hdc⟩
  ·exact .inl ha
  ·exact .inl hb
theorem j7 (w:Wd):∀ c,c ∈ uH w→c.deep1:=by
 intro c hc;simp [uH] at hc;rcases hc with rfl | rfl <;> trivial
theorem Jn (s:be) (at':Nat) (hb:bytes s) (hl:s.length≤1000000) (ha:at'<s.length):ax Tryz.prog 139 [.d (nb s),.d (.int .i64 (at':Int))] (fun v=>v=Jm (mT s at')):=by
  refine bO Tryz.func139 Tryz.ntmps139 (rs:=[.cell 4 42,.tmp 5,.tmp 6]) a9 ?_;have h1:¬ (at':Int)<0:=aq;have h2:¬ (s.length:Int)≤(at':Int):=aq;have h3:(at':Int)≤(s.length:Int):=aq
  obtain ⟨op,r,hd⟩:∃ op r,s.drop at'=op :: r:=by
    rcases h:s.drop at' with _ | ⟨op,r⟩
    · have:=congrArg List.length h
      simp at this;omega
    · exact ⟨op,r,rfl⟩
  have hdb:bytes (op :: r):=fun x hx=>hb x (by rw [← hd] at hx;exact List.mem_of_mem_drop hx)
  have hrl:r.length≤1000000:=by
    have:=congrArg List.length hd;simp at this;omega
  simp [go_sem,nb,h1,h2,h3,← List.map_drop,hd]
  have hdr:List.drop at' (List.take s.length (s.map fun (b:Nat)=>[DV.int .u8 (b:Int)]))=(op :: r).map fun (b:Nat)=>[DV.int .u8 (b:Int)]:=by
    rw [cx aw,← List.map_drop,hd]
  rw [hdr];refine ag (Jl op r hdb hrl) a9 ?_
  have hnx:mT s at'=match io (op :: r) with
    | none=>none
    | some (n,h)=>if (op :: r).length - h<n then none else some ((op,((op :: r).drop h).take n),at'+h+n):=by
    unfold mT;rw [hd];rfl
  rw [hnx]
  cases hw:io (op :: r) with
  | none =>
    simp [go_sem,vU];exact qX (cs':=uH (0,[])) ⟨rfl,ap (bc trivial) (ap (ak (.nil 1)) bB)⟩ (j7 _) trivial trivial
  | some p =>
    obtain ⟨n,h⟩:=p;obtain ⟨t1,t2,t3⟩:=zQ hdb hw
    have hrs:at'+(r.length+1)=s.length:=by
      have:=congrArg List.length hd;simp at this;omega
    have w1:IntKind.i64.wrap ((r.length:Int)+1 - (h:Int))=((r.length+1 - h:Nat):Int):=by rw [IntWalk.i64_in _ aq];omega
    by_cases hlt:r.length+1 - h<n
    · have hlti:((r.length+1 - h:Nat):Int)<(n:Int):=aq
      simp [go_sem,vU,w1,hlt,hlti];exact qX (cs':=uH (0,[])) ⟨rfl,ap (bc trivial) (ap (ak (.nil 1)) bB)⟩ (j7 _) trivial trivial
    · have hlti:¬ ((r.length+1 - h:Nat):Int)<(n:Int):=aq
      have w2:IntKind.i64.wrap ((h:Int)+(n:Int))=((h+n:Nat):Int):=by rw [IntWalk.i64_in _ aq];omega
      have w3:IntKind.i64.wrap ((at':Int)+(h:Int))=((at'+h:Nat):Int):=by rw [IntWalk.i64_in _ aq];omega
      have w4:IntKind.i64.wrap (((at'+h:Nat):Int)+(n:Int))=((at'+h+n:Nat):Int):=by rw [IntWalk.i64_in _ aq];omega
      simp [go_sem,vU,w1,hlt,hlti];refine ek [0,1,2,3,4,5,6,7,8,11,12,13,14,15] [9,16] [0,1,2,3,4,5,6,7,8,10,11,12,13,14,15,17,18] (.step 9 [10] true (.step 16 [17,18] false .done)) ⟨[(4,.ptr 0 0 0 1),(5,.d (.int .i64 ((at'+h+n:Nat):Int))),(6,.d (.int .i64 0))],[(0,⟨42,2,[uH (op,List.take n (List.drop h (op :: r)))]⟩)],9000⟩ (k:=19) ?h3 ?hq
      case h3 =>
        intro G hG;have w3':IntKind.i64.wrap ((at':Int)+(h:Int))=(at':Int)+(h:Int):=IntWalk.i64_in _ aq;have w4':IntKind.i64.wrap ((at':Int)+(h:Int)+(n:Int))=(at':Int)+(h:Int)+(n:Int):=IntWalk.i64_in _ aq;have hTn:((h:Int)+(n:Int)).toNat=h+n:=aq
        have hdt:List.drop h (List.take (h+n) ([DV.int .u8 (op:Int)] :: r.map fun (b:Nat)=>[DV.int .u8 (b:Int)]))=(List.take n (List.drop h (op :: r))).map fun (b:Nat)=>[DV.int .u8 (b:Int)]:=by
          show List.drop h (List.take (h+n) ((op :: r).map fun (b:Nat)=>[DV.int .u8 (b:Int)]))=_;rw [← List.map_take,← List.map_drop,List.drop_take,Nat.add_sub_cancel_left]
        have hdl:(List.take n (List.drop h (op :: r))).length≤100000:=by simp;omega
        generalize List.take n (List.drop h (op :: r))=y at *;simp (config := { maxSteps := 3000000 }) [go_sem,w2,w3',w4',hTn,hdt];have hc:=fG y aq
        repeat' apply And.intro
        all_goals first
          | omega
          | (refine ag hc a9 ?_
             simp (config := { maxSteps := 3000000 }) [go_sem,w3',w4']
             repeat' apply And.intro
             all_goals
               refine hG _ _ (cz ?_)
               simp [aA,ai,fv,lk,AV.low,AV.low1,uH])
      case hq =>
        simp [go_sem,ah,uH];exact qX (cs':=uH (op,List.take n (List.drop h (op :: r)))) ⟨rfl,ap (bc trivial) (ap (bc trivial) bB)⟩ (j7 _) trivial trivial
def Jo (o:Option be):AV:=match o with
 | some b=>.tup [.d (nb b),.d (.bool true)]
 | none=>.tup [.d (nb []),.d (.bool false)]
theorem Gk (o:Option be):(Jo o).deep:=by
 rcases o with _ | b
 ·intro c hc;simp at hc;rcases hc with rfl | rfl <;> exact .inl trivial
 ·intro c hc;simp at hc;rcases hc with rfl | rfl <;> exact .inl trivial
theorem vV {Q:AV→Prop} {st:St} {b:Bool} (hq:Q (.tup [.d (nb []),.d (.bool b)])):dx Q (.tup [.nil,.d (.bool b)]) st :=
 dD (ap (ak (.nil 1)) (ap (bc trivial) bB)) rfl a9 hq
theorem tL (w:Wd) (h8:w.1<256) (hl:w.2.length≤100000):ax Tryz.prog 21 [.agg (uH w)] (fun v=>v=Jo (eK w)):=by
 refine bO Tryz.func21 Tryz.ntmps21 (rs:=[.tmp 2,.tmp 3]) (by intro v hv;simp at hv;subst hv;exact j7 _) ?_;obtain ⟨op,b⟩:=w;simp only at h8 hl;simp [go_sem,uH];by_cases h1:op≤77
 ·have h1i:(op:Int)≤77:=aq;have h1j:¬ (77:Int)<(op:Int):=aq;have hv:eK (op,b)=some b:=by simp [eK,h1]
  rw [hv];simp [go_sem,h1,h1i,h1j];have hc:=fG b aq;refine ag hc a9 ?_;simp [go_sem,ah];exact aS rfl (Gk (some b))
 ·have h1i:¬ (op:Int)≤77:=aq;have h1j:(77:Int)<(op:Int):=aq;by_cases h2:op=79
  ·subst h2;have hv:eK (79,b)=some [129]:=by simp [eK]
   rw [hv];simp [go_sem,ah];exact jW (L:=[129]) rfl rfl rfl
  ·have h2i:¬ (op:Int)=79:=aq;by_cases h3:80<op
   ·have h3i:(80:Int)<(op:Int):=aq;have h3j:¬ (op:Int)≤80:=aq;by_cases h4:op≤96
    ·have h4i:(op:Int)≤96:=aq;have h4j:¬ (96:Int)<(op:Int):=aq;have hv:eK (op,b)=some [op - 80]:=by simp [eK,h1,h2,h3,h4]
     have w1:IntKind.u8.wrap ((op:Int) - 80)=((op - 80:Nat):Int):=by rw [G4];omega
     rw [hv];simp [go_sem,h1,h1i,h1j,h2,h2i,h3,h3i,h3j,h4,h4i,h4j,w1,ah];generalize op - 80=q at *;exact jW (L:=[q]) rfl rfl rfl
    ·have h4i:¬ (op:Int)≤96:=aq;have h4j:(96:Int)<(op:Int):=aq;have hv:eK (op,b)=none:=by simp [eK,h1,h2,h3,h4]
     rw [hv];simp [go_sem,h1,h1i,h1j,h2,h2i,h3,h3i,h3j,h4,h4i,h4j,ah];exact vV rfl
   ·have h3i:¬ (80:Int)<(op:Int):=aq;have h3j:(op:Int)≤80:=aq;have hv:eK (op,b)=none:=by simp [eK,h1,h2,h3]
    rw [hv];simp [go_sem,h1,h1i,h1j,h2,h2i,h3,h3i,h3j,ah];exact vV rfl
theorem Eb {w:Wd} {b:be} (h:eK w=some b):b.length≤w.2.length+1:=by
 unfold eK at h
 split at h
 ·cases h;omega
 ·split at h
  ·cases h;simp
  ·split at h
   ·cases h;simp
   ·cases h
theorem tM {w:Wd} {b:be} (hb:bytes w.2) (h8:w.1<256) (h:eK w=some b):bytes b:=by
 unfold eK at h
 split at h
 ·cases h;exact hb
 ·split at h
  ·cases h;intro x hx;simp at hx;omega
  ·split at h
   ·cases h;intro x hx;simp at hx;omega
   ·cases h
theorem Gl (w:Wd) (h8:w.1<256) (hb:bytes w.2) (hl:w.2.length≤50000):ax Tryz.prog 170 [.agg (uH w)] (fun v=>v=.d (.bool (rL w))):=by
 refine bO Tryz.func170 Tryz.ntmps170 (rs:=[.tmp 2]) (by intro v hv;simp at hv;subst hv;exact j7 _) ?_;obtain ⟨op,b⟩:=w;simp only at h8 hl hb;have hp:=tL (op,b) h8 (by show b.length≤100000;omega);simp only [uH] at hp;simp [go_sem,uH];refine ag hp (by intro v hv;simp at hv;subst hv;exact j7 (op,b)) ?_;unfold rL
 cases hq:eK (op,b) with
 | none =>
  simp [go_sem,Jo,ah];exact aa trivial rfl
 | some y =>
  have hy:=Eb hq;have hyb:=tM hb h8 hq;simp only at hy;have hpu:=xg y aq hyb;simp [go_sem,Jo];refine ag hpu a9 ?_;have hpl:=vE y;have hpb:=rI hyb;have hp8:=(mM aq hyb:qN (bz y)).2;rcases hr:bz y with ⟨o2,b2⟩;rw [hr] at hpl hpb hp8;simp only at hpl hpb hp8;simp only [pJ];by_cases ho:o2=op
  ·subst ho;simp [go_sem];refine ag (ij b2 b hpb hb) a9 ?_;simp [go_sem,ah];exact aa trivial rfl
  ·have hoi:¬ (o2:Int)=(op:Int):=aq;simp [go_sem,ho,hoi,ah];exact aa trivial rfl
def oN (op:Nat):List (Nat × List Int)→List Int
 | []=>[]
 | p :: t=>if op=p.1 then p.2 else oN op t
theorem aB {op:Nat} {s:List Int} {t:List (Nat × List Int)} {n:Nat} (h:op=n):oN op ((n,s) :: t)=s:=if_pos h
theorem aF {op:Nat} {s:List Int} {t:List (Nat × List Int)} {n:Nat} (h:¬ op=n):oN op ((n,s) :: t)=oN op t:=if_neg h
def pR:List (Nat × List Int):=(97,78 :: 79 :: 80 :: []) :: (99,73 :: 70 :: []) :: (100,78 :: 79 :: 84 :: 73 :: 70 :: []) :: (103,69 :: 76 :: 83 :: 69 :: []) :: (104,69 :: 78 :: 68 :: 73 :: 70 :: []) :: (105,86 :: 69 :: 82 :: 73 :: 70 :: 89 :: []) :: (106,82 :: 69 :: 84 :: 85 :: 82 :: 78 :: []) :: (107,84 :: 79 :: 65 :: 76 :: 84 :: []) :: (108,70 :: 82 :: 79 :: 77 :: 65 :: 76 :: 84 :: []) :: (109,50 :: 68 :: 82 :: 79 :: 80 :: []) :: (110,50 :: 68 :: 85 :: 80 :: []) :: (111,51 :: 68 :: 85 :: 80 :: []) :: (112,50 :: 79 :: 86 :: 69 :: 82 :: []) :: (113,50 :: 82 :: 79 :: 84 :: []) :: (114,50 :: 83 :: 87 :: 65 :: 80 :: []) :: (115,73 :: 70 :: 68 :: 85 :: 80 :: []) :: (116,68 :: 69 :: 80 :: 84 :: 72 :: []) :: (117,68 :: 82 :: 79 :: 80 :: []) :: (118,68 :: 85 :: 80 :: []) :: (119,78 :: 73 :: 80 :: []) :: (120,79 :: 86 :: 69 :: 82 :: []) :: (121,80 :: 73 :: 67 :: 75 :: []) :: (122,82 :: 79 :: 76 :: 76 :: []) :: (123,82 :: 79 :: 84 :: []) :: (124,83 :: 87 :: 65 :: 80 :: []) :: (125,84 :: 85 :: 67 :: 75 :: []) :: []
def j8:List (Nat × List Int):=(126,67 :: 65 :: 84 :: []) :: (130,83 :: 73 :: 90 :: 69 :: []) :: (135,69 :: 81 :: 85 :: 65 :: 76 :: []) :: (136,69 :: 81 :: 85 :: 65 :: 76 :: 86 :: 69 :: 82 :: 73 :: 70 :: 89 :: []) :: (139,49 :: 65 :: 68 :: 68 :: []) :: (140,49 :: 83 :: 85 :: 66 :: []) :: (143,78 :: 69 :: 71 :: 65 :: 84 :: 69 :: []) :: (144,65 :: 66 :: 83 :: []) :: (145,78 :: 79 :: 84 :: []) :: (146,48 :: 78 :: 79 :: 84 :: 69 :: 81 :: 85 :: 65 :: 76 :: []) :: (147,65 :: 68 :: 68 :: []) :: (148,83 :: 85 :: 66 :: []) :: (154,66 :: 79 :: 79 :: 76 :: 65 :: 78 :: 68 :: []) :: (155,66 :: 79 :: 79 :: 76 :: 79 :: 82 :: []) :: (156,78 :: 85 :: 77 :: 69 :: 81 :: 85 :: 65 :: 76 :: []) :: (157,78 :: 85 :: 77 :: 69 :: 81 :: 85 :: 65 :: 76 :: 86 :: 69 :: 82 :: 73 :: 70 :: 89 :: []) :: (158,78 :: 85 :: 77 :: 78 :: 79 :: 84 :: 69 :: 81 :: 85 :: 65 :: 76 :: []) :: (159,76 :: 69 :: 83 :: 83 :: 84 :: 72 :: 65 :: 78 :: []) :: (160,71 :: 82 :: 69 :: 65 :: 84 :: 69 :: 82 :: 84 :: 72 :: 65 :: 78 :: []) :: (161,76 :: 69 :: 83 :: 83 :: 79 :: 82 :: 69 :: 81 :: 85 :: 65 :: 76 :: []) :: []
def nM:List (Nat × List Int):=(162,71 :: 82 :: 69 :: 65 :: 84 :: 69 :: 82 :: 79 :: 82 :: 69 :: 81 :: 85 :: 65 :: 76 :: []) :: (163,77 :: 73 :: 78 :: []) :: (164,77 :: 65 :: 88 :: []) :: (165,87 :: 73 :: 84 :: 72 :: 73 :: 78 :: []) :: (168,83 :: 72 :: 65 :: 50 :: 53 :: 54 :: []) :: (170,72 :: 65 :: 83 :: 72 :: 50 :: 53 :: 54 :: []) :: (172,67 :: 72 :: 69 :: 67 :: 75 :: 83 :: 73 :: 71 :: []) :: (173,67 :: 72 :: 69 :: 67 :: 75 :: 83 :: 73 :: 71 :: 86 :: 69 :: 82 :: 73 :: 70 :: 89 :: []) :: (177,67 :: 76 :: 84 :: 86 :: []) :: (178,67 :: 83 :: 86 :: []) :: (179,67 :: 84 :: 86 :: []) :: (186,67 :: 72 :: 69 :: 67 :: 75 :: 83 :: 73 :: 71 :: 65 :: 68 :: 68 :: []) :: (187,86 :: 65 :: 85 :: 76 :: 84 :: []) :: (188,82 :: 69 :: 67 :: 79 :: 86 :: 69 :: 82 :: []) :: (204,67 :: 83 :: 70 :: 83 :: []) :: []
set_option maxRecDepth 4000 in
theorem Gm (op:Nat) (h8:op<256):ax Tryz.prog 191 [.d (.int .u8 (op:Int))] (fun v=>v=.d (.str (oN op pR))):=by
 refine bO Tryz.func191 Tryz.ntmps191 (rs:=[.tmp 2]) a9 ?_;simp [go_sem,pR];by_cases h97:op=97
 ·have hi:(op:Int)=97:=aq;rw [aB h97];simp [go_sem,h97,hi,ah];exact aa trivial rfl
 have hi97:¬ (op:Int)=97:=aq;rw [aF h97];simp [go_sem,h97,hi97];by_cases h99:op=99
 ·have hi:(op:Int)=99:=aq;rw [aB h99];simp [go_sem,h99,hi,ah];exact aa trivial rfl
 have hi99:¬ (op:Int)=99:=aq;rw [aF h99];simp [go_sem,h99,hi99];by_cases h100:op=100
 ·have hi:(op:Int)=100:=aq;rw [aB h100];simp [go_sem,h100,hi,ah];exact aa trivial rfl
 have hi100:¬ (op:Int)=100:=aq;rw [aF h100];simp [go_sem,h100,hi100];by_cases h103:op=103
 ·have hi:(op:Int)=103:=aq;rw [aB h103];simp [go_sem,h103,hi,ah];exact aa trivial rfl
 have hi103:¬ (op:Int)=103:=aq;rw [aF h103];simp [go_sem,h103,hi103];by_cases h104:op=104
 ·have hi:(op:Int)=104:=aq;rw [aB h104];simp [go_sem,h104,hi,ah];exact aa trivial rfl
 have hi104:¬ (op:Int)=104:=aq;rw [aF h104];simp [go_sem,h104,hi104];by_cases h105:op=105
 ·have hi:(op:Int)=105:=aq;rw [aB h105];simp [go_sem,h105,hi,ah];exact aa trivial rfl
 have hi105:¬ (op:Int)=105:=aq;rw [aF h105];simp [go_sem,h105,hi105];by_cases h106:op=106
 ·have hi:(op:Int)=106:=aq;rw [aB h106];simp [go_sem,h106,hi,ah];exact aa trivial rfl
 have hi106:¬ (op:Int)=106:=aq;rw [aF h106];simp [go_sem,h106,hi106];by_cases h107:op=107
 ·have hi:(op:Int)=107:=aq;rw [aB h107];simp [go_sem,h107,hi,ah];exact aa trivial rfl
 have hi107:¬ (op:Int)=107:=aq;rw [aF h107];simp [go_sem,h107,hi107];by_cases h108:op=108
 ·have hi:(op:Int)=108:=aq;rw [aB h108];simp [go_sem,h108,hi,ah];exact aa trivial rfl
 have hi108:¬ (op:Int)=108:=aq;rw [aF h108];simp [go_sem,h108,hi108];by_cases h109:op=109
 ·have hi:(op:Int)=109:=aq;rw [aB h109];simp [go_sem,h109,hi,ah];exact aa trivial rfl
 have hi109:¬ (op:Int)=109:=aq;rw [aF h109];simp [go_sem,h109,hi109];by_cases h110:op=110
 ·have hi:(op:Int)=110:=aq;rw [aB h110];simp [go_sem,h110,hi,ah];exact aa trivial rfl
 have hi110:¬ (op:Int)=110:=aq;rw [aF h110];simp [go_sem,h110,hi110];by_cases h111:op=111
 ·have hi:(op:Int)=111:=aq;rw [aB h111];simp [go_sem,h111,hi,ah];exact aa trivial rfl
 have hi111:¬ (op:Int)=111:=aq;rw [aF h111];simp [go_sem,h111,hi111];by_cases h112:op=112
 ·have hi:(op:Int)=112:=aq;rw [aB h112];simp [go_sem,h112,hi,ah];exact aa trivial rfl
 have hi112:¬ (op:Int)=112:=aq;rw [aF h112];simp [go_sem,h112,hi112];by_cases h113:op=113
 ·have hi:(op:Int)=113:=aq;rw [aB h113];simp [go_sem,h113,hi,ah];exact aa trivial rfl
 have hi113:¬ (op:Int)=113:=aq;rw [aF h113];simp [go_sem,h113,hi113];by_cases h114:op=114
 ·have hi:(op:Int)=114:=aq;rw [aB h114];simp [go_sem,h114,hi,ah];exact aa trivial rfl
 have hi114:¬ (op:Int)=114:=aq;rw [aF h114];simp [go_sem,h114,hi114];by_cases h115:op=115
 ·have hi:(op:Int)=115:=aq;rw [aB h115];simp [go_sem,h115,hi,ah];exact aa trivial rfl
 have hi115:¬ (op:Int)=115:=aq;rw [aF h115];simp [go_sem,h115,hi115];by_cases h116:op=116
 ·have hi:(op:Int)=116:=aq;rw [aB h116];simp [go_sem,h116,hi,ah];exact aa trivial rfl
 have hi116:¬ (op:Int)=116:=aq;rw [aF h116];simp [go_sem,h116,hi116];by_cases h117:op=117
 ·have hi:(op:Int)=117:=aq;rw [aB h117];simp [go_sem,h117,hi,ah];exact aa trivial rfl
 have hi117:¬ (op:Int)=117:=aq;rw [aF h117];simp [go_sem,h117,hi117];by_cases h118:op=118
 ·have hi:(op:Int)=118:=aq;rw [aB h118];simp [go_sem,h118,hi,ah];exact aa trivial rfl
 have hi118:¬ (op:Int)=118:=aq;rw [aF h118];simp [go_sem,h118,hi118];by_cases h119:op=119
 ·have hi:(op:Int)=119:=aq;rw [aB h119];simp [go_sem,h119,hi,ah];exact aa trivial rfl
 have hi119:¬ (op:Int)=119:=aq;rw [aF h119];simp [go_sem,h119,hi119];by_cases h120:op=120
 ·have hi:(op:Int)=120:=aq;rw [aB h120];simp [go_sem,h120,hi,ah];exact aa trivial rfl
 have hi120:¬ (op:Int)=120:=aq;rw [aF h120];simp [go_sem,h120,hi120];by_cases h121:op=121
 ·have hi:(op:Int)=121:=aq;rw [aB h121];simp [go_sem,h121,hi,ah];exact aa trivial rfl
 have hi121:¬ (op:Int)=121:=aq;rw [aF h121];simp [go_sem,h121,hi121];by_cases h122:op=122
 ·have hi:(op:Int)=122:=aq;rw [aB h122];simp [go_sem,h122,hi,ah];exact aa trivial rfl
 have hi122:¬ (op:Int)=122:=aq;rw [aF h122];simp [go_sem,h122,hi122];by_cases h123:op=123
 ·have hi:(op:Int)=123:=aq;rw [aB h123];simp [go_sem,h123,hi,ah];exact aa trivial rfl
 have hi123:¬ (op:Int)=123:=aq;rw [aF h123];simp [go_sem,h123,hi123];by_cases h124:op=124
 ·have hi:(op:Int)=124:=aq;rw [aB h124];simp [go_sem,h124,hi,ah];exact aa trivial rfl
 have hi124:¬ (op:Int)=124:=aq;rw [aF h124];simp [go_sem,h124,hi124];by_cases h125:op=125
 ·have hi:(op:Int)=125:=aq;rw [aB h125];simp [go_sem,h125,hi,ah];exact aa trivial rfl
 have hi125:¬ (op:Int)=125:=aq;rw [aF h125];simp [go_sem,h125,hi125];exact aa trivial rfl
set_option maxRecDepth 4000 in
theorem xN (op:Nat) (h8:op<256):ax Tryz.prog 192 [.d (.int .u8 (op:Int))] (fun v=>v=.d (.str (oN op j8))):=by
 refine bO Tryz.func192 Tryz.ntmps192 (rs:=[.tmp 2]) a9 ?_;simp [go_sem,j8];by_cases h126:op=126
 ·have hi:(op:Int)=126:=aq;rw [aB h126];simp [go_sem,h126,hi,ah];exact aa trivial rfl
 have hi126:¬ (op:Int)=126:=aq;rw [aF h126];simp [go_sem,h126,hi126];by_cases h130:op=130
 ·have hi:(op:Int)=130:=aq;rw [aB h130];simp [go_sem,h130,hi,ah];exact aa trivial rfl
 have hi130:¬ (op:Int)=130:=aq;rw [aF h130];simp [go_sem,h130,hi130];by_cases h135:op=135
 ·have hi:(op:Int)=135:=aq;rw [aB h135];simp [go_sem,h135,hi,ah];exact aa trivial rfl
 have hi135:¬ (op:Int)=135:=aq;rw [aF h135];simp [go_sem,h135,hi135];by_cases h136:op=136
 ·have hi:(op:Int)=136:=aq;rw [aB h136];simp [go_sem,h136,hi,ah];exact aa trivial rfl
 have hi136:¬ (op:Int)=136:=aq;rw [aF h136];simp [go_sem,h136,hi136];by_cases h139:op=139
 ·have hi:(op:Int)=139:=aq;rw [aB h139];simp [go_sem,h139,hi,ah];exact aa trivial rfl
 have hi139:¬ (op:Int)=139:=aq;rw [aF h139];simp [go_sem,h139,hi139];by_cases h140:op=140
 ·have hi:(op:Int)=140:=aq;rw [aB h140];simp [go_sem,h140,hi,ah];exact aa trivial rfl
 have hi140:¬ (op:Int)=140:=aq;rw [aF h140];simp [go_sem,h140,hi140];by_cases h143:op=143
 ·have hi:(op:Int)=143:=aq;rw [aB h143];simp [go_sem,h143,hi,ah];exact aa trivial rfl
 have hi143:¬ (op:Int)=143:=aq;rw [aF h143];simp [go_sem,h143,hi143];by_cases h144:op=144
 ·have hi:(op:Int)=144:=aq;rw [aB h144];simp [go_sem,h144,hi,ah];exact aa trivial rfl
 have hi144:¬ (op:Int)=144:=aq;rw [aF h144];simp [go_sem,h144,hi144];by_cases h145:op=145
 ·have hi:(op:Int)=145:=aq;rw [aB h145];simp [go_sem,h145,hi,ah];exact aa trivial rfl
 have hi145:¬ (op:Int)=145:=aq;rw [aF h145];simp [go_sem,h145,hi145];by_cases h146:op=146
 ·have hi:(op:Int)=146:=aq;rw [aB h146];simp [go_sem,h146,hi,ah];exact aa trivial rfl
 have hi146:¬ (op:Int)=146:=aq;rw [aF h146];simp [go_sem,h146,hi146];by_cases h147:op=147
 ·have hi:(op:Int)=147:=aq;rw [aB h147];simp [go_sem,h147,hi,ah];exact aa trivial rfl
 have hi147:¬ (op:Int)=147:=aq;rw [aF h147];simp [go_sem,h147,hi147];by_cases h148:op=148
 ·have hi:(op:Int)=148:=aq;rw [aB h148];simp [go_sem,h148,hi,ah];exact aa trivial rfl
 have hi148:¬ (op:Int)=148:=aq;rw [aF h148];simp [go_sem,h148,hi148];by_cases h154:op=154
 ·have hi:(op:Int)=154:=aq;rw [aB h154];simp [go_sem,h154,hi,ah];exact aa trivial rfl
 have hi154:¬ (op:Int)=154:=aq;rw [aF h154];simp [go_sem,h154,hi154];by_cases h155:op=155
 ·have hi:(op:Int)=155:=aq;rw [aB h155];simp [go_sem,h155,hi,ah];exact aa trivial rfl
 have hi155:¬ (op:Int)=155:=aq;rw [aF h155];simp [go_sem,h155,hi155];by_cases h156:op=156
 ·have hi:(op:Int)=156:=aq;rw [aB h156];simp [go_sem,h156,hi,ah];exact aa trivial rfl
 have hi156:¬ (op:Int)=156:=aq;rw [aF h156];simp [go_sem,h156,hi156];by_cases h157:op=157
 ·have hi:(op:Int)=157:=aq;rw [aB h157];simp [go_sem,h157,hi,ah];exact aa trivial rfl
 have hi157:¬ (op:Int)=157:=aq;rw [aF h157];simp [go_sem,h157,hi157];by_cases h158:op=158
 ·have hi:(op:Int)=158:=aq;rw [aB h158];simp [go_sem,h158,hi,ah];exact aa trivial rfl
 have hi158:¬ (op:Int)=158:=aq;rw [aF h158];simp [go_sem,h158,hi158];by_cases h159:op=159
 ·have hi:(op:Int)=159:=aq;rw [aB h159];simp [go_sem,h159,hi,ah];exact aa trivial rfl
 have hi159:¬ (op:Int)=159:=aq;rw [aF h159];simp [go_sem,h159,hi159];by_cases h160:op=160
 ·have hi:(op:Int)=160:=aq;rw [aB h160];simp [go_sem,h160,hi,ah];exact aa trivial rfl
 have hi160:¬ (op:Int)=160:=aq;rw [aF h160];simp [go_sem,h160,hi160];by_cases h161:op=161
 ·have hi:(op:Int)=161:=aq;rw [aB h161];simp [go_sem,h161,hi,ah];exact aa trivial rfl
 have hi161:¬ (op:Int)=161:=aq;rw [aF h161];simp [go_sem,h161,hi161];exact aa trivial rfl
set_option maxRecDepth 4000 in
theorem zR (op:Nat) (h8:op<256):ax Tryz.prog 193 [.d (.int .u8 (op:Int))] (fun v=>v=.d (.str (oN op nM))):=by
 refine bO Tryz.func193 Tryz.ntmps193 (rs:=[.tmp 2]) a9 ?_;simp [go_sem,nM];by_cases h162:op=162
 ·have hi:(op:Int)=162:=aq;rw [aB h162];simp [go_sem,h162,hi,ah];exact aa trivial rfl
 have hi162:¬ (op:Int)=162:=aq;rw [aF h162];simp [go_sem,h162,hi162];by_cases h163:op=163
 ·have hi:(op:Int)=163:=aq;rw [aB h163];simp [go_sem,h163,hi,ah];exact aa trivial rfl
 have hi163:¬ (op:Int)=163:=aq;rw [aF h163];simp [go_sem,h163,hi163];by_cases h164:op=164
 ·have hi:(op:Int)=164:=aq;rw [aB h164];simp [go_sem,h164,hi,ah];exact aa trivial rfl
 have hi164:¬ (op:Int)=164:=aq;rw [aF h164];simp [go_sem,h164,hi164];by_cases h165:op=165
 ·have hi:(op:Int)=165:=aq;rw [aB h165];simp [go_sem,h165,hi,ah];exact aa trivial rfl
 have hi165:¬ (op:Int)=165:=aq;rw [aF h165];simp [go_sem,h165,hi165];by_cases h168:op=168
 ·have hi:(op:Int)=168:=aq;rw [aB h168];simp [go_sem,h168,hi,ah];exact aa trivial rfl
 have hi168:¬ (op:Int)=168:=aq;rw [aF h168];simp [go_sem,h168,hi168];by_cases h170:op=170
 ·have hi:(op:Int)=170:=aq;rw [aB h170];simp [go_sem,h170,hi,ah];exact aa trivial rfl
 have hi170:¬ (op:Int)=170:=aq;rw [aF h170];simp [go_sem,h170,hi170];by_cases h172:op=172
 ·have hi:(op:Int)=172:=aq;rw [aB h172];simp [go_sem,h172,hi,ah];exact aa trivial rfl
 have hi172:¬ (op:Int)=172:=aq;rw [aF h172];simp [go_sem,h172,hi172];by_cases h173:op=173
 ·have hi:(op:Int)=173:=aq;rw [aB h173];simp [go_sem,h173,hi,ah];exact aa trivial rfl
 have hi173:¬ (op:Int)=173:=aq;rw [aF h173];simp [go_sem,h173,hi173];by_cases h177:op=177
 ·have hi:(op:Int)=177:=aq;rw [aB h177];simp [go_sem,h177,hi,ah];exact aa trivial rfl
 have hi177:¬ (op:Int)=177:=aq;rw [aF h177];simp [go_sem,h177,hi177];by_cases h178:op=178
 ·have hi:(op:Int)=178:=aq;rw [aB h178];simp [go_sem,h178,hi,ah];exact aa trivial rfl
 have hi178:¬ (op:Int)=178:=aq;rw [aF h178];simp [go_sem,h178,hi178];by_cases h179:op=179
 ·have hi:(op:Int)=179:=aq;rw [aB h179];simp [go_sem,h179,hi,ah];exact aa trivial rfl
 have hi179:¬ (op:Int)=179:=aq;rw [aF h179];simp [go_sem,h179,hi179];by_cases h186:op=186
 ·have hi:(op:Int)=186:=aq;rw [aB h186];simp [go_sem,h186,hi,ah];exact aa trivial rfl
 have hi186:¬ (op:Int)=186:=aq;rw [aF h186];simp [go_sem,h186,hi186];by_cases h187:op=187
 ·have hi:(op:Int)=187:=aq;rw [aB h187];simp [go_sem,h187,hi,ah];exact aa trivial rfl
 have hi187:¬ (op:Int)=187:=aq;rw [aF h187];simp [go_sem,h187,hi187];by_cases h188:op=188
 ·have hi:(op:Int)=188:=aq;rw [aB h188];simp [go_sem,h188,hi,ah];exact aa trivial rfl
 have hi188:¬ (op:Int)=188:=aq;rw [aF h188];simp [go_sem,h188,hi188];by_cases h204:op=204
 ·have hi:(op:Int)=204:=aq;rw [aB h204];simp [go_sem,h204,hi,ah];exact aa trivial rfl
 have hi204:¬ (op:Int)=204:=aq;rw [aF h204];simp [go_sem,h204,hi204];exact aa trivial rfl
def Ed (op:Nat):List Int:=if oN op pR=[] then (if oN op j8=[] then oN op nM else oN op j8) else oN op pR
theorem NJ:(List.range 256).all (fun op=>lN op == !decide (Ed op=[]))=true:=by kernel_rfl
theorem RN {op:Nat} (h:op<256):lN op=!decide (Ed op=[]):=by
 have:=d7.1 NJ op (List.mem_range.2 h)
 simpa using this
@[go_sem] theorem ZA:eV Tryz.prog 253=some [.any,.any,.any]:=by kernel_rfl
@[go_sem] theorem ZB:bS Tryz.prog 253=.arr 3 252:=by kernel_rfl
@[go_sem] theorem ZC:Tryz.prog.cellsOf 252=1:=by kernel_rfl
@[go_sem] theorem ZD:bS Tryz.prog 252=.scal:=by kernel_rfl
theorem NK (op:Nat) (h8:op<256):ax Tryz.prog 168 [.d (.int .u8 (op:Int))] (fun v=>v=.tup [.d (.str (Ed op)),.d (.bool (lN op))]):=by
 rw [RN h8];refine bO Tryz.func168 Tryz.ntmps168 (rs:=[.tmp 2,.tmp 3]) a9 ?_;simp [go_sem];have m1:=Gm op h8;have m2:=xN op h8;have m3:=zR op h8;unfold Ed;generalize oN op pR=a1 at *;generalize oN op j8=a2 at *;generalize oN op nM=a3 at *
 refine ar (fun k:Nat=>⟨[(0,.d (.int .u8 (op:Int))),(7,.agg [.fn 191 [],.fn 192 [],.fn 193 []]),(8,.d (.int .i64 (k:Int)))],[],1000⟩)
  (fun k=>k≤3∧(1≤k→a1=[])∧(2≤k→a2=[])∧(3≤k→a3=[])) (fun k=>3 - k) 0 ⟨aq,fun h=>aq,fun h=>aq,fun h=>aq⟩ (by simp [aA,ai,fv,lk,AV.low,AV.low1]) ?_
 rintro k ⟨hk,h1,h2,h3⟩;have hk4:k=0 ∨ k=1 ∨ k=2 ∨ k=3:=aq;rcases hk4 with rfl | rfl | rfl | rfl
 ·simp [go_sem];refine ag m1 a9 ?_;by_cases ha:a1=[]
  ·subst ha;simp [go_sem];refine ao 1 aw aq ?_;simp [aA,ai,fv,lk,AV.low,AV.low1];rfl
  ·simp [go_sem,ha,ah];exact aa a9 rfl
 ·simp [go_sem];obtain rfl:=h1 aq;refine ag m2 a9 ?_;by_cases ha:a2=[]
  ·subst ha;simp [go_sem];refine ao 2 aw aq ?_;simp [aA,ai,fv,lk,AV.low,AV.low1];rfl
  ·simp [go_sem,ha,ah];exact aa a9 rfl
 ·simp [go_sem];obtain rfl:=h1 aq;obtain rfl:=h2 aq;refine ag m3 a9 ?_;by_cases ha:a3=[]
  ·subst ha;simp [go_sem];refine ao 3 aw aq ?_;simp [aA,ai,fv,lk,AV.low,AV.low1];rfl
  ·simp [go_sem,ha,ah];exact aa a9 rfl
 ·obtain rfl:=h1 aq;obtain rfl:=h2 aq;obtain rfl:=h3 aq;simp [go_sem,ah];exact aa a9 rfl
end Go.Proofs.YtmfnimjnneflnaaGreat
namespace Go.Sha
open Go.Proofs.YtmfnimjnneflnaaGreat
structure RnS where
 r:Rn
 J:List Bool
 H:Nat
end Go.Sha
namespace Go.Proofs.YtmfnimjnneflnaaGreat
open Go.Am Go.Sha
def bF (r:Rn) (b c:AV):List AV:=[.d (.ro 1 (r.main.map bD)),.d (.ro 1 (r.alt.map bD)),b,.d (.int .i64 (gJ r:Int)),.d (.int .i64 r.bud),c,.d (.int .i64 r.e)]
def rM (l J:List Bool):List (List AV):=(l ++ J).map fun b=>[AV.d (.bool b)]
def Uc (c:Int × Int):List AV:=[.d (.int .i64 c.1),.d (.int .u64 c.2)]
def G6 (l:List (Int × Int)) (H:Nat):List (List AV):=l.map Uc ++ List.replicate H [AV.d (.int .i64 0),.d (.int .u64 0)]
def bG (C:List AV) (s:RnS) (f:Nat→Nat):List AV:=C ++ bF s.r (.own (f 1) 0 s.r.br.length (s.r.br.length+s.J.length)) (.own (f 2) 0 s.r.cl.length (s.r.cl.length+s.H))
def aH (C:List AV) (s:RnS) (f:Nat→Nat):Nat→Blk
 | 0=>⟨158,48,[bG C s f]⟩
 | 1=>⟨4,1,rM s.r.br s.J⟩
 | _=>⟨55,2,G6 s.r.cl s.H⟩
def iD (C:List AV):Prop:=(∀ v,v ∈ C→∀ ρ,AV.ren ρ v=v)∧(∀ v,v ∈ C→∀ n,v.low1 n)∧C.length=41
theorem Jp {C:List AV} (h:iD C) (ρ:Nat→Nat) (l:List AV):AV.renL ρ (C ++ l)=C ++ AV.renL ρ l:=by
 rw [pL,pL,List.map_append];congr 1;rw [List.map_congr_left (g:=id) (fun v hv=>h.1 v hv ρ),List.map_id]
theorem RO (ρ:Nat→Nat) (l J:List Bool):aL ρ (rM l J)=rM l J:=by
 unfold aL rM;rw [List.map_map];rfl
theorem RP (ρ:Nat→Nat) (l:List (Int × Int)) (H:Nat):aL ρ (G6 l H)=G6 l H:=by
 unfold aL G6;rw [List.map_append,List.map_map,List.map_replicate];rfl
theorem qY {C:List AV} (hC:iD C):FX 3 (aH C):=by
 refine ⟨fun s f ρ g i hi h=>?_,fun s f i hi=>?_⟩
 ·match i with
  | 0=>simp [aH,bG,bF,Blk.ren,aL,Jp hC,AV.renL,AV.ren,h 1 aq,h 2 aq]
  | 1=>simp only [aH,Blk.ren,RO]
  | i+2=>simp only [aH,Blk.ren,RP]
 ·match i with
  | 0=>exact Nat.succ_ne_zero 47
  | 1=>exact Nat.succ_ne_zero 0
  | i+2=>exact Nat.succ_ne_zero 1
theorem bE (C:List AV) (s:RnS) (f:Nat→Nat):ie 3 (aH C) s f=[(f 0,aH C s f 0),(f 1,aH C s f 1),(f 2,aH C s f 2)]:=rfl
theorem aC {C:List AV} {s:RnS} {hp:Hp} (h0:lk 0 hp=some (aH C s id 0)) (h1:lk 1 hp=some (aH C s id 1)) (h2:lk 2 hp=some (aH C s id 2)):rU 3 (aH C) s id hp:=by
 intro i hi
 match i with
 | 0=>exact h0
 | 1=>exact h1
 | 2=>exact h2
theorem bA {C:List AV} (hC:iD C) (r:Rn) (J:List Bool) (H:Nat) (x:Int):cO Tryz.prog 3 (aH C) 96 ⟨r,J,H⟩ [.ptr 0 0 0 1,.d (.int .i64 x)] (fun v s'=>s'=⟨ay x r,J,H⟩):=by
 refine al Tryz.func96 (by kernel_rfl) rfl Tryz.ntmps96 (rs:=[]) rfl (dT rfl) (by decide) ?_;rw [bE];simp only [aH,bG,bF,id];have hl:=hC.2.2;by_cases h:r.e=0
 ·have hf:ay x r={ r with e:=x }:=if_pos h;simp [go_sem,h,ah,hl,hf];exact aC rfl rfl rfl
 ·have hf:ay x r=r:=if_neg h;simp [go_sem,h,ah,hl,hf];exact aC rfl rfl rfl
theorem eE {C:List AV} (hC:iD C) (r:Rn) (J:List Bool) (H:Nat):cO Tryz.prog 3 (aH C) 100 ⟨r,J,H⟩ [.ptr 0 0 0 1] (fun v s'=>v=.d (.bool (decide (r.e=0)))∧s'=⟨r,J,H⟩):=by
 refine al Tryz.func100 (by kernel_rfl) rfl Tryz.ntmps100 (rs:=[.tmp 2]) rfl (dT rfl) (by decide) ?_;rw [bE];simp only [aH,bG,bF,id];have hl:=hC.2.2;simp [go_sem,ah,hl];exact aC rfl rfl rfl
theorem dO {C:List AV} (hC:iD C) {N:Nat} {Pp:Hp} {g:FuncId} {s:RnS} {ars:List AV} {R:AV→RnS→Prop} {K:AV→Hp→Prop} (h:cO Tryz.prog 3 (aH C) g s (.ptr 0 0 0 1 :: ars) R) (hN:3≤N) (hP:∀ p,p ∈ Pp→p.1<N∧3≤p.1) (has:∀ ρ,AV.renL ρ ars=ars)
  (hK:∀ v s' ρ,R v s'→(∀ j,j<3→ρ j=j)→K (v.ren ρ) (Pp ++ ie 3 (aH C) s' id)):rY Tryz.prog g (.ptr 0 0 0 1 :: ars) (Pp ++ ie 3 (aH C) s id) N K:=by
 refine sn (qY hC) h (aU 3) (fun j hj=>by show j<N;omega) (fun p hp=>⟨(hP p hp).1,fun j hj=>by have:=(hP p hp).2;show j ≠ p.1;omega⟩) ?_ hK;rw [AV.renL,has,AV.ren];rfl
structure StOk (main alt:List be):Prop where
 m:main.length≤1000
 a:alt.length≤1000
 mb:∀ x,x ∈ main→x.length≤1000∧bytes x
 ab:∀ x,x ∈ alt→x.length≤1000∧bytes x
theorem StOk.m1 {main alt:List be} (h:StOk main alt):∀ x,x ∈ main→x.length≤1000000:=fun x hx=>by have:=(h.mb x hx).1;omega
theorem StOk.a1 {main alt:List be} (h:StOk main alt):∀ x,x ∈ alt→x.length≤1000000:=fun x hx=>by have:=(h.ab x hx).1;omega
theorem B5 {C l:List AV} (a b:AV) (h:C.length=41):List.drop 43 (C ++ a :: b :: l)=l:=by rw [List.drop_append,h,c_ aq];rfl
theorem NL {C:List AV} (hC:iD C) (r:Rn) (J:List Bool) (H:Nat) (hk:StOk r.main r.alt):cO Tryz.prog 3 (aH C) 220 ⟨r,J,H⟩ [.ptr 0 0 0 1] (fun v s'=>(v=.nil∧(bp r).1=[] ∨ v=.d (nb (bp r).1))∧s'=⟨(bp r).2,J,H⟩):=by
 refine al Tryz.func220 (by kernel_rfl) rfl Tryz.ntmps220 (rs:=[.tmp 2]) rfl (dT rfl) (by decide) ?_;have hl:=hC.2.2;simp [go_sem];refine dO (Pp:=[]) hC (eE hC r J H) aq aw (by simp [AV.renL,AV.ren]) ?_;rintro v s' ρ ⟨rfl,rfl⟩ hρ;by_cases h:r.e=0
 ·have hpop:=zL r.main r.alt hk.m hk.a hk.m1 hk.a1;obtain ⟨main,alt,br,bud,cl,e⟩:=r;simp only at h hpop;subst h;rw [bE];simp only [aH,bG,bF,id,jD] at *;simp [go_sem,hl,AV.ren];refine ag hpop (by intro v hv;simp at hv;subst hv;exact eJ main alt) ?_;rcases main.eq_nil_or_concat with rfl | ⟨l,x,hm⟩
  ·have ht:bp ⟨[],alt,br,bud,cl,0⟩=([],ay 12 ⟨[],alt,br,bud,cl,0⟩):=rfl;rw [ht];simp [go_sem,BQ,jD];refine dO (Pp:=[(420,⟨155,2,[[.d (.ro 1 []),.d (.ro 1 [])]]⟩)]) (s:=⟨⟨[],alt,br,bud,cl,0⟩,J,H⟩) hC (bA hC ⟨[],alt,br,bud,cl,0⟩ J H 12) aq (by intro p hp;simp at hp;subst hp;simp) (by simp [AV.renL,AV.ren]) ?_;rintro v s' ρ rfl hρ;rw [bE];generalize ay 12 ⟨[],alt,br,bud,cl,0⟩=r';simp only [aH,bG,bF,id];simp [go_sem,ah];exact aC rfl rfl rfl
  ·rw [List.concat_eq_append] at hm;subst hm;have ht:bp ⟨l ++ [x],alt,br,bud,cl,0⟩=(x,⟨l,alt,br,bud,cl,0⟩):=by simp [bp]
   rw [ht];simp [go_sem,BQ,jD,hl,ah,B5];exact aC rfl rfl rfl
 ·have hf:bp r=([],r):=if_neg h;rw [hf,bE];simp only [aH,bG,bF,id];simp [go_sem,h,ah,AV.ren];exact aC rfl rfl rfl
theorem j9 {C:List AV} (hC:iD C) (r:Rn) (J:List Bool) (H:Nat) (hk:StOk r.main r.alt):cO Tryz.prog 3 (aH C) 220 ⟨r,J,H⟩ [.ptr 0 0 0 1] (fun v s'=>v=.d (nb (bp r).1)∧s'=⟨(bp r).2,J,H⟩):=by
 refine NC (NL hC r J H hk) ?_;rintro v s' ⟨⟨rfl,h⟩ | h,rfl⟩
 ·exact .inr ⟨rfl,1,by rw [h];rfl,rfl⟩
 ·exact .inl ⟨h,rfl⟩
theorem Jq {l:List be} {x:be} {alt:List be} (h:StOk (l ++ [x]) alt):StOk l alt∧x.length≤1000∧bytes x :=
 ⟨⟨by have:=h.m;simp at this;omega,h.a,fun y hy=>h.mb y (by simp [hy]),h.ab⟩,h.mb x aw⟩
theorem fZ {x:Int} {r:Rn} (h:StOk r.main r.alt):StOk (ay x r).main (ay x r).alt:=by
 unfold ay;split <;> exact h
theorem dG {r:Rn} (h:StOk r.main r.alt):StOk (bp r).2.main (bp r).2.alt∧(bp r).1.length≤1000∧bytes (bp r).1:=by
 unfold bp
 split
 ·split
  ·exact ⟨fZ h,aw,fun x hx=>by simp at hx⟩
  ·rename_i h2;rcases r.main.eq_nil_or_concat with e | ⟨l,x,hm⟩
   ·exact absurd (by rw [e];rfl) h2
   ·rw [List.concat_eq_append] at hm;rw [hm] at h ⊢;simp only [List.dropLast_concat,List.getLastD_concat];exact Jq h
 ·exact ⟨h,aw,fun x hx=>by simp at hx⟩
theorem oO (r:Rn):ay 0 r=r:=by
 unfold ay
 split
 ·rename_i h;obtain ⟨a,b,c,d,f,e⟩:=r;simp only at h;subst h;rfl
 ·rfl
theorem xO {x:Int} {r:Rn} (hx:x ≠ 0):(ay x r).e ≠ 0:=by
 unfold ay
 split
 ·exact hx
 ·rename_i h;exact h
theorem Jr {C:List AV} (hC:iD C) (r:Rn) (J:List Bool) (H:Nat) (hk:StOk r.main r.alt):cO Tryz.prog 3 (aH C) 231 ⟨r,J,H⟩ [.ptr 0 0 0 1] (fun v s'=>v=.d (nb (kZ r).1)∧s'=⟨(kZ r).2,J,H⟩):=by
 refine al Tryz.func231 (by kernel_rfl) rfl Tryz.ntmps231 (rs:=[.tmp 2]) rfl (dT rfl) (by decide) ?_;have hl:=hC.2.2;have hpop:=zL r.main r.alt hk.m hk.a hk.m1 hk.a1;obtain ⟨main,alt,br,bud,cl,e⟩:=r;simp only at hpop;rw [bE];simp only [aH,bG,bF,id,jD] at *;simp [go_sem,hl];refine ag hpop (by intro v hv;simp at hv;subst hv;exact eJ main alt) ?_;rcases main.eq_nil_or_concat with rfl | ⟨l,x,hm⟩
 ·have ht:kZ ⟨[],alt,br,bud,cl,e⟩=([],ay 12 ⟨[],alt,br,bud,cl,e⟩):=rfl;rw [ht];simp [go_sem,BQ,jD];refine dO (Pp:=[(324,⟨155,2,[[.d (.ro 1 []),.d (.ro 1 [])]]⟩)]) (s:=⟨⟨[],alt,br,bud,cl,e⟩,J,H⟩) hC (bA hC ⟨[],alt,br,bud,cl,e⟩ J H 12) aq (by intro p hp;simp at hp;subst hp;simp) (by simp [AV.renL,AV.ren]) ?_;rintro v s' ρ rfl hρ;rw [bE];generalize ay 12 ⟨[],alt,br,bud,cl,e⟩=r';simp only [aH,bG,bF,id];simp [go_sem,ah];exact ⟨_,⟨rfl,rfl⟩,aC rfl rfl rfl⟩
 ·rw [List.concat_eq_append] at hm;subst hm;have ht:kZ ⟨l ++ [x],alt,br,bud,cl,e⟩=(x,⟨l ++ [x],alt,br,bud,cl,e⟩):=by simp [kZ]
  rw [ht];have hf:=bA hC ⟨l ++ [x],alt,br,bud,cl,e⟩ J H 0;rw [oO] at hf;simp [go_sem,BQ,jD,hl,-List.map_append];refine dO (Pp:=[(324,⟨155,2,[[.d (.ro 1 (l.map bD)),.d (.ro 1 (alt.map bD))]]⟩)]) (s:=⟨⟨l ++ [x],alt,br,bud,cl,e⟩,J,H⟩) hC hf aq (by intro p hp;simp at hp;subst hp;simp) (by simp [AV.renL,AV.ren]) ?_;rintro v s' ρ rfl hρ;rw [bE];simp only [aH,bG,bF,id];simp [go_sem,ah,-List.map_append];exact aC rfl rfl rfl
theorem rN {C:List AV} (hC:iD C) (r:Rn) (J:List Bool) (H:Nat) (hk:StOk r.main r.alt) (most:Nat) (hm:most≤8):cO Tryz.prog 3 (aH C) 227 ⟨r,J,H⟩ [.ptr 0 0 0 1,.d (.int .i64 (most:Int))] (fun v s'=>v=.d (.int .i64 (eo most r).1)∧s'=⟨(eo most r).2,J,H⟩):=by
 refine al Tryz.func227 (by kernel_rfl) rfl Tryz.ntmps227 (rs:=[.tmp 4]) rfl (dT rfl) (by decide) ?_;have hl:=hC.2.2;simp [go_sem];refine dO (Pp:=[]) hC (j9 hC r J H hk) aq aw (by simp [AV.renL,AV.ren]) ?_;rintro v s' ρ ⟨rfl,rfl⟩ hρ;obtain ⟨hk2,hb1,hb2⟩:=dG hk;unfold eo;generalize bp r=p at *;obtain ⟨b,r2⟩:=p;simp only at hk2 hb1 hb2 ⊢;simp [go_sem,AV.ren];refine dO (Pp:=[]) hC (eE hC r2 J H) aq aw (by simp [AV.renL,AV.ren]) ?_;rintro v s' ρ' ⟨rfl,rfl⟩ hρ';by_cases h:r2.e=0
 ·have hd:=BO most b hb2 hm aq;simp [go_sem,AV.ren,h];refine ag hd a9 ?_
  cases hq:fq most b with
  | none =>
   simp [go_sem];refine dO (Pp:=[]) (s:=⟨r2,J,H⟩) hC (bA hC r2 J H 15) aq aw (by simp [AV.renL,AV.ren]) ?_;rintro v s' ρ rfl hρ;rw [bE];generalize ay 15 r2=r';simp only [aH,bG,bF,id];simp [go_sem,ah];exact aC rfl rfl rfl
  | some n =>
   have hf:=bA hC r2 J H 0;rw [oO] at hf;simp [go_sem];refine dO (Pp:=[]) (s:=⟨r2,J,H⟩) hC hf aq aw (by simp [AV.renL,AV.ren]) ?_;rintro v s' ρ rfl hρ;rw [bE];simp only [aH,bG,bF,id];simp [go_sem,ah];exact aC rfl rfl rfl
 ·simp [go_sem,AV.ren,h,ah];rw [bE];exact aC rfl rfl rfl
theorem oP {C:List AV} (hC:iD C) (r:Rn) (J:List Bool) (H:Nat) (hk:StOk r.main r.alt) (b:be) (hb:b.length≤1000000):cO Tryz.prog 3 (aH C) 171 ⟨r,J,H⟩ [.ptr 0 0 0 1,.d (nb b)] (fun v s'=>s'=⟨dA b r,J,H⟩):=by
 refine al Tryz.func171 (by kernel_rfl) rfl Tryz.ntmps171 (rs:=[]) rfl (dT rfl) (by decide) ?_;have hl:=hC.2.2;have hpu:=Gh r.main r.alt b hk.m hk.a hk.m1 hk.a1 hb;simp [go_sem];refine dO (Pp:=[]) hC (eE hC r J H) aq aw (by simp [AV.renL,AV.ren]) ?_;rintro v s' ρ ⟨rfl,rfl⟩ hρ;obtain ⟨main,alt,br,bud,cl,e⟩:=r;simp only at hpu;by_cases h:e=0
 ·subst h;rw [bE];simp only [aH,bG,bF,id,jD] at *;simp [go_sem,AV.ren,hl];refine ag hpu (by intro v hv;simp at hv;rcases hv with rfl | rfl;exact eJ main alt;trivial) ?_;by_cases hc:fw (main ++ [b]) alt=0
  ·have hd:vS ⟨main ++ [b],alt,0⟩=.tup [.agg (jD (main ++ [b]) alt),.d (.int .i64 0)]:=by simp [vS,dm,hc]
   have hp:dA b ⟨main,alt,br,bud,cl,0⟩=⟨main ++ [b],alt,br,bud,cl,0⟩:=by simp [dA,hc]
   rw [hd,hp];simp [go_sem,jD,hl,B5,ah];refine aC ?_ rfl rfl;simp [lk,aH,bG,bF];rfl
  ·have hd:vS ⟨main ++ [b],alt,0⟩=.tup [.agg (jD [] []),.d (.int .i64 (fw (main ++ [b]) alt))]:=by simp [vS,dm,hc]
   have hp:dA b ⟨main,alt,br,bud,cl,0⟩=ay (fw (main ++ [b]) alt) ⟨main,alt,br,bud,cl,0⟩:=by simp [dA,hc]
   rw [hd,hp];generalize fw (main ++ [b]) alt=x at *;simp [go_sem,jD,hl,hc];refine dO (Pp:=[(388,⟨155,2,[[.d (.ro 1 []),.d (.ro 1 [])]]⟩)]) (s:=⟨⟨main,alt,br,bud,cl,0⟩,J,H⟩) hC (bA hC ⟨main,alt,br,bud,cl,0⟩ J H x) aq (by intro p hp;simp at hp;subst hp;simp) (by simp [AV.renL,AV.ren]) ?_;rintro v s' ρ rfl hρ;rw [bE];generalize ay x ⟨main,alt,br,bud,cl,0⟩=r';simp only [aH,bG,bF,id];simp [go_sem,ah];exact aC rfl rfl rfl
 ·have hp:dA b ⟨main,alt,br,bud,cl,e⟩=⟨main,alt,br,bud,cl,e⟩:=if_neg h;rw [hp];simp [go_sem,AV.ren,h,ah];rw [bE];exact aC rfl rfl rfl
theorem B6 (r:Rn):gJ r≤r.br.length:=List.length_filter_le _ _
theorem NM (b:Bool) (r:Rn):gJ (lc b r)=gJ r+(if b then 0 else 1):=by
 unfold gJ lc;simp only [List.filter_append,b_]
 cases b <;> rfl
theorem sw (l J:List Bool):(rM l J).length=l.length+J.length:=by simp [rM]
theorem zS {l J:List Bool}:(rM l J).take l.length=l.map fun b=>[AV.d (.bool b)]:=by
 unfold rM;rw [← List.map_take,List.take_left]
theorem NN (l:List Bool) (b:Bool):(l.map fun b=>[AV.d (.bool b)]) ++ [[AV.d (.bool b)]]=rM (l ++ [b]) []:=by simp [rM]
theorem NP (l:List Bool) (j b:Bool) (J:List Bool):(l.map fun b=>[AV.d (.bool b)]) ++ [AV.d (.bool b)] :: (rM l (j :: J)).drop (l.length+1)=rM (l ++ [b]) J:=by
 unfold rM;rw [← List.map_drop,← List.drop_drop,List.drop_left];simp
theorem pS {C:List AV} (hC:iD C) (r:Rn) (J:List Bool) (H:Nat) (b:Bool) (hb:r.br.length≤1000000):cO Tryz.prog 3 (aH C) 195 ⟨r,J,H⟩ [.ptr 0 0 0 1,.d (.bool b)] (fun v s'=>∃ J',s'=⟨lc b r,J',H⟩):=by
 refine al Tryz.func195 (by kernel_rfl) rfl Tryz.ntmps195 (rs:=[]) rfl (dT rfl) (by decide) ?_;have hl:=hC.2.2;have hi:=B6 r;have hie:=NM b r;have w1:IntKind.i64.wrap ((gJ r:Int)+1)=(gJ r:Int)+1:=IntWalk.i64_in _ aq;rw [bE];simp only [aH,bG,bF,id];simp [go_sem,hl];obtain ⟨main,alt,br,bud,cl,e⟩:=r;simp only at hb hi w1 hie ⊢;generalize hq:gJ ⟨main,alt,br,bud,cl,e⟩=q at *
 have e0:∀ J':List Bool,aH C ⟨lc b ⟨main,alt,br,bud,cl,e⟩,J',H⟩ id 0=⟨158,48,[C ++ [.d (.ro 1 (main.map bD)),.d (.ro 1 (alt.map bD)),.own 1 0 (br.length+1) (br.length+1+J'.length),.d (.int .i64 ((q+(if b then 0 else 1):Nat):Int)),.d (.int .i64 bud),.own 2 0 cl.length (cl.length+H),.d (.int .i64 e)]]⟩:=by
  intro J';simp only [aH,bG,bF,hie];simp [lc]
 have e1:∀ J':List Bool,aH C ⟨lc b ⟨main,alt,br,bud,cl,e⟩,J',H⟩ id 1=⟨4,1,rM (br ++ [b]) J'⟩:=fun _=>rfl;have e2:∀ J':List Bool,aH C ⟨lc b ⟨main,alt,br,bud,cl,e⟩,J',H⟩ id 2=⟨55,2,G6 cl H⟩:=fun _=>rfl;rcases J with _ | ⟨j,J⟩
 ·have hT:List.take br.length (rM br [])=br.map fun b=>[AV.d (.bool b)]:=zS;have hln:(rM br []).length=br.length+([]:List Bool).length:=sw _ _;have e0:=e0 [];have e1:=e1 [];have e2:=e2 [];rw [← NN] at e1
  cases b
  ·simp [go_sem,d6,Dn,hT,hln,hl,w1];exact ⟨aq,fun h=>aq,_,⟨[],rfl⟩,aC (e0 ▸ rfl) (e1 ▸ rfl) (e2 ▸ rfl)⟩
  ·simp [go_sem,d6,Dn,hT,hln,hl];exact ⟨aq,fun h=>aq,_,⟨[],rfl⟩,aC (e0 ▸ rfl) (e1 ▸ rfl) (e2 ▸ rfl)⟩
 ·have hT:List.take br.length (rM br (j :: J))=br.map fun b=>[AV.d (.bool b)]:=zS;have hln:(rM br (j :: J)).length=br.length+(j :: J:List Bool).length:=sw _ _;have e0:=e0 J;have e1:=e1 J;have e2:=e2 J;rw [← NP br j b J] at e1;rw [show br.length+1+J.length=br.length+(J.length+1) by omega] at e0
  cases b
  ·simp [go_sem,d6,Dn,hT,hln,hl,w1];exact ⟨aq,_,⟨J,rfl⟩,aC (e0 ▸ rfl) (e1 ▸ rfl) (e2 ▸ rfl)⟩
  ·simp [go_sem,d6,Dn,hT,hln,hl];exact ⟨aq,_,⟨J,rfl⟩,aC (e0 ▸ rfl) (e1 ▸ rfl) (e2 ▸ rfl)⟩
def NQ (o:Option Bool):AV:=match o with
 | some b=>.tup [.d (.bool b),.d (.bool true)]
 | none=>.tup [.d (.bool false),.d (.bool false)]
theorem RQ {l:List Bool} {J:List Bool} {k:Nat} {b:Bool} (h:l[k]?=some b):(rM l J)[k]?=some [.d (.bool b)]:=by
 unfold rM;rw [cU,List.getElem?_append_left (ci.1 h).1,h];rfl
theorem NR {main alt:List be} {l:List Bool} {b:Bool} {bud e:Int} {cl:List (Int × Int)}:gJ ⟨main,alt,l ++ [b],bud,cl,e⟩=gJ ⟨main,alt,l,bud,cl,e⟩+(if b then 0 else 1):=by
 unfold gJ;simp only [List.filter_append,b_]
 cases b <;> rfl
theorem Ee {C:List AV} (hC:iD C) (r:Rn) (J:List Bool) (H:Nat) (hb:r.br.length≤1000000):cO Tryz.prog 3 (aH C) 196 ⟨r,J,H⟩ [.ptr 0 0 0 1] (fun v s'=>v=NQ (lO r).1∧∃ J',s'=⟨(lO r).2,J',H⟩):=by
 refine al Tryz.func196 (by kernel_rfl) rfl Tryz.ntmps196 (rs:=[.tmp 2,.tmp 3]) rfl (dT rfl) (by decide) ?_;have hl:=hC.2.2;have hi:=B6 r;obtain ⟨main,alt,br,bud,cl,e⟩:=r;simp only at hb hi;rw [bE];simp only [aH,bG,bF,id];rcases br.eq_nil_or_concat with rfl | ⟨l,b,hm⟩
 ·have ht:lO ⟨main,alt,[],bud,cl,e⟩=(none,ay 18 ⟨main,alt,[],bud,cl,e⟩):=rfl;rw [ht];simp [go_sem,hl];rw [show AV.own 1 0 0 J.length=AV.own 1 0 ([]:List Bool).length (([]:List Bool).length+J.length) by simp];refine dO (Pp:=[]) (s:=⟨⟨main,alt,[],bud,cl,e⟩,J,H⟩) hC (bA hC ⟨main,alt,[],bud,cl,e⟩ J H 18) aq aw (by simp [AV.renL,AV.ren]) ?_;rintro v s' ρ rfl hρ;rw [bE];generalize ay 18 ⟨main,alt,[],bud,cl,e⟩=r';simp only [aH,bG,bF,id];simp [go_sem,ah,NQ];exact ⟨_,⟨J,rfl⟩,aC rfl rfl rfl⟩
 ·rw [List.concat_eq_append] at hm;subst hm;have ht:lO ⟨main,alt,l ++ [b],bud,cl,e⟩=(some b,⟨main,alt,l,bud,cl,e⟩):=by simp [lO]
  rw [ht];rw [NR] at hi ⊢;have w1:IntKind.i64.wrap (((l ++ [b]).length:Int) - 1)=(l.length:Int):=by rw [IntWalk.i64_in _ (by simp at hb ⊢;omega)];simp
  have hs:(rM (l ++ [b]) J)[l.length]?=some [.d (.bool b)]:=RQ aw;have hsg:∀ h:l.length<(rM (l ++ [b]) J).length,(rM (l ++ [b]) J)[l.length]=[.d (.bool b)]:=fun h=>Option.some.inj ((cm h).symm.trans hs);have hr:rM (l ++ [b]) J=rM l (b :: J):=by simp [rM]
  generalize hn:(l ++ [b]).length=n at *;have hnl:n=l.length+1:=by rw [← hn];simp
  have hn0:¬ n=0:=aq;have hn1:l.length<n:=aq;have hn2:(l.length:Int)<(n:Int):=aq;have hn3:(l.length:Int)≤(n:Int):=aq;have hnJ:n+J.length=l.length+(b :: J).length:=by simp;omega
  generalize hq:gJ ⟨main,alt,l,bud,cl,e⟩=q at *
  cases b
  ·have w2:IntKind.i64.wrap (((q:Int)+1) - 1)=(q:Int):=by simp only [Bool.false_eq_true,if_false] at hi;rw [IntWalk.i64_in _ aq];omega
   have w3:IntKind.i64.wrap (q:Int)=(q:Int):=by simp only [Bool.false_eq_true,if_false] at hi;exact IntWalk.i64_in _ aq
   simp [go_sem,hl,hn0,w1,hs,hsg,hn1,hn2,hn3,sw,hn,w2,w3];exact ⟨_,⟨rfl,false :: J,rfl⟩,aC (by simp only [lk,aH,bG,bF,hq,hnJ];rfl) (congrArg (fun r=>some (⟨4,1,r⟩:Blk)) hr) rfl⟩
  ·simp [go_sem,hl,hn0,w1,hs,hsg,hn1,hn2,hn3,sw,hn];exact ⟨_,⟨rfl,true :: J,rfl⟩,aC (by simp only [lk,aH,bG,bF,hq,hnJ];rfl) (congrArg (fun r=>some (⟨4,1,r⟩:Blk)) hr) rfl⟩
theorem RR {C:List AV} (hC:iD C) (r:Rn) (J:List Bool) (H:Nat) (hk:StOk r.main r.alt):cO Tryz.prog 3 (aH C) 194 ⟨r,J,H⟩ [.ptr 0 0 0 1] (fun v s'=>v=.d (.bool (ma r).1)∧s'=⟨(ma r).2,J,H⟩):=by
 refine al Tryz.func194 (by kernel_rfl) rfl Tryz.ntmps194 (rs:=[.tmp 2]) rfl (dT rfl) (by decide) ?_;have hl:=hC.2.2;simp [go_sem];refine dO (Pp:=[]) hC (j9 hC r J H hk) aq aw (by simp [AV.renL,AV.ren]) ?_;rintro v s' ρ ⟨rfl,rfl⟩ hρ;obtain ⟨hk2,hb1,hb2⟩:=dG hk;unfold ma;generalize bp r=p at *;obtain ⟨b,r2⟩:=p;simp only at hk2 hb1 hb2 ⊢;have rF:∀ (d:Bool) (r':Rn) (st:St),st.hp=ie 3 (aH C) ⟨r',J,H⟩ id→∃ s',(AV.d (.bool d)=.d (.bool d)∧s'=⟨r',J,H⟩)∧rU 3 (aH C) s' id st.hp:=fun d r' st h=>⟨_,⟨rfl,rfl⟩,by rw [h];exact aC rfl rfl rfl⟩;rcases b with _ | ⟨x,_ | ⟨y,b⟩⟩
 ·simp [go_sem,AV.ren,nb,ah];exact aC rfl rfl rfl
 ·by_cases hx:x=1
  ·subst hx;simp [go_sem,AV.ren,nb,ah];exact aC rfl rfl rfl
  ·have hxi:¬ (x:Int)=1:=aq;simp [go_sem,AV.ren,nb,hx,hxi];refine dO (Pp:=[]) (s:=⟨r2,J,H⟩) hC (bA hC r2 J H 19) aq aw (by simp [AV.renL,AV.ren]) ?_;rintro v s' ρ rfl hρ;rw [bE];generalize ay 19 r2=r';simp only [aH,bG,bF,id];simp [go_sem,ah];exact aC rfl rfl rfl
 ·have hn1:(1:Int)<(b.length:Int)+1+1:=aq;have hn2:¬ (b.length:Int)+1+1=1:=aq;simp [go_sem,AV.ren,nb,hn1,hn2];refine dO (Pp:=[]) (s:=⟨r2,J,H⟩) hC (bA hC r2 J H 19) aq aw (by simp [AV.renL,AV.ren]) ?_;rintro v s' ρ rfl hρ;rw [bE];generalize ay 19 r2=r';simp only [aH,bG,bF,id];simp [go_sem,ah,hn2];exact aC rfl rfl rfl
theorem aQ {C:List AV} (hC:iD C) {N:Nat} {Pp hp:Hp} {g:FuncId} {s:RnS} {ars:List AV} {R:AV→RnS→Prop} {K:AV→Hp→Prop} (h:cO Tryz.prog 3 (aH C) g s (.ptr 0 0 0 1 :: ars) R) (he:hp=Pp ++ ie 3 (aH C) s id) (hN:3≤N) (hP:∀ p,p ∈ Pp→p.1<N∧3≤p.1) (has:∀ ρ,AV.renL ρ ars=ars)
  (hK:∀ v s' ρ,R v s'→(∀ j,j<3→ρ j=j)→K (v.ren ρ) (Pp ++ ie 3 (aH C) s' id)):rY Tryz.prog g (.ptr 0 0 0 1 :: ars) hp N K:=he ▸ dO hC h hN hP has hK
theorem PG:Tryz.prog.underlying 4=some .bool:=by kernel_rfl
theorem PH (a b:Bool) (K:AV→Hp→Prop) (hp:Hp):cJ Tryz.prog .eql 4 (.d (.bool a)) (.d (.bool b)) K hp=K (.d (.bool (a == b))) hp:=by
 show (_∧_)=_;rw [PG];simp
theorem NS {r:Rn}:(lO r).2.br.length≤r.br.length:=by
 unfold lO
 split
 ·unfold ay;split <;> exact cL _
 ·simp
theorem Js (r:Rn):(ma r).2.br=r.br:=by
 have ht:(bp r).2.br=r.br:=by
  unfold bp
  split
  ·split
   ·unfold ay;split <;> rfl
   ·rfl
  ·rfl
 unfold ma;simp only
 split
 ·unfold ay;split <;> exact ht
 ·exact ht
theorem Jt {C:List AV} (hC:iD C) (op:Nat) (h8:op<256) (r:Rn) (J:List Bool) (H:Nat) (hk:StOk r.main r.alt) (hb:r.br.length≤100000):cO Tryz.prog 3 (aH C) 169 ⟨r,J,H⟩ [.ptr 0 0 0 1,.d (.int .u8 (op:Int))]
  (fun v s'=>v=.d (.bool (mU op r).isSome)∧∃ J',s'=⟨(mU op r).getD r,J',H⟩):=by
 refine al Tryz.func169 (by kernel_rfl) rfl Tryz.ntmps169 (rs:=[.tmp 4]) rfl (dT rfl) (by decide) ?_;have hl:=hC.2.2;have hi:=B6 r;by_cases h1:op=99 ∨ op=100
 ·have hv:mU op r=some (if gJ r=0 then lc (decide ((ma r).1=decide (op=99))) (ma r).2 else lc false r):=if_pos h1;rw [hv];by_cases hid:gJ r=0
  ·rw [if_pos hid];have hb2:(ma r).2.br.length≤1000000:=by rw [Js];omega
   have hcd:=RR hC r J H hk;generalize ma r=p at *;obtain ⟨d,r2⟩:=p;simp only at hb2 hcd ⊢;rcases h1 with rfl | rfl
   ·simp [go_sem];rw [bE];simp only [aH,bG,bF,id];simp [go_sem,hl,hid];refine aQ (Pp:=[]) (s:=⟨r,J,H⟩) hC hcd (by simp [bE,aH,bG,bF,hid]) aq aw (by simp [AV.renL,AV.ren]) ?_;rintro v s' ρ ⟨rfl,rfl⟩ hρ;simp [go_sem,AV.ren,PH];refine aQ (Pp:=[]) (s:=⟨r2,J,H⟩) hC (pS hC (r2) J H (d) aq) (by first | rfl | simp [bE,aH,bG,bF,hid]) aq aw (by simp [AV.renL,AV.ren]) ?_;rintro v s' ρ' ⟨J',rfl⟩ hρ';rw [bE];generalize lc (d) (r2)=r';simp only [aH,bG,bF,id];simp [go_sem,ah];exact ⟨_,⟨J',rfl⟩,aC rfl rfl rfl⟩
   ·simp [go_sem];rw [bE];simp only [aH,bG,bF,id];simp [go_sem,hl,hid];refine aQ (Pp:=[]) (s:=⟨r,J,H⟩) hC hcd (by simp [bE,aH,bG,bF,hid]) aq aw (by simp [AV.renL,AV.ren]) ?_;rintro v s' ρ ⟨rfl,rfl⟩ hρ;simp [go_sem,AV.ren,PH];refine aQ (Pp:=[]) (s:=⟨r2,J,H⟩) hC (pS hC (r2) J H (!d) aq) (by first | rfl | simp [bE,aH,bG,bF,hid]) aq aw (by simp [AV.renL,AV.ren]) ?_;rintro v s' ρ' ⟨J',rfl⟩ hρ';rw [bE];generalize lc (!d) (r2)=r';simp only [aH,bG,bF,id];simp [go_sem,ah];exact ⟨_,⟨J',rfl⟩,aC rfl rfl rfl⟩
  ·rw [if_neg hid];rcases h1 with rfl | rfl
   ·simp [go_sem];rw [bE];simp only [aH,bG,bF,id];simp [go_sem,hl,hid];refine aQ (Pp:=[]) (s:=⟨r,J,H⟩) hC (pS hC (r) J H (false) aq) (by first | rfl | simp [bE,aH,bG,bF,hid]) aq aw (by simp [AV.renL,AV.ren]) ?_;rintro v s' ρ' ⟨J',rfl⟩ hρ';rw [bE];generalize lc (false) (r)=r';simp only [aH,bG,bF,id];simp [go_sem,ah];exact ⟨_,⟨J',rfl⟩,aC rfl rfl rfl⟩
   ·simp [go_sem];rw [bE];simp only [aH,bG,bF,id];simp [go_sem,hl,hid];refine aQ (Pp:=[]) (s:=⟨r,J,H⟩) hC (pS hC (r) J H (false) aq) (by first | rfl | simp [bE,aH,bG,bF,hid]) aq aw (by simp [AV.renL,AV.ren]) ?_;rintro v s' ρ' ⟨J',rfl⟩ hρ';rw [bE];generalize lc (false) (r)=r';simp only [aH,bG,bF,id];simp [go_sem,ah];exact ⟨_,⟨J',rfl⟩,aC rfl rfl rfl⟩
 ·by_cases h3:op=103
  ·subst h3;have hv:mU 103 r=some (match lO r with | (some b,r')=>lc (!b) r' | (none,r')=>r'):=rfl;rw [hv];have hb2:(lO r).2.br.length≤1000000:=by have:=@NS r;omega
   have hcd:=Ee hC r J H aq;generalize lO r=p at *;obtain ⟨d,r2⟩:=p;simp only at hb2 hcd ⊢;simp [go_sem];refine dO (Pp:=[]) (s:=⟨r,J,H⟩) hC hcd aq aw (by simp [AV.renL,AV.ren]) ?_;rintro v s' ρ ⟨rfl,J2,rfl⟩ hρ
   cases d with
   | none =>
    rw [bE];simp only [aH,bG,bF,id];simp [go_sem,AV.ren,AV.renL,NQ,ah];exact ⟨_,⟨J2,rfl⟩,aC rfl rfl rfl⟩
   | some b =>
    simp [go_sem,AV.ren,AV.renL,NQ];refine aQ (Pp:=[]) (s:=⟨r2,J2,H⟩) hC (pS hC (r2) J2 H (!b) aq) (by first | rfl | simp [bE,aH,bG,bF]) aq aw (by simp [AV.renL,AV.ren]) ?_;rintro v s' ρ' ⟨J',rfl⟩ hρ';rw [bE];generalize lc (!b) (r2)=r';simp only [aH,bG,bF,id];simp [go_sem,ah];exact ⟨_,⟨J',rfl⟩,aC rfl rfl rfl⟩
  ·by_cases h4:op=104
   ·subst h4;have hv:mU 104 r=some (lO r).2:=rfl;rw [hv];have hcd:=Ee hC r J H aq;generalize lO r=p at *;obtain ⟨d,r2⟩:=p;simp only at hcd ⊢;simp [go_sem];refine dO (Pp:=[]) (s:=⟨r,J,H⟩) hC hcd aq aw (by simp [AV.renL,AV.ren]) ?_;rintro v s' ρ ⟨rfl,J2,rfl⟩ hρ;rw [bE];simp only [aH,bG,bF,id];simp [go_sem,ah];exact ⟨_,⟨J2,rfl⟩,aC rfl rfl rfl⟩
   ·have hv:mU op r=none:=by
     unfold mU;rw [if_neg h1,if_neg h3,if_neg h4]
    rw [hv];have i1:¬ (op:Int)=99:=aq;have i2:¬ (op:Int)=100:=aq;have i3:¬ (op:Int)=103:=aq;have i4:¬ (op:Int)=104:=aq;have j1:¬ op=99:=aq;have j2:¬ op=100:=aq;rw [bE];simp only [aH,bG,bF,id];simp [go_sem,i1,i2,i3,i4,j1,j2,h3,h4,ah];exact ⟨_,⟨J,rfl⟩,aC rfl rfl rfl⟩
end Go.Proofs.YtmfnimjnneflnaaGreat
namespace Go.Sha
def dp (x:Int):Prop:=0≤x∧x<18446744073709551616
def Wn (n:Nat) (l:List Int):Prop:=l.length=n∧∀ x,x ∈ l→dp x
def eU {σ:Type} (f:Nat→σ→σ) (s:σ):Nat→σ
 | 0=>s
 | k+1=>f k (eU f s k)
theorem iZ {σ:Type} {f:Nat→σ→σ} {s:σ} {P:Nat→σ→Prop} (h0:P 0 s) (hs:∀ k s,P k s→P (k+1) (f k s)):∀ k,P k (eU f s k)
 | 0=>h0
 | k+1=>hs k _ (iZ h0 hs k)
theorem pick {α β:Type} [Inhabited β] {A:α→Prop} {B:α→β→Prop} (h:∀ x,A x→∃ y,B x y):∃ F:α→β,∀ x,A x→B x (F x):=by
 classical
 refine ⟨fun x=>if hx:A x then (h x hx).choose else default,fun x hx=>?_⟩;simp only [dif_pos hx];exact (h x hx).choose_spec
theorem tN:dp 0:=⟨aq,aq⟩
theorem NT (x:Int):dp (IntKind.u64.wrap x):=by
 have:IntKind.u64.wrap x=x % 18446744073709551616:=by simp [IntKind.wrap,IntKind.bits,IntKind.signed]
 rw [this];exact ⟨Int.emod_nonneg _ aq,Int.emod_lt_of_pos _ aq⟩
theorem oQ {n k:Nat} {l:List Int} {x:Int} (h:Wn n l) (hx:dp x):Wn n (l.set k x):=by
 refine ⟨by rw [List.length_set];exact h.1,fun y hy=>?_⟩;rcases List.mem_or_eq_of_mem_set hy with hy | rfl
 ·exact h.2 y hy
 ·exact hx
theorem VJ (n:Nat):Wn n (List.replicate n 0):=⟨aw,fun x hx=>by rw [List.eq_of_mem_replicate hx];exact tN⟩
theorem RS {n k:Nat} {l:List Int} (h:Wn n l) (hk:k<n):∃ x,l[k]?=some x∧dp x:=by
 obtain ⟨h1,h2⟩:=h;refine ⟨l[k]'aq,cm aq,h2 _ (List.getElem_mem _)⟩
def gI (l:List Int) (k:Nat):Int:=l.getD k 0
theorem cZ {n k:Nat} {l:List Int} (h:Wn n l):dp (gI l k):=by
 unfold gI;rw [cR];by_cases hk:k<n
 ·obtain ⟨x,e,hx⟩:=RS h hk;rw [e];exact hx
 ·rw [List.getElem?_eq_none (by rw [h.1];omega)];exact tN
theorem ji {l:List Int} {k:Nat} (h:k<l.length):l[k]?=some (gI l k):=by
 unfold gI;rw [cR,cm h];rfl
end Go.Sha
namespace Go.Proofs.YtmfnimjnneflnaaGreat
open Go.Am Go.Sha
def cI (l:List Int):List AV:=l.map fun x=>AV.d (.int .u64 x)
theorem eF (l:List Int):(cI l).length=l.length:=by simp [cI]
theorem B7 (l:List Int) (i:Nat):(cI l)[i]?=(l[i]?).map fun x=>AV.d (.int .u64 x):=by simp [cI]
theorem mV (l:List Int) (i:Nat) (x:Int):(cI l).set i (.d (.int .u64 x))=cI (l.set i x):=by simp [cI,List.map_set]
theorem bV (n:Nat) (l:List Int):∀ v,v ∈ cI l→v.low1 n:=by
 intro v hv;rw [cI,List.mem_map] at hv;obtain ⟨x,_,rfl⟩:=hv
 trivial
theorem i6 (l:List Int):∀ c,c ∈ cI l→c.deep1:=by
 intro c hc;rw [cI,List.mem_map] at hc;obtain ⟨x,_,rfl⟩:=hc
 trivial
theorem eN (l:List Int):(AV.agg (cI l)).deep:=i6 l
theorem ae {l:List Int} {n:Nat} (h:l.length=n):(cI l).take n=cI l:=cx (by rw [eF];omega)
theorem aZ {l:List Int} {n:Nat} (h:l.length=n):(cI l).drop n=[]:=c_ (by rw [eF];omega)
theorem aK (a b:List Int):∀ v,v ∈ [AV.agg (cI a),AV.agg (cI b)]→v.deep:=by
 intro v hv;simp at hv;rcases hv with rfl | rfl <;> exact eN _
theorem aR (a:List Int):∀ v,v ∈ [AV.agg (cI a)]→v.deep:=by
 intro v hv;simp at hv;subst hv;exact eN _
def zI:List Int:=[0,0,0,0]
theorem jF:Wn 4 zI:=VJ 4
theorem nN {w:World} {S:Nat→Prop} {σ:Nat→Option Nat} {hp:Hp} {U:Nat→Prop} {k:IntKind} {n:Int} {x:Value} (h:AIs w S σ hp U (.d (.int k n)) x):x=.int k n:=by
 cases h with
 | d h=>cases h;rfl
def Ju:Array Value→Sem Value:=fun args=>do
 let (x, y, b) ← Extern.MathBitsCarry.three "Sub64" args
 pure (Extern.MathBitsCarry.pair ((x+Extern.MathBitsCarry.m64 - y - b) % Extern.MathBitsCarry.m64) (if x<y+b then 1 else 0))
theorem B8 {P:Program} (x y:Int) (k:Nat) (hk:k≤1) (w:World) :
  (Ju #[.int .u64 x,.int .u64 y,.int .u64 (k:Int)]).run P w =
   .ok (Extern.MathBitsCarry.pair ((x.toNat+Extern.MathBitsCarry.m64 - y.toNat - k) % Extern.MathBitsCarry.m64) (if x.toNat<y.toNat+k then 1 else 0)) w:=by
 have:k=0 ∨ k=1:=aq;rcases this with rfl | rfl <;> rfl
def C1 (c:Int):Prop:=0≤c∧c≤1
theorem zT:C1 0:=⟨aq,aq⟩
theorem Ef {w:World} {S:Nat→Prop} {σ:Nat→Option Nat} {hp:Hp} {U:Nat→Prop} {a b:Int}:AIs w S σ hp U (.tup [.d (.int .u64 a),.d (.int .u64 b)]) (.tuple #[.int .u64 a,.int .u64 b]):=by
 refine .tup _ #[.int .u64 a,.int .u64 b] rfl fun i c x hc hx=>?_
 match i with
 | 0=>simp at hc hx;subst hc hx;exact .d (.int _ _)
 | 1=>simp at hc hx;subst hc hx;exact .d (.int _ _)
 | n+2=>simp at hc
theorem Jv (x y c:Int) (hx:dp x) (hy:dp y) (hc:C1 c):∃ s d:Int,dp s∧C1 d∧s+18446744073709551616*d=x+y+c∧o7 Tryz.prog 162 [.d (.int .u64 x),.d (.int .u64 y),.d (.int .u64 c)] (.tup [.d (.int .u64 s),.d (.int .u64 d)]):=by
 refine ⟨(x+y+c) % 18446744073709551616,(x+y+c) / 18446744073709551616,⟨Int.emod_nonneg _ aq,Int.emod_lt_of_pos _ aq⟩,?_,aq,?_⟩
 ·obtain ⟨h1,h2⟩:=hx;obtain ⟨h3,h4⟩:=hy;obtain ⟨h5,h6⟩:=hc;exact ⟨aq,aq⟩
 ·intro w S σ hp U vs hl hv
  match vs,hl with
  | [a,b,e],_ =>
   have ha:=nN (hv 0 _ a rfl rfl);have hb:=nN (hv 1 _ b rfl rfl);have he:=nN (hv 2 _ e rfl rfl);subst ha hb he;refine ⟨_,?_,Ef⟩;rw [run_callFunc_extern Tryz.func162 (by kernel_rfl) (by kernel_rfl) (by kernel_rfl) (e:=add64Entry) (by kernel_rfl),run_add64 x y c hx.1 hy.1 hc.1 hc.2];rfl
theorem Jw (x y c:Int) (hx:dp x) (hy:dp y) (hc:C1 c):∃ s d:Int,dp s∧C1 d∧s - 18446744073709551616*d=x - y - c∧o7 Tryz.prog 179 [.d (.int .u64 x),.d (.int .u64 y),.d (.int .u64 c)] (.tup [.d (.int .u64 s),.d (.int .u64 d)]):=by
 obtain ⟨k,rfl⟩:=Int.eq_ofNat_of_zero_le hc.1;have hk:k≤1:=by have:=hc.2;omega
 refine ⟨((((x.toNat+Extern.MathBitsCarry.m64 - y.toNat - k) % Extern.MathBitsCarry.m64:Nat)):Int),(((if x.toNat<y.toNat+k then 1 else 0:Nat)):Int),?_,?_,?_,?_⟩
 ·have hm:(x.toNat+Extern.MathBitsCarry.m64 - y.toNat - k) % Extern.MathBitsCarry.m64<Extern.MathBitsCarry.m64:=Nat.mod_lt _ (by decide);have e:Extern.MathBitsCarry.m64=18446744073709551616:=by decide
  exact ⟨Int.natCast_nonneg _,by rw [e] at hm ⊢;omega⟩
 ·split
  ·exact ⟨aq,aq⟩
  ·exact ⟨aq,aq⟩
 ·have e:Extern.MathBitsCarry.m64=18446744073709551616:=by decide
  obtain ⟨h1,h2⟩:=hx;obtain ⟨h3,h4⟩:=hy;rw [e]
  split <;> omega
 ·intro w S σ hp U vs hl hv
  match vs,hl with
  | [a,b,e],_ =>
   have ha:=nN (hv 0 _ a rfl rfl);have hb:=nN (hv 1 _ b rfl rfl);have he:=nN (hv 2 _ e rfl rfl);subst ha hb he;refine ⟨_,?_,Ef⟩;rw [run_callFunc_extern Tryz.func179 (by kernel_rfl) (by kernel_rfl) (by kernel_rfl) (e:=Ju) (by kernel_rfl),B8 x y k hk];rfl
theorem Jx (z:Int) (h0:0≤z) (h1:z<18446744073709551616):Go.bits .and .u64 z 4294967295=z % 4294967296:=by
 obtain ⟨n,rfl⟩:=Int.eq_ofNat_of_zero_le h0;have h:=bits_and_u64_nat n 4294967295 aq aq;rw [nat_mask32] at h;rw [Int.natCast_emod] at h;exact h
theorem Jy (x y:Int) (hx:dp x) (hy:dp y):∃ s d:Int,dp s∧dp d∧d+18446744073709551616*s=x*y∧ax Tryz.prog 187 [.d (.int .u64 x),.d (.int .u64 y)] (fun r=>r=.tup [.d (.int .u64 s),.d (.int .u64 d)]):=by
 have hp:0≤x*y∧x*y≤18446744073709551615*18446744073709551615:=⟨Int.mul_nonneg hx.1 hy.1,by
  have h1:=hx.2;have h2:=hy.2;have h3:=hy.1
  exact Int.mul_le_mul aq aq h3 aq⟩
 have hm:=mul64_arith x y hx.1 hx.2 hy.1 hy.2;have w:∀ z,IntKind.u64.wrap z=z % 18446744073709551616:=fun z=>by simp [IntKind.wrap,IntKind.bits,IntKind.signed]
 refine ⟨x*y / 18446744073709551616,x*y % 18446744073709551616,⟨aq,aq⟩,⟨Int.emod_nonneg _ aq,Int.emod_lt_of_pos _ aq⟩,aq,?_⟩;refine bO Tryz.func187 Tryz.ntmps187 (rs:=[.tmp 4,.tmp 5]) a9 ?_;simp [go_sem,ah,IntKind.bits,w];refine aa a9 ?_;have f32:∀ z:Int,Int.fdiv z 4294967296=z / 4294967296:=fun z=>Int.fdiv_eq_ediv_of_nonneg _ aq;have a3:∀ z:Int,Go.bits .and .u64 (z % 18446744073709551616) 4294967295=z % 18446744073709551616 % 4294967296:=fun z=>Jx _ (Int.emod_nonneg _ aq) (Int.emod_lt_of_pos _ aq);simp only [f32,Jx x hx.1 hx.2,Jx y hy.1 hy.2,a3]
 have e:∀ A B C D:Int,0≤A∧A≤18446744065119617025→0≤B∧B≤18446744065119617025→0≤C∧C≤18446744065119617025→0≤D∧D≤18446744065119617025 →
   (A+(B+C % 18446744073709551616 / 4294967296) % 18446744073709551616 / 4294967296+((B+C % 18446744073709551616 / 4294967296) % 18446744073709551616 % 4294967296+D) % 18446744073709551616 / 4294967296) % 18446744073709551616=(A*18446744073709551616+(B+D)*4294967296+C) / 18446744073709551616:=by
  intro A B C D hA hB hC hD;omega
 obtain ⟨x1,x0,hxx,q1,q2,q3,q4⟩:∃ x1 x0:Int,x=x1*4294967296+x0∧0≤x1∧x1≤4294967295∧0≤x0∧x0≤4294967295:=⟨x / 4294967296,x % 4294967296,aq,by have:=hx.1;omega,by have:=hx.2;omega,aq,aq⟩;obtain ⟨y1,y0,hyy,q5,q6,q7,q8⟩:∃ y1 y0:Int,y=y1*4294967296+y0∧0≤y1∧y1≤4294967295∧0≤y0∧y0≤4294967295:=⟨y / 4294967296,y % 4294967296,aq,by have:=hy.1;omega,by have:=hy.2;omega,aq,aq⟩;have r1:x / 4294967296=x1:=aq;have r2:x % 4294967296=x0:=aq;have r3:y / 4294967296=y1:=aq;have r4:y % 4294967296=y0:=aq;rw [r1,r2,r3,r4,e _ _ _ _ (prod_bound x1 y1 q1 q2 q5 q6) (prod_bound x1 y0 q1 q2 q7 q8) (prod_bound x0 y0 q3 q4 q7 q8) (prod_bound x0 y1 q3 q4 q5 q6),← split_mul,← hxx,← hyy]
theorem xP (x:Int):IntKind.u64.wrap x=x % 18446744073709551616:=by simp [IntKind.wrap,IntKind.bits,IntKind.signed]
def lh (A:Int × Int × Int→Int × Int) (a b:List Int) (k:Nat) (s:List Int × Int):List Int × Int :=
 (s.1.set k (A (gI a k,gI b k,s.2)).1,(A (gI a k,gI b k,s.2)).2)
def uI (A:Int × Int × Int→Int × Int) (M:Int × Int→Int × Int) (a:List Int) (k:Nat) (s:List Int × Int):List Int × Int :=
 (s.1.set k (A ((M (gI a k,4294968273)).2,s.2,0)).1,IntKind.u64.wrap ((M (gI a k,4294968273)).1+(A ((M (gI a k,4294968273)).2,s.2,0)).2))
def AO:List Int:=[0,0,0,0,0,0,0,0]
theorem VK:Wn 8 AO:=VJ 8
def pl (i k:Nat):Nat:=i+k
def zU (A:Int × Int × Int→Int × Int) (M:Int × Int→Int × Int) (a b:List Int) (i k:Nat) (s:List Int × Int):List Int × Int :=
 (s.1.set (pl i k) (A ((A ((M (gI a i,gI b k)).2,gI s.1 (pl i k),0)).1,s.2,0)).1,IntKind.u64.wrap (IntKind.u64.wrap ((M (gI a i,gI b k)).1+(A ((M (gI a i,gI b k)).2,gI s.1 (pl i k),0)).2)+(A ((A ((M (gI a i,gI b k)).2,gI s.1 (pl i k),0)).1,s.2,0)).2))
def pT (A:Int × Int × Int→Int × Int) (M:Int × Int→Int × Int) (a b:List Int) (i:Nat) (p:List Int):List Int :=
 (eU (zU A M a b i) (p,0) 4).1.set (pl i 4) (eU (zU A M a b i) (p,0) 4).2
def V:List Int→Int
 | []=>0
 | x :: r=>x+18446744073709551616*V r
theorem V4 (a b c d:Int):V [a,b,c,d]=a+18446744073709551616*(b+18446744073709551616*(c+18446744073709551616*d)):=by simp [V]
theorem jj {l:List Int} (h:Wn 4 l):∃ a b c d,l=[a,b,c,d]∧dp a∧dp b∧dp c∧dp d:=by
 obtain ⟨h1,h2⟩:=h
 match l,h1 with
 | [a,b,c,d],_=>exact ⟨a,b,c,d,rfl,h2 a aw,h2 b aw,h2 c aw,h2 d aw⟩
theorem ke {l:List Int} (h:Wn 4 l):0≤V l∧V l<115792089237316195423570985008687907853269984665640564039457584007913129639936:=by
 obtain ⟨a,b,c,d,rfl,ha,hb,hc,hd⟩:=jj h;rw [V4];unfold dp at *;omega
theorem PI {l m:List Int} (h:Wn 4 l) (h':Wn 4 m) (e:V l=V m):l=m:=by
 obtain ⟨a,b,c,d,rfl,ha,hb,hc,hd⟩:=jj h;obtain ⟨a',b',c',d',rfl,ha',hb',hc',hd'⟩:=jj h';rw [V4,V4] at e;unfold dp at *;have e1:a=a':=aq;have e2:b=b':=aq;have e3:c=c':=aq;have e4:d=d':=aq;rw [e1,e2,e3,e4]
def Gn (A:Int × Int × Int→Int × Int):Prop:=∀ x,dp x.1∧dp x.2.1∧C1 x.2.2→dp (A x).1∧C1 (A x).2∧(A x).1+18446744073709551616*(A x).2=x.1+x.2.1+x.2.2
def VL (A:Int × Int × Int→Int × Int):Prop:=∀ x,dp x.1∧dp x.2.1∧C1 x.2.2→dp (A x).1∧C1 (A x).2∧(A x).1 - 18446744073709551616*(A x).2=x.1 - x.2.1 - x.2.2
def Jz (M:Int × Int→Int × Int):Prop:=∀ x,dp x.1∧dp x.2→dp (M x).1∧dp (M x).2∧(M x).2+18446744073709551616*(M x).1=x.1*x.2
theorem Yr {A:Int × Int × Int→Int × Int} (hA:Gn A) {a b:List Int} (ha:Wn 4 a) (hb:Wn 4 b) :
  V (eU (lh A a b) (zI,0) 4).1+115792089237316195423570985008687907853269984665640564039457584007913129639936*(eU (lh A a b) (zI,0) 4).2=V a+V b:=by
 obtain ⟨a0,a1,a2,a3,rfl,ha0,ha1,ha2,ha3⟩:=jj ha;obtain ⟨b0,b1,b2,b3,rfl,hb0,hb1,hb2,hb3⟩:=jj hb;have c0:C1 0:=⟨aq,aq⟩;have s0:=hA (a0,b0,0) ⟨ha0,hb0,c0⟩;have s1:=hA (a1,b1,(A (a0,b0,0)).2) ⟨ha1,hb1,s0.2.1⟩;have s2:=hA (a2,b2,(A (a1,b1,(A (a0,b0,0)).2)).2) ⟨ha2,hb2,s1.2.1⟩;have s3:=hA (a3,b3,(A (a2,b2,(A (a1,b1,(A (a0,b0,0)).2)).2)).2) ⟨ha3,hb3,s2.2.1⟩;have e:eU (lh A [a0,a1,a2,a3] [b0,b1,b2,b3]) (zI,0) 4=([(A (a0,b0,0)).1,(A (a1,b1,(A (a0,b0,0)).2)).1,(A (a2,b2,(A (a1,b1,(A (a0,b0,0)).2)).2)).1,(A (a3,b3,(A (a2,b2,(A (a1,b1,(A (a0,b0,0)).2)).2)).2)).1],(A (a3,b3,(A (a2,b2,(A (a1,b1,(A (a0,b0,0)).2)).2)).2)).2):=rfl;rw [e,V4,V4,V4];generalize A (a3,b3,(A (a2,b2,(A (a1,b1,(A (a0,b0,0)).2)).2)).2)=q3 at *;generalize A (a2,b2,(A (a1,b1,(A (a0,b0,0)).2)).2)=q2 at *;generalize A (a1,b1,(A (a0,b0,0)).2)=q1 at *;generalize A (a0,b0,0)=q0 at *;obtain ⟨_,_,e0⟩:=s0;obtain ⟨_,_,e1⟩:=s1;obtain ⟨_,_,e2⟩:=s2;obtain ⟨_,_,e3⟩:=s3;dsimp only at *;omega
theorem Ys {A:Int × Int × Int→Int × Int} (hA:VL A) {a b:List Int} (ha:Wn 4 a) (hb:Wn 4 b) :
  V (eU (lh A a b) (zI,0) 4).1 - 115792089237316195423570985008687907853269984665640564039457584007913129639936*(eU (lh A a b) (zI,0) 4).2=V a - V b:=by
 obtain ⟨a0,a1,a2,a3,rfl,ha0,ha1,ha2,ha3⟩:=jj ha;obtain ⟨b0,b1,b2,b3,rfl,hb0,hb1,hb2,hb3⟩:=jj hb;have c0:C1 0:=⟨aq,aq⟩;have s0:=hA (a0,b0,0) ⟨ha0,hb0,c0⟩;have s1:=hA (a1,b1,(A (a0,b0,0)).2) ⟨ha1,hb1,s0.2.1⟩;have s2:=hA (a2,b2,(A (a1,b1,(A (a0,b0,0)).2)).2) ⟨ha2,hb2,s1.2.1⟩;have s3:=hA (a3,b3,(A (a2,b2,(A (a1,b1,(A (a0,b0,0)).2)).2)).2) ⟨ha3,hb3,s2.2.1⟩;have e:eU (lh A [a0,a1,a2,a3] [b0,b1,b2,b3]) (zI,0) 4=([(A (a0,b0,0)).1,(A (a1,b1,(A (a0,b0,0)).2)).1,(A (a2,b2,(A (a1,b1,(A (a0,b0,0)).2)).2)).1,(A (a3,b3,(A (a2,b2,(A (a1,b1,(A (a0,b0,0)).2)).2)).2)).1],(A (a3,b3,(A (a2,b2,(A (a1,b1,(A (a0,b0,0)).2)).2)).2)).2):=rfl;rw [e,V4,V4,V4];generalize A (a3,b3,(A (a2,b2,(A (a1,b1,(A (a0,b0,0)).2)).2)).2)=q3 at *;generalize A (a2,b2,(A (a1,b1,(A (a0,b0,0)).2)).2)=q2 at *;generalize A (a1,b1,(A (a0,b0,0)).2)=q1 at *;generalize A (a0,b0,0)=q0 at *;obtain ⟨_,_,e0⟩:=s0;obtain ⟨_,_,e1⟩:=s1;obtain ⟨_,_,e2⟩:=s2;obtain ⟨_,_,e3⟩:=s3;dsimp only at *;omega
theorem Eg {A:Int × Int × Int→Int × Int} {M:Int × Int→Int × Int} (hA:Gn A) (hM:Jz M) {x y p c:Int} (hx:dp x) (hy:dp y) (hp:dp p) (hc:dp c) :
  dp (A ((A ((M (x,y)).2,p,0)).1,c,0)).1∧dp (IntKind.u64.wrap (IntKind.u64.wrap ((M (x,y)).1+(A ((M (x,y)).2,p,0)).2)+(A ((A ((M (x,y)).2,p,0)).1,c,0)).2)) ∧
  (A ((A ((M (x,y)).2,p,0)).1,c,0)).1+18446744073709551616*IntKind.u64.wrap (IntKind.u64.wrap ((M (x,y)).1+(A ((M (x,y)).2,p,0)).2)+(A ((A ((M (x,y)).2,p,0)).1,c,0)).2)=x*y+p+c:=by
 have c0:C1 0:=⟨aq,aq⟩;obtain ⟨m1,m2,m3⟩:=hM (x,y) ⟨hx,hy⟩;generalize M (x,y)=m at *;obtain ⟨n1,n2,n3⟩:=hA (m.2,p,0) ⟨m2,hp,c0⟩;generalize A (m.2,p,0)=q at *;obtain ⟨k1,k2,k3⟩:=hA (q.1,c,0) ⟨n1,hc,c0⟩;generalize A (q.1,c,0)=r at *
 have hxy:x*y≤18446744073709551615*18446744073709551615:=by
  unfold dp at hx hy;exact Int.mul_le_mul aq aq aq aq
 dsimp only at *;simp only [xP] at *;unfold dp C1 at *;generalize x*y=z at *;refine ⟨k1,⟨aq,aq⟩,aq⟩
theorem vW {l:List Int} {i j:Nat} {x:Int} (h:i ≠ j):gI (l.set i x) j=gI l j:=by
 unfold gI;rw [cR,cR,List.getElem?_set_ne h]
theorem zV {n:Nat} {l:List Int} (h:Wn n l) (k:Nat):dp (gI l k):=by
 unfold gI;rw [cR]
 cases e:l[k]? with
 | none=>exact ⟨aw,aw⟩
 | some x=>exact h.2 x (cr e)
theorem NU {A:Int × Int × Int→Int × Int} {M:Int × Int→Int × Int} (hA:Gn A) (hM:Jz M) {a b p:List Int} (ha:Wn 4 a) (hb:Wn 4 b) (hp:Wn 8 p) (i:Nat) :
  ∃ r0 r1 r2 r3 c,dp r0∧dp r1∧dp r2∧dp r3∧dp c ∧
   r0+18446744073709551616*(r1+18446744073709551616*(r2+18446744073709551616*(r3+18446744073709551616*c)))=gI a i*V b+(gI p i+18446744073709551616*(gI p (i+1)+18446744073709551616*(gI p (i+2)+18446744073709551616*gI p (i+3)))) ∧
   pT A M a b i p=((((p.set i r0).set (i+1) r1).set (i+2) r2).set (i+3) r3).set (i+4) c:=by
 obtain ⟨b0,b1,b2,b3,rfl,hb0,hb1,hb2,hb3⟩:=jj hb;have hx:=zV ha i;generalize hxe:gI a i=x at *;have z:dp 0:=⟨aq,aq⟩;obtain ⟨s1,s2,s3⟩:=Eg hA hM hx hb0 (zV hp i) z;obtain ⟨t1,t2,t3⟩:=Eg hA hM hx hb1 (zV hp (i+1)) s2;obtain ⟨u1,u2,u3⟩:=Eg hA hM hx hb2 (zV hp (i+2)) t2;obtain ⟨v1,v2,v3⟩:=Eg hA hM hx hb3 (zV hp (i+3)) u2;refine ⟨_,_,_,_,_,s1,t1,u1,v1,v2,?_,?_⟩
 ·have hm:∀ u v:Int,x*(u+18446744073709551616*v)=x*u+18446744073709551616*(x*v):=fun u v=>by rw [Int.mul_add,Int.mul_left_comm]
  rw [V4,hm,hm,hm];revert s3 t3 u3 v3;generalize gI p i=p0;generalize gI p (i+1)=p1;generalize gI p (i+2)=p2;generalize gI p (i+3)=p3;generalize x*b0=y0;generalize x*b1=y1;generalize x*b2=y2;generalize x*b3=y3;intro s3 t3 u3 v3;omega
 ·have n1:∀ (l:List Int) (y:Int),gI (l.set i y) (i+1)=gI l (i+1):=fun l y=>vW aq;have n2:∀ (l:List Int) (y:Int),gI (l.set i y) (i+2)=gI l (i+2):=fun l y=>vW aq;have n3:∀ (l:List Int) (y:Int),gI (l.set i y) (i+3)=gI l (i+3):=fun l y=>vW aq;have n4:∀ (l:List Int) (y:Int),gI (l.set (i+1) y) (i+2)=gI l (i+2):=fun l y=>vW aq;have n5:∀ (l:List Int) (y:Int),gI (l.set (i+1) y) (i+3)=gI l (i+3):=fun l y=>vW aq;have n6:∀ (l:List Int) (y:Int),gI (l.set (i+2) y) (i+3)=gI l (i+3):=fun l y=>vW aq;have g0:gI [b0,b1,b2,b3] 0=b0:=rfl;have g1:gI [b0,b1,b2,b3] 1=b1:=rfl;have g2:gI [b0,b1,b2,b3] 2=b2:=rfl;have g3:gI [b0,b1,b2,b3] 3=b3:=rfl;simp only [pT,eU,zU,pl,hxe,g0,g1,g2,g3,n1,n2,n3,n4,n5,n6,Nat.add_zero]
theorem JA {A:Int × Int × Int→Int × Int} {M:Int × Int→Int × Int} (hA:Gn A) (hM:Jz M) {a b:List Int} (ha:Wn 4 a) (hb:Wn 4 b) :
  Wn 8 (eU (pT A M a b) AO 4)∧V (eU (pT A M a b) AO 4)=V a*V b:=by
 obtain ⟨a0,a1,a2,a3,rfl,ha0,ha1,ha2,ha3⟩:=jj ha;have z:dp 0:=⟨aq,aq⟩;have w0:Wn 8 AO:=⟨rfl,fun x hx=>by simp [AO] at hx;subst hx;exact z⟩;obtain ⟨r0,r1,r2,r3,c0,hr0,hr1,hr2,hr3,hc0,e0,f0⟩:=NU hA hM ha hb w0 0;have f0':pT A M [a0,a1,a2,a3] b 0 AO=[r0,r1,r2,r3,c0,0,0,0]:=f0;have w1:Wn 8 [r0,r1,r2,r3,c0,0,0,0]:=⟨rfl,fun x hx=>by simp at hx;rcases hx with rfl | rfl | rfl | rfl | rfl | rfl <;> assumption⟩;obtain ⟨s0,s1,s2,s3,c1,hs0,hs1,hs2,hs3,hc1,e1,f1⟩:=NU hA hM ha hb w1 1;have f1':pT A M [a0,a1,a2,a3] b 1 [r0,r1,r2,r3,c0,0,0,0]=[r0,s0,s1,s2,s3,c1,0,0]:=f1;have w2:Wn 8 [r0,s0,s1,s2,s3,c1,0,0]:=⟨rfl,fun x hx=>by simp at hx;rcases hx with rfl | rfl | rfl | rfl | rfl | rfl | rfl <;> assumption⟩;obtain ⟨t0,t1,t2,t3,c2,ht0,ht1,ht2,ht3,hc2,e2,f2⟩:=NU hA hM ha hb w2 2;have f2':pT A M [a0,a1,a2,a3] b 2 [r0,s0,s1,s2,s3,c1,0,0]=[r0,s0,t0,t1,t2,t3,c2,0]:=f2;have w3:Wn 8 [r0,s0,t0,t1,t2,t3,c2,0]:=⟨rfl,fun x hx=>by simp at hx;rcases hx with rfl | rfl | rfl | rfl | rfl | rfl | rfl | rfl <;> assumption⟩;obtain ⟨u0,u1,u2,u3,c3,hu0,hu1,hu2,hu3,hc3,e3,f3⟩:=NU hA hM ha hb w3 3;have f3':pT A M [a0,a1,a2,a3] b 3 [r0,s0,t0,t1,t2,t3,c2,0]=[r0,s0,t0,u0,u1,u2,u3,c3]:=f3
 have e:eU (pT A M [a0,a1,a2,a3] b) AO 4=[r0,s0,t0,u0,u1,u2,u3,c3]:=by
  simp only [eU];rw [f0',f1',f2',f3']
 rw [e];refine ⟨⟨rfl,fun x hx=>by simp at hx;rcases hx with rfl | rfl | rfl | rfl | rfl | rfl | rfl | rfl <;> assumption⟩,?_⟩
 have k:V [a0,a1,a2,a3]*V b=a0*V b+18446744073709551616*(a1*V b+18446744073709551616*(a2*V b+18446744073709551616*(a3*V b))):=by
  rw [V4,Int.add_mul,Int.mul_assoc,Int.add_mul,Int.mul_assoc,Int.add_mul,Int.mul_assoc]
 have k2:V [r0,s0,t0,u0,u1,u2,u3,c3]=r0+18446744073709551616*(s0+18446744073709551616*(t0+18446744073709551616*(u0+18446744073709551616*(u1+18446744073709551616*(u2+18446744073709551616*(u3+18446744073709551616*c3)))))):=by simp [V]
 rw [k,k2];have g0:gI [a0,a1,a2,a3] 0*V b+(0+18446744073709551616*(0+18446744073709551616*(0+18446744073709551616*0)))=a0*V b:=by show a0*V b+_=_;omega
 have e0':r0+18446744073709551616*(r1+18446744073709551616*(r2+18446744073709551616*(r3+18446744073709551616*c0)))=a0*V b:=e0.trans g0;have e1':s0+18446744073709551616*(s1+18446744073709551616*(s2+18446744073709551616*(s3+18446744073709551616*c1)))=a1*V b+(r1+18446744073709551616*(r2+18446744073709551616*(r3+18446744073709551616*c0))):=e1;have e2':t0+18446744073709551616*(t1+18446744073709551616*(t2+18446744073709551616*(t3+18446744073709551616*c2)))=a2*V b+(s1+18446744073709551616*(s2+18446744073709551616*(s3+18446744073709551616*c1))):=e2;have e3':u0+18446744073709551616*(u1+18446744073709551616*(u2+18446744073709551616*(u3+18446744073709551616*c3)))=a3*V b+(t1+18446744073709551616*(t2+18446744073709551616*(t3+18446744073709551616*c2))):=e3;generalize a0*V b=y0 at *;generalize a1*V b=y1 at *;generalize a2*V b=y2 at *;generalize a3*V b=y3 at *;omega
theorem NV {A:Int × Int × Int→Int × Int} {M:Int × Int→Int × Int} (hA:Gn A) (hM:Jz M) {a:List Int} (ha:Wn 4 a) :
  V (eU (uI A M a) (zI,0) 4).1+115792089237316195423570985008687907853269984665640564039457584007913129639936*(eU (uI A M a) (zI,0) 4).2=V a*4294968273:=by
 obtain ⟨a0,a1,a2,a3,rfl,ha0,ha1,ha2,ha3⟩:=jj ha;have z:dp 0:=⟨aq,aq⟩;have c0:C1 0:=⟨aq,aq⟩;have ov:dp 4294968273:=⟨aq,aq⟩
 have one:∀ x c:Int,dp x→dp c→dp (A ((M (x,4294968273)).2,c,0)).1∧dp (IntKind.u64.wrap ((M (x,4294968273)).1+(A ((M (x,4294968273)).2,c,0)).2)) ∧
   (A ((M (x,4294968273)).2,c,0)).1+18446744073709551616*IntKind.u64.wrap ((M (x,4294968273)).1+(A ((M (x,4294968273)).2,c,0)).2)=x*4294968273+c:=by
  intro x c hx hc;obtain ⟨m1,m2,m3⟩:=hM (x,4294968273) ⟨hx,ov⟩;generalize M (x,4294968273)=m at *;obtain ⟨n1,n2,n3⟩:=hA (m.2,c,0) ⟨m2,hc,c0⟩;generalize A (m.2,c,0)=q at *;dsimp only at *;simp only [xP] at *;unfold dp C1 at *;refine ⟨n1,⟨aq,aq⟩,aq⟩
 obtain ⟨s1,s2,s3⟩:=one a0 0 ha0 z;obtain ⟨t1,t2,t3⟩:=one a1 _ ha1 s2;obtain ⟨u1,u2,u3⟩:=one a2 _ ha2 t2;obtain ⟨v1,v2,v3⟩:=one a3 _ ha3 u2;have g0:gI [a0,a1,a2,a3] 0=a0:=rfl;have g1:gI [a0,a1,a2,a3] 1=a1:=rfl;have g2:gI [a0,a1,a2,a3] 2=a2:=rfl;have g3:gI [a0,a1,a2,a3] 3=a3:=rfl;have e:∀ p q r s:Int,List.set (List.set (List.set (List.set zI 0 p) 1 q) 2 r) 3 s=[p,q,r,s]:=fun _ _ _ _=>rfl;simp only [eU,uI,g0,g1,g2,g3,e,V4];omega
theorem Yt:eV Tryz.prog 96=some (cI zI):=by kernel_rfl
attribute [go_sem] Yt
theorem RU:zI.length=4:=rfl
attribute [go_sem] RU eF B7
theorem xQ {Q:AV→Prop} {st:St} {a:List Int} {b:Int} (hq:Q (.tup [.agg (cI a),.d (.int .u64 b)])):dx Q (.tup [.agg (cI a),.d (.int .u64 b)]) st :=
 aa (by
  intro c hc;simp at hc;rcases hc with rfl | rfl
  ·exact .inr ⟨_,rfl,i6 _⟩
  ·exact .inl trivial) hq
theorem RV:∃ A:Int × Int × Int→Int × Int,Gn A∧∀ x,(dp x.1∧dp x.2.1∧C1 x.2.2)→dp (A x).1∧C1 (A x).2∧o7 Tryz.prog 162 [.d (.int .u64 x.1),.d (.int .u64 x.2.1),.d (.int .u64 x.2.2)] (.tup [.d (.int .u64 (A x).1),.d (.int .u64 (A x).2)]):=by
 obtain ⟨A,hA⟩:=pick (α:=Int × Int × Int) (β:=Int × Int) (A:=fun x=>dp x.1∧dp x.2.1∧C1 x.2.2) (B:=fun x y=>dp y.1∧C1 y.2∧y.1+18446744073709551616*y.2=x.1+x.2.1+x.2.2∧o7 Tryz.prog 162 [.d (.int .u64 x.1),.d (.int .u64 x.2.1),.d (.int .u64 x.2.2)] (.tup [.d (.int .u64 y.1),.d (.int .u64 y.2)])) (fun x hx=>by
  obtain ⟨s,d,h1,h2,h3,h4⟩:=Jv x.1 x.2.1 x.2.2 hx.1 hx.2.1 hx.2.2
  exact ⟨(s,d),h1,h2,h3,h4⟩)
 exact ⟨A,fun x hx=>⟨(hA x hx).1,(hA x hx).2.1,(hA x hx).2.2.1⟩,fun x hx=>⟨(hA x hx).1,(hA x hx).2.1,(hA x hx).2.2.2⟩⟩
theorem Yu:∃ A:Int × Int × Int→Int × Int,VL A∧∀ x,(dp x.1∧dp x.2.1∧C1 x.2.2)→dp (A x).1∧C1 (A x).2∧o7 Tryz.prog 179 [.d (.int .u64 x.1),.d (.int .u64 x.2.1),.d (.int .u64 x.2.2)] (.tup [.d (.int .u64 (A x).1),.d (.int .u64 (A x).2)]):=by
 obtain ⟨A,hA⟩:=pick (α:=Int × Int × Int) (β:=Int × Int) (A:=fun x=>dp x.1∧dp x.2.1∧C1 x.2.2) (B:=fun x y=>dp y.1∧C1 y.2∧y.1 - 18446744073709551616*y.2=x.1 - x.2.1 - x.2.2∧o7 Tryz.prog 179 [.d (.int .u64 x.1),.d (.int .u64 x.2.1),.d (.int .u64 x.2.2)] (.tup [.d (.int .u64 y.1),.d (.int .u64 y.2)])) (fun x hx=>by
  obtain ⟨s,d,h1,h2,h3,h4⟩:=Jw x.1 x.2.1 x.2.2 hx.1 hx.2.1 hx.2.2
  exact ⟨(s,d),h1,h2,h3,h4⟩)
 exact ⟨A,fun x hx=>⟨(hA x hx).1,(hA x hx).2.1,(hA x hx).2.2.1⟩,fun x hx=>⟨(hA x hx).1,(hA x hx).2.1,(hA x hx).2.2.2⟩⟩
theorem VM:∃ M:Int × Int→Int × Int,∀ x,dp (M x).1∧dp (M x).2∧(dp x.1∧dp x.2→(M x).2+18446744073709551616*(M x).1=x.1*x.2∧ax Tryz.prog 187 [.d (.int .u64 x.1),.d (.int .u64 x.2)] (fun r=>r=.tup [.d (.int .u64 (M x).1),.d (.int .u64 (M x).2)])):=by
 obtain ⟨M,hM⟩:=pick (α:=Int × Int) (β:=Int × Int) (A:=fun _=>True) (B:=fun x y=>dp y.1∧dp y.2∧(dp x.1∧dp x.2→y.2+18446744073709551616*y.1=x.1*x.2∧ax Tryz.prog 187 [.d (.int .u64 x.1),.d (.int .u64 x.2)] (fun r=>r=.tup [.d (.int .u64 y.1),.d (.int .u64 y.2)]))) (fun x _=>by
  by_cases hx:dp x.1∧dp x.2
  ·obtain ⟨s,d,h1,h2,h3,h4⟩:=Jy x.1 x.2 hx.1 hx.2;exact ⟨(s,d),h1,h2,fun _=>⟨h3,h4⟩⟩
  ·exact ⟨(0,0),tN,tN,fun h=>absurd h hx⟩)
 exact ⟨M,fun x=>hM x trivial⟩
theorem Eh {M:Int × Int→Int × Int} {C:Int × Int→Prop} (hM:∀ x,dp (M x).1∧dp (M x).2∧(dp x.1∧dp x.2→(M x).2+18446744073709551616*(M x).1=x.1*x.2∧C x)):Jz M :=
 fun x hx=>⟨(hM x).1,(hM x).2.1,((hM x).2.2 hx).1⟩
theorem nO (a b:List Int) (ha:Wn 4 a) (hb:Wn 4 b):∃ (s:List Int) (c:Int),Wn 4 s∧C1 c∧V s+115792089237316195423570985008687907853269984665640564039457584007913129639936*c=V a+V b∧ax Tryz.prog 131 [.agg (cI a),.agg (cI b)] (fun r=>r=.tup [.agg (cI s),.d (.int .u64 c)]):=by
 obtain ⟨A,hAV,hA⟩:=RV
 have hS:∀ k,Wn 4 (eU (lh A a b) (zI,0) k).1∧C1 (eU (lh A a b) (zI,0) k).2:=iZ (P:=fun _ (s:List Int × Int)=>Wn 4 s.1∧C1 s.2) ⟨jF,zT⟩ fun k s hs=>by
  obtain ⟨h1,h2,_⟩:=hA (gI a k,gI b k,s.2) ⟨cZ ha,cZ hb,hs.2⟩;exact ⟨oQ hs.1 h1,h2⟩
 refine ⟨(eU (lh A a b) (zI,0) 4).1,(eU (lh A a b) (zI,0) 4).2,(hS 4).1,(hS 4).2,Yr hAV ha hb,?_⟩;refine bO Tryz.func131 Tryz.ntmps131 (rs:=[.cell 4 96,.tmp 5]) (aK a b) ?_;have hal:=ha.1;have hbl:=hb.1;simp [go_sem,hal,hbl,ae hal,ae hbl];generalize hSS:eU (lh A a b) (zI,0)=S at *
 refine ar (fun k:Nat=>⟨[(2,.ptr 0 0 0 1),(3,.ptr 32 0 0 1),(4,.ptr 64 0 0 1),(6,.ptr 128 0 0 1),(7,.d (.int .u64 (S k).2)),(9,.d (.int .i64 (k:Int)))],[(128,⟨96,4,[cI (S k).1]⟩),(64,⟨96,4,[cI zI]⟩),(32,⟨96,4,[cI b]⟩),(0,⟨96,4,[cI a]⟩)],1000⟩)
  (fun k=>k≤4) (fun k=>4 - k) 0 aq (by
   rw [← hSS];simp [aA,ai,fv,lk,AV.low,AV.low1,eU]
   and_intros <;> first | rfl | exact bV _ _) ?_
 intro k hk;obtain ⟨hs1,hs2⟩:=hS k;have hsl:=hs1.1;have w3:=az (k:=k) aq;simp only [go_sem,Nat.reduceEqDiff,Nat.reduceAdd,Nat.reduceLT,↓reduceIte];by_cases h4:k<4
 ·refine ⟨fun h=>?_,fun h=>absurd (by exact_mod_cast h4) h⟩;have hka:=ji (l:=a) (k:=k) aq;have hkb:=ji (l:=b) (k:=k) aq;have hsn:S (k+1)=lh A a b k (S k):=by rw [← hSS];rfl
  obtain ⟨h1,h2,h3⟩:=hA (gI a k,gI b k,(S k).2) ⟨cZ ha,cZ hb,hs2⟩;simp only [lh] at hsn;generalize A (gI a k,gI b k,(S k).2)=y at *;have hk4:(k:Int)<4:=aq;refine ek [0,1,2,3,4,5,6,7] [8,11,13,14] [0,1,2,3,4,5,6,7,9,10,12] (.step 8 [9,10,12] true (.alt (bt 11 (a_ [13,14])) (a_ [13,11,14]))) ⟨[(2,.ptr 0 0 0 1),(3,.ptr 32 0 0 1),(4,.ptr 64 0 0 1),(6,.ptr 128 0 0 1),(7,.d (.int .u64 y.2)),(9,.d (.int .i64 (k:Int)))],[(128,⟨96,4,[cI ((S k).1.set k y.1)]⟩),(64,⟨96,4,[cI zI]⟩),(32,⟨96,4,[cI b]⟩),(0,⟨96,4,[cI a]⟩)],9000⟩ (k:=15) ?h3 ?hq
  case h3 =>
   intro G hG
   have hW:∀ fr:Fr,(fv 2 fr=.ptr 0 0 0 1∧fv 3 fr=.ptr 32 0 0 1∧fv 4 fr=.ptr 64 0 0 1∧fv 6 fr=.ptr 128 0 0 1∧fv 7 fr=.d (.int .u64 y.2)∧fv 9 fr=.d (.int .i64 (k:Int)))→G fr [(128,⟨96,4,[cI ((S k).1.set k y.1)]⟩),(64,⟨96,4,[cI zI]⟩),(32,⟨96,4,[cI b]⟩),(0,⟨96,4,[cI a]⟩)]:=by
    rintro fr ⟨e2,e3,e4,e6,e7,e9⟩;exact hG _ _ rS
   simp [go_sem,hka,hkb,hal,hbl,hsl,dM,hk4];refine qD h3 ?_;simp [go_sem,hka,hkb,hal,hbl,hsl,mV,dM,hk4];and_intros <;> first | exact h4 | exact hW _ ⟨rfl,rfl,rfl,rfl,rfl,rfl⟩ | (refine hW _ ?_;simp [fv,lk])
  case hq =>
   simp [go_sem,w3];refine ao (k+1) aq aq ?_;rw [hsn];simp [aA,ai,fv,lk,AV.low,AV.low1];and_intros <;> exact bV _ _
 ·refine ⟨fun h=>absurd (by exact_mod_cast h) h4,fun h=>?_⟩;have hk4:k=4:=aq;subst hk4;simp [go_sem,hsl,ae hsl,aZ (l:=zI) (n:=4) rfl,ah];exact xQ rfl
theorem pU (a b:List Int) (ha:Wn 4 a) (hb:Wn 4 b):∃ (s:List Int) (c:Int),Wn 4 s∧C1 c∧V s - 115792089237316195423570985008687907853269984665640564039457584007913129639936*c=V a - V b∧ax Tryz.prog 157 [.agg (cI a),.agg (cI b)] (fun r=>r=.tup [.agg (cI s),.d (.int .u64 c)]):=by
 obtain ⟨A,hAV,hA⟩:=Yu
 have hS:∀ k,Wn 4 (eU (lh A a b) (zI,0) k).1∧C1 (eU (lh A a b) (zI,0) k).2:=iZ (P:=fun _ (s:List Int × Int)=>Wn 4 s.1∧C1 s.2) ⟨jF,zT⟩ fun k s hs=>by
  obtain ⟨h1,h2,_⟩:=hA (gI a k,gI b k,s.2) ⟨cZ ha,cZ hb,hs.2⟩;exact ⟨oQ hs.1 h1,h2⟩
 refine ⟨(eU (lh A a b) (zI,0) 4).1,(eU (lh A a b) (zI,0) 4).2,(hS 4).1,(hS 4).2,Ys hAV ha hb,?_⟩;refine bO Tryz.func157 Tryz.ntmps157 (rs:=[.cell 4 96,.tmp 5]) (aK a b) ?_;have hal:=ha.1;have hbl:=hb.1;simp [go_sem,hal,hbl,ae hal,ae hbl];generalize hSS:eU (lh A a b) (zI,0)=S at *
 refine ar (fun k:Nat=>⟨[(2,.ptr 0 0 0 1),(3,.ptr 32 0 0 1),(4,.ptr 64 0 0 1),(6,.ptr 128 0 0 1),(7,.d (.int .u64 (S k).2)),(9,.d (.int .i64 (k:Int)))],[(128,⟨96,4,[cI (S k).1]⟩),(64,⟨96,4,[cI zI]⟩),(32,⟨96,4,[cI b]⟩),(0,⟨96,4,[cI a]⟩)],1000⟩)
  (fun k=>k≤4) (fun k=>4 - k) 0 aq (by
   rw [← hSS];simp [aA,ai,fv,lk,AV.low,AV.low1,eU]
   and_intros <;> first | rfl | exact bV _ _) ?_
 intro k hk;obtain ⟨hs1,hs2⟩:=hS k;have hsl:=hs1.1;have w3:=az (k:=k) aq;simp only [go_sem,Nat.reduceEqDiff,Nat.reduceAdd,Nat.reduceLT,↓reduceIte];by_cases h4:k<4
 ·refine ⟨fun h=>?_,fun h=>absurd (by exact_mod_cast h4) h⟩;have hka:=ji (l:=a) (k:=k) aq;have hkb:=ji (l:=b) (k:=k) aq;have hsn:S (k+1)=lh A a b k (S k):=by rw [← hSS];rfl
  obtain ⟨h1,h2,h3⟩:=hA (gI a k,gI b k,(S k).2) ⟨cZ ha,cZ hb,hs2⟩;simp only [lh] at hsn;generalize A (gI a k,gI b k,(S k).2)=y at *;have hk4:(k:Int)<4:=aq;refine ek [0,1,2,3,4,5,6,7] [8,11,13,14] [0,1,2,3,4,5,6,7,9,10,12] (.step 8 [9,10,12] true (.alt (bt 11 (a_ [13,14])) (a_ [13,11,14]))) ⟨[(2,.ptr 0 0 0 1),(3,.ptr 32 0 0 1),(4,.ptr 64 0 0 1),(6,.ptr 128 0 0 1),(7,.d (.int .u64 y.2)),(9,.d (.int .i64 (k:Int)))],[(128,⟨96,4,[cI ((S k).1.set k y.1)]⟩),(64,⟨96,4,[cI zI]⟩),(32,⟨96,4,[cI b]⟩),(0,⟨96,4,[cI a]⟩)],9000⟩ (k:=15) ?h3 ?hq
  case h3 =>
   intro G hG
   have hW:∀ fr:Fr,(fv 2 fr=.ptr 0 0 0 1∧fv 3 fr=.ptr 32 0 0 1∧fv 4 fr=.ptr 64 0 0 1∧fv 6 fr=.ptr 128 0 0 1∧fv 7 fr=.d (.int .u64 y.2)∧fv 9 fr=.d (.int .i64 (k:Int)))→G fr [(128,⟨96,4,[cI ((S k).1.set k y.1)]⟩),(64,⟨96,4,[cI zI]⟩),(32,⟨96,4,[cI b]⟩),(0,⟨96,4,[cI a]⟩)]:=by
    rintro fr ⟨e2,e3,e4,e6,e7,e9⟩;exact hG _ _ rS
   simp [go_sem,hka,hkb,hal,hbl,hsl,dM,hk4];refine qD h3 ?_;simp [go_sem,hka,hkb,hal,hbl,hsl,mV,dM,hk4];and_intros <;> first | exact h4 | exact hW _ ⟨rfl,rfl,rfl,rfl,rfl,rfl⟩ | (refine hW _ ?_;simp [fv,lk])
  case hq =>
   simp [go_sem,w3];refine ao (k+1) aq aq ?_;rw [hsn];simp [aA,ai,fv,lk,AV.low,AV.low1];and_intros <;> exact bV _ _
 ·refine ⟨fun h=>absurd (by exact_mod_cast h) h4,fun h=>?_⟩;have hk4:k=4:=aq;subst hk4;simp [go_sem,hsl,ae hsl,aZ (l:=zI) (n:=4) rfl,ah];exact xQ rfl
theorem PK (x y:Int):∀ v,v ∈ [AV.d (.int .u64 x),AV.d (.int .u64 y)]→v.deep:=by
 intro v hv;simp at hv;rcases hv with rfl | rfl <;> trivial
theorem vX (a:List Int) (ha:Wn 4 a):∃ (s:List Int) (c:Int),Wn 4 s∧dp c∧V s+115792089237316195423570985008687907853269984665640564039457584007913129639936*c=V a*4294968273∧ax Tryz.prog 238 [.agg (cI a)] (fun r=>r=.tup [.agg (cI s),.d (.int .u64 c)]):=by
 obtain ⟨A,hAV,hA⟩:=RV;obtain ⟨M,hM⟩:=VM
 have hS:∀ k,Wn 4 (eU (uI A M a) (zI,0) k).1∧dp (eU (uI A M a) (zI,0) k).2:=iZ (P:=fun _ (s:List Int × Int)=>Wn 4 s.1∧dp s.2) ⟨jF,tN⟩ fun k s hs=>by
  obtain ⟨h1,h2,_⟩:=hA ((M (gI a k,4294968273)).2,s.2,0) ⟨(hM _).2.1,hs.2,zT⟩;exact ⟨oQ hs.1 h1,NT _⟩
 refine ⟨(eU (uI A M a) (zI,0) 4).1,(eU (uI A M a) (zI,0) 4).2,(hS 4).1,(hS 4).2,NV hAV (Eh hM) ha,?_⟩;refine bO Tryz.func238 Tryz.ntmps238 (rs:=[.cell 2 96,.tmp 3]) (aR a) ?_;have hal:=ha.1;simp [go_sem,hal,ae hal];generalize hSS:eU (uI A M a) (zI,0)=S at *
 refine ar (fun k:Nat=>⟨[(1,.ptr 0 0 0 1),(2,.ptr 32 0 0 1),(4,.ptr 96 0 0 1),(5,.d (.int .u64 (S k).2)),(10,.d (.int .i64 (k:Int)))],[(96,⟨96,4,[cI (S k).1]⟩),(32,⟨96,4,[cI zI]⟩),(0,⟨96,4,[cI a]⟩)],1000⟩)
  (fun k=>k≤4) (fun k=>4 - k) 0 aq (by
   rw [← hSS];simp [aA,ai,fv,lk,AV.low,AV.low1,eU]
   and_intros <;> first | rfl | exact bV _ _) ?_
 intro k hk;obtain ⟨hs1,hs2⟩:=hS k;have hsl:=hs1.1;have w3:=az (k:=k) aq;simp only [go_sem,Nat.reduceEqDiff,Nat.reduceAdd,Nat.reduceLT,↓reduceIte];by_cases h4:k<4
 ·refine ⟨fun h=>?_,fun h=>absurd (by exact_mod_cast h4) h⟩;have hka:=ji (l:=a) (k:=k) aq;have hsn:S (k+1)=uI A M a k (S k):=by rw [← hSS];rfl
  obtain ⟨m1,m2,m3⟩:=hM (gI a k,4294968273);obtain ⟨h1,h2,h3⟩:=hA ((M (gI a k,4294968273)).2,(S k).2,0) ⟨m2,hs2,zT⟩;simp only [uI] at hsn;have hk4:(k:Int)<4:=aq;simp [go_sem,hka,hal,hsl,hk4];refine ag (m3 ⟨cZ ha,⟨aq,aq⟩⟩).2 (PK _ _) ?_;simp [go_sem,hka,hal,hsl,hk4];refine qD h3 ?_;generalize A ((M (gI a k,4294968273)).2,(S k).2,0)=y at *;generalize M (gI a k,4294968273)=z at *;simp [go_sem,hka,hal,hsl,hk4,mV,w3];refine ⟨h4,?_⟩;refine ao (k+1) aq aq ?_;rw [hsn];simp [aA,ai,fv,lk,AV.low,AV.low1];and_intros <;> exact bV _ _
 ·refine ⟨fun h=>absurd (by exact_mod_cast h) h4,fun h=>?_⟩;have hk4:k=4:=aq;subst hk4;simp [go_sem,hsl,ae hsl,aZ (l:=zI) (n:=4) rfl,ah];exact xQ rfl
theorem Yv:eV Tryz.prog 226=some (cI AO):=by kernel_rfl
attribute [go_sem] Yv
theorem NW:AO.length=8:=rfl
attribute [go_sem] NW
theorem B9 (a b:List Int) (ha:Wn 4 a) (hb:Wn 4 b):∃ (s:List Int),Wn 8 s∧V s=V a*V b∧ax Tryz.prog 163 [.agg (cI a),.agg (cI b)] (fun r=>r=.agg (cI s)):=by
 obtain ⟨A,hAV,hA⟩:=RV;obtain ⟨M,hM⟩:=VM
 have hI:∀ i p,Wn 8 p→∀ k,Wn 8 (eU (zU A M a b i) (p,0) k).1∧dp (eU (zU A M a b i) (p,0) k).2:=fun i p hp=>iZ (P:=fun _ (s:List Int × Int)=>Wn 8 s.1∧dp s.2) ⟨hp,tN⟩ fun k s hs=>by
  obtain ⟨h1,h2,_⟩:=hA ((M (gI a i,gI b k)).2,gI s.1 (pl i k),0) ⟨(hM _).2.1,cZ hs.1,zT⟩;obtain ⟨h3,h4,_⟩:=hA ((A ((M (gI a i,gI b k)).2,gI s.1 (pl i k),0)).1,s.2,0) ⟨h1,hs.2,zT⟩;exact ⟨oQ hs.1 h3,NT _⟩
 have hS:∀ i,Wn 8 (eU (pT A M a b) AO i):=iZ (P:=fun _ (s:List Int)=>Wn 8 s) VK fun i s hs=>oQ (hI i s hs 4).1 (hI i s hs 4).2;refine ⟨eU (pT A M a b) AO 4,hS 4,(JA hAV (Eh hM) ha hb).2,?_⟩;refine bO Tryz.func163 Tryz.ntmps163 (rs:=[.cell 4 226]) (aK a b) ?_;have hal:=ha.1;have hbl:=hb.1;simp [go_sem,hal,hbl,ae hal,ae hbl];generalize hSS:eU (pT A M a b) AO=S at *
 refine ar (fun i:Nat=>⟨[(2,.ptr 0 0 0 1),(3,.ptr 32 0 0 1),(4,.ptr 64 0 0 1),(5,.ptr 96 0 0 1),(12,.d (.int .i64 (i:Int)))],[(96,⟨226,8,[cI (S i)]⟩),(64,⟨226,8,[cI AO]⟩),(32,⟨96,4,[cI b]⟩),(0,⟨96,4,[cI a]⟩)],1000⟩)
  (fun k=>k≤4) (fun k=>4 - k) 0 aq (by
   rw [← hSS];simp [aA,ai,fv,lk,AV.low,AV.low1,eU]
   and_intros <;> first | rfl | exact bV _ _) ?_
 intro i hi;have hs1:=hS i;have w3:=az (k:=i) aq;simp only [go_sem,Nat.reduceEqDiff,Nat.reduceAdd,Nat.reduceLT,↓reduceIte];by_cases h4:i<4
 ·refine ⟨fun h=>?_,fun h=>absurd (by exact_mod_cast h4) h⟩;have hka:=ji (l:=a) (k:=i) aq;have hi4:(i:Int)<4:=aq;have hsn:S (i+1)=pT A M a b i (S i):=by rw [← hSS];rfl
  have hIi:=hI i (S i) hs1;unfold pT at hsn;generalize hTT:eU (zU A M a b i) (S i,0)=T at *;have hT0:T 0=(S i,0):=by rw [← hTT];rfl
  refine ar (fun k:Nat=>⟨[(2,.ptr 0 0 0 1),(3,.ptr 32 0 0 1),(4,.ptr 64 0 0 1),(5,.ptr 96 0 0 1),(12,.d (.int .i64 (i:Int))),(6,.d (.int .i64 (i:Int))),(7,.d (.int .u64 (T k).2)),(15,.d (.int .i64 (k:Int)))],[(96,⟨226,8,[cI (T k).1]⟩),(64,⟨226,8,[cI AO]⟩),(32,⟨96,4,[cI b]⟩),(0,⟨96,4,[cI a]⟩)],2000⟩)
   (fun k=>k≤4) (fun k=>4 - k) 0 aq (by
    rw [hT0];simp [aA,ai,fv,lk,AV.low,AV.low1]
    and_intros <;> first | rfl | exact bV _ _) ?_
  intro k hk;obtain ⟨ht1,ht2⟩:=hIi k;have htl:=ht1.1;have w4:=az (k:=k) aq;have hpl:pl i k=i+k:=rfl;have hp4:pl i 4=i+4:=rfl;have w5:IntKind.i64.wrap ((i:Int)+(k:Int))=(pl i k:Int):=by rw [hpl,IntWalk.i64_in _ aq];omega
  have w6:IntKind.i64.wrap ((i:Int)+4)=(pl i 4:Int):=by rw [hp4,IntWalk.i64_in _ aq];omega
  simp only [go_sem,Nat.reduceEqDiff,Nat.reduceAdd,Nat.reduceLT,↓reduceIte];by_cases h5:k<4
  ·refine ⟨fun h=>?_,fun h=>absurd (by exact_mod_cast h5) h⟩;have hkb:=ji (l:=b) (k:=k) aq;have hkt:=ji (l:=(T k).1) (k:=pl i k) aq;have hk4:(k:Int)<4:=aq;have hik:(pl i k:Int)<8:=aq;have hikn:pl i k<8:=aq;have htn:T (k+1)=zU A M a b i k (T k):=by rw [← hTT];rfl
   obtain ⟨m1,m2,m3⟩:=hM (gI a i,gI b k);obtain ⟨h1,h2,h3⟩:=hA ((M (gI a i,gI b k)).2,gI (T k).1 (pl i k),0) ⟨m2,cZ ht1,zT⟩;obtain ⟨q1,q2,q3⟩:=hA ((A ((M (gI a i,gI b k)).2,gI (T k).1 (pl i k),0)).1,(T k).2,0) ⟨h1,ht2,zT⟩;unfold zU at htn;generalize A ((A ((M (gI a i,gI b k)).2,gI (T k).1 (pl i k),0)).1,(T k).2,0)=y2 at *;generalize A ((M (gI a i,gI b k)).2,gI (T k).1 (pl i k),0)=y at *;generalize M (gI a i,gI b k)=z at *;refine cf [0,1,2,3,4,5] [(6,[7,8,9,10,11])] 1 (k:=12) ?_;intro G hG;simp [go_sem,hka,hkb,hal,hbl,hi4,hk4];refine ag (m3 ⟨cZ ha,cZ hb⟩).2 (PK _ _) ?_;simp [go_sem,hka,hkb,hal,hbl,hi4,hk4];refine hG _ _ ?_;clear hG G;simp [go_sem,hkt,htl,w5,hik]
   first | refine qD h3 ?_
   simp [go_sem,hkt,htl,w5,hik]
   first | refine qD q3 ?_
   simp [go_sem,hkt,htl,w5,hik,hikn,mV,w4]
   first | refine ao (k+1) aq aq ?_ | refine ⟨aq,ao (k+1) aq aq ?_⟩
   rw [htn];simp [aA,ai,fv,lk,AV.low,AV.low1];and_intros <;> exact bV _ _
  ·refine ⟨fun h=>absurd (by exact_mod_cast h) h5,fun h=>?_⟩;have hk4:k=4:=aq;subst hk4;have hi8:(pl i 4:Int)<8:=aq;have hi8n:pl i 4<8:=aq;simp [go_sem,htl,w6,hi8,hi8n,mV,w3]
   first | refine ao (i+1) aq aq ?_ | refine ⟨aq,ao (i+1) aq aq ?_⟩
   rw [hsn];simp [aA,ai,fv,lk,AV.low,AV.low1];and_intros <;> exact bV _ _
 ·refine ⟨fun h=>absurd (by exact_mod_cast h) h4,fun h=>?_⟩;have hk4:i=4:=aq;subst hk4;have hsl:=hs1.1;simp [go_sem,hsl,ae hsl,aZ (l:=AO) (n:=8) rfl,ah];exact aa (eN _) rfl
end Go.Proofs.YtmfnimjnneflnaaGreat
