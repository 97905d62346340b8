/-
 Part 9 of what the claim rests on.
-/
import Derived.Test.YtmfnimjnneflnaaGreatV6
import Derived.Test.YtmfnimjnneflnaaGreatV7
import Derived.Laws.Externs
import Derived.Laws.MathBits
import Derived.Laws.Bits64b
set_option linter.unusedVariables false
set_option linter.unusedSimpArgs false
set_option maxRecDepth 100000
set_option maxHeartbeats 16000000
namespace Go.Proofs.YtmfnimjnneflnaaGreat
open Go.Am Go.Sha
def Q2 (b:Bool):Int:=if b then 1 else 0
theorem Br (b:Bool):av Tryz.prog 259 [.d (.bool b)] (fun r=>r=.d (.int .i64 (Q2 b))):=by
 refine bK Tryz.func259 Tryz.ntmps259 (rs:=[.tmp 2]) a9 ?_
 cases b with
 | true =>
  simp [go_sem,ah,Q2];exact aa a9 rfl
 | false =>
  simp [go_sem,ah,Q2];exact aa a9 rfl
def lI (o:Option Int):AV:=.tup [.d (.int .i64 (o.getD 0)),.d (.bool o.isSome)]
def jO (o:Option Bool):AV:=.tup [.d (.bool (o.getD false)),.d (.bool o.isSome)]
theorem dc (o:Option Int):(lI o).deep:=by
 intro c hc;simp [lI] at hc;rcases hc with rfl | rfl <;> exact .inl trivial
theorem de (o:Option Bool):(jO o).deep:=by
 intro c hc;simp [jO] at hc;rcases hc with rfl | rfl <;> exact .inl trivial
theorem aO {v r:AV} {st:St} (h:v=r) (hd:r.deep):dk (fun x=>x=r) v st:=by
 subst h;exact aa hd rfl
theorem OV (op:Nat) (ho:op<256) (a:Int) (ha:-2147483648<a∧a<2147483648):av Tryz.prog 255 [.d (.int .u8 (op:Int)),.d (.int .i64 a)] (fun r=>r=lI (rR op a)):=by
 refine bK Tryz.func255 Tryz.ntmps255 (rs:=[.tmp 4,.tmp 5]) a9 ?_;simp [go_sem];by_cases h139:op=139
 ·subst h139;rw [show rR 139 a=some (a+1) from rfl];have w:IntKind.i64.wrap (a+1)=a+1:=IntWalk.i64_in _ aq;simp [go_sem,w,ah];exact aO rfl (dc _)
 have i139:¬ (op:Int)=139:=aq;simp [go_sem,h139,i139];by_cases h140:op=140
 ·subst h140;rw [show rR 140 a=some (a - 1) from rfl];have w:IntKind.i64.wrap (a - 1)=a - 1:=IntWalk.i64_in _ aq;simp [go_sem,w,ah];exact aO rfl (dc _)
 have i140:¬ (op:Int)=140:=aq;simp [go_sem,h140,i140];by_cases h143:op=143
 ·subst h143;rw [show rR 143 a=some (-a) from rfl];have w:IntKind.i64.wrap (0 - a)=-a:=by rw [IntWalk.i64_in _ aq];omega
  have w':IntKind.i64.wrap (-a)=-a:=IntWalk.i64_in _ aq;simp [go_sem,w,w',ah];exact aO rfl (dc _)
 have i143:¬ (op:Int)=143:=aq;simp [go_sem,h143,i143];by_cases h144:op=144
 ·subst h144;rw [show rR 144 a=some (max a (-a)) from rfl];have w:IntKind.i64.wrap (0 - a)=-a:=by rw [IntWalk.i64_in _ aq];omega
  have w':IntKind.i64.wrap (-a)=-a:=IntWalk.i64_in _ aq;have hm:(if a < -a then -a else a)=max a (-a):=aq;simp [go_sem,w,w',Wv,hm,ah];exact aO rfl (dc _)
 have i144:¬ (op:Int)=144:=aq;simp [go_sem,h144,i144];by_cases h145:op=145
 ·subst h145;rw [show rR 145 a=some (if a=0 then 1 else 0) from rfl];simp [go_sem];refine ag (Br _) a9 ?_;simp [go_sem,ah];exact aO (by by_cases h:a=0 <;> simp [lI,Q2,h]) (dc _)
 have i145:¬ (op:Int)=145:=aq;simp [go_sem,h145,i145];by_cases h146:op=146
 ·subst h146;rw [show rR 146 a=some (if a=0 then 0 else 1) from rfl];simp [go_sem];refine ag (Br _) a9 ?_;simp [go_sem,ah];exact aO (by by_cases h:a=0 <;> simp [lI,Q2,h]) (dc _)
 have i146:¬ (op:Int)=146:=aq;have hn:rR op a=none:=by simp [rR,h139,h140,h143,h144,h145,h146]
 rw [hn];simp [go_sem,h146,i146,ah];exact aO rfl (dc _)
theorem UY (op:Nat) (ho:op<256) (a:Int) (ha:-2147483648<a∧a<2147483648) (b:Int) (hb:-2147483648<b∧b<2147483648):av Tryz.prog 260 [.d (.int .u8 (op:Int)),.d (.int .i64 a),.d (.int .i64 b)] (fun r=>r=jO (Aq op a b)):=by
 refine bK Tryz.func260 Tryz.ntmps260 (rs:=[.tmp 6,.tmp 7]) a9 ?_;simp [go_sem];by_cases h154:op=154
 ·subst h154;rw [show Aq 154 a b=some (decide (a ≠ 0) && decide (b ≠ 0)) from rfl];by_cases ha0:a=0
  ·simp [go_sem,ha0,ah];exact aO (by simp [jO]) (de _)
  ·simp [go_sem,ha0,ah];exact aO (by simp [jO]) (de _)
 have i154:¬ (op:Int)=154:=aq;simp [go_sem,h154,i154];by_cases h155:op=155
 ·subst h155;rw [show Aq 155 a b=some (decide (a ≠ 0) || decide (b ≠ 0)) from rfl];by_cases ha0:a=0
  ·simp [go_sem,ha0,ah];exact aO (by simp [jO]) (de _)
  ·simp [go_sem,ha0,ah];exact aO (by simp [jO]) (de _)
 have i155:¬ (op:Int)=155:=aq;simp [go_sem,h155,i155];by_cases h156:op=156
 ·subst h156;rw [show Aq 156 a b=some (decide (a=b)) from rfl];simp [go_sem,ah];exact aO (by simp [jO]) (de _)
 have i156:¬ (op:Int)=156:=aq;simp [go_sem,h156,i156];by_cases h157:op=157
 ·subst h157;rw [show Aq 157 a b=some (decide (a=b)) from rfl];simp [go_sem,ah];exact aO (by simp [jO]) (de _)
 have i157:¬ (op:Int)=157:=aq;simp [go_sem,h157,i157];by_cases h158:op=158
 ·subst h158;rw [show Aq 158 a b=some (decide (a ≠ b)) from rfl];simp [go_sem,ah];exact aO (by simp [jO]) (de _)
 have i158:¬ (op:Int)=158:=aq;simp [go_sem,h158,i158];by_cases h159:op=159
 ·subst h159;rw [show Aq 159 a b=some (decide (a<b)) from rfl];simp [go_sem,ah];exact aO (by simp [jO]) (de _)
 have i159:¬ (op:Int)=159:=aq;simp [go_sem,h159,i159];by_cases h160:op=160
 ·subst h160;rw [show Aq 160 a b=some (decide (b<a)) from rfl];simp [go_sem,ah];exact aO (by simp [jO]) (de _)
 have i160:¬ (op:Int)=160:=aq;simp [go_sem,h160,i160];by_cases h161:op=161
 ·subst h161;rw [show Aq 161 a b=some (decide (a≤b)) from rfl];simp [go_sem,ah];exact aO (by simp [jO]) (de _)
 have i161:¬ (op:Int)=161:=aq;simp [go_sem,h161,i161];by_cases h162:op=162
 ·subst h162;rw [show Aq 162 a b=some (decide (b≤a)) from rfl];simp [go_sem,ah];exact aO (by simp [jO]) (de _)
 have i162:¬ (op:Int)=162:=aq;have hn:Aq op a b=none:=by simp [Aq,h154,h155,h156,h157,h158,h159,h160,h161,h162]
 rw [hn];simp [go_sem,h162,i162,ah];exact aO rfl (de _)
theorem OW (op:Nat) (ho:op<256) (a:Int) (ha:-2147483648<a∧a<2147483648) (b:Int) (hb:-2147483648<b∧b<2147483648):av Tryz.prog 256 [.d (.int .u8 (op:Int)),.d (.int .i64 a),.d (.int .i64 b)] (fun r=>r=lI (sX op a b)):=by
 refine bK Tryz.func256 Tryz.ntmps256 (rs:=[.tmp 6,.tmp 7]) a9 ?_;simp [go_sem];by_cases h147:op=147
 ·subst h147;rw [show sX 147 a b=some (a+b) from rfl];have w:IntKind.i64.wrap (a+b)=a+b:=IntWalk.i64_in _ aq;simp [go_sem,w,ah];exact aO rfl (dc _)
 have i147:¬ (op:Int)=147:=aq;simp [go_sem,h147,i147];by_cases h148:op=148
 ·subst h148;rw [show sX 148 a b=some (a - b) from rfl];have w:IntKind.i64.wrap (a - b)=a - b:=IntWalk.i64_in _ aq;simp [go_sem,w,ah];exact aO rfl (dc _)
 have i148:¬ (op:Int)=148:=aq;simp [go_sem,h148,i148];by_cases h163:op=163
 ·subst h163;rw [show sX 163 a b=some (min a b) from rfl];have hm:(if b<a then b else a)=min a b:=aq;simp [go_sem,Xv,hm,ah];exact aO rfl (dc _)
 have i163:¬ (op:Int)=163:=aq;simp [go_sem,h163,i163];by_cases h164:op=164
 ·subst h164;rw [show sX 164 a b=some (max a b) from rfl];have hm:(if a<b then b else a)=max a b:=aq;simp [go_sem,Wv,hm,ah];exact aO rfl (dc _)
 have i164:¬ (op:Int)=164:=aq;have hn:sX op a b=(Aq op a b).map fun v=>if v then 1 else 0:=by simp [sX,h147,h148,h163,h164]
 rw [hn];simp [go_sem,h164,i164];refine ag (UY op ho a ha b hb) a9 ?_;simp [go_sem,jO];refine ag (Br _) a9 ?_;simp [go_sem,ah]
 exact aO (by cases Aq op a b with
  | none=>simp [lI,Q2]
  | some v=>cases v <;> simp [lI,Q2]) (dc _)
def iZ (l:List Int):List (List AV):=l.map fun v=>[.d (.int .i64 v)]
theorem IJ (ρ:Nat→Nat) (l:List Int):aR ρ (iZ l)=iZ l:=by
 simp only [aR,iZ,List.map_map];exact List.map_congr_left fun v _=>rfl
theorem IK (l:List Int):(iZ l).length=l.length:=by simp [iZ]
theorem tf (n:Nat) (l:List Int):∀ r,r ∈ iZ l→∀ v,v ∈ r→v.low1 n:=by
 intro r hr v hv;obtain ⟨x,_,rfl⟩:=List.mem_map.1 hr;simp only [et,List.mem_nil_iff,or_false] at hv;subst hv;trivial
def OX (g:FuncId) (C:Nat) (ty:TypeId) (s:McS) (ars:List AV) (R:List Int→McS→Prop):Prop :=
 cC Tryz.prog g 3 (gA 3 bm s id) ars (fun r hp'=>∃ vs s',R vs s'∧r=.own C 0 vs.length vs.length∧lk C hp'=some ⟨ty,1,iZ vs⟩∧rI 3 bm s' id hp')
theorem IL {N C:Nat} {Pp:Hp} {g:FuncId} {ty:TypeId} {s:McS} {ars:List AV} {R:List Int→McS→Prop} {K:AV→Hp→Prop} (h:OX g C ty s (.ptr 0 0 0 1 :: ars) R) (hC:3≤C) (hN:3≤N) (hP:∀ p,p ∈ Pp→p.1<N∧3≤p.1) (has:∀ ρ,AV.renL ρ ars=ars)
  (hK:∀ vs s',R vs s'→K (.own N 0 vs.length vs.length) ((N,⟨ty,1,iZ vs⟩) :: (Pp ++ gA 3 bm s' id))):rM Tryz.prog g (.ptr 0 0 0 1 :: ars) (Pp ++ gA 3 bm s id) N K:=by
 have hid:∀ j,j<3→bO (jL 3 id id) 3 (id j)=j:=fun j hj=>rS id 3 (aQ 3) hj;have hnw:cK (jL 3 id id) [(C,0)]=true:=Bg hC
 have hix:rI 3 bm s id (Pp ++ gA 3 bm s id):=fun j hj=>by
  rw [lh]
  cases hl:lk (id j) Pp with
  | none=>exact wT _ (aQ 3) hj
  | some x=>have:=(hP _ (bG hl)).2;exact absurd hj (by show ¬ j<3;simp [id] at this;omega)
 refine .inl (nl (n:=3) (b0:=bm s id) id h (fun i x hi=>Dc i x hi) (aQ 3) (fun i hi=>by show i<N;omega) (fun j hj=>⟨_,hix j hj,bC.2 _ _ _ hj,(bC.1 s id _ id j hj hid).symm⟩) ?_ [(C,0)] hnw ?_)
 ·rw [AV.renL,has,AV.ren];rfl
 rintro r hp' ⟨vs,s',hR,rfl,hrow,hs'⟩ hpX q1 q2 q3;have hro:∀ j,j<3→vi 3 id [(C,0)] N (id j)=id j:=fun j hj=>wU hnw hj;have hrn:vi 3 id [(C,0)] N C=N:=wV (c:=C) (j:=0) hnw (d7 ..);refine ⟨(N,⟨ty,1,iZ vs⟩) :: (Pp ++ gA 3 bm s' id),fun i x hi=>?_,?_⟩
 ·rw [mS] at hi
  split at hi
  ·rename_i e;subst e
   cases hi
   have:=q2 C 0 aw _ hrow;rw [Blk.ren,IJ] at this;exact this
  ·rw [lh] at hi
   cases hl:lk i Pp with
   | some x' =>
    rw [hl] at hi
    cases hi
    obtain ⟨p1,p2⟩:=hP _ (bG hl);rw [q3 i p1 (fun j hj=>by show j ≠ i;simp at p2;omega),lh,hl]
   | none =>
    rw [hl] at hi;obtain ⟨j,hj',e⟩:=lg.1 (bG hi)
    cases e
    have:=q1 j hj' _ (hs' j hj');rw [bC.1 s' id _ id j hj' hro] at this;exact this
 ·rw [AV.ren,hrn];exact hK vs s' hR
theorem Dt:∀ (k:Nat) (x:Int) (tl:List Int),(iZ (List.replicate (k+1) 0 ++ tl)).set k [.d (.int .i64 x)]=iZ (List.replicate k 0 ++ x :: tl)
 | 0,x,tl=>by simp [iZ]
 | k+1,x,tl=>by
  have h:=Dt k x tl;rw [List.replicate_succ,List.cons_append];show [.d (.int .i64 0)] :: (iZ (List.replicate (k+1) 0 ++ tl)).set k [.d (.int .i64 x)]=_;rw [h];rfl
theorem ti (m:Mc) (Q:bc→Prop) (h:∀ x,x ∈ m.main→Q x) (hl:m.main.length≤1000):(∀ x,x ∈ (db m).2.main→Q x)∧(db m).2.main.length≤1000∧((aL 1 m).e=0→(db m).1 ∈ m.main):=by
 by_cases h1:(aL 1 m).e=0
 ·obtain ⟨l,x,hm,hp,h2⟩:=xh h1;rw [hp,hm];refine ⟨fun y hy=>h y (by rw [hm];exact List.mem_append_left _ hy),?_,fun _=>aw⟩;rw [hm] at hl;simp at hl ⊢;omega
 ·have hp:db m=([],aL 1 m):=if_neg h1;rw [hp];simp only [(nu 1 m).1];exact ⟨h,hl,fun h=>absurd h h1⟩
theorem qI (most:Nat) (x:bc) (m:Mc):(fa most x m).2.main=m.main:=by
 unfold fa
 split
 ·cases fJ most x with
  | none=>simp only;unfold gn;split <;> rfl
  | some n=>rfl
 ·rfl
theorem xi (n:Nat) (hn:n≤3) (hn0:1≤n) (m:Mc) (J H:List Jk) (hl:m.main.length≤1000) (hx:∀ x,x ∈ m.main→x.length≤1000000) (hb:∀ x,x ∈ m.main→bytes x) :
  OX 254 68 2 ⟨m,J,H⟩ [.ptr 0 0 0 1,.d (.int .i64 (n:Int))] (fun vs s'=>vs=(dm n m).1∧∃ J',s'=⟨(dm n m).2,J',H⟩):=by
 refine al Tryz.func254 (by kernel_rfl) rfl Tryz.ntmps254 (rs:=[.tmp 4]) rfl (dS rfl) (by decide) ?_;obtain ⟨main,alt,e⟩:=m;simp only at hl hx hb;rw [bL];simp only [bm,id];simp [go_sem];refine ⟨aq,aq,aq,?_⟩;refine dG (Pp:=[(68,⟨2,1,List.replicate n [.d (.int .i64 0)]⟩)]) (s:=⟨⟨main,alt,e⟩,J,H⟩) (ki ⟨main,alt,e⟩ J H n) aq aw (by simp [AV.renL,AV.ren]) ?_;rintro v s' ρ ⟨rfl,rfl⟩ hρ;by_cases h:(aL n ⟨main,alt,e⟩).e=0
 ·obtain ⟨h1,h2,h3⟩:=gB h;simp only at h1 h2;subst h2;have hv:dm n ⟨main,alt,0⟩=lN n ⟨main,alt,0⟩:=if_pos h;rw [hv,h3];simp only [bL,bm,id];have w1:IntKind.i64.wrap ((n:Int) - 1)=(n:Int) - 1:=IntWalk.i64_in _ aq;simp [go_sem,AV.ren,w1]
  refine ax (fun u:Nat × List Int × Mc × List Jk=>⟨[(0,.ptr 0 0 0 1),(5,.own 68 0 n n),(6,.d (.int .i64 ((u.1:Int) - 1)))],
   [(68,⟨2,1,iZ (List.replicate u.1 0 ++ u.2.1)⟩),(0,⟨283,3,[[.own 1 0 u.2.2.1.main.length (u.2.2.1.main.length+u.2.2.2.length),.own 2 0 u.2.2.1.alt.length (u.2.2.1.alt.length+H.length),.d (.int .i64 u.2.2.1.e)]]⟩),(1,⟨31,1,cG u.2.2.1.main u.2.2.2⟩),(2,⟨31,1,cG u.2.2.1.alt H⟩)],9000⟩)
   (fun u=>u.1+u.2.1.length=n∧lN n ⟨main,alt,0⟩=((lN u.1 u.2.2.1).1 ++ u.2.1,(lN u.1 u.2.2.1).2)∧u.2.2.1.main.length≤1000∧(∀ x,x ∈ u.2.2.1.main→x.length≤1000000∧bytes x)) (fun u=>u.1) (n,[],⟨main,alt,0⟩,J)
   ⟨aw,aw,hl,fun x h=>⟨hx x h,hb x h⟩⟩
   ⟨by simp [ai,fv,lk,AV.low,AV.low1],List.forall_mem_cons.2 ⟨⟨.inl (by simp [lk,iZ]),by show 68<9000;omega,tf _ _⟩,Ih (m:=⟨main,alt,0⟩) rfl rfl rfl (dS rfl) trivial⟩,aw⟩ ?_
  rintro ⟨k,tl,m,K⟩ ⟨hk,ho,hml,hmx⟩;simp only at hk ho hml hmx;simp only [go_sem,Nat.reduceEqDiff,Nat.reduceAdd,Nat.reduceLT,↓reduceIte,Nat.reduceMul];refine ⟨fun hh=>?_,fun hh=>?_⟩
  ·obtain ⟨k,rfl⟩:∃ k',k=k'+1:=⟨k - 1,aq⟩;have hkn:k<n:=aq;have hkn2:(k:Int)<(n:Int):=aq
   have hgk:(iZ (List.replicate (k+1) 0 ++ tl))[k]?=some [.d (.int .i64 0)]:=by
    simp only [iZ,c_];rw [List.getElem?_append_left aw,List.getElem?_replicate,if_pos aq];rfl
   have hgg:∀ h:k<(iZ (List.replicate (k+1) 0 ++ tl)).length,(iZ (List.replicate (k+1) 0 ++ tl))[k]=[.d (.int .i64 0)]:=fun h=>Option.some.inj ((cm h).symm.trans hgk);have hkk:((k+1:Nat):Int) - 1=(k:Int):=aq;rw [hkk];have hset:=fun x=>Dt k x tl;have hrl:(iZ (List.replicate (k+1) 0 ++ tl)).length=n:=by rw [IK];simp;omega
   generalize iZ (List.replicate (k+1) 0 ++ tl)=row at *;refine dG (Pp:=[(68,⟨2,1,row⟩)]) (s:=⟨m,K,H⟩) (vj m K H aq) aq aw (by simp [AV.renL,AV.ren]) ?_;rintro v s' ρ ⟨rfl,K',rfl⟩ hρ;obtain ⟨ps1,ps2,ps3⟩:=ti m _ hmx hml;have hq:lN (k+1) m=((lN k (fa 4 (db m).1 (db m).2).2).1 ++ [(fa 4 (db m).1 (db m).2).1],(lN k (fa 4 (db m).1 (db m).2).2).2):=rfl;rw [hq] at ho;by_cases hp:(aL 1 m).e=0
   ·rw [if_pos hp];obtain ⟨hx1,hx2⟩:=hmx _ (ps3 hp);generalize db m=p at *;obtain ⟨x,m1⟩:=p;simp only [bL,bm,id];simp [go_sem,AV.ren];refine dG (Pp:=[(68,⟨2,1,row⟩)]) (s:=⟨m1,K',H⟩) (Iu m1 K' H 4 x hx2 (by decide) hx1) aq aw (by simp [AV.renL,AV.ren,nb]) ?_;rintro v s' ρ ⟨rfl,rfl⟩ hρ;have hrm:=qI 4 x m1;simp only at ho ps1 ps2;generalize fa 4 x m1=r at *;obtain ⟨r1,m2⟩:=r;simp only at hrm ho;simp only [bL,bm,id];simp [go_sem,AV.ren,hkn,hkn2,hgk,hgg,hrl,hset];have wk:IntKind.i64.wrap ((k:Int) - 1)=(k:Int) - 1:=IntWalk.i64_in _ aq;refine ap (k,r1 :: tl,m2,K') ⟨by simp;omega,by rw [ho];simp,by show m2.main.length≤1000;rw [hrm];exact ps2,by intro x hx;exact ps1 x (by rw [← hrm];exact hx)⟩ (by show k<k+1;omega) ⟨by simp [ai,fv,lk,AV.low,AV.low1,wk],List.forall_mem_cons.2 ⟨⟨.inl rfl,by show 68<9000;omega,tf _ _⟩,Ih (m:=m2) rfl rfl rfl (dS rfl) trivial⟩,aw⟩
   ·rw [if_neg hp];have hpm:db m=([],aL 1 m):=if_neg hp;rw [hpm] at ho ps1 ps2 ⊢;generalize aL 1 m=m1 at *;have hr0:fa 4 [] m1=(0,m1):=if_neg hp;simp only [hr0] at ho;simp only [bL,bm,id];simp [go_sem,AV.ren];refine dG (Pp:=[(68,⟨2,1,row⟩)]) (s:=⟨m1,K',H⟩) (Do m1 K' H 4 hp) aq aw (by simp [AV.renL,AV.ren,nb]) ?_;rintro v s' ρ ⟨rfl,rfl⟩ hρ;simp only [bL,bm,id];simp [go_sem,AV.ren,hkn,hkn2,hgk,hgg,hrl,hset];have wk:IntKind.i64.wrap ((k:Int) - 1)=(k:Int) - 1:=IntWalk.i64_in _ aq;refine ap (k,0 :: tl,m1,K') ⟨by simp;omega,by rw [ho];simp,ps2,ps1⟩ (by show k<k+1;omega) ⟨by simp [ai,fv,lk,AV.low,AV.low1,wk],List.forall_mem_cons.2 ⟨⟨.inl rfl,by show 68<9000;omega,tf _ _⟩,Ih (m:=m1) rfl rfl rfl (dS rfl) trivial⟩,aw⟩
  ·obtain rfl:k=0:=aq;have hz:lN 0 m=([],m):=rfl;rw [hz] at ho;rw [ho];simp [go_sem,ah];exact ⟨tl,_,⟨rfl,K,rfl⟩,aq,rfl,aU rfl rfl rfl⟩
 ·have hv:dm n ⟨main,alt,e⟩=(List.replicate n 0,aL n ⟨main,alt,e⟩):=if_neg h;rw [hv];generalize aL n ⟨main,alt,e⟩=m1 at *;simp only [bL,bm,id];simp [go_sem,AV.ren,h,ah];exact ⟨_,_,⟨rfl,J,rfl⟩,aw,by simp [lk,iZ],aU rfl rfl rfl⟩
theorem Du {b:bc} {n:Int} (hb:bytes b) (h:fJ 4 b=some n):-2147483648<n∧n<2147483648:=by
 unfold fJ at h
 split at h
 ·rename_i h1;obtain rfl:=Option.some.inj h;have hl:b.length≤4:=aq;rcases eg b with rfl | ⟨a,x,rfl⟩
  ·decide
  ·have hx:x<256:=hb x aw;have ha:=qE (b:=a) (fun y hy=>hb y (List.mem_append_left _ hy));simp at hl;rw [nk];have hc:a.length=0 ∨ a.length=1 ∨ a.length=2 ∨ a.length=3:=aq;rcases hc with e | e | e | e <;> rw [e] at ha ⊢ <;> simp at ha ⊢ <;> split <;> omega
 ·cases h
def i31 (v:Int):Prop:=-2147483648<v∧v<2147483648
theorem IM {x:bc} {m:Mc} (hb:bytes x):i31 (fa 4 x m).1:=by
 unfold fa
 split
 ·cases h:fJ 4 x with
  | none=>exact ⟨aw,aw⟩
  | some n=>exact Du hb h
 ·exact ⟨aw,aw⟩
theorem Dv:∀ (k:Nat) (m:Mc),(∀ x,x ∈ m.main→bytes x)→m.main.length≤1000→(lN k m).1.length=k∧∀ v,v ∈ (lN k m).1→i31 v
 | 0,m,_,_=>⟨rfl,fun v h=>by cases h⟩
 | k+1,m,hb,hl=>by
  obtain ⟨p1,p2,p3⟩:=ti m _ hb hl
  have hx:bytes (db m).1:=by
   by_cases h:(aL 1 m).e=0
   ·exact hb _ (p3 h)
   ·rw [show db m=([],aL 1 m) from if_neg h];intro x hx;cases hx
  have hr:=IM (m:=(db m).2) hx;have hs:=qI 4 (db m).1 (db m).2;obtain ⟨i1,i2⟩:=Dv k (fa 4 (db m).1 (db m).2).2 (by rw [hs];exact p1) (by rw [hs];exact p2);rw [lN];refine ⟨by simp [i1],fun v hv=>?_⟩;rcases cL.1 hv with h | h
  ·exact i2 v h
  ·simp at h;subst h;exact hr
theorem tj (n:Nat) (m:Mc) (hb:∀ x,x ∈ m.main→bytes x) (hl:m.main.length≤1000):(dm n m).1.length=n∧∀ v,v ∈ (dm n m).1→i31 v:=by
 unfold dm
 split
 ·exact Dv n m hb hl
 ·refine ⟨aw,fun v hv=>?_⟩;rw [List.mem_replicate] at hv;rw [hv.2];exact ⟨by decide,by decide⟩
theorem zq:∀ (k:Nat) (m:Mc),m.main.length≤1000→(lN k m).2.main.length≤1000
 | 0,m,h=>h
 | k+1,m,h=>by
  rw [lN];refine zq k _ ?_;rw [qI];exact (ti m (fun _=>True) (fun _ _=>trivial) h).2.1
theorem qJ (n:Nat) (m:Mc) (hl:m.main.length≤1000):(dm n m).2.main.length≤1000:=by
 unfold dm
 split
 ·exact zq n m hl
 ·rw [(nu n m).1];exact hl
theorem IN (op:Nat) (a:Int):(rR op a).isSome=(rR op 0).isSome:=by
 unfold rR;repeat' split <;> try rfl
theorem Q3 (op:Nat) (a:Int) (h:i31 a):-4294967296<(rR op a).getD 0∧(rR op a).getD 0<4294967296:=by
 obtain ⟨h1,h2⟩:=h;unfold rR
 repeat' split
 all_goals simp only [Option.getD_some,Option.getD_none]
 all_goals omega
theorem Q4 (op:Nat) (a b:Int) (h:i31 a) (k:i31 b):-4294967297<(sX op a b).getD 0∧(sX op a b).getD 0<4294967297:=by
 obtain ⟨h1,h2⟩:=h;obtain ⟨k1,k2⟩:=k;unfold sX
 split
 ·simp only [Option.getD_some];omega
 ·split
  ·simp only [Option.getD_some];omega
  ·split
   ·simp only [Option.getD_some];omega
   ·split
    ·simp only [Option.getD_some];omega
    ·cases Aq op a b with
     | none=>simp
     | some v=>cases v <;> simp
theorem FI (m:Mc) (J H:List Jk) (op:Nat) (ho:op<256) (hl:m.main.length≤1000) (hx:∀ x,x ∈ m.main→x.length≤1000000) (hb:∀ x,x ∈ m.main→bytes x):cJ Tryz.prog 3 bm 237 ⟨m,J,H⟩ [.ptr 0 0 0 1,.d (.int .u8 (op:Int))]
  (fun v s'=>v=.d (.bool (nK op m).isSome)∧∃ J',s'=⟨(nK op m).getD m,J',H⟩):=by
 refine al Tryz.func237 (by kernel_rfl) rfl Tryz.ntmps237 (rs:=[.tmp 4]) rfl (dS rfl) (by decide) ?_;obtain ⟨main,alt,e⟩:=m;simp only at hl hx hb;rw [bL];simp only [bm,id];simp [go_sem];by_cases h165:op=165
 ·subst h165;have hv:nK 165 ⟨main,alt,e⟩=some (dO [iw (decide ((dm 3 ⟨main,alt,e⟩).1.getD 1 0≤(dm 3 ⟨main,alt,e⟩).1.getD 0 0) && decide ((dm 3 ⟨main,alt,e⟩).1.getD 0 0<(dm 3 ⟨main,alt,e⟩).1.getD 2 0))] (dm 3 ⟨main,alt,e⟩).2):=rfl;rw [hv];simp [go_sem];refine IL (Pp:=[]) (s:=⟨⟨main,alt,e⟩,J,H⟩) (xi 3 (by decide) (by decide) ⟨main,alt,e⟩ J H hl hx hb) (by decide) aq aw (by simp [AV.renL,AV.ren]) ?_;rintro vs s' ⟨rfl,J',rfl⟩;obtain ⟨ln,bd⟩:=tj 3 ⟨main,alt,e⟩ hb hl;have ml:=qJ 3 ⟨main,alt,e⟩ hl;generalize dm 3 ⟨main,alt,e⟩=p at *;obtain ⟨vs,m1⟩:=p;simp only at ln bd ml
  match vs,ln with
  | [a,b,c],_ =>
   simp only [bL,bm,id];simp [go_sem,iZ];have hfl:∀ b:Bool,(iw b).length≤1:=fun b=>by cases b <;> decide
   by_cases hba:b≤a
   ·
    refine b7 [0,1,2,3,4,5,6,7,8,9,10,11,12,13,14,15,16] [(17,[]),(18,[]),(19,[])] 2 (k:=20) ?_;intro G hG;simp [go_sem,hba];refine ag (lm _) (by intro v hv;simp at hv;subst hv;trivial) ?_;generalize hyq:iw (decide (a<c))=y;have hyl:y.length≤1:=by rw [← hyq];exact hfl _
    simp [go_sem]
    refine cj [772] [] (args':=[.ptr 0 0 0 1,.d (.ro 1 [[nb y]])]) bC id (fA m1 J' H y aq aq) (aQ 3) (fun j hj=>by show j<804;omega) (by simp [bL,bm,aD,lk]) rfl
     (fS rfl) aw rfl ?_
    rintro v s' ρ ⟨J2,rfl⟩ hρ;simp only [bL,bm,dO,id];simp [go_sem];refine hG _ _ ?_;clear hG G;simp [go_sem,ah];exact ⟨⟨⟨m1.main ++ [y],m1.alt,m1.e⟩,J2,H⟩,⟨J2,by simp [dO,hba,hyq]⟩,aU (by simp [lk]) rfl rfl⟩
   ·
    refine b7 [0,1,2,3,4,5,6,7,8,9,10,11,12,13,14,15,16] [(17,[]),(18,[]),(19,[])] 2 (k:=20) ?_;intro G hG;simp [go_sem,hba];refine ag (lm _) (by intro v hv;simp at hv;subst hv;trivial) ?_;generalize hyq:iw false=y;have hyl:y.length≤1:=by rw [← hyq];exact hfl _
    simp [go_sem]
    refine cj [772] [] (args':=[.ptr 0 0 0 1,.d (.ro 1 [[nb y]])]) bC id (fA m1 J' H y aq aq) (aQ 3) (fun j hj=>by show j<804;omega) (by simp [bL,bm,aD,lk]) rfl
     (fS rfl) aw rfl ?_
    rintro v s' ρ ⟨J2,rfl⟩ hρ;simp only [bL,bm,dO,id];simp [go_sem];refine hG _ _ ?_;clear hG G;simp [go_sem,ah];exact ⟨⟨⟨m1.main ++ [y],m1.alt,m1.e⟩,J2,H⟩,⟨J2,by simp [dO,hba,hyq]⟩,aU (by simp [lk]) rfl rfl⟩
 have i165:¬ (op:Int)=165:=aq;simp [go_sem,h165,i165];refine ag (OV op ho 0 ⟨aq,aq⟩) a9 ?_;simp [go_sem,lI];by_cases hu:(rR op 0).isSome=true
 ·simp [go_sem,hu]
  have hv:nK op ⟨main,alt,e⟩=some (dO [fX ((rR op ((dm 1 ⟨main,alt,e⟩).1.getD 0 0)).getD 0)] (dm 1 ⟨main,alt,e⟩).2):=by
   unfold nK;rw [if_neg h165]
   cases hq:rR op 0 with
   | none=>rw [hq] at hu;simp at hu
   | some q=>rfl
  rw [hv];refine IL (Pp:=[]) (s:=⟨⟨main,alt,e⟩,J,H⟩) (xi 1 (by decide) (by decide) ⟨main,alt,e⟩ J H hl hx hb) (by decide) aq aw (by simp [AV.renL,AV.ren]) ?_;rintro vs s' ⟨rfl,J',rfl⟩;obtain ⟨ln,bd⟩:=tj 1 ⟨main,alt,e⟩ hb hl;have ml:=qJ 1 ⟨main,alt,e⟩ hl;generalize dm 1 ⟨main,alt,e⟩=p at *;obtain ⟨vs,m1⟩:=p;simp only at ln bd ml
  match vs,ln with
  | [a],_ =>
   simp only [bL,bm,id];have ba:=bd a aw;have hua:=IN op a;simp [go_sem,iZ];refine ag (OV op ho a ba) a9 ?_;simp [go_sem,lI];have hbd:=Q3 op a ba;refine ag (kY _ aq aq) (by intro v hv;simp at hv;subst hv;trivial) ?_;have hyl:=kH ((rR op a).getD 0);generalize fX ((rR op a).getD 0)=y at *;simp [go_sem]
   refine cj [804] [] (args':=[.ptr 0 0 0 1,.d (.ro 1 [[nb y]])]) bC id (fA m1 J' H y aq aq) (aQ 3) (fun j hj=>by show j<836;omega) (by simp [bL,bm,aD,lk]) rfl
    (fS rfl) aw rfl ?_
   rintro v s' ρ ⟨J2,rfl⟩ hρ;simp only [bL,bm,dO,id];simp [go_sem,ah];exact ⟨⟨⟨m1.main ++ [y],m1.alt,m1.e⟩,J2,H⟩,⟨J2,rfl⟩,aU (by simp [lk]) rfl rfl⟩
 ·simp [go_sem,hu];refine ag (OW op ho 0 ⟨aq,aq⟩ 0 ⟨aq,aq⟩) a9 ?_;simp [go_sem,lI];by_cases hw:(sX op 0 0).isSome=true
  ·have hw2:(sX op 0 0).isNone=false:=by cases hq:sX op 0 0 with
    | none=>rw [hq] at hw;simp at hw
    | some q=>rfl
   simp [go_sem,hw2];refine IL (Pp:=[]) (s:=⟨⟨main,alt,e⟩,J,H⟩) (xi 2 (by decide) (by decide) ⟨main,alt,e⟩ J H hl hx hb) (by decide) aq aw (by simp [AV.renL,AV.ren]) ?_;rintro vs s' ⟨rfl,J',rfl⟩;obtain ⟨ln,bd⟩:=tj 2 ⟨main,alt,e⟩ hb hl;have ml:=qJ 2 ⟨main,alt,e⟩ hl
   have hv:nK op ⟨main,alt,e⟩=some (if op=157 then je (decide ((sX op ((dm 2 ⟨main,alt,e⟩).1.getD 0 0) ((dm 2 ⟨main,alt,e⟩).1.getD 1 0)).getD 0 ≠ 0)) (dm 2 ⟨main,alt,e⟩).2 else dO [fX ((sX op ((dm 2 ⟨main,alt,e⟩).1.getD 0 0) ((dm 2 ⟨main,alt,e⟩).1.getD 1 0)).getD 0)] (dm 2 ⟨main,alt,e⟩).2):=by
    unfold nK;rw [if_neg h165]
    cases hq:rR op 0 with
    | some q=>rw [hq] at hu;simp at hu
    | none =>
     cases hq2:sX op 0 0 with
     | none=>rw [hq2] at hw;simp at hw
     | some q=>rfl
   rw [hv];clear hv;generalize dm 2 ⟨main,alt,e⟩=p at *;obtain ⟨vs,m1⟩:=p;simp only at ln bd ml
   match vs,ln with
   | [a,b],_ =>
    simp only [bL,bm,id];have ba:=bd a aw;have bb:=bd b aw;simp [go_sem,iZ];refine b7 [0,1,2,3,4,5,6] [(7,[8,9,10,11,12])] 1 (k:=13) ?_;intro G hG;simp [go_sem];refine ag (OW op ho a ba b bb) a9 ?_;simp [go_sem,lI];refine hG _ _ ?_;clear hG G;have hbd:=Q4 op a b ba bb;simp [go_sem];refine ⟨fun h7=>?_,fun h7=>?_⟩
    ·rw [if_pos (show op=157 by omega)];refine dG (Pp:=[(676,⟨2,1,[[.d (.int .i64 a)],[.d (.int .i64 b)]]⟩)]) (s:=⟨m1,J',H⟩) (xg m1 J' H _) aq aw (by simp [AV.renL,AV.ren]) ?_;rintro v s' ρ rfl hρ;generalize je _ m1=m';simp only [bL,bm,id];simp [go_sem,ah];exact ⟨⟨m',J',H⟩,⟨J',rfl⟩,aU rfl rfl rfl⟩
    ·rw [if_neg (show ¬ op=157 by omega)];refine ag (kY _ aq aq) (by intro v hv;simp at hv;subst hv;trivial) ?_;have hyl:=kH ((sX op a b).getD 0);generalize fX ((sX op a b).getD 0)=y at *;simp [go_sem]
     refine cj [1316] [] (args':=[.ptr 0 0 0 1,.d (.ro 1 [[nb y]])]) bC id (fA m1 J' H y aq aq) (aQ 3) (fun j hj=>by show j<1348;omega) (by simp [bL,bm,aD,lk]) rfl
      (fS rfl) aw rfl ?_
     rintro v s' ρ ⟨J2,rfl⟩ hρ;simp only [bL,bm,dO,id];simp [go_sem,ah];exact ⟨⟨⟨m1.main ++ [y],m1.alt,m1.e⟩,J2,H⟩,⟨J2,rfl⟩,aU (by simp [lk]) rfl rfl⟩
  ·have hw2:(sX op 0 0).isNone=true:=by cases hq:sX op 0 0 with
    | none=>rfl
    | some q=>rw [hq] at hw;simp at hw
   have hv:nK op ⟨main,alt,e⟩=none:=by
    unfold nK;rw [if_neg h165]
    cases hq:rR op 0 with
    | some q=>rw [hq] at hu;simp at hu
    | none =>
     cases hq2:sX op 0 0 with
     | some q=>rw [hq2] at hw;simp at hw
     | none=>rfl
   rw [hv];simp [go_sem,hw2,ah];exact ⟨⟨⟨main,alt,e⟩,J,H⟩,⟨J,rfl⟩,aU rfl rfl rfl⟩
theorem Q5 (e:Int) (he:e ≠ 0) (n k:Nat) (J H:List Jk):cJ Tryz.prog 3 xf 223 (.z e n k J H) [.ptr 0 0 0 1]
  (fun v s'=>v=.tup [.agg [.nil,.nil],.d (.int .i64 e)]):=by
 refine al Tryz.func223 (by kernel_rfl) rfl Tryz.ntmps223 (rs:=[.cell 2 155,.tmp 3]) rfl (dS rfl) (by decide) ?_;show lL _ _ _ _ ⟨_,[(0,⟨283,3,[[.own 1 0 n J.length,.own 2 0 k H.length,.d (.int .i64 e)]]⟩),(1,⟨31,1,cG [] J⟩),(2,⟨31,1,cG [] H⟩)],_⟩;simp [go_sem,he];refine b7 [0,1,2,3,4,5,6,7,8] [(9,[]),(10,[])] 1 (k:=11) ?_;intro G hG;simp [go_sem];refine hG _ _ ?_;clear hG G;simp [go_sem,he];refine b7 [0,1,2,3,4] [(5,[6])] 1 (k:=7) ?_;intro G hG;simp [go_sem];refine hG _ _ ?_;clear hG G;simp [go_sem,ah];refine ⟨.z e n k J H,fun i hi=>?_⟩
 match i,hi with
 | 0,_=>rfl
 | 1,_=>rfl
 | 2,_=>rfl
def kj (m:Mc) (a b:Nat):Prop:=m.main.length≤a∧m.alt.length≤b
theorem xj {m:Mc} {a b:Nat} (x:Int) (h:kj m a b):kj (gn x m) a b:=by unfold gn;split <;> exact h
theorem jo {m:Mc} {a b:Nat} (n:Nat) (h:kj m a b):kj (aL n m) a b:=by
 obtain ⟨e1,e2⟩:=nu n m;unfold kj;rw [e1,e2];exact h
theorem tm {m:Mc} {a b:Nat} (h:kj m a b):kj (db m).2 a b:=by
 unfold db
 split
 ·refine ⟨?_,h.2⟩;have:=h.1;simp;omega
 ·exact jo 1 h
theorem ku {m:Mc} {a b:Nat} (l:List bc) (h:kj m a b):kj (dO l m) (a+l.length) b:=by
 refine ⟨?_,h.2⟩;have:=h.1;simp [dO];omega
theorem ej {m:Mc} {a b:Nat} (k:Nat) (put:List Nat) (h:kj m a b):kj (cf k put m) (a+put.length) b:=by
 unfold cf
 split
 ·refine ⟨?_,h.2⟩;have:=h.1;simp;omega
 ·exact ⟨Nat.le_trans (jo k h).1 aq,(jo k h).2⟩
theorem Dw {m:Mc} {a b:Nat} (most:Nat) (x:bc) (h:kj m a b):kj (fa most x m).2 a b:=by
 unfold fa
 split
 ·cases fJ most x with
  | none=>exact xj 15 h
  | some n=>exact h
 ·exact h
theorem IOa {a b:Nat}:∀ (k:Nat) (m:Mc),kj m a b→kj (lN k m).2 a b
 | 0,m,h=>h
 | k+1,m,h=>by rw [lN];exact IOa k _ (Dw 4 _ (tm h))
theorem rV {m:Mc} {a b:Nat} (n:Nat) (h:kj m a b):kj (dm n m).2 a b:=by
 unfold dm
 split
 ·exact IOa n m h
 ·exact jo n h
theorem xk {m:Mc} {a b:Nat} (c:Bool) (h:kj m a b):kj (je c m) a b:=by unfold je;split;exact h;exact xj 16 h
theorem Dx {m:Mc} {a b:Nat} (h:kj m a b):kj (fK m).2 a b:=by
 unfold fK
 split
 ·exact ej 2 [] h
 ·exact jo 2 h
theorem cy {m:Mc} {a b c d:Nat} (h:kj m a b) (h1:a≤c) (h2:b≤d):kj m c d:=⟨Nat.le_trans h.1 h1,Nat.le_trans h.2 h2⟩
theorem Dy {m:Mc} {a b:Nat} (f:bc→bc) (h:kj m a b):kj (ke f m) (a+1) b:=by
 unfold ke
 split
 ·exact ku _ (tm h)
 ·exact cy (jo 1 h) aq (cR _)
theorem Dz {m:Mc} {a b:Nat} (r:Bool) (h:kj m a b):kj (jd r m) (a+1) b:=by
 unfold jd;have h2:=Dw 4 (db m).1 (tm h);simp only
 split
 ·split
  ·exact cy (xj 12 h2) aq (cR _)
  ·refine ku [_] ⟨?_,h2.2⟩;have h3:=h2.1;simp only
   split
   ·exact Nat.le_trans (List.length_eraseIdx_le ..) h3
   ·exact h3
 ·exact cy h2 aq (cR _)
theorem bZ {c:Prop} [Decidable c] {x y:Mc} {r:Option Mc} (h:(if c then some x else r)=some y) (hx:kj x 2000 2000) (hr:r=some y→kj y 2000 2000):kj y 2000 2000:=by
 split at h
 ·cases h;exact hx
 ·exact hr h
theorem IP {m:Mc} {a b:Nat} (h:kj m a b):kj (lc m) a (b+1):=by
 have hp:=tm h;refine ⟨hp.1,?_⟩;have:=hp.2;simp [lc];omega
theorem M8 {m:Mc} {a b:Nat} (h:kj m a b):kj (nO m) (a+1) b:=by
 unfold nO
 split
 ·exact cy (xj 12 h) aq (cR _)
 ·have h1:=h.1;have h2:=h.2;refine ⟨?_,?_⟩ <;> simp <;> omega
theorem M9 {m:Mc} {a b:Nat} (h:kj m a b):kj (nP m) (a+1) b:=by
 unfold nP
 split
 ·exact ku _ (ej 2 [] h)
 ·exact cy (jo 2 h) aq (cR _)
theorem Bt {op:Nat} {m m':Mc} (h:iy op m=some m') (h1:m.main.length≤1000) (h2:m.alt.length≤1000):m'.main.length≤2000∧m'.alt.length≤2000:=by
 have hs:kj m 1000 1000:=⟨h1,h2⟩;show kj m' 2000 2000;unfold iy at h;refine bZ h (cy hs (by decide) (by decide)) fun h=>?_;refine bZ h (cy (IP hs) (by decide) (by decide)) fun h=>?_;refine bZ h (cy (M8 hs) (by decide) (by decide)) fun h=>?_;refine bZ h (cy (ej _ _ hs) (by decide) (by decide)) fun h=>?_;refine bZ h (cy (ej _ _ hs) (by decide) (by decide)) fun h=>?_;refine bZ h (cy (ej _ _ hs) (by decide) (by decide)) fun h=>?_;refine bZ h (cy (ej _ _ hs) (by decide) (by decide)) fun h=>?_;refine bZ h (cy (ej _ _ hs) (by decide) (by decide)) fun h=>?_;refine bZ h (cy (ej _ _ hs) (by decide) (by decide)) fun h=>?_;refine bZ h (cy (ej _ _ hs) (by decide) (by decide)) fun h=>?_;refine bZ h (cy (ej _ _ hs) (by decide) (by decide)) fun h=>?_;refine bZ h (cy (ej _ _ hs) (by decide) (by decide)) fun h=>?_;refine bZ h (cy (ej _ _ hs) (by decide) (by decide)) fun h=>?_;refine bZ h (cy (ej _ _ hs) (by decide) (by decide)) fun h=>?_;refine bZ h (cy (ej _ _ hs) (by decide) (by decide)) fun h=>?_;refine bZ h (cy (ej _ _ hs) (by decide) (by decide)) fun h=>?_
 cases h
theorem FK {op:Nat} {m m':Mc} (h:ug bo dP op m=some m') (h1:m.main.length≤1000) (h2:m.alt.length≤1000):m'.main.length≤2000∧m'.alt.length≤2000:=by
 have hs:kj m 1000 1000:=⟨h1,h2⟩;show kj m' 2000 2000;unfold ug at h;refine bZ h (cy (Dz _ hs) (by decide) (by decide)) fun h=>?_;refine bZ h (cy (Dz _ hs) (by decide) (by decide)) fun h=>?_;refine bZ h (cy (xk _ (tm hs)) (by decide) (by decide)) fun h=>?_;refine bZ h ?_ fun h=>?_
 ·show kj _ 2000 2000
  split
  ·split
   ·exact cy (ku _ hs) aw (by decide)
   ·exact cy hs (by decide) (by decide)
  ·exact cy (jo 1 hs) (by decide) (by decide)
 refine bZ h (cy (ku _ hs) aw (by decide)) fun h=>?_;refine bZ h (cy (M9 hs) (by decide) (by decide)) fun h=>?_;refine bZ h ?_ fun h=>?_
 ·show kj _ 2000 2000
  split
  ·exact cy (ku _ hs) aw (by decide)
  ·exact cy (jo 1 hs) (by decide) (by decide)
 refine bZ h (cy (ku _ (Dx hs)) aw (by decide)) fun h=>?_;refine bZ h (cy (xk _ (Dx hs)) (by decide) (by decide)) fun h=>?_;refine bZ h (cy (Dy _ hs) (by decide) (by decide)) fun h=>?_;refine bZ h (cy (Dy _ hs) (by decide) (by decide)) fun h=>?_
 cases h
theorem Bv {op:Nat} {m m':Mc} (h:nK op m=some m') (h1:m.main.length≤1000) (h2:m.alt.length≤1000):m'.main.length≤2000∧m'.alt.length≤2000:=by
 have hs:kj m 1000 1000:=⟨h1,h2⟩;show kj m' 2000 2000;unfold nK at h
 split at h
 ·obtain rfl:=Option.some.inj h;exact cy (ku _ (rV 3 hs)) aw (by decide)
 ·split at h
  ·obtain rfl:=Option.some.inj h;exact cy (ku _ (rV 1 hs)) aw (by decide)
  ·split at h
   ·cases h
   ·obtain rfl:=Option.some.inj h;simp only
    split
    ·exact cy (xk _ (rV 2 hs)) (by decide) (by decide)
    ·exact cy (ku _ (rV 2 hs)) aw (by decide)
def ye (op:Nat) (main alt:List bc):AV:=.tup [.agg (jm (vh bo dP op main alt).1 (vh bo dP op main alt).2.1),.d (.int .i64 (vh bo dP op main alt).2.2)]
theorem Na (op:Nat) (ho:op<256) (main alt:List bc) (h1:main.length≤1000) (h2:alt.length≤1000) (h3:∀ x,x ∈ main→x.length≤100000) (h4:∀ x,x ∈ alt→x.length≤100000) (hb:∀ x,x ∈ main→bytes x) :
  av Tryz.prog 204 [.d (.int .u8 (op:Int)),.agg (jm main alt)] (fun r=>r=ye op main alt):=by
 refine bK Tryz.func204 Tryz.ntmps204 (rs:=[.cell 4 155,.tmp 5]) (by intro v hv;simp at hv;rcases hv with rfl | rfl;trivial;exact eu _ _) ?_;have h3':∀ x,x ∈ main→x.length≤1000000:=fun x h=>Nat.le_trans (h3 x h) (by decide);have h4':∀ x,x ∈ alt→x.length≤1000000:=fun x h=>Nat.le_trans (h4 x h) (by decide);simp [go_sem,jm];refine bf [] (xe main alt aq aq h3' h4') rfl aw aw aw (by simp [AV.renL,AV.ren,jm]) ?_;rintro r hp' ⟨rfl,hI,hA,hB⟩;refine ⟨[(289,0),(129,1),(225,2)],by simp [cK,fV],?_⟩;simp [go_sem,bQ,bI,hI,hA,hB,Blk.ren,mF,AV.renL,AV.ren,bO,aR]
 refine cj [] [(32,⟨155,2,[[.nil,.nil]]⟩)] Dp (fun j=>128+j) (M5 ⟨main,alt,0⟩ [] [] op ho h1 h2 h3' h4') lp (fun j hj=>by show 128+j<256;omega) (by simp [WB,bL,bm,aD,lk]) rfl gK
  (fun p hp=>by simp at hp;subst hp;exact ⟨by show 32<256;omega,fun j hj=>by show 128+j ≠ 32;omega⟩) rfl ?_
 rintro v s' ρ ⟨rfl,hlf⟩ hρ
 cases hmv:iy op ⟨main,alt,0⟩ with
 | some m =>
  rw [hmv] at hlf;have hdo:vh bo dP op main alt=df m:=by unfold vh;rw [hmv]
  obtain ⟨hs1,hs2⟩:=Bt hmv h1 h2;rcases hlf with ⟨J',H',rfl⟩ | ⟨he,n,k,J',H',rfl⟩
  ·simp only [Option.getD_some];rw [WB];simp only [bL,bm];simp [go_sem,AV.ren]
   refine cj [] [(32,⟨155,2,[[.nil,.nil]]⟩)] bC (fun j=>128+j) (xc m J' H' aq aq) lp (fun j hj=>by show 128+j<352;omega) (by simp [bL,bm,aD,lk]) rfl gK
    (fun p hp=>by simp at hp;subst hp;exact ⟨by show 32<352;omega,fun j hj=>by show 128+j ≠ 32;omega⟩) rfl ?_
   rintro v s' ρ ⟨rfl,e',rfl⟩ hρ;have r1:ρ 1=129:=hρ 1 aq;have r2:ρ 2=130:=hρ 2 aq;simp only [bL,bm];unfold pB;by_cases hc:(df m).2.2=0
   ·have hdm:=lq hc;rw [if_pos hc];have hR:ye op main alt=.tup [.agg (jm m.main m.alt),.d (.int .i64 0)]:=by unfold ye;rw [hdo,hdm]
    rw [hR];simp [go_sem,AV.ren,AV.renL,r1,r2,ah];exact nt (J:=J') (H:=H') rfl rfl
   ·have hdm:=nq hc;rw [if_neg hc];have hR:ye op main alt=.tup [.agg (jm [] []),.d (.int .i64 (df m).2.2)]:=by unfold ye;rw [hdo,hdm]
    rw [hR];simp [go_sem,AV.ren,AV.renL,r1,r2,ah];exact jx
  ·simp only [Option.getD_some] at he ⊢;have hdm:df m=([],[],m.e):=if_neg he;have hR:ye op main alt=.tup [.agg (jm [] []),.d (.int .i64 m.e)]:=by unfold ye;rw [hdo,hdm]
   rw [hR];generalize m.e=e at *;show AP _ _ _ _ _ _ _ _ _ [(32,⟨155,2,[[.nil,.nil]]⟩),(128,⟨283,3,[[.own 129 0 n J'.length,.own 130 0 k H'.length,.d (.int .i64 e)]]⟩),(129,⟨31,1,cG [] J'⟩),(130,⟨31,1,cG [] H'⟩)];simp [go_sem,AV.ren]
   refine cj [] [(32,⟨155,2,[[.nil,.nil]]⟩)] Dp (fun j=>128+j) (Q5 e he n k J' H') lp (fun j hj=>by show 128+j<352;omega) (by
    intro p hp;have hp2:p ∈ [((32:Nat),(⟨155,2,[[.nil,.nil]]⟩:Blk)),(128,⟨283,3,[[.own 129 0 n J'.length,.own 130 0 k H'.length,.d (.int .i64 e)]]⟩),(129,⟨31,1,cG [] J'⟩),(130,⟨31,1,cG [] H'⟩)]:=hp;simp only [et,List.mem_nil_iff,or_false] at hp2
    rcases hp2 with rfl | rfl | rfl | rfl <;> simp [aD,lk]) rfl gK
    (fun p hp=>by simp at hp;subst hp;exact ⟨by show 32<352;omega,fun j hj=>by show 128+j ≠ 32;omega⟩) rfl ?_
   rintro v s' ρ rfl hρ;simp [go_sem,AV.ren,AV.renL,ah];exact jx
 | none =>
  rw [hmv] at hlf;simp only [Option.getD_none] at hlf;rcases hlf with ⟨J',H',rfl⟩ | ⟨he,_⟩
  rotate_left
  ·exact absurd rfl he
  rw [WB];simp only [bL,bm];simp [go_sem,AV.ren]
  refine cj [] [(32,⟨155,2,[[.nil,.nil]]⟩)] bC (fun j=>128+j) (M7 ⟨main,alt,0⟩ J' H' op ho h1 h3 hb) lp (fun j hj=>by show 128+j<384;omega) (by simp [bL,bm,aD,lk]) rfl gK
   (fun p hp=>by simp at hp;subst hp;exact ⟨by show 32<384;omega,fun j hj=>by show 128+j ≠ 32;omega⟩) rfl ?_
  rintro v s' ρ ⟨rfl,J2,rfl⟩ hρ
  cases hrd:ug bo dP op ⟨main,alt,0⟩ with
  | some m =>
   have hdo:vh bo dP op main alt=df m:=by unfold vh;rw [hmv,hrd]
   obtain ⟨hs1,hs2⟩:=FK hrd h1 h2;simp only [Option.getD_some];simp only [bL,bm];simp [go_sem,AV.ren]
   refine cj [] [(32,⟨155,2,[[.nil,.nil]]⟩)] bC (fun j=>128+j) (xc m J2 H' aq aq) lp (fun j hj=>by show 128+j<480;omega) (by simp [bL,bm,aD,lk]) rfl gK
    (fun p hp=>by simp at hp;subst hp;exact ⟨by show 32<480;omega,fun j hj=>by show 128+j ≠ 32;omega⟩) rfl ?_
   rintro v s' ρ ⟨rfl,e',rfl⟩ hρ;have r1:ρ 1=129:=hρ 1 aq;have r2:ρ 2=130:=hρ 2 aq;simp only [bL,bm];unfold pB;by_cases hc:(df m).2.2=0
   ·have hdm:=lq hc;rw [if_pos hc];have hR:ye op main alt=.tup [.agg (jm m.main m.alt),.d (.int .i64 0)]:=by unfold ye;rw [hdo,hdm]
    rw [hR];simp [go_sem,AV.ren,AV.renL,r1,r2,ah];exact nt (J:=J2) (H:=H') rfl rfl
   ·have hdm:=nq hc;rw [if_neg hc];have hR:ye op main alt=.tup [.agg (jm [] []),.d (.int .i64 (df m).2.2)]:=by unfold ye;rw [hdo,hdm]
    rw [hR];simp [go_sem,AV.ren,AV.renL,r1,r2,ah];exact jx
  | none =>
   simp only [Option.getD_none];simp only [bL,bm];simp [go_sem,AV.ren]
   refine cj [] [(32,⟨155,2,[[.nil,.nil]]⟩)] bC (fun j=>128+j) (FI ⟨main,alt,0⟩ J2 H' op ho h1 h3' hb) lp (fun j hj=>by show 128+j<512;omega) (by simp [bL,bm,aD,lk]) rfl gK
    (fun p hp=>by simp at hp;subst hp;exact ⟨by show 32<512;omega,fun j hj=>by show 128+j ≠ 32;omega⟩) rfl ?_
   rintro v s' ρ ⟨rfl,J3,rfl⟩ hρ
   cases hrc:nK op ⟨main,alt,0⟩ with
   | some m =>
    have hdo:vh bo dP op main alt=df m:=by unfold vh;rw [hmv,hrd,hrc]
    obtain ⟨hs1,hs2⟩:=Bv hrc h1 h2;simp only [Option.getD_some];simp only [bL,bm];simp [go_sem,AV.ren]
    refine cj [] [(32,⟨155,2,[[.nil,.nil]]⟩)] bC (fun j=>128+j) (xc m J3 H' aq aq) lp (fun j hj=>by show 128+j<608;omega) (by simp [bL,bm,aD,lk]) rfl gK
     (fun p hp=>by simp at hp;subst hp;exact ⟨by show 32<608;omega,fun j hj=>by show 128+j ≠ 32;omega⟩) rfl ?_
    rintro v s' ρ ⟨rfl,e',rfl⟩ hρ;have r1:ρ 1=129:=hρ 1 aq;have r2:ρ 2=130:=hρ 2 aq;simp only [bL,bm];unfold pB;by_cases hc:(df m).2.2=0
    ·have hdm:=lq hc;rw [if_pos hc];have hR:ye op main alt=.tup [.agg (jm m.main m.alt),.d (.int .i64 0)]:=by unfold ye;rw [hdo,hdm]
     rw [hR];simp [go_sem,AV.ren,AV.renL,r1,r2,ah];exact nt (J:=J3) (H:=H') rfl rfl
    ·have hdm:=nq hc;rw [if_neg hc];have hR:ye op main alt=.tup [.agg (jm [] []),.d (.int .i64 (df m).2.2)]:=by unfold ye;rw [hdo,hdm]
     rw [hR];simp [go_sem,AV.ren,AV.renL,r1,r2,ah];exact jx
   | none =>
    have hdo:vh bo dP op main alt=([],[],10):=by unfold vh;rw [hmv,hrd,hrc]
    have hR:ye op main alt=.tup [.agg (jm [] []),.d (.int .i64 10)]:=by unfold ye;rw [hdo]
    rw [hR];simp only [Option.getD_none];simp only [bL,bm];simp [go_sem,AV.ren,ah];exact jx
def gR:bc→Option (Nat × Nat)
 | []=>none
 | op :: r =>
  if 0<op∧op≤75 then some (op,1)
  else if op=76 then (match r with | a :: _=>some (a,2) | []=>none)
  else if op=77 then (match r with | a :: b :: _=>some (a+256*b,3) | _=>none)
  else some (0,1)
def mG (s:bc) (at':Nat):Option (Wd × Nat) :=
 match gR (s.drop at') with
 | none=>none
 | some (n,h)=>if (s.drop at').length - h<n then none else some (((s.drop at').headD 0,((s.drop at').drop h).take n),at'+h+n)
def ew (w:Wd):Option bc :=
 if w.1≤77 then some w.2 else if w.1=79 then some [129] else if 80<w.1∧w.1≤96 then some [w.1 - 80] else none
def rA (w:Wd):Bool:=match ew w with
 | none=>true
 | some b=>decide (bR b=w)
def nL (op:Nat):Bool:=[97,99,100,103,104,105,106,107,108,109,110,111,112,113,114,115,116,117,118,119,120,121,122,123,124,125,126,130,135,136,139,140,143,144,145,146,147,148,154,155,156,157,158,159,160,161,162,163,164,165,168,170,172,173,177,178,179,186,187,188,204].contains op
structure Rn where
 main:List bc
 alt:List bc
 br:List Bool
 bud:Int
 cl:List (Int × Int)
 e:Int
structure Rx where
 h1:bc→bc
 h2:bc→bc
 /-- whether a thing is a key's signature of a message -/
 sg:bc→bc→bc→Bool
 /-- what a signature of the spending signs -/
 msg:bc
 lock:Int
 ver:Int
 seq:Int
 tpl:bc
 rcv:bc→Int→Int × Int × Int
 trg:bc→Int→Int→Int→List (Int × Int) × Int
def au (x:Int) (r:Rn):Rn:=if r.e=0 then { r with e:=x } else r
def bn (r:Rn):bc × Rn :=
 if r.e=0 then (if r.main.length=0 then ([],au 12 r) else (r.main.getLastD [],{ r with main:=r.main.dropLast })) else ([],r)
def d6 (most:Nat) (r:Rn):Int × Rn :=
 let p:=bn r
 if p.2.e=0 then (match fJ most p.1 with | some n=>(n,p.2) | none=>(0,au 15 p.2)) else (0,p.2)
def lr (r:Rn):bc × Rn:=if r.main.length=0 then ([],au 12 r) else (r.main.getLastD [],r)
def dp (b:bc) (r:Rn):Rn :=
 if r.e=0 then (if fi (r.main ++ [b]) r.alt=0 then { r with main:=r.main ++ [b] } else au (fi (r.main ++ [b]) r.alt) r) else r
def kK (b:Bool) (r:Rn):Rn:={ r with br:=r.br ++ [b] }
def lu (r:Rn):Option Bool × Rn:=if r.br.length=0 then (none,au 18 r) else (some (r.br.getLastD false),{ r with br:=r.br.dropLast })
def gq (r:Rn):Nat:=(r.br.filter fun b=>!b).length
def lJ (r:Rn):Bool × Rn :=
 let p:=bn r
 (decide (p.1.length=1),if 1<p.1.length ∨ (p.1.length=1∧p.1.headD 0 ≠ 1) then au 19 p.2 else p.2)
def mH (op:Nat) (r:Rn):Option Rn :=
 if op=99 ∨ op=100 then
  some (if gq r=0 then (let p:=lJ r;kK (decide (p.1=decide (op=99))) p.2) else kK false r)
 else if op=103 then
  some (match lu r with | (some b,r')=>kK (!b) r' | (none,r')=>r')
 else if op=104 then some (lu r).2
 else none
def fb (sg:bc→bc→bc→Bool) (key sig msg:bc) (r:Rn):Bool × Rn :=
 if r.e=0∧sig.length ≠ 0 then
  (if r.bud<50 then (false,au 21 r)
  else if key.length=32∧sg key sig msg then (true,{ r with bud:=r.bud - 50 }) else (false,au 20 { r with bud:=r.bud - 50 }))
 else (false,r)
def qK (x:Rx) (op:Nat) (r:Rn):Rn :=
 let k:=bn r
 if op=172 then
  let s:=bn k.2
  let g:=fb x.sg k.1 s.1 x.msg s.2
  dp (iw g.1) g.2
 else if op=173 then
  let s:=bn k.2
  let g:=fb x.sg k.1 s.1 x.msg s.2
  if g.1 then g.2 else au 16 g.2
 else if op=186 then
  let n:=d6 4 k.2
  let s:=bn n.2
  let g:=fb x.sg k.1 s.1 x.msg s.2
  dp (fX (if g.1 then n.1+1 else n.1)) g.2
 else if op=204 then
  let m:=bn k.2
  let s:=bn m.2
  let g:=fb x.sg k.1 s.1 m.1 s.2
  dp (iw g.1) g.2
 else k.2
def lK (r:Rn):Int × Rn :=
 let t:=lr r
 if t.2.e=0 then
  (match fJ 5 t.1 with
  | some n=>(n,if n<0 then au 22 t.2 else t.2)
  | none=>(0,au 15 t.2))
 else (0,t.2)
def tn (x:Rx) (r:Rn):Rn :=
 let p:=lK r
 if (decide (p.1<500000000) != decide (x.lock<500000000)) || decide (x.lock<p.1) || decide (x.seq=4294967295) then au 22 p.2 else p.2
def ow (k:Nat) (n:Int):Bool:=decide (n.fdiv (2 ^ k) % 2=1)
def Bw (x:Rx) (r:Rn):Rn :=
 let p:=lK r
 if ow 31 p.1 then p.2
 else if decide (x.ver<2) || ow 31 x.seq || (ow 22 p.1 != ow 22 x.seq) || decide (x.seq % 65536<p.1 % 65536) then au 22 p.2 else p.2
def xm (x:Rx) (r:Rn):Rn :=
 let p:=lr r
 if p.1=x.tpl then p.2 else au 23 p.2
def zr (l:List (Int × Int)) (e:Int) (r:Rn):Rn :=
 if r.e=0 then dp (iw true) { au e r with cl:=r.cl ++ l } else r
def Bz (x:Rx) (r:Rn):Rn :=
 let h:=bn r
 let o:=d6 4 h.2
 if o.2.e=0 then zr [((x.rcv h.1 o.1).1,(x.rcv h.1 o.1).2.1)] (x.rcv h.1 o.1).2.2 o.2 else o.2
def cz:Nat→Rn→List bc × Rn
 | 0,r=>([],r)
 | k+1,r=>let p:=bn r;let q:=cz k p.2;(q.1 ++ [p.1],q.2)
def gU (n:Int) (r:Rn):List bc × Rn :=
 let r1:=if n<0 ∨ (r.main.length:Int)<n then au 12 r else r
 if r1.e=0 then cz n.toNat r1 else ([],r1)
def BB (x:Rx) (r:Rn):Rn :=
 let n:=d6 4 r
 let b:=bn n.2
 let l:=gU n.1 b.2
 let o:=d6 4 l.2
 let t:=d6 4 o.2
 let k:=d6 8 t.2
 if k.2.e=0 then
  (if (qA l.1 b.1).2=0 then zr (x.trg (qA l.1 b.1).1 o.1 t.1 k.1).1 (x.trg (qA l.1 b.1).1 o.1 t.1 k.1).2 k.2 else au (qA l.1 b.1).2 k.2)
 else k.2
def tp (x:Rx) (op:Nat) (r:Rn):Rn :=
 if op=106 then au 17 r
 else if op=172 ∨ op=173 ∨ op=186 ∨ op=204 then qK x op r
 else if op=177 then tn x r
 else if op=178 then Bw x r
 else if op=179 then xm x r
 else if op=187 then BB x r
 else if op=188 then Bz x r
 else
  let d:=vh x.h1 x.h2 op r.main r.alt
  { au d.2.2 r with main:=d.1,alt:=d.2.1 }
def lQ (x:Rx) (w:Wd) (r:Rn):Rn :=
 if !nL w.1 && (ew w).isNone then au 10 r
 else match mH w.1 r with
  | some r'=>r'
  | none =>
   if 0<gq r then r
   else match ew w with
    | some b=>if rA w then dp b r else au 11 r
    | none=>tp x w.1 r
def lv (x:Rx) (s:bc):Nat→Nat→Rn→Rn
 | 0,_,r=>r
 | k+1,a,r =>
  if a<s.length∧r.e=0 then
   (match mG s a with
   | none=>au 2 r
   | some (w,b)=>lv x s k b (lQ x w r))
  else r
def mI (r:Rn):Rn :=
 let r1:=if 0<r.br.length then au 18 r else r
 if r1.main.length=1∧jK (r1.main.headD [])=true then r1 else au 25 r1
def pD (x:Rx) (s:bc) (start:List bc) (bud:Int):List (Int × Int) × Int :=
 let r:=mI (lv x s (s.length+1) 0 (au (fi start []) ⟨start,[],[],bud,[],0⟩))
 if r.e=0 then (r.cl,0) else ([],r.e)
def vC (o:Option (Nat × Nat)):AV:=match o with
 | none=>.tup [.d (.int .i64 0),.d (.int .i64 0),.d (.bool false)]
 | some (n,h)=>.tup [.d (.int .i64 (n:Int)),.d (.int .i64 (h:Int)),.d (.bool true)]
theorem fc (o:Option (Nat × Nat)):(vC o).deep:=by
 rcases o with _ | ⟨n,h⟩
 ·intro c hc;simp at hc;rcases hc with rfl | rfl <;> exact .inl trivial
 ·intro c hc;simp at hc;rcases hc with rfl | rfl | rfl <;> exact .inl trivial
theorem Q6 (a b:Nat) (ha:a<4294967296) (hb:b<4294967296):Go.bits .or .i64 (a:Int) (b:Int)=((a ||| b:Nat):Int):=by
 show IntKind.i64.wrap (((BitVec.ofInt 64 (a:Int)) ||| (BitVec.ofInt 64 (b:Int))).toNat:Int)=_;rw [BitVec.toNat_or,eC,eC,← Nat.or_mod_two_pow];have:a ||| b<2 ^ 32:=Nat.or_lt_two_pow aq aq;rw [IntWalk.i64_in _ aq];omega
theorem IQ (op:Nat) (r:bc) (hb:bytes (op :: r)) (hl:r.length≤1000000):av Tryz.prog 167 [.d (nb (op :: r))] (fun v=>v=vC (gR (op :: r))):=by
 refine bK Tryz.func167 Tryz.ntmps167 (rs:=[.tmp 2,.tmp 3,.tmp 4]) a9 ?_;have h0:op<256:=hb op aw;have w0:IntKind.i64.wrap (op:Int)=(op:Int):=IntWalk.i64_in _ aq;simp [go_sem,nb];by_cases hp:0<op
 ·have hpi:(0:Int)<(op:Int):=aq;have hpn:¬ op=0:=aq;by_cases h75:op≤75
  ·have h75i:(op:Int)≤75:=aq;have hv:gR (op :: r)=some (op,1):=by simp [gR,hp,h75]
   rw [hv];simp [go_sem,hp,hpi,hpn,h75,h75i,w0,ah];exact aO rfl (fc (some (op,1)))
  ·have h75i:¬ (op:Int)≤75:=aq;by_cases h76:op=76
   ·subst h76;rcases r with _ | ⟨a,r⟩
    ·have hv:gR [76]=none:=rfl;rw [hv];simp [go_sem,ah];exact aO rfl (fc none)
    ·have hv:gR (76 :: a :: r)=some (a,2):=rfl;have ha:a<256:=hb a aw;have wa:IntKind.i64.wrap (a:Int)=(a:Int):=IntWalk.i64_in _ aq;rw [hv];simp [go_sem,wa,ah];refine ⟨fun _=>aO rfl (fc (some (a,2))),fun h=>absurd h aq⟩
   ·have h76i:¬ (op:Int)=76:=aq;by_cases h77:op=77
    ·subst h77;rcases r with _ | ⟨a,r⟩
     ·have hv:gR [77]=none:=rfl;rw [hv];simp [go_sem,ah];exact aO rfl (fc none)
     ·rcases r with _ | ⟨b,r⟩
      ·have hv:gR [77,a]=none:=rfl;rw [hv];simp [go_sem,ah];exact aO rfl (fc none)
      ·have hv:gR (77 :: a :: b :: r)=some (a+256*b,3):=rfl;have ha:a<256:=hb a aw;have hb2:b<256:=hb b aw;have wa:IntKind.i64.wrap (a:Int)=(a:Int):=IntWalk.i64_in _ aq;have wb:IntKind.i64.wrap (b:Int)=(b:Int):=IntWalk.i64_in _ aq;rw [hv];simp [go_sem,wa,wb,ah];refine ⟨fun _=>?_,fun h=>absurd h aq⟩;refine b7 [0,1,2,3,4,5,6,7,8,9,10,11,12] [] 0 (k:=13) ?_;intro G hG;have e1:IntKind.i64.wrap ((b:Int)*256)=((b*2 ^ 8:Nat):Int):=by rw [IntWalk.i64_in _ aq];omega
       have e2:Go.bits .or .i64 (a:Int) ((b*2 ^ 8:Nat):Int)=((a+256*b:Nat):Int):=by
        rw [Q6 a (b*2 ^ 8) aq aq,Is aq];omega
       generalize ((b*2 ^ 8:Nat):Int)=q at *;simp [go_sem,wa,wb,e1,e2];refine hG _ _ ?_;clear hG G;simp [go_sem,ah];exact aO (by simp [vC]) (fc (some (a+256*b,3)))
    ·have h77i:¬ (op:Int)=77:=aq;have hv:gR (op :: r)=some (0,1):=by simp [gR,h75,h76,h77]
     rw [hv];simp [go_sem,hp,hpi,hpn,h75,h75i,h76,h76i,h77,h77i,ah];exact aO rfl (fc (some (0,1)))
 ·have h00:op=0:=aq;subst h00;have hv:gR (0 :: r)=some (0,1):=rfl;rw [hv];simp [go_sem,ah];exact aO rfl (fc (some (0,1)))
def uv (w:Wd):List AV:=[.d (.int .u8 (w.1:Int)),.d (nb w.2)]
def IR (o:Option (Wd × Nat)):AV:=match o with
 | some (w,p)=>.tup [.agg (uv w),.d (.int .i64 (p:Int)),.d (.int .i64 0)]
 | none=>.tup [.agg (uv (0,[])),.d (.int .i64 0),.d (.int .i64 2)]
theorem zu {op n h:Nat} {r:bc} (hb:bytes (op :: r)) (hw:gR (op :: r)=some (n,h)):1≤h∧h≤r.length+1∧n≤65535:=by
 have h0:op<256:=hb op aw;unfold gR at hw;simp only at hw
 split at hw
 ·cases hw;omega
 ·split at hw
  ·rcases r with _ | ⟨a,r⟩
   ·cases hw
   ·have ha:a<256:=hb a aw
    cases hw
    simp;omega
  ·split at hw
   ·rcases r with _ | ⟨a,_ | ⟨b,r⟩⟩
    ·cases hw
    ·cases hw
    ·have ha:a<256:=hb a aw;have hb':b<256:=hb b aw
     cases hw
     simp;omega
   ·cases hw;omega
theorem qL {cs cs':List AV} {a b:AV} {st:St} (hc:sG st.hp (fun _=>True) cs cs') (hdc:∀ c,c ∈ cs'→c.deep1) (ha:a.deep1) (hb:b.deep1) :
  dk (fun r=>r=.tup [.agg cs',a,b]) (.tup [.agg cs,a,b]) st:=by
 refine ⟨_,.tup (cs':=[.agg cs',a,b]) rfl (fun i c c' h1 h2=>?_),?_,rfl⟩
 ·match i with
  | 0=>simp at h1 h2;subst h1;subst h2;exact .inr ⟨_,_,rfl,rfl,hc⟩
  | 1=>simp at h1 h2;subst h1;subst h2;exact .inl (.inl ⟨rfl,ha⟩)
  | 2=>simp at h1 h2;subst h1;subst h2;exact .inl (.inl ⟨rfl,hb⟩)
  | i+3=>simp at h1
 ·intro c hc;simp at hc;rcases hc with rfl | rfl | rfl
  ·exact .inr ⟨_,rfl,hdc⟩
  ·exact .inl ha
  ·exact .inl hb
theorem jP (w:Wd):∀ c,c ∈ uv w→c.deep1:=by
 intro c hc;simp [uv] at hc;rcases hc with rfl | rfl <;> trivial
theorem IS (s:bc) (at':Nat) (hb:bytes s) (hl:s.length≤1000000) (ha:at'<s.length):av Tryz.prog 139 [.d (nb s),.d (.int .i64 (at':Int))] (fun v=>v=IR (mG s at')):=by
  refine bK Tryz.func139 Tryz.ntmps139 (rs:=[.cell 4 42,.tmp 5,.tmp 6]) a9 ?_;have h1:¬ (at':Int)<0:=aq;have h2:¬ (s.length:Int)≤(at':Int):=aq;have h3:(at':Int)≤(s.length:Int):=aq
  obtain ⟨op,r,hd⟩:∃ op r,s.drop at'=op :: r:=by
    rcases h:s.drop at' with _ | ⟨op,r⟩
    · have:=congrArg List.length h
      simp at this;omega
    · exact ⟨op,r,rfl⟩
  have hdb:bytes (op :: r):=fun x hx=>hb x (by rw [← hd] at hx;exact List.mem_of_mem_drop hx)
  have hrl:r.length≤1000000:=by
    have:=congrArg List.length hd;simp at this;omega
  simp [go_sem,nb,h1,h2,h3,← List.map_drop,hd]
  have hdr:List.drop at' (List.take s.length (s.map fun (b:Nat)=>[DV.int .u8 (b:Int)]))=(op :: r).map fun (b:Nat)=>[DV.int .u8 (b:Int)]:=by
    rw [cA aw,← List.map_drop,hd]
  rw [hdr];refine ag (IQ op r hdb hrl) a9 ?_
  have hnx:mG s at'=match gR (op :: r) with
    | none=>none
    | some (n,h)=>if (op :: r).length - h<n then none else some ((op,((op :: r).drop h).take n),at'+h+n):=by
    unfold mG;rw [hd];rfl
  rw [hnx]
  cases hw:gR (op :: r) with
  | none =>
    simp [go_sem,vC];exact qL (cs':=uv (0,[])) ⟨rfl,ao (aZ trivial) (ao (ak (.nil 1)) bw)⟩ (jP _) trivial trivial
  | some p =>
    obtain ⟨n,h⟩:=p;obtain ⟨t1,t2,t3⟩:=zu hdb hw
    have hrs:at'+(r.length+1)=s.length:=by
      have:=congrArg List.length hd;simp at this;omega
    have w1:IntKind.i64.wrap ((r.length:Int)+1 - (h:Int))=((r.length+1 - h:Nat):Int):=by rw [IntWalk.i64_in _ aq];omega
    by_cases hlt:r.length+1 - h<n
    · have hlti:((r.length+1 - h:Nat):Int)<(n:Int):=aq
      simp [go_sem,vC,w1,hlt,hlti];exact qL (cs':=uv (0,[])) ⟨rfl,ao (aZ trivial) (ao (ak (.nil 1)) bw)⟩ (jP _) trivial trivial
    · have hlti:¬ ((r.length+1 - h:Nat):Int)<(n:Int):=aq
      have w2:IntKind.i64.wrap ((h:Int)+(n:Int))=((h+n:Nat):Int):=by rw [IntWalk.i64_in _ aq];omega
      have w3:IntKind.i64.wrap ((at':Int)+(h:Int))=((at'+h:Nat):Int):=by rw [IntWalk.i64_in _ aq];omega
      have w4:IntKind.i64.wrap (((at'+h:Nat):Int)+(n:Int))=((at'+h+n:Nat):Int):=by rw [IntWalk.i64_in _ aq];omega
      simp [go_sem,vC,w1,hlt,hlti];refine d5 [0,1,2,3,4,5,6,7,8,11,12,13,14,15] [9,16] [0,1,2,3,4,5,6,7,8,10,11,12,13,14,15,17,18] (.step 9 [10] true (.step 16 [17,18] false .done)) ⟨[(4,.ptr 0 0 0 1),(5,.d (.int .i64 ((at'+h+n:Nat):Int))),(6,.d (.int .i64 0))],[(0,⟨42,2,[uv (op,List.take n (List.drop h (op :: r)))]⟩)],9000⟩ (k:=19) ?h3 ?hq
      case h3 =>
        intro G hG;have w3':IntKind.i64.wrap ((at':Int)+(h:Int))=(at':Int)+(h:Int):=IntWalk.i64_in _ aq;have w4':IntKind.i64.wrap ((at':Int)+(h:Int)+(n:Int))=(at':Int)+(h:Int)+(n:Int):=IntWalk.i64_in _ aq;have hTn:((h:Int)+(n:Int)).toNat=h+n:=aq
        have hdt:List.drop h (List.take (h+n) ([DV.int .u8 (op:Int)] :: r.map fun (b:Nat)=>[DV.int .u8 (b:Int)]))=(List.take n (List.drop h (op :: r))).map fun (b:Nat)=>[DV.int .u8 (b:Int)]:=by
          show List.drop h (List.take (h+n) ((op :: r).map fun (b:Nat)=>[DV.int .u8 (b:Int)]))=_;rw [← List.map_take,← List.map_drop,List.drop_take,Nat.add_sub_cancel_left]
        have hdl:(List.take n (List.drop h (op :: r))).length≤100000:=by simp;omega
        generalize List.take n (List.drop h (op :: r))=y at *;simp (config := { maxSteps := 3000000 }) [go_sem,w2,w3',w4',hTn,hdt];have hc:=fh y aq
        repeat' apply And.intro
        all_goals first
          | omega
          | (refine ag hc a9 ?_
             simp (config := { maxSteps := 3000000 }) [go_sem,w3',w4']
             repeat' apply And.intro
             all_goals
               refine hG _ _ (cn ?_)
               simp [aA,ai,fv,lk,AV.low,AV.low1,uv])
      case hq =>
        simp [go_sem,ah,uv];exact qL (cs':=uv (op,List.take n (List.drop h (op :: r)))) ⟨rfl,ao (aZ trivial) (ao (aZ trivial) bw)⟩ (jP _) trivial trivial
def IT (o:Option bc):AV:=match o with
 | some b=>.tup [.d (nb b),.d (.bool true)]
 | none=>.tup [.d (nb []),.d (.bool false)]
theorem FM (o:Option bc):(IT o).deep:=by
 rcases o with _ | b
 ·intro c hc;simp at hc;rcases hc with rfl | rfl <;> exact .inl trivial
 ·intro c hc;simp at hc;rcases hc with rfl | rfl <;> exact .inl trivial
theorem vD {Q:AV→Prop} {st:St} {b:Bool} (hq:Q (.tup [.d (nb []),.d (.bool b)])):dk Q (.tup [.nil,.d (.bool b)]) st :=
 dr (ao (ak (.nil 1)) (ao (aZ trivial) bw)) rfl a9 hq
theorem tq (w:Wd) (h8:w.1<256) (hl:w.2.length≤100000):av Tryz.prog 21 [.agg (uv w)] (fun v=>v=IT (ew w)):=by
 refine bK Tryz.func21 Tryz.ntmps21 (rs:=[.tmp 2,.tmp 3]) (by intro v hv;simp at hv;subst hv;exact jP _) ?_;obtain ⟨op,b⟩:=w;simp only at h8 hl;simp [go_sem,uv];by_cases h1:op≤77
 ·have h1i:(op:Int)≤77:=aq;have h1j:¬ (77:Int)<(op:Int):=aq;have hv:ew (op,b)=some b:=by simp [ew,h1]
  rw [hv];simp [go_sem,h1,h1i,h1j];have hc:=fh b aq;refine ag hc a9 ?_;simp [go_sem,ah];exact aO rfl (FM (some b))
 ·have h1i:¬ (op:Int)≤77:=aq;have h1j:(77:Int)<(op:Int):=aq;by_cases h2:op=79
  ·subst h2;have hv:ew (79,b)=some [129]:=by simp [ew]
   rw [hv];simp [go_sem,ah];exact jJ (L:=[129]) rfl rfl rfl
  ·have h2i:¬ (op:Int)=79:=aq;by_cases h3:80<op
   ·have h3i:(80:Int)<(op:Int):=aq;have h3j:¬ (op:Int)≤80:=aq;by_cases h4:op≤96
    ·have h4i:(op:Int)≤96:=aq;have h4j:¬ (96:Int)<(op:Int):=aq;have hv:ew (op,b)=some [op - 80]:=by simp [ew,h1,h2,h3,h4]
     have w1:IntKind.u8.wrap ((op:Int) - 80)=((op - 80:Nat):Int):=by rw [Gu];omega
     rw [hv];simp [go_sem,h1,h1i,h1j,h2,h2i,h3,h3i,h3j,h4,h4i,h4j,w1,ah];generalize op - 80=q at *;exact jJ (L:=[q]) rfl rfl rfl
    ·have h4i:¬ (op:Int)≤96:=aq;have h4j:(96:Int)<(op:Int):=aq;have hv:ew (op,b)=none:=by simp [ew,h1,h2,h3,h4]
     rw [hv];simp [go_sem,h1,h1i,h1j,h2,h2i,h3,h3i,h3j,h4,h4i,h4j,ah];exact vD rfl
   ·have h3i:¬ (80:Int)<(op:Int):=aq;have h3j:(op:Int)≤80:=aq;have hv:ew (op,b)=none:=by simp [ew,h1,h2,h3]
    rw [hv];simp [go_sem,h1,h1i,h1j,h2,h2i,h3,h3i,h3j,ah];exact vD rfl
theorem DC {w:Wd} {b:bc} (h:ew w=some b):b.length≤w.2.length+1:=by
 unfold ew at h
 split at h
 ·cases h;omega
 ·split at h
  ·cases h;simp
  ·split at h
   ·cases h;simp
   ·cases h
theorem tu {w:Wd} {b:bc} (hb:bytes w.2) (h8:w.1<256) (h:ew w=some b):bytes b:=by
 unfold ew at h
 split at h
 ·cases h;exact hb
 ·split at h
  ·cases h;intro x hx;simp at hx;omega
  ·split at h
   ·cases h;intro x hx;simp at hx;omega
   ·cases h
theorem FN (w:Wd) (h8:w.1<256) (hb:bytes w.2) (hl:w.2.length≤50000):av Tryz.prog 170 [.agg (uv w)] (fun v=>v=.d (.bool (rA w))):=by
 refine bK Tryz.func170 Tryz.ntmps170 (rs:=[.tmp 2]) (by intro v hv;simp at hv;subst hv;exact jP _) ?_;obtain ⟨op,b⟩:=w;simp only at h8 hl hb;have hp:=tq (op,b) h8 (by show b.length≤100000;omega);simp only [uv] at hp;simp [go_sem,uv];refine ag hp (by intro v hv;simp at hv;subst hv;exact jP (op,b)) ?_;unfold rA
 cases hq:ew (op,b) with
 | none =>
  simp [go_sem,IT,ah];exact aa trivial rfl
 | some y =>
  have hy:=DC hq;have hyb:=tu hb h8 hq;simp only at hy;have hpu:=wP y aq hyb;simp [go_sem,IT];refine ag hpu a9 ?_;have hpl:=u7 y;have hpb:=rp hyb;have hp8:=(px aq hyb:sU (bR y)).2;rcases hr:bR y with ⟨o2,b2⟩;rw [hr] at hpl hpb hp8;simp only at hpl hpb hp8;simp only [sR];by_cases ho:o2=op
  ·subst ho;simp [go_sem];refine ag (gJ b2 b hpb hb) a9 ?_;simp [go_sem,ah];exact aa trivial rfl
  ·have hoi:¬ (o2:Int)=(op:Int):=aq;simp [go_sem,ho,hoi,ah];exact aa trivial rfl
def ox (op:Nat):List (Nat × List Int)→List Int
 | []=>[]
 | p :: t=>if op=p.1 then p.2 else ox op t
theorem ay {op:Nat} {s:List Int} {t:List (Nat × List Int)} {n:Nat} (h:op=n):ox op ((n,s) :: t)=s:=if_pos h
theorem aC {op:Nat} {s:List Int} {t:List (Nat × List Int)} {n:Nat} (h:¬ op=n):ox op ((n,s) :: t)=ox op t:=if_neg h
def pE:List (Nat × List Int):=(97,78 :: 79 :: 80 :: []) :: (99,73 :: 70 :: []) :: (100,78 :: 79 :: 84 :: 73 :: 70 :: []) :: (103,69 :: 76 :: 83 :: 69 :: []) :: (104,69 :: 78 :: 68 :: 73 :: 70 :: []) :: (105,86 :: 69 :: 82 :: 73 :: 70 :: 89 :: []) :: (106,82 :: 69 :: 84 :: 85 :: 82 :: 78 :: []) :: (107,84 :: 79 :: 65 :: 76 :: 84 :: []) :: (108,70 :: 82 :: 79 :: 77 :: 65 :: 76 :: 84 :: []) :: (109,50 :: 68 :: 82 :: 79 :: 80 :: []) :: (110,50 :: 68 :: 85 :: 80 :: []) :: (111,51 :: 68 :: 85 :: 80 :: []) :: (112,50 :: 79 :: 86 :: 69 :: 82 :: []) :: (113,50 :: 82 :: 79 :: 84 :: []) :: (114,50 :: 83 :: 87 :: 65 :: 80 :: []) :: (115,73 :: 70 :: 68 :: 85 :: 80 :: []) :: (116,68 :: 69 :: 80 :: 84 :: 72 :: []) :: (117,68 :: 82 :: 79 :: 80 :: []) :: (118,68 :: 85 :: 80 :: []) :: (119,78 :: 73 :: 80 :: []) :: (120,79 :: 86 :: 69 :: 82 :: []) :: (121,80 :: 73 :: 67 :: 75 :: []) :: (122,82 :: 79 :: 76 :: 76 :: []) :: (123,82 :: 79 :: 84 :: []) :: (124,83 :: 87 :: 65 :: 80 :: []) :: (125,84 :: 85 :: 67 :: 75 :: []) :: []
def jQ:List (Nat × List Int):=(126,67 :: 65 :: 84 :: []) :: (130,83 :: 73 :: 90 :: 69 :: []) :: (135,69 :: 81 :: 85 :: 65 :: 76 :: []) :: (136,69 :: 81 :: 85 :: 65 :: 76 :: 86 :: 69 :: 82 :: 73 :: 70 :: 89 :: []) :: (139,49 :: 65 :: 68 :: 68 :: []) :: (140,49 :: 83 :: 85 :: 66 :: []) :: (143,78 :: 69 :: 71 :: 65 :: 84 :: 69 :: []) :: (144,65 :: 66 :: 83 :: []) :: (145,78 :: 79 :: 84 :: []) :: (146,48 :: 78 :: 79 :: 84 :: 69 :: 81 :: 85 :: 65 :: 76 :: []) :: (147,65 :: 68 :: 68 :: []) :: (148,83 :: 85 :: 66 :: []) :: (154,66 :: 79 :: 79 :: 76 :: 65 :: 78 :: 68 :: []) :: (155,66 :: 79 :: 79 :: 76 :: 79 :: 82 :: []) :: (156,78 :: 85 :: 77 :: 69 :: 81 :: 85 :: 65 :: 76 :: []) :: (157,78 :: 85 :: 77 :: 69 :: 81 :: 85 :: 65 :: 76 :: 86 :: 69 :: 82 :: 73 :: 70 :: 89 :: []) :: (158,78 :: 85 :: 77 :: 78 :: 79 :: 84 :: 69 :: 81 :: 85 :: 65 :: 76 :: []) :: (159,76 :: 69 :: 83 :: 83 :: 84 :: 72 :: 65 :: 78 :: []) :: (160,71 :: 82 :: 69 :: 65 :: 84 :: 69 :: 82 :: 84 :: 72 :: 65 :: 78 :: []) :: (161,76 :: 69 :: 83 :: 83 :: 79 :: 82 :: 69 :: 81 :: 85 :: 65 :: 76 :: []) :: []
def ny:List (Nat × List Int):=(162,71 :: 82 :: 69 :: 65 :: 84 :: 69 :: 82 :: 79 :: 82 :: 69 :: 81 :: 85 :: 65 :: 76 :: []) :: (163,77 :: 73 :: 78 :: []) :: (164,77 :: 65 :: 88 :: []) :: (165,87 :: 73 :: 84 :: 72 :: 73 :: 78 :: []) :: (168,83 :: 72 :: 65 :: 50 :: 53 :: 54 :: []) :: (170,72 :: 65 :: 83 :: 72 :: 50 :: 53 :: 54 :: []) :: (172,67 :: 72 :: 69 :: 67 :: 75 :: 83 :: 73 :: 71 :: []) :: (173,67 :: 72 :: 69 :: 67 :: 75 :: 83 :: 73 :: 71 :: 86 :: 69 :: 82 :: 73 :: 70 :: 89 :: []) :: (177,67 :: 76 :: 84 :: 86 :: []) :: (178,67 :: 83 :: 86 :: []) :: (179,67 :: 84 :: 86 :: []) :: (186,67 :: 72 :: 69 :: 67 :: 75 :: 83 :: 73 :: 71 :: 65 :: 68 :: 68 :: []) :: (187,86 :: 65 :: 85 :: 76 :: 84 :: []) :: (188,82 :: 69 :: 67 :: 79 :: 86 :: 69 :: 82 :: []) :: (204,67 :: 83 :: 70 :: 83 :: []) :: []
set_option maxRecDepth 4000 in
theorem FO (op:Nat) (h8:op<256):av Tryz.prog 191 [.d (.int .u8 (op:Int))] (fun v=>v=.d (.str (ox op pE))):=by
 refine bK Tryz.func191 Tryz.ntmps191 (rs:=[.tmp 2]) a9 ?_;simp [go_sem,pE];by_cases h97:op=97
 ·have hi:(op:Int)=97:=aq;rw [ay h97];simp [go_sem,h97,hi,ah];exact aa trivial rfl
 have hi97:¬ (op:Int)=97:=aq;rw [aC h97];simp [go_sem,h97,hi97];by_cases h99:op=99
 ·have hi:(op:Int)=99:=aq;rw [ay h99];simp [go_sem,h99,hi,ah];exact aa trivial rfl
 have hi99:¬ (op:Int)=99:=aq;rw [aC h99];simp [go_sem,h99,hi99];by_cases h100:op=100
 ·have hi:(op:Int)=100:=aq;rw [ay h100];simp [go_sem,h100,hi,ah];exact aa trivial rfl
 have hi100:¬ (op:Int)=100:=aq;rw [aC h100];simp [go_sem,h100,hi100];by_cases h103:op=103
 ·have hi:(op:Int)=103:=aq;rw [ay h103];simp [go_sem,h103,hi,ah];exact aa trivial rfl
 have hi103:¬ (op:Int)=103:=aq;rw [aC h103];simp [go_sem,h103,hi103];by_cases h104:op=104
 ·have hi:(op:Int)=104:=aq;rw [ay h104];simp [go_sem,h104,hi,ah];exact aa trivial rfl
 have hi104:¬ (op:Int)=104:=aq;rw [aC h104];simp [go_sem,h104,hi104];by_cases h105:op=105
 ·have hi:(op:Int)=105:=aq;rw [ay h105];simp [go_sem,h105,hi,ah];exact aa trivial rfl
 have hi105:¬ (op:Int)=105:=aq;rw [aC h105];simp [go_sem,h105,hi105];by_cases h106:op=106
 ·have hi:(op:Int)=106:=aq;rw [ay h106];simp [go_sem,h106,hi,ah];exact aa trivial rfl
 have hi106:¬ (op:Int)=106:=aq;rw [aC h106];simp [go_sem,h106,hi106];by_cases h107:op=107
 ·have hi:(op:Int)=107:=aq;rw [ay h107];simp [go_sem,h107,hi,ah];exact aa trivial rfl
 have hi107:¬ (op:Int)=107:=aq;rw [aC h107];simp [go_sem,h107,hi107];by_cases h108:op=108
 ·have hi:(op:Int)=108:=aq;rw [ay h108];simp [go_sem,h108,hi,ah];exact aa trivial rfl
 have hi108:¬ (op:Int)=108:=aq;rw [aC h108];simp [go_sem,h108,hi108];by_cases h109:op=109
 ·have hi:(op:Int)=109:=aq;rw [ay h109];simp [go_sem,h109,hi,ah];exact aa trivial rfl
 have hi109:¬ (op:Int)=109:=aq;rw [aC h109];simp [go_sem,h109,hi109];by_cases h110:op=110
 ·have hi:(op:Int)=110:=aq;rw [ay h110];simp [go_sem,h110,hi,ah];exact aa trivial rfl
 have hi110:¬ (op:Int)=110:=aq;rw [aC h110];simp [go_sem,h110,hi110];by_cases h111:op=111
 ·have hi:(op:Int)=111:=aq;rw [ay h111];simp [go_sem,h111,hi,ah];exact aa trivial rfl
 have hi111:¬ (op:Int)=111:=aq;rw [aC h111];simp [go_sem,h111,hi111];by_cases h112:op=112
 ·have hi:(op:Int)=112:=aq;rw [ay h112];simp [go_sem,h112,hi,ah];exact aa trivial rfl
 have hi112:¬ (op:Int)=112:=aq;rw [aC h112];simp [go_sem,h112,hi112];by_cases h113:op=113
 ·have hi:(op:Int)=113:=aq;rw [ay h113];simp [go_sem,h113,hi,ah];exact aa trivial rfl
 have hi113:¬ (op:Int)=113:=aq;rw [aC h113];simp [go_sem,h113,hi113];by_cases h114:op=114
 ·have hi:(op:Int)=114:=aq;rw [ay h114];simp [go_sem,h114,hi,ah];exact aa trivial rfl
 have hi114:¬ (op:Int)=114:=aq;rw [aC h114];simp [go_sem,h114,hi114];by_cases h115:op=115
 ·have hi:(op:Int)=115:=aq;rw [ay h115];simp [go_sem,h115,hi,ah];exact aa trivial rfl
 have hi115:¬ (op:Int)=115:=aq;rw [aC h115];simp [go_sem,h115,hi115];by_cases h116:op=116
 ·have hi:(op:Int)=116:=aq;rw [ay h116];simp [go_sem,h116,hi,ah];exact aa trivial rfl
 have hi116:¬ (op:Int)=116:=aq;rw [aC h116];simp [go_sem,h116,hi116];by_cases h117:op=117
 ·have hi:(op:Int)=117:=aq;rw [ay h117];simp [go_sem,h117,hi,ah];exact aa trivial rfl
 have hi117:¬ (op:Int)=117:=aq;rw [aC h117];simp [go_sem,h117,hi117];by_cases h118:op=118
 ·have hi:(op:Int)=118:=aq;rw [ay h118];simp [go_sem,h118,hi,ah];exact aa trivial rfl
 have hi118:¬ (op:Int)=118:=aq;rw [aC h118];simp [go_sem,h118,hi118];by_cases h119:op=119
 ·have hi:(op:Int)=119:=aq;rw [ay h119];simp [go_sem,h119,hi,ah];exact aa trivial rfl
 have hi119:¬ (op:Int)=119:=aq;rw [aC h119];simp [go_sem,h119,hi119];by_cases h120:op=120
 ·have hi:(op:Int)=120:=aq;rw [ay h120];simp [go_sem,h120,hi,ah];exact aa trivial rfl
 have hi120:¬ (op:Int)=120:=aq;rw [aC h120];simp [go_sem,h120,hi120];by_cases h121:op=121
 ·have hi:(op:Int)=121:=aq;rw [ay h121];simp [go_sem,h121,hi,ah];exact aa trivial rfl
 have hi121:¬ (op:Int)=121:=aq;rw [aC h121];simp [go_sem,h121,hi121];by_cases h122:op=122
 ·have hi:(op:Int)=122:=aq;rw [ay h122];simp [go_sem,h122,hi,ah];exact aa trivial rfl
 have hi122:¬ (op:Int)=122:=aq;rw [aC h122];simp [go_sem,h122,hi122];by_cases h123:op=123
 ·have hi:(op:Int)=123:=aq;rw [ay h123];simp [go_sem,h123,hi,ah];exact aa trivial rfl
 have hi123:¬ (op:Int)=123:=aq;rw [aC h123];simp [go_sem,h123,hi123];by_cases h124:op=124
 ·have hi:(op:Int)=124:=aq;rw [ay h124];simp [go_sem,h124,hi,ah];exact aa trivial rfl
 have hi124:¬ (op:Int)=124:=aq;rw [aC h124];simp [go_sem,h124,hi124];by_cases h125:op=125
 ·have hi:(op:Int)=125:=aq;rw [ay h125];simp [go_sem,h125,hi,ah];exact aa trivial rfl
 have hi125:¬ (op:Int)=125:=aq;rw [aC h125];simp [go_sem,h125,hi125];exact aa trivial rfl
set_option maxRecDepth 4000 in
theorem xn (op:Nat) (h8:op<256):av Tryz.prog 192 [.d (.int .u8 (op:Int))] (fun v=>v=.d (.str (ox op jQ))):=by
 refine bK Tryz.func192 Tryz.ntmps192 (rs:=[.tmp 2]) a9 ?_;simp [go_sem,jQ];by_cases h126:op=126
 ·have hi:(op:Int)=126:=aq;rw [ay h126];simp [go_sem,h126,hi,ah];exact aa trivial rfl
 have hi126:¬ (op:Int)=126:=aq;rw [aC h126];simp [go_sem,h126,hi126];by_cases h130:op=130
 ·have hi:(op:Int)=130:=aq;rw [ay h130];simp [go_sem,h130,hi,ah];exact aa trivial rfl
 have hi130:¬ (op:Int)=130:=aq;rw [aC h130];simp [go_sem,h130,hi130];by_cases h135:op=135
 ·have hi:(op:Int)=135:=aq;rw [ay h135];simp [go_sem,h135,hi,ah];exact aa trivial rfl
 have hi135:¬ (op:Int)=135:=aq;rw [aC h135];simp [go_sem,h135,hi135];by_cases h136:op=136
 ·have hi:(op:Int)=136:=aq;rw [ay h136];simp [go_sem,h136,hi,ah];exact aa trivial rfl
 have hi136:¬ (op:Int)=136:=aq;rw [aC h136];simp [go_sem,h136,hi136];by_cases h139:op=139
 ·have hi:(op:Int)=139:=aq;rw [ay h139];simp [go_sem,h139,hi,ah];exact aa trivial rfl
 have hi139:¬ (op:Int)=139:=aq;rw [aC h139];simp [go_sem,h139,hi139];by_cases h140:op=140
 ·have hi:(op:Int)=140:=aq;rw [ay h140];simp [go_sem,h140,hi,ah];exact aa trivial rfl
 have hi140:¬ (op:Int)=140:=aq;rw [aC h140];simp [go_sem,h140,hi140];by_cases h143:op=143
 ·have hi:(op:Int)=143:=aq;rw [ay h143];simp [go_sem,h143,hi,ah];exact aa trivial rfl
 have hi143:¬ (op:Int)=143:=aq;rw [aC h143];simp [go_sem,h143,hi143];by_cases h144:op=144
 ·have hi:(op:Int)=144:=aq;rw [ay h144];simp [go_sem,h144,hi,ah];exact aa trivial rfl
 have hi144:¬ (op:Int)=144:=aq;rw [aC h144];simp [go_sem,h144,hi144];by_cases h145:op=145
 ·have hi:(op:Int)=145:=aq;rw [ay h145];simp [go_sem,h145,hi,ah];exact aa trivial rfl
 have hi145:¬ (op:Int)=145:=aq;rw [aC h145];simp [go_sem,h145,hi145];by_cases h146:op=146
 ·have hi:(op:Int)=146:=aq;rw [ay h146];simp [go_sem,h146,hi,ah];exact aa trivial rfl
 have hi146:¬ (op:Int)=146:=aq;rw [aC h146];simp [go_sem,h146,hi146];by_cases h147:op=147
 ·have hi:(op:Int)=147:=aq;rw [ay h147];simp [go_sem,h147,hi,ah];exact aa trivial rfl
 have hi147:¬ (op:Int)=147:=aq;rw [aC h147];simp [go_sem,h147,hi147];by_cases h148:op=148
 ·have hi:(op:Int)=148:=aq;rw [ay h148];simp [go_sem,h148,hi,ah];exact aa trivial rfl
 have hi148:¬ (op:Int)=148:=aq;rw [aC h148];simp [go_sem,h148,hi148];by_cases h154:op=154
 ·have hi:(op:Int)=154:=aq;rw [ay h154];simp [go_sem,h154,hi,ah];exact aa trivial rfl
 have hi154:¬ (op:Int)=154:=aq;rw [aC h154];simp [go_sem,h154,hi154];by_cases h155:op=155
 ·have hi:(op:Int)=155:=aq;rw [ay h155];simp [go_sem,h155,hi,ah];exact aa trivial rfl
 have hi155:¬ (op:Int)=155:=aq;rw [aC h155];simp [go_sem,h155,hi155];by_cases h156:op=156
 ·have hi:(op:Int)=156:=aq;rw [ay h156];simp [go_sem,h156,hi,ah];exact aa trivial rfl
 have hi156:¬ (op:Int)=156:=aq;rw [aC h156];simp [go_sem,h156,hi156];by_cases h157:op=157
 ·have hi:(op:Int)=157:=aq;rw [ay h157];simp [go_sem,h157,hi,ah];exact aa trivial rfl
 have hi157:¬ (op:Int)=157:=aq;rw [aC h157];simp [go_sem,h157,hi157];by_cases h158:op=158
 ·have hi:(op:Int)=158:=aq;rw [ay h158];simp [go_sem,h158,hi,ah];exact aa trivial rfl
 have hi158:¬ (op:Int)=158:=aq;rw [aC h158];simp [go_sem,h158,hi158];by_cases h159:op=159
 ·have hi:(op:Int)=159:=aq;rw [ay h159];simp [go_sem,h159,hi,ah];exact aa trivial rfl
 have hi159:¬ (op:Int)=159:=aq;rw [aC h159];simp [go_sem,h159,hi159];by_cases h160:op=160
 ·have hi:(op:Int)=160:=aq;rw [ay h160];simp [go_sem,h160,hi,ah];exact aa trivial rfl
 have hi160:¬ (op:Int)=160:=aq;rw [aC h160];simp [go_sem,h160,hi160];by_cases h161:op=161
 ·have hi:(op:Int)=161:=aq;rw [ay h161];simp [go_sem,h161,hi,ah];exact aa trivial rfl
 have hi161:¬ (op:Int)=161:=aq;rw [aC h161];simp [go_sem,h161,hi161];exact aa trivial rfl
set_option maxRecDepth 4000 in
theorem zw (op:Nat) (h8:op<256):av Tryz.prog 193 [.d (.int .u8 (op:Int))] (fun v=>v=.d (.str (ox op ny))):=by
 refine bK Tryz.func193 Tryz.ntmps193 (rs:=[.tmp 2]) a9 ?_;simp [go_sem,ny];by_cases h162:op=162
 ·have hi:(op:Int)=162:=aq;rw [ay h162];simp [go_sem,h162,hi,ah];exact aa trivial rfl
 have hi162:¬ (op:Int)=162:=aq;rw [aC h162];simp [go_sem,h162,hi162];by_cases h163:op=163
 ·have hi:(op:Int)=163:=aq;rw [ay h163];simp [go_sem,h163,hi,ah];exact aa trivial rfl
 have hi163:¬ (op:Int)=163:=aq;rw [aC h163];simp [go_sem,h163,hi163];by_cases h164:op=164
 ·have hi:(op:Int)=164:=aq;rw [ay h164];simp [go_sem,h164,hi,ah];exact aa trivial rfl
 have hi164:¬ (op:Int)=164:=aq;rw [aC h164];simp [go_sem,h164,hi164];by_cases h165:op=165
 ·have hi:(op:Int)=165:=aq;rw [ay h165];simp [go_sem,h165,hi,ah];exact aa trivial rfl
 have hi165:¬ (op:Int)=165:=aq;rw [aC h165];simp [go_sem,h165,hi165];by_cases h168:op=168
 ·have hi:(op:Int)=168:=aq;rw [ay h168];simp [go_sem,h168,hi,ah];exact aa trivial rfl
 have hi168:¬ (op:Int)=168:=aq;rw [aC h168];simp [go_sem,h168,hi168];by_cases h170:op=170
 ·have hi:(op:Int)=170:=aq;rw [ay h170];simp [go_sem,h170,hi,ah];exact aa trivial rfl
 have hi170:¬ (op:Int)=170:=aq;rw [aC h170];simp [go_sem,h170,hi170];by_cases h172:op=172
 ·have hi:(op:Int)=172:=aq;rw [ay h172];simp [go_sem,h172,hi,ah];exact aa trivial rfl
 have hi172:¬ (op:Int)=172:=aq;rw [aC h172];simp [go_sem,h172,hi172];by_cases h173:op=173
 ·have hi:(op:Int)=173:=aq;rw [ay h173];simp [go_sem,h173,hi,ah];exact aa trivial rfl
 have hi173:¬ (op:Int)=173:=aq;rw [aC h173];simp [go_sem,h173,hi173];by_cases h177:op=177
 ·have hi:(op:Int)=177:=aq;rw [ay h177];simp [go_sem,h177,hi,ah];exact aa trivial rfl
 have hi177:¬ (op:Int)=177:=aq;rw [aC h177];simp [go_sem,h177,hi177];by_cases h178:op=178
 ·have hi:(op:Int)=178:=aq;rw [ay h178];simp [go_sem,h178,hi,ah];exact aa trivial rfl
 have hi178:¬ (op:Int)=178:=aq;rw [aC h178];simp [go_sem,h178,hi178];by_cases h179:op=179
 ·have hi:(op:Int)=179:=aq;rw [ay h179];simp [go_sem,h179,hi,ah];exact aa trivial rfl
 have hi179:¬ (op:Int)=179:=aq;rw [aC h179];simp [go_sem,h179,hi179];by_cases h186:op=186
 ·have hi:(op:Int)=186:=aq;rw [ay h186];simp [go_sem,h186,hi,ah];exact aa trivial rfl
 have hi186:¬ (op:Int)=186:=aq;rw [aC h186];simp [go_sem,h186,hi186];by_cases h187:op=187
 ·have hi:(op:Int)=187:=aq;rw [ay h187];simp [go_sem,h187,hi,ah];exact aa trivial rfl
 have hi187:¬ (op:Int)=187:=aq;rw [aC h187];simp [go_sem,h187,hi187];by_cases h188:op=188
 ·have hi:(op:Int)=188:=aq;rw [ay h188];simp [go_sem,h188,hi,ah];exact aa trivial rfl
 have hi188:¬ (op:Int)=188:=aq;rw [aC h188];simp [go_sem,h188,hi188];by_cases h204:op=204
 ·have hi:(op:Int)=204:=aq;rw [ay h204];simp [go_sem,h204,hi,ah];exact aa trivial rfl
 have hi204:¬ (op:Int)=204:=aq;rw [aC h204];simp [go_sem,h204,hi204];exact aa trivial rfl
def DD (op:Nat):List Int:=if ox op pE=[] then (if ox op jQ=[] then ox op ny else ox op jQ) else ox op pE
theorem Nb:(List.range 256).all (fun op=>nL op == !decide (DD op=[]))=true:=by kernel_rfl
theorem Q7 {op:Nat} (h:op<256):nL op=!decide (DD op=[]):=by
 have:=d9.1 Nb op (List.mem_range.2 h)
 simpa using this
@[go_sem] theorem YV:eE Tryz.prog 253=some [.any,.any,.any]:=by kernel_rfl
@[go_sem] theorem YW:bM Tryz.prog 253=.arr 3 252:=by kernel_rfl
@[go_sem] theorem YX:Tryz.prog.cellsOf 252=1:=by kernel_rfl
@[go_sem] theorem YY:bM Tryz.prog 252=.scal:=by kernel_rfl
theorem Nc (op:Nat) (h8:op<256):av Tryz.prog 168 [.d (.int .u8 (op:Int))] (fun v=>v=.tup [.d (.str (DD op)),.d (.bool (nL op))]):=by
 rw [Q7 h8];refine bK Tryz.func168 Tryz.ntmps168 (rs:=[.tmp 2,.tmp 3]) a9 ?_;simp [go_sem];have m1:=FO op h8;have m2:=xn op h8;have m3:=zw op h8;unfold DD;generalize ox op pE=a1 at *;generalize ox op jQ=a2 at *;generalize ox op ny=a3 at *
 refine ax (fun k:Nat=>⟨[(0,.d (.int .u8 (op:Int))),(7,.agg [.fn 191 [],.fn 192 [],.fn 193 []]),(8,.d (.int .i64 (k:Int)))],[],1000⟩)
  (fun k=>k≤3∧(1≤k→a1=[])∧(2≤k→a2=[])∧(3≤k→a3=[])) (fun k=>3 - k) 0 ⟨aq,fun h=>aq,fun h=>aq,fun h=>aq⟩ (by simp [aA,ai,fv,lk,AV.low,AV.low1]) ?_
 rintro k ⟨hk,h1,h2,h3⟩;have hk4:k=0 ∨ k=1 ∨ k=2 ∨ k=3:=aq;rcases hk4 with rfl | rfl | rfl | rfl
 ·simp [go_sem];refine ag m1 a9 ?_;by_cases ha:a1=[]
  ·subst ha;simp [go_sem];refine ap 1 aw aq ?_;simp [aA,ai,fv,lk,AV.low,AV.low1];rfl
  ·simp [go_sem,ha,ah];exact aa a9 rfl
 ·simp [go_sem];obtain rfl:=h1 aq;refine ag m2 a9 ?_;by_cases ha:a2=[]
  ·subst ha;simp [go_sem];refine ap 2 aw aq ?_;simp [aA,ai,fv,lk,AV.low,AV.low1];rfl
  ·simp [go_sem,ha,ah];exact aa a9 rfl
 ·simp [go_sem];obtain rfl:=h1 aq;obtain rfl:=h2 aq;refine ag m3 a9 ?_;by_cases ha:a3=[]
  ·subst ha;simp [go_sem];refine ap 3 aw aq ?_;simp [aA,ai,fv,lk,AV.low,AV.low1];rfl
  ·simp [go_sem,ha,ah];exact aa a9 rfl
 ·obtain rfl:=h1 aq;obtain rfl:=h2 aq;obtain rfl:=h3 aq;simp [go_sem,ah];exact aa a9 rfl
end Go.Proofs.YtmfnimjnneflnaaGreat
namespace Go.Sha
open Go.Proofs.YtmfnimjnneflnaaGreat
structure RnS where
 r:Rn
 J:List Bool
 H:Nat
end Go.Sha
namespace Go.Proofs.YtmfnimjnneflnaaGreat
open Go.Am Go.Sha
def bA (r:Rn) (b c:AV):List AV:=[.d (.ro 1 (r.main.map bJ)),.d (.ro 1 (r.alt.map bJ)),b,.d (.int .i64 (gq r:Int)),.d (.int .i64 r.bud),c,.d (.int .i64 r.e)]
def rB (l J:List Bool):List (List AV):=(l ++ J).map fun b=>[AV.d (.bool b)]
def Tf (c:Int × Int):List AV:=[.d (.int .i64 c.1),.d (.int .u64 c.2)]
def Gw (l:List (Int × Int)) (H:Nat):List (List AV):=l.map Tf ++ List.replicate H [AV.d (.int .i64 0),.d (.int .u64 0)]
def bB (C:List AV) (s:RnS) (f:Nat→Nat):List AV:=C ++ bA s.r (.own (f 1) 0 s.r.br.length (s.r.br.length+s.J.length)) (.own (f 2) 0 s.r.cl.length (s.r.cl.length+s.H))
def aF (C:List AV) (s:RnS) (f:Nat→Nat):Nat→Blk
 | 0=>⟨158,48,[bB C s f]⟩
 | 1=>⟨4,1,rB s.r.br s.J⟩
 | _=>⟨55,2,Gw s.r.cl s.H⟩
def ig (C:List AV):Prop:=(∀ v,v ∈ C→∀ ρ,AV.ren ρ v=v)∧(∀ v,v ∈ C→∀ n,v.low1 n)∧C.length=41
theorem IU {C:List AV} (h:ig C) (ρ:Nat→Nat) (l:List AV):AV.renL ρ (C ++ l)=C ++ AV.renL ρ l:=by
 rw [py,py,List.map_append];congr 1;rw [List.map_congr_left (g:=id) (fun v hv=>h.1 v hv ρ),List.map_id]
theorem Q8 (ρ:Nat→Nat) (l J:List Bool):aR ρ (rB l J)=rB l J:=by
 unfold aR rB;rw [List.map_map];rfl
theorem Q9 (ρ:Nat→Nat) (l:List (Int × Int)) (H:Nat):aR ρ (Gw l H)=Gw l H:=by
 unfold aR Gw;rw [List.map_append,List.map_map,List.map_replicate];rfl
theorem qM {C:List AV} (hC:ig C):Fg 3 (aF C):=by
 refine ⟨fun s f ρ g i hi h=>?_,fun s f i hi=>?_⟩
 ·match i with
  | 0=>simp [aF,bB,bA,Blk.ren,aR,IU hC,AV.renL,AV.ren,h 1 aq,h 2 aq]
  | 1=>simp only [aF,Blk.ren,Q8]
  | i+2=>simp only [aF,Blk.ren,Q9]
 ·match i with
  | 0=>exact Nat.succ_ne_zero 47
  | 1=>exact Nat.succ_ne_zero 0
  | i+2=>exact Nat.succ_ne_zero 1
theorem bz (C:List AV) (s:RnS) (f:Nat→Nat):gA 3 (aF C) s f=[(f 0,aF C s f 0),(f 1,aF C s f 1),(f 2,aF C s f 2)]:=rfl
theorem aB {C:List AV} {s:RnS} {hp:Hp} (h0:lk 0 hp=some (aF C s id 0)) (h1:lk 1 hp=some (aF C s id 1)) (h2:lk 2 hp=some (aF C s id 2)):rI 3 (aF C) s id hp:=by
 intro i hi
 match i with
 | 0=>exact h0
 | 1=>exact h1
 | 2=>exact h2
theorem bu {C:List AV} (hC:ig C) (r:Rn) (J:List Bool) (H:Nat) (x:Int):cJ Tryz.prog 3 (aF C) 96 ⟨r,J,H⟩ [.ptr 0 0 0 1,.d (.int .i64 x)] (fun v s'=>s'=⟨au x r,J,H⟩):=by
 refine al Tryz.func96 (by kernel_rfl) rfl Tryz.ntmps96 (rs:=[]) rfl (dS rfl) (by decide) ?_;rw [bz];simp only [aF,bB,bA,id];have hl:=hC.2.2;by_cases h:r.e=0
 ·have hf:au x r={ r with e:=x }:=if_pos h;simp [go_sem,h,ah,hl,hf];exact aB rfl rfl rfl
 ·have hf:au x r=r:=if_neg h;simp [go_sem,h,ah,hl,hf];exact aB rfl rfl rfl
theorem ek {C:List AV} (hC:ig C) (r:Rn) (J:List Bool) (H:Nat):cJ Tryz.prog 3 (aF C) 100 ⟨r,J,H⟩ [.ptr 0 0 0 1] (fun v s'=>v=.d (.bool (decide (r.e=0)))∧s'=⟨r,J,H⟩):=by
 refine al Tryz.func100 (by kernel_rfl) rfl Tryz.ntmps100 (rs:=[.tmp 2]) rfl (dS rfl) (by decide) ?_;rw [bz];simp only [aF,bB,bA,id];have hl:=hC.2.2;simp [go_sem,ah,hl];exact aB rfl rfl rfl
theorem dI {C:List AV} (hC:ig C) {N:Nat} {Pp:Hp} {g:FuncId} {s:RnS} {ars:List AV} {R:AV→RnS→Prop} {K:AV→Hp→Prop} (h:cJ Tryz.prog 3 (aF C) g s (.ptr 0 0 0 1 :: ars) R) (hN:3≤N) (hP:∀ p,p ∈ Pp→p.1<N∧3≤p.1) (has:∀ ρ,AV.renL ρ ars=ars)
  (hK:∀ v s' ρ,R v s'→(∀ j,j<3→ρ j=j)→K (v.ren ρ) (Pp ++ gA 3 (aF C) s' id)):rM Tryz.prog g (.ptr 0 0 0 1 :: ars) (Pp ++ gA 3 (aF C) s id) N K:=by
 refine rT (qM hC) h (aQ 3) (fun j hj=>by show j<N;omega) (fun p hp=>⟨(hP p hp).1,fun j hj=>by have:=(hP p hp).2;show j ≠ p.1;omega⟩) ?_ hK;rw [AV.renL,has,AV.ren];rfl
structure StOk (main alt:List bc):Prop where
 m:main.length≤1000
 a:alt.length≤1000
 mb:∀ x,x ∈ main→x.length≤1000∧bytes x
 ab:∀ x,x ∈ alt→x.length≤1000∧bytes x
theorem StOk.m1 {main alt:List bc} (h:StOk main alt):∀ x,x ∈ main→x.length≤1000000:=fun x hx=>by have:=(h.mb x hx).1;omega
theorem StOk.a1 {main alt:List bc} (h:StOk main alt):∀ x,x ∈ alt→x.length≤1000000:=fun x hx=>by have:=(h.ab x hx).1;omega
theorem BC {C l:List AV} (a b:AV) (h:C.length=41):List.drop 43 (C ++ a :: b :: l)=l:=by rw [List.drop_append,h,dg aq];rfl
theorem Nh {C:List AV} (hC:ig C) (r:Rn) (J:List Bool) (H:Nat) (hk:StOk r.main r.alt):cJ Tryz.prog 3 (aF C) 220 ⟨r,J,H⟩ [.ptr 0 0 0 1] (fun v s'=>(v=.nil∧(bn r).1=[] ∨ v=.d (nb (bn r).1))∧s'=⟨(bn r).2,J,H⟩):=by
 refine al Tryz.func220 (by kernel_rfl) rfl Tryz.ntmps220 (rs:=[.tmp 2]) rfl (dS rfl) (by decide) ?_;have hl:=hC.2.2;simp [go_sem];refine dI (Pp:=[]) hC (ek hC r J H) aq aw (by simp [AV.renL,AV.ren]) ?_;rintro v s' ρ ⟨rfl,rfl⟩ hρ;by_cases h:r.e=0
 ·have hpop:=zn r.main r.alt hk.m hk.a hk.m1 hk.a1;obtain ⟨main,alt,br,bud,cl,e⟩:=r;simp only at h hpop;subst h;rw [bz];simp only [aF,bB,bA,id,jm] at *;simp [go_sem,hl,AV.ren];refine ag hpop (by intro v hv;simp at hv;subst hv;exact eu main alt) ?_;rcases main.eq_nil_or_concat with rfl | ⟨l,x,hm⟩
  ·have ht:bn ⟨[],alt,br,bud,cl,0⟩=([],au 12 ⟨[],alt,br,bud,cl,0⟩):=rfl;rw [ht];simp [go_sem,Bo,jm];refine dI (Pp:=[(420,⟨155,2,[[.d (.ro 1 []),.d (.ro 1 [])]]⟩)]) (s:=⟨⟨[],alt,br,bud,cl,0⟩,J,H⟩) hC (bu hC ⟨[],alt,br,bud,cl,0⟩ J H 12) aq (by intro p hp;simp at hp;subst hp;simp) (by simp [AV.renL,AV.ren]) ?_;rintro v s' ρ rfl hρ;rw [bz];generalize au 12 ⟨[],alt,br,bud,cl,0⟩=r';simp only [aF,bB,bA,id];simp [go_sem,ah];exact aB rfl rfl rfl
  ·rw [List.concat_eq_append] at hm;subst hm;have ht:bn ⟨l ++ [x],alt,br,bud,cl,0⟩=(x,⟨l,alt,br,bud,cl,0⟩):=by simp [bn]
   rw [ht];simp [go_sem,Bo,jm,hl,ah,BC];exact aB rfl rfl rfl
 ·have hf:bn r=([],r):=if_neg h;rw [hf,bz];simp only [aF,bB,bA,id];simp [go_sem,h,ah,AV.ren];exact aB rfl rfl rfl
theorem jR {C:List AV} (hC:ig C) (r:Rn) (J:List Bool) (H:Nat) (hk:StOk r.main r.alt):cJ Tryz.prog 3 (aF C) 220 ⟨r,J,H⟩ [.ptr 0 0 0 1] (fun v s'=>v=.d (nb (bn r).1)∧s'=⟨(bn r).2,J,H⟩):=by
 refine M4 (Nh hC r J H hk) ?_;rintro v s' ⟨⟨rfl,h⟩ | h,rfl⟩
 ·exact .inr ⟨rfl,1,by rw [h];rfl,rfl⟩
 ·exact .inl ⟨h,rfl⟩
theorem IV {l:List bc} {x:bc} {alt:List bc} (h:StOk (l ++ [x]) alt):StOk l alt∧x.length≤1000∧bytes x :=
 ⟨⟨by have:=h.m;simp at this;omega,h.a,fun y hy=>h.mb y (by simp [hy]),h.ab⟩,h.mb x aw⟩
theorem fL {x:Int} {r:Rn} (h:StOk r.main r.alt):StOk (au x r).main (au x r).alt:=by
 unfold au;split <;> exact h
theorem dy {r:Rn} (h:StOk r.main r.alt):StOk (bn r).2.main (bn r).2.alt∧(bn r).1.length≤1000∧bytes (bn r).1:=by
 unfold bn
 split
 ·split
  ·exact ⟨fL h,aw,fun x hx=>by simp at hx⟩
  ·rename_i h2;rcases r.main.eq_nil_or_concat with e | ⟨l,x,hm⟩
   ·exact absurd (by rw [e];rfl) h2
   ·rw [List.concat_eq_append] at hm;rw [hm] at h ⊢;simp only [List.dropLast_concat,List.getLastD_concat];exact IV h
 ·exact ⟨h,aw,fun x hx=>by simp at hx⟩
theorem oy (r:Rn):au 0 r=r:=by
 unfold au
 split
 ·rename_i h;obtain ⟨a,b,c,d,f,e⟩:=r;simp only at h;subst h;rfl
 ·rfl
theorem xo {x:Int} {r:Rn} (hx:x ≠ 0):(au x r).e ≠ 0:=by
 unfold au
 split
 ·exact hx
 ·rename_i h;exact h
theorem IW {C:List AV} (hC:ig C) (r:Rn) (J:List Bool) (H:Nat) (hk:StOk r.main r.alt):cJ Tryz.prog 3 (aF C) 231 ⟨r,J,H⟩ [.ptr 0 0 0 1] (fun v s'=>v=.d (nb (lr r).1)∧s'=⟨(lr r).2,J,H⟩):=by
 refine al Tryz.func231 (by kernel_rfl) rfl Tryz.ntmps231 (rs:=[.tmp 2]) rfl (dS rfl) (by decide) ?_;have hl:=hC.2.2;have hpop:=zn r.main r.alt hk.m hk.a hk.m1 hk.a1;obtain ⟨main,alt,br,bud,cl,e⟩:=r;simp only at hpop;rw [bz];simp only [aF,bB,bA,id,jm] at *;simp [go_sem,hl];refine ag hpop (by intro v hv;simp at hv;subst hv;exact eu main alt) ?_;rcases main.eq_nil_or_concat with rfl | ⟨l,x,hm⟩
 ·have ht:lr ⟨[],alt,br,bud,cl,e⟩=([],au 12 ⟨[],alt,br,bud,cl,e⟩):=rfl;rw [ht];simp [go_sem,Bo,jm];refine dI (Pp:=[(324,⟨155,2,[[.d (.ro 1 []),.d (.ro 1 [])]]⟩)]) (s:=⟨⟨[],alt,br,bud,cl,e⟩,J,H⟩) hC (bu hC ⟨[],alt,br,bud,cl,e⟩ J H 12) aq (by intro p hp;simp at hp;subst hp;simp) (by simp [AV.renL,AV.ren]) ?_;rintro v s' ρ rfl hρ;rw [bz];generalize au 12 ⟨[],alt,br,bud,cl,e⟩=r';simp only [aF,bB,bA,id];simp [go_sem,ah];exact ⟨_,⟨rfl,rfl⟩,aB rfl rfl rfl⟩
 ·rw [List.concat_eq_append] at hm;subst hm;have ht:lr ⟨l ++ [x],alt,br,bud,cl,e⟩=(x,⟨l ++ [x],alt,br,bud,cl,e⟩):=by simp [lr]
  rw [ht];have hf:=bu hC ⟨l ++ [x],alt,br,bud,cl,e⟩ J H 0;rw [oy] at hf;simp [go_sem,Bo,jm,hl,-List.map_append];refine dI (Pp:=[(324,⟨155,2,[[.d (.ro 1 (l.map bJ)),.d (.ro 1 (alt.map bJ))]]⟩)]) (s:=⟨⟨l ++ [x],alt,br,bud,cl,e⟩,J,H⟩) hC hf aq (by intro p hp;simp at hp;subst hp;simp) (by simp [AV.renL,AV.ren]) ?_;rintro v s' ρ rfl hρ;rw [bz];simp only [aF,bB,bA,id];simp [go_sem,ah,-List.map_append];exact aB rfl rfl rfl
theorem rC {C:List AV} (hC:ig C) (r:Rn) (J:List Bool) (H:Nat) (hk:StOk r.main r.alt) (most:Nat) (hm:most≤8):cJ Tryz.prog 3 (aF C) 227 ⟨r,J,H⟩ [.ptr 0 0 0 1,.d (.int .i64 (most:Int))] (fun v s'=>v=.d (.int .i64 (d6 most r).1)∧s'=⟨(d6 most r).2,J,H⟩):=by
 refine al Tryz.func227 (by kernel_rfl) rfl Tryz.ntmps227 (rs:=[.tmp 4]) rfl (dS rfl) (by decide) ?_;have hl:=hC.2.2;simp [go_sem];refine dI (Pp:=[]) hC (jR hC r J H hk) aq aw (by simp [AV.renL,AV.ren]) ?_;rintro v s' ρ ⟨rfl,rfl⟩ hρ;obtain ⟨hk2,hb1,hb2⟩:=dy hk;unfold d6;generalize bn r=p at *;obtain ⟨b,r2⟩:=p;simp only at hk2 hb1 hb2 ⊢;simp [go_sem,AV.ren];refine dI (Pp:=[]) hC (ek hC r2 J H) aq aw (by simp [AV.renL,AV.ren]) ?_;rintro v s' ρ' ⟨rfl,rfl⟩ hρ';by_cases h:r2.e=0
 ·have hd:=Bm most b hb2 hm aq;simp [go_sem,AV.ren,h];refine ag hd a9 ?_
  cases hq:fJ most b with
  | none =>
   simp [go_sem];refine dI (Pp:=[]) (s:=⟨r2,J,H⟩) hC (bu hC r2 J H 15) aq aw (by simp [AV.renL,AV.ren]) ?_;rintro v s' ρ rfl hρ;rw [bz];generalize au 15 r2=r';simp only [aF,bB,bA,id];simp [go_sem,ah];exact aB rfl rfl rfl
  | some n =>
   have hf:=bu hC r2 J H 0;rw [oy] at hf;simp [go_sem];refine dI (Pp:=[]) (s:=⟨r2,J,H⟩) hC hf aq aw (by simp [AV.renL,AV.ren]) ?_;rintro v s' ρ rfl hρ;rw [bz];simp only [aF,bB,bA,id];simp [go_sem,ah];exact aB rfl rfl rfl
 ·simp [go_sem,AV.ren,h,ah];rw [bz];exact aB rfl rfl rfl
theorem oC {C:List AV} (hC:ig C) (r:Rn) (J:List Bool) (H:Nat) (hk:StOk r.main r.alt) (b:bc) (hb:b.length≤1000000):cJ Tryz.prog 3 (aF C) 171 ⟨r,J,H⟩ [.ptr 0 0 0 1,.d (nb b)] (fun v s'=>s'=⟨dp b r,J,H⟩):=by
 refine al Tryz.func171 (by kernel_rfl) rfl Tryz.ntmps171 (rs:=[]) rfl (dS rfl) (by decide) ?_;have hl:=hC.2.2;have hpu:=FH r.main r.alt b hk.m hk.a hk.m1 hk.a1 hb;simp [go_sem];refine dI (Pp:=[]) hC (ek hC r J H) aq aw (by simp [AV.renL,AV.ren]) ?_;rintro v s' ρ ⟨rfl,rfl⟩ hρ;obtain ⟨main,alt,br,bud,cl,e⟩:=r;simp only at hpu;by_cases h:e=0
 ·subst h;rw [bz];simp only [aF,bB,bA,id,jm] at *;simp [go_sem,AV.ren,hl];refine ag hpu (by intro v hv;simp at hv;rcases hv with rfl | rfl;exact eu main alt;trivial) ?_;by_cases hc:fi (main ++ [b]) alt=0
  ·have hd:vB ⟨main ++ [b],alt,0⟩=.tup [.agg (jm (main ++ [b]) alt),.d (.int .i64 0)]:=by simp [vB,df,hc]
   have hp:dp b ⟨main,alt,br,bud,cl,0⟩=⟨main ++ [b],alt,br,bud,cl,0⟩:=by simp [dp,hc]
   rw [hd,hp];simp [go_sem,jm,hl,BC,ah];refine aB ?_ rfl rfl;simp [lk,aF,bB,bA];rfl
  ·have hd:vB ⟨main ++ [b],alt,0⟩=.tup [.agg (jm [] []),.d (.int .i64 (fi (main ++ [b]) alt))]:=by simp [vB,df,hc]
   have hp:dp b ⟨main,alt,br,bud,cl,0⟩=au (fi (main ++ [b]) alt) ⟨main,alt,br,bud,cl,0⟩:=by simp [dp,hc]
   rw [hd,hp];generalize fi (main ++ [b]) alt=x at *;simp [go_sem,jm,hl,hc];refine dI (Pp:=[(388,⟨155,2,[[.d (.ro 1 []),.d (.ro 1 [])]]⟩)]) (s:=⟨⟨main,alt,br,bud,cl,0⟩,J,H⟩) hC (bu hC ⟨main,alt,br,bud,cl,0⟩ J H x) aq (by intro p hp;simp at hp;subst hp;simp) (by simp [AV.renL,AV.ren]) ?_;rintro v s' ρ rfl hρ;rw [bz];generalize au x ⟨main,alt,br,bud,cl,0⟩=r';simp only [aF,bB,bA,id];simp [go_sem,ah];exact aB rfl rfl rfl
 ·have hp:dp b ⟨main,alt,br,bud,cl,e⟩=⟨main,alt,br,bud,cl,e⟩:=if_neg h;rw [hp];simp [go_sem,AV.ren,h,ah];rw [bz];exact aB rfl rfl rfl
theorem BD (r:Rn):gq r≤r.br.length:=List.length_filter_le _ _
theorem Ni (b:Bool) (r:Rn):gq (kK b r)=gq r+(if b then 0 else 1):=by
 unfold gq kK;simp only [List.filter_append,b_]
 cases b <;> rfl
theorem rW (l J:List Bool):(rB l J).length=l.length+J.length:=by simp [rB]
theorem zx {l J:List Bool}:(rB l J).take l.length=l.map fun b=>[AV.d (.bool b)]:=by
 unfold rB;rw [← List.map_take,List.take_left]
theorem Nj (l:List Bool) (b:Bool):(l.map fun b=>[AV.d (.bool b)]) ++ [[AV.d (.bool b)]]=rB (l ++ [b]) []:=by simp [rB]
theorem Nk (l:List Bool) (j b:Bool) (J:List Bool):(l.map fun b=>[AV.d (.bool b)]) ++ [AV.d (.bool b)] :: (rB l (j :: J)).drop (l.length+1)=rB (l ++ [b]) J:=by
 unfold rB;rw [← List.map_drop,← List.drop_drop,List.drop_left];simp
theorem pF {C:List AV} (hC:ig C) (r:Rn) (J:List Bool) (H:Nat) (b:Bool) (hb:r.br.length≤1000000):cJ Tryz.prog 3 (aF C) 195 ⟨r,J,H⟩ [.ptr 0 0 0 1,.d (.bool b)] (fun v s'=>∃ J',s'=⟨kK b r,J',H⟩):=by
 refine al Tryz.func195 (by kernel_rfl) rfl Tryz.ntmps195 (rs:=[]) rfl (dS rfl) (by decide) ?_;have hl:=hC.2.2;have hi:=BD r;have hie:=Ni b r;have w1:IntKind.i64.wrap ((gq r:Int)+1)=(gq r:Int)+1:=IntWalk.i64_in _ aq;rw [bz];simp only [aF,bB,bA,id];simp [go_sem,hl];obtain ⟨main,alt,br,bud,cl,e⟩:=r;simp only at hb hi w1 hie ⊢;generalize hq:gq ⟨main,alt,br,bud,cl,e⟩=q at *
 have e0:∀ J':List Bool,aF C ⟨kK b ⟨main,alt,br,bud,cl,e⟩,J',H⟩ id 0=⟨158,48,[C ++ [.d (.ro 1 (main.map bJ)),.d (.ro 1 (alt.map bJ)),.own 1 0 (br.length+1) (br.length+1+J'.length),.d (.int .i64 ((q+(if b then 0 else 1):Nat):Int)),.d (.int .i64 bud),.own 2 0 cl.length (cl.length+H),.d (.int .i64 e)]]⟩:=by
  intro J';simp only [aF,bB,bA,hie];simp [kK]
 have e1:∀ J':List Bool,aF C ⟨kK b ⟨main,alt,br,bud,cl,e⟩,J',H⟩ id 1=⟨4,1,rB (br ++ [b]) J'⟩:=fun _=>rfl;have e2:∀ J':List Bool,aF C ⟨kK b ⟨main,alt,br,bud,cl,e⟩,J',H⟩ id 2=⟨55,2,Gw cl H⟩:=fun _=>rfl;rcases J with _ | ⟨j,J⟩
 ·have hT:List.take br.length (rB br [])=br.map fun b=>[AV.d (.bool b)]:=zx;have hln:(rB br []).length=br.length+([]:List Bool).length:=rW _ _;have e0:=e0 [];have e1:=e1 [];have e2:=e2 [];rw [← Nj] at e1
  cases b
  ·simp [go_sem,dU,CV,hT,hln,hl,w1];exact ⟨aq,fun h=>aq,_,⟨[],rfl⟩,aB (e0 ▸ rfl) (e1 ▸ rfl) (e2 ▸ rfl)⟩
  ·simp [go_sem,dU,CV,hT,hln,hl];exact ⟨aq,fun h=>aq,_,⟨[],rfl⟩,aB (e0 ▸ rfl) (e1 ▸ rfl) (e2 ▸ rfl)⟩
 ·have hT:List.take br.length (rB br (j :: J))=br.map fun b=>[AV.d (.bool b)]:=zx;have hln:(rB br (j :: J)).length=br.length+(j :: J:List Bool).length:=rW _ _;have e0:=e0 J;have e1:=e1 J;have e2:=e2 J;rw [← Nk br j b J] at e1;rw [show br.length+1+J.length=br.length+(J.length+1) by omega] at e0
  cases b
  ·simp [go_sem,dU,CV,hT,hln,hl,w1];exact ⟨aq,_,⟨J,rfl⟩,aB (e0 ▸ rfl) (e1 ▸ rfl) (e2 ▸ rfl)⟩
  ·simp [go_sem,dU,CV,hT,hln,hl];exact ⟨aq,_,⟨J,rfl⟩,aB (e0 ▸ rfl) (e1 ▸ rfl) (e2 ▸ rfl)⟩
def Nl (o:Option Bool):AV:=match o with
 | some b=>.tup [.d (.bool b),.d (.bool true)]
 | none=>.tup [.d (.bool false),.d (.bool false)]
theorem Rb {l:List Bool} {J:List Bool} {k:Nat} {b:Bool} (h:l[k]?=some b):(rB l J)[k]?=some [.d (.bool b)]:=by
 unfold rB;rw [c_,List.getElem?_append_left (ci.1 h).1,h];rfl
theorem Nn {main alt:List bc} {l:List Bool} {b:Bool} {bud e:Int} {cl:List (Int × Int)}:gq ⟨main,alt,l ++ [b],bud,cl,e⟩=gq ⟨main,alt,l,bud,cl,e⟩+(if b then 0 else 1):=by
 unfold gq;simp only [List.filter_append,b_]
 cases b <;> rfl
theorem DF {C:List AV} (hC:ig C) (r:Rn) (J:List Bool) (H:Nat) (hb:r.br.length≤1000000):cJ Tryz.prog 3 (aF C) 196 ⟨r,J,H⟩ [.ptr 0 0 0 1] (fun v s'=>v=Nl (lu r).1∧∃ J',s'=⟨(lu r).2,J',H⟩):=by
 refine al Tryz.func196 (by kernel_rfl) rfl Tryz.ntmps196 (rs:=[.tmp 2,.tmp 3]) rfl (dS rfl) (by decide) ?_;have hl:=hC.2.2;have hi:=BD r;obtain ⟨main,alt,br,bud,cl,e⟩:=r;simp only at hb hi;rw [bz];simp only [aF,bB,bA,id];rcases br.eq_nil_or_concat with rfl | ⟨l,b,hm⟩
 ·have ht:lu ⟨main,alt,[],bud,cl,e⟩=(none,au 18 ⟨main,alt,[],bud,cl,e⟩):=rfl;rw [ht];simp [go_sem,hl];rw [show AV.own 1 0 0 J.length=AV.own 1 0 ([]:List Bool).length (([]:List Bool).length+J.length) by simp];refine dI (Pp:=[]) (s:=⟨⟨main,alt,[],bud,cl,e⟩,J,H⟩) hC (bu hC ⟨main,alt,[],bud,cl,e⟩ J H 18) aq aw (by simp [AV.renL,AV.ren]) ?_;rintro v s' ρ rfl hρ;rw [bz];generalize au 18 ⟨main,alt,[],bud,cl,e⟩=r';simp only [aF,bB,bA,id];simp [go_sem,ah,Nl];exact ⟨_,⟨J,rfl⟩,aB rfl rfl rfl⟩
 ·rw [List.concat_eq_append] at hm;subst hm;have ht:lu ⟨main,alt,l ++ [b],bud,cl,e⟩=(some b,⟨main,alt,l,bud,cl,e⟩):=by simp [lu]
  rw [ht];rw [Nn] at hi ⊢;have w1:IntKind.i64.wrap (((l ++ [b]).length:Int) - 1)=(l.length:Int):=by rw [IntWalk.i64_in _ (by simp at hb ⊢;omega)];simp
  have hs:(rB (l ++ [b]) J)[l.length]?=some [.d (.bool b)]:=Rb aw;have hsg:∀ h:l.length<(rB (l ++ [b]) J).length,(rB (l ++ [b]) J)[l.length]=[.d (.bool b)]:=fun h=>Option.some.inj ((cm h).symm.trans hs);have hr:rB (l ++ [b]) J=rB l (b :: J):=by simp [rB]
  generalize hn:(l ++ [b]).length=n at *;have hnl:n=l.length+1:=by rw [← hn];simp
  have hn0:¬ n=0:=aq;have hn1:l.length<n:=aq;have hn2:(l.length:Int)<(n:Int):=aq;have hn3:(l.length:Int)≤(n:Int):=aq;have hnJ:n+J.length=l.length+(b :: J).length:=by simp;omega
  generalize hq:gq ⟨main,alt,l,bud,cl,e⟩=q at *
  cases b
  ·have w2:IntKind.i64.wrap (((q:Int)+1) - 1)=(q:Int):=by simp only [Bool.false_eq_true,if_false] at hi;rw [IntWalk.i64_in _ aq];omega
   have w3:IntKind.i64.wrap (q:Int)=(q:Int):=by simp only [Bool.false_eq_true,if_false] at hi;exact IntWalk.i64_in _ aq
   simp [go_sem,hl,hn0,w1,hs,hsg,hn1,hn2,hn3,rW,hn,w2,w3];exact ⟨_,⟨rfl,false :: J,rfl⟩,aB (by simp only [lk,aF,bB,bA,hq,hnJ];rfl) (congrArg (fun r=>some (⟨4,1,r⟩:Blk)) hr) rfl⟩
  ·simp [go_sem,hl,hn0,w1,hs,hsg,hn1,hn2,hn3,rW,hn];exact ⟨_,⟨rfl,true :: J,rfl⟩,aB (by simp only [lk,aF,bB,bA,hq,hnJ];rfl) (congrArg (fun r=>some (⟨4,1,r⟩:Blk)) hr) rfl⟩
theorem Re {C:List AV} (hC:ig C) (r:Rn) (J:List Bool) (H:Nat) (hk:StOk r.main r.alt):cJ Tryz.prog 3 (aF C) 194 ⟨r,J,H⟩ [.ptr 0 0 0 1] (fun v s'=>v=.d (.bool (lJ r).1)∧s'=⟨(lJ r).2,J,H⟩):=by
 refine al Tryz.func194 (by kernel_rfl) rfl Tryz.ntmps194 (rs:=[.tmp 2]) rfl (dS rfl) (by decide) ?_;have hl:=hC.2.2;simp [go_sem];refine dI (Pp:=[]) hC (jR hC r J H hk) aq aw (by simp [AV.renL,AV.ren]) ?_;rintro v s' ρ ⟨rfl,rfl⟩ hρ;obtain ⟨hk2,hb1,hb2⟩:=dy hk;unfold lJ;generalize bn r=p at *;obtain ⟨b,r2⟩:=p;simp only at hk2 hb1 hb2 ⊢;have rj:∀ (d:Bool) (r':Rn) (st:St),st.hp=gA 3 (aF C) ⟨r',J,H⟩ id→∃ s',(AV.d (.bool d)=.d (.bool d)∧s'=⟨r',J,H⟩)∧rI 3 (aF C) s' id st.hp:=fun d r' st h=>⟨_,⟨rfl,rfl⟩,by rw [h];exact aB rfl rfl rfl⟩;rcases b with _ | ⟨x,_ | ⟨y,b⟩⟩
 ·simp [go_sem,AV.ren,nb,ah];exact aB rfl rfl rfl
 ·by_cases hx:x=1
  ·subst hx;simp [go_sem,AV.ren,nb,ah];exact aB rfl rfl rfl
  ·have hxi:¬ (x:Int)=1:=aq;simp [go_sem,AV.ren,nb,hx,hxi];refine dI (Pp:=[]) (s:=⟨r2,J,H⟩) hC (bu hC r2 J H 19) aq aw (by simp [AV.renL,AV.ren]) ?_;rintro v s' ρ rfl hρ;rw [bz];generalize au 19 r2=r';simp only [aF,bB,bA,id];simp [go_sem,ah];exact aB rfl rfl rfl
 ·have hn1:(1:Int)<(b.length:Int)+1+1:=aq;have hn2:¬ (b.length:Int)+1+1=1:=aq;simp [go_sem,AV.ren,nb,hn1,hn2];refine dI (Pp:=[]) (s:=⟨r2,J,H⟩) hC (bu hC r2 J H 19) aq aw (by simp [AV.renL,AV.ren]) ?_;rintro v s' ρ rfl hρ;rw [bz];generalize au 19 r2=r';simp only [aF,bB,bA,id];simp [go_sem,ah,hn2];exact aB rfl rfl rfl
theorem aM {C:List AV} (hC:ig C) {N:Nat} {Pp hp:Hp} {g:FuncId} {s:RnS} {ars:List AV} {R:AV→RnS→Prop} {K:AV→Hp→Prop} (h:cJ Tryz.prog 3 (aF C) g s (.ptr 0 0 0 1 :: ars) R) (he:hp=Pp ++ gA 3 (aF C) s id) (hN:3≤N) (hP:∀ p,p ∈ Pp→p.1<N∧3≤p.1) (has:∀ ρ,AV.renL ρ ars=ars)
  (hK:∀ v s' ρ,R v s'→(∀ j,j<3→ρ j=j)→K (v.ren ρ) (Pp ++ gA 3 (aF C) s' id)):rM Tryz.prog g (.ptr 0 0 0 1 :: ars) hp N K:=he ▸ dI hC h hN hP has hK
theorem OY:Tryz.prog.underlying 4=some .bool:=by kernel_rfl
theorem OZ (a b:Bool) (K:AV→Hp→Prop) (hp:Hp):cB Tryz.prog .eql 4 (.d (.bool a)) (.d (.bool b)) K hp=K (.d (.bool (a == b))) hp:=by
 show (_∧_)=_;rw [OY];simp
theorem Np {r:Rn}:(lu r).2.br.length≤r.br.length:=by
 unfold lu
 split
 ·unfold au;split <;> exact cR _
 ·simp
theorem IX (r:Rn):(lJ r).2.br=r.br:=by
 have ht:(bn r).2.br=r.br:=by
  unfold bn
  split
  ·split
   ·unfold au;split <;> rfl
   ·rfl
  ·rfl
 unfold lJ;simp only
 split
 ·unfold au;split <;> exact ht
 ·exact ht
theorem IY {C:List AV} (hC:ig C) (op:Nat) (h8:op<256) (r:Rn) (J:List Bool) (H:Nat) (hk:StOk r.main r.alt) (hb:r.br.length≤100000):cJ Tryz.prog 3 (aF C) 169 ⟨r,J,H⟩ [.ptr 0 0 0 1,.d (.int .u8 (op:Int))]
  (fun v s'=>v=.d (.bool (mH op r).isSome)∧∃ J',s'=⟨(mH op r).getD r,J',H⟩):=by
 refine al Tryz.func169 (by kernel_rfl) rfl Tryz.ntmps169 (rs:=[.tmp 4]) rfl (dS rfl) (by decide) ?_;have hl:=hC.2.2;have hi:=BD r;by_cases h1:op=99 ∨ op=100
 ·have hv:mH op r=some (if gq r=0 then kK (decide ((lJ r).1=decide (op=99))) (lJ r).2 else kK false r):=if_pos h1;rw [hv];by_cases hid:gq r=0
  ·rw [if_pos hid];have hb2:(lJ r).2.br.length≤1000000:=by rw [IX];omega
   have hcd:=Re hC r J H hk;generalize lJ r=p at *;obtain ⟨d,r2⟩:=p;simp only at hb2 hcd ⊢;rcases h1 with rfl | rfl
   ·simp [go_sem];rw [bz];simp only [aF,bB,bA,id];simp [go_sem,hl,hid];refine aM (Pp:=[]) (s:=⟨r,J,H⟩) hC hcd (by simp [bz,aF,bB,bA,hid]) aq aw (by simp [AV.renL,AV.ren]) ?_;rintro v s' ρ ⟨rfl,rfl⟩ hρ;simp [go_sem,AV.ren,OZ];refine aM (Pp:=[]) (s:=⟨r2,J,H⟩) hC (pF hC (r2) J H (d) aq) (by first | rfl | simp [bz,aF,bB,bA,hid]) aq aw (by simp [AV.renL,AV.ren]) ?_;rintro v s' ρ' ⟨J',rfl⟩ hρ';rw [bz];generalize kK (d) (r2)=r';simp only [aF,bB,bA,id];simp [go_sem,ah];exact ⟨_,⟨J',rfl⟩,aB rfl rfl rfl⟩
   ·simp [go_sem];rw [bz];simp only [aF,bB,bA,id];simp [go_sem,hl,hid];refine aM (Pp:=[]) (s:=⟨r,J,H⟩) hC hcd (by simp [bz,aF,bB,bA,hid]) aq aw (by simp [AV.renL,AV.ren]) ?_;rintro v s' ρ ⟨rfl,rfl⟩ hρ;simp [go_sem,AV.ren,OZ];refine aM (Pp:=[]) (s:=⟨r2,J,H⟩) hC (pF hC (r2) J H (!d) aq) (by first | rfl | simp [bz,aF,bB,bA,hid]) aq aw (by simp [AV.renL,AV.ren]) ?_;rintro v s' ρ' ⟨J',rfl⟩ hρ';rw [bz];generalize kK (!d) (r2)=r';simp only [aF,bB,bA,id];simp [go_sem,ah];exact ⟨_,⟨J',rfl⟩,aB rfl rfl rfl⟩
  ·rw [if_neg hid];rcases h1 with rfl | rfl
   ·simp [go_sem];rw [bz];simp only [aF,bB,bA,id];simp [go_sem,hl,hid];refine aM (Pp:=[]) (s:=⟨r,J,H⟩) hC (pF hC (r) J H (false) aq) (by first | rfl | simp [bz,aF,bB,bA,hid]) aq aw (by simp [AV.renL,AV.ren]) ?_;rintro v s' ρ' ⟨J',rfl⟩ hρ';rw [bz];generalize kK (false) (r)=r';simp only [aF,bB,bA,id];simp [go_sem,ah];exact ⟨_,⟨J',rfl⟩,aB rfl rfl rfl⟩
   ·simp [go_sem];rw [bz];simp only [aF,bB,bA,id];simp [go_sem,hl,hid];refine aM (Pp:=[]) (s:=⟨r,J,H⟩) hC (pF hC (r) J H (false) aq) (by first | rfl | simp [bz,aF,bB,bA,hid]) aq aw (by simp [AV.renL,AV.ren]) ?_;rintro v s' ρ' ⟨J',rfl⟩ hρ';rw [bz];generalize kK (false) (r)=r';simp only [aF,bB,bA,id];simp [go_sem,ah];exact ⟨_,⟨J',rfl⟩,aB rfl rfl rfl⟩
 ·by_cases h3:op=103
  ·subst h3;have hv:mH 103 r=some (match lu r with | (some b,r')=>kK (!b) r' | (none,r')=>r'):=rfl;rw [hv];have hb2:(lu r).2.br.length≤1000000:=by have:=@Np r;omega
   have hcd:=DF hC r J H aq;generalize lu r=p at *;obtain ⟨d,r2⟩:=p;simp only at hb2 hcd ⊢;simp [go_sem];refine dI (Pp:=[]) (s:=⟨r,J,H⟩) hC hcd aq aw (by simp [AV.renL,AV.ren]) ?_;rintro v s' ρ ⟨rfl,J2,rfl⟩ hρ
   cases d with
   | none =>
    rw [bz];simp only [aF,bB,bA,id];simp [go_sem,AV.ren,AV.renL,Nl,ah];exact ⟨_,⟨J2,rfl⟩,aB rfl rfl rfl⟩
   | some b =>
    simp [go_sem,AV.ren,AV.renL,Nl];refine aM (Pp:=[]) (s:=⟨r2,J2,H⟩) hC (pF hC (r2) J2 H (!b) aq) (by first | rfl | simp [bz,aF,bB,bA]) aq aw (by simp [AV.renL,AV.ren]) ?_;rintro v s' ρ' ⟨J',rfl⟩ hρ';rw [bz];generalize kK (!b) (r2)=r';simp only [aF,bB,bA,id];simp [go_sem,ah];exact ⟨_,⟨J',rfl⟩,aB rfl rfl rfl⟩
  ·by_cases h4:op=104
   ·subst h4;have hv:mH 104 r=some (lu r).2:=rfl;rw [hv];have hcd:=DF hC r J H aq;generalize lu r=p at *;obtain ⟨d,r2⟩:=p;simp only at hcd ⊢;simp [go_sem];refine dI (Pp:=[]) (s:=⟨r,J,H⟩) hC hcd aq aw (by simp [AV.renL,AV.ren]) ?_;rintro v s' ρ ⟨rfl,J2,rfl⟩ hρ;rw [bz];simp only [aF,bB,bA,id];simp [go_sem,ah];exact ⟨_,⟨J2,rfl⟩,aB rfl rfl rfl⟩
   ·have hv:mH op r=none:=by
     unfold mH;rw [if_neg h1,if_neg h3,if_neg h4]
    rw [hv];have i1:¬ (op:Int)=99:=aq;have i2:¬ (op:Int)=100:=aq;have i3:¬ (op:Int)=103:=aq;have i4:¬ (op:Int)=104:=aq;have j1:¬ op=99:=aq;have j2:¬ op=100:=aq;rw [bz];simp only [aF,bB,bA,id];simp [go_sem,i1,i2,i3,i4,j1,j2,h3,h4,ah];exact ⟨_,⟨J,rfl⟩,aB rfl rfl rfl⟩
end Go.Proofs.YtmfnimjnneflnaaGreat
namespace Go.Sha
def dh (x:Int):Prop:=0≤x∧x<18446744073709551616
def Wn (n:Nat) (l:List Int):Prop:=l.length=n∧∀ x,x ∈ l→dh x
def eD {σ:Type} (f:Nat→σ→σ) (s:σ):Nat→σ
 | 0=>s
 | k+1=>f k (eD f s k)
theorem iJ {σ:Type} {f:Nat→σ→σ} {s:σ} {P:Nat→σ→Prop} (h0:P 0 s) (hs:∀ k s,P k s→P (k+1) (f k s)):∀ k,P k (eD f s k)
 | 0=>h0
 | k+1=>hs k _ (iJ h0 hs k)
theorem pick {α β:Type} [Inhabited β] {A:α→Prop} {B:α→β→Prop} (h:∀ x,A x→∃ y,B x y):∃ F:α→β,∀ x,A x→B x (F x):=by
 classical
 refine ⟨fun x=>if hx:A x then (h x hx).choose else default,fun x hx=>?_⟩;simp only [dif_pos hx];exact (h x hx).choose_spec
theorem tw:dh 0:=⟨aq,aq⟩
theorem Nq (x:Int):dh (IntKind.u64.wrap x):=by
 have:IntKind.u64.wrap x=x % 18446744073709551616:=by simp [IntKind.wrap,IntKind.bits,IntKind.signed]
 rw [this];exact ⟨Int.emod_nonneg _ aq,Int.emod_lt_of_pos _ aq⟩
theorem oD {n k:Nat} {l:List Int} {x:Int} (h:Wn n l) (hx:dh x):Wn n (l.set k x):=by
 refine ⟨by rw [List.length_set];exact h.1,fun y hy=>?_⟩;rcases List.mem_or_eq_of_mem_set hy with hy | rfl
 ·exact h.2 y hy
 ·exact hx
theorem UZ (n:Nat):Wn n (List.replicate n 0):=⟨aw,fun x hx=>by rw [List.eq_of_mem_replicate hx];exact tw⟩
theorem Rf {n k:Nat} {l:List Int} (h:Wn n l) (hk:k<n):∃ x,l[k]?=some x∧dh x:=by
 obtain ⟨h1,h2⟩:=h;refine ⟨l[k]'aq,cm aq,h2 _ (List.getElem_mem _)⟩
def gI (l:List Int) (k:Nat):Int:=l.getD k 0
theorem cT {n k:Nat} {l:List Int} (h:Wn n l):dh (gI l k):=by
 unfold gI;rw [cS];by_cases hk:k<n
 ·obtain ⟨x,e,hx⟩:=Rf h hk;rw [e];exact hx
 ·rw [List.getElem?_eq_none (by rw [h.1];omega)];exact tw
theorem iV {l:List Int} {k:Nat} (h:k<l.length):l[k]?=some (gI l k):=by
 unfold gI;rw [cS,cm h];rfl
end Go.Sha
namespace Go.Proofs.YtmfnimjnneflnaaGreat
open Go.Am Go.Sha
def cI (l:List Int):List AV:=l.map fun x=>AV.d (.int .u64 x)
theorem eo (l:List Int):(cI l).length=l.length:=by simp [cI]
theorem BE (l:List Int) (i:Nat):(cI l)[i]?=(l[i]?).map fun x=>AV.d (.int .u64 x):=by simp [cI]
theorem mJ (l:List Int) (i:Nat) (x:Int):(cI l).set i (.d (.int .u64 x))=cI (l.set i x):=by simp [cI,List.map_set]
theorem bT (n:Nat) (l:List Int):∀ v,v ∈ cI l→v.low1 n:=by
 intro v hv;rw [cI,List.mem_map] at hv;obtain ⟨x,_,rfl⟩:=hv
 trivial
theorem iK (l:List Int):∀ c,c ∈ cI l→c.deep1:=by
 intro c hc;rw [cI,List.mem_map] at hc;obtain ⟨x,_,rfl⟩:=hc
 trivial
theorem eA (l:List Int):(AV.agg (cI l)).deep:=iK l
theorem ae {l:List Int} {n:Nat} (h:l.length=n):(cI l).take n=cI l:=cA (by rw [eo];omega)
theorem aV {l:List Int} {n:Nat} (h:l.length=n):(cI l).drop n=[]:=dg (by rw [eo];omega)
theorem aJ (a b:List Int):∀ v,v ∈ [AV.agg (cI a),AV.agg (cI b)]→v.deep:=by
 intro v hv;simp at hv;rcases hv with rfl | rfl <;> exact eA _
theorem aN (a:List Int):∀ v,v ∈ [AV.agg (cI a)]→v.deep:=by
 intro v hv;simp at hv;subst hv;exact eA _
def zI:List Int:=[0,0,0,0]
theorem jq:Wn 4 zI:=UZ 4
theorem nA {w:World} {S:Nat→Prop} {σ:Nat→Option Nat} {hp:Hp} {U:Nat→Prop} {k:IntKind} {n:Int} {x:Value} (h:AIs w S σ hp U (.d (.int k n)) x):x=.int k n:=by
 cases h with
 | d h=>cases h;rfl
def IZ:Array Value→Sem Value:=fun args=>do
 let (x, y, b) ← Extern.MathBitsCarry.three "Sub64" args
 pure (Extern.MathBitsCarry.pair ((x+Extern.MathBitsCarry.m64 - y - b) % Extern.MathBitsCarry.m64) (if x<y+b then 1 else 0))
theorem BF {P:Program} (x y:Int) (k:Nat) (hk:k≤1) (w:World) :
  (IZ #[.int .u64 x,.int .u64 y,.int .u64 (k:Int)]).run P w =
   .ok (Extern.MathBitsCarry.pair ((x.toNat+Extern.MathBitsCarry.m64 - y.toNat - k) % Extern.MathBitsCarry.m64) (if x.toNat<y.toNat+k then 1 else 0)) w:=by
 have:k=0 ∨ k=1:=aq;rcases this with rfl | rfl <;> rfl
def C1 (c:Int):Prop:=0≤c∧c≤1
theorem zy:C1 0:=⟨aq,aq⟩
theorem DG {w:World} {S:Nat→Prop} {σ:Nat→Option Nat} {hp:Hp} {U:Nat→Prop} {a b:Int}:AIs w S σ hp U (.tup [.d (.int .u64 a),.d (.int .u64 b)]) (.tuple #[.int .u64 a,.int .u64 b]):=by
 refine .tup _ #[.int .u64 a,.int .u64 b] rfl fun i c x hc hx=>?_
 match i with
 | 0=>simp at hc hx;subst hc hx;exact .d (.int _ _)
 | 1=>simp at hc hx;subst hc hx;exact .d (.int _ _)
 | n+2=>simp at hc
theorem I0 (x y c:Int) (hx:dh x) (hy:dh y) (hc:C1 c):∃ s d:Int,dh s∧C1 d∧s+18446744073709551616*d=x+y+c∧oR Tryz.prog 162 [.d (.int .u64 x),.d (.int .u64 y),.d (.int .u64 c)] (.tup [.d (.int .u64 s),.d (.int .u64 d)]):=by
 refine ⟨(x+y+c) % 18446744073709551616,(x+y+c) / 18446744073709551616,⟨Int.emod_nonneg _ aq,Int.emod_lt_of_pos _ aq⟩,?_,aq,?_⟩
 ·obtain ⟨h1,h2⟩:=hx;obtain ⟨h3,h4⟩:=hy;obtain ⟨h5,h6⟩:=hc;exact ⟨aq,aq⟩
 ·intro w S σ hp U vs hl hv
  match vs,hl with
  | [a,b,e],_ =>
   have ha:=nA (hv 0 _ a rfl rfl);have hb:=nA (hv 1 _ b rfl rfl);have he:=nA (hv 2 _ e rfl rfl);subst ha hb he;refine ⟨_,?_,DG⟩;rw [run_callFunc_extern Tryz.func162 (by kernel_rfl) (by kernel_rfl) (by kernel_rfl) (e:=add64Entry) (by kernel_rfl),run_add64 x y c hx.1 hy.1 hc.1 hc.2];rfl
theorem I1 (x y c:Int) (hx:dh x) (hy:dh y) (hc:C1 c):∃ s d:Int,dh s∧C1 d∧s - 18446744073709551616*d=x - y - c∧oR Tryz.prog 179 [.d (.int .u64 x),.d (.int .u64 y),.d (.int .u64 c)] (.tup [.d (.int .u64 s),.d (.int .u64 d)]):=by
 obtain ⟨k,rfl⟩:=Int.eq_ofNat_of_zero_le hc.1;have hk:k≤1:=by have:=hc.2;omega
 refine ⟨((((x.toNat+Extern.MathBitsCarry.m64 - y.toNat - k) % Extern.MathBitsCarry.m64:Nat)):Int),(((if x.toNat<y.toNat+k then 1 else 0:Nat)):Int),?_,?_,?_,?_⟩
 ·have hm:(x.toNat+Extern.MathBitsCarry.m64 - y.toNat - k) % Extern.MathBitsCarry.m64<Extern.MathBitsCarry.m64:=Nat.mod_lt _ (by decide);have e:Extern.MathBitsCarry.m64=18446744073709551616:=by decide
  exact ⟨Int.natCast_nonneg _,by rw [e] at hm ⊢;omega⟩
 ·split
  ·exact ⟨aq,aq⟩
  ·exact ⟨aq,aq⟩
 ·have e:Extern.MathBitsCarry.m64=18446744073709551616:=by decide
  obtain ⟨h1,h2⟩:=hx;obtain ⟨h3,h4⟩:=hy;rw [e]
  split <;> omega
 ·intro w S σ hp U vs hl hv
  match vs,hl with
  | [a,b,e],_ =>
   have ha:=nA (hv 0 _ a rfl rfl);have hb:=nA (hv 1 _ b rfl rfl);have he:=nA (hv 2 _ e rfl rfl);subst ha hb he;refine ⟨_,?_,DG⟩;rw [run_callFunc_extern Tryz.func179 (by kernel_rfl) (by kernel_rfl) (by kernel_rfl) (e:=IZ) (by kernel_rfl),BF x y k hk];rfl
theorem I2 (z:Int) (h0:0≤z) (h1:z<18446744073709551616):Go.bits .and .u64 z 4294967295=z % 4294967296:=by
 obtain ⟨n,rfl⟩:=Int.eq_ofNat_of_zero_le h0;have h:=bits_and_u64_nat n 4294967295 aq aq;rw [nat_mask32] at h;rw [Int.natCast_emod] at h;exact h
theorem I3 (x y:Int) (hx:dh x) (hy:dh y):∃ s d:Int,dh s∧dh d∧d+18446744073709551616*s=x*y∧av Tryz.prog 187 [.d (.int .u64 x),.d (.int .u64 y)] (fun r=>r=.tup [.d (.int .u64 s),.d (.int .u64 d)]):=by
 have hp:0≤x*y∧x*y≤18446744073709551615*18446744073709551615:=⟨Int.mul_nonneg hx.1 hy.1,by
  have h1:=hx.2;have h2:=hy.2;have h3:=hy.1
  exact Int.mul_le_mul aq aq h3 aq⟩
 have hm:=mul64_arith x y hx.1 hx.2 hy.1 hy.2;have w:∀ z,IntKind.u64.wrap z=z % 18446744073709551616:=fun z=>by simp [IntKind.wrap,IntKind.bits,IntKind.signed]
 refine ⟨x*y / 18446744073709551616,x*y % 18446744073709551616,⟨aq,aq⟩,⟨Int.emod_nonneg _ aq,Int.emod_lt_of_pos _ aq⟩,aq,?_⟩;refine bK Tryz.func187 Tryz.ntmps187 (rs:=[.tmp 4,.tmp 5]) a9 ?_;simp [go_sem,ah,IntKind.bits,w];refine aa a9 ?_;have f32:∀ z:Int,Int.fdiv z 4294967296=z / 4294967296:=fun z=>Int.fdiv_eq_ediv_of_nonneg _ aq;have a3:∀ z:Int,Go.bits .and .u64 (z % 18446744073709551616) 4294967295=z % 18446744073709551616 % 4294967296:=fun z=>I2 _ (Int.emod_nonneg _ aq) (Int.emod_lt_of_pos _ aq);simp only [f32,I2 x hx.1 hx.2,I2 y hy.1 hy.2,a3]
 have e:∀ A B C D:Int,0≤A∧A≤18446744065119617025→0≤B∧B≤18446744065119617025→0≤C∧C≤18446744065119617025→0≤D∧D≤18446744065119617025 →
   (A+(B+C % 18446744073709551616 / 4294967296) % 18446744073709551616 / 4294967296+((B+C % 18446744073709551616 / 4294967296) % 18446744073709551616 % 4294967296+D) % 18446744073709551616 / 4294967296) % 18446744073709551616=(A*18446744073709551616+(B+D)*4294967296+C) / 18446744073709551616:=by
  intro A B C D hA hB hC hD;omega
 obtain ⟨x1,x0,hxx,q1,q2,q3,q4⟩:∃ x1 x0:Int,x=x1*4294967296+x0∧0≤x1∧x1≤4294967295∧0≤x0∧x0≤4294967295:=⟨x / 4294967296,x % 4294967296,aq,by have:=hx.1;omega,by have:=hx.2;omega,aq,aq⟩;obtain ⟨y1,y0,hyy,q5,q6,q7,q8⟩:∃ y1 y0:Int,y=y1*4294967296+y0∧0≤y1∧y1≤4294967295∧0≤y0∧y0≤4294967295:=⟨y / 4294967296,y % 4294967296,aq,by have:=hy.1;omega,by have:=hy.2;omega,aq,aq⟩;have r1:x / 4294967296=x1:=aq;have r2:x % 4294967296=x0:=aq;have r3:y / 4294967296=y1:=aq;have r4:y % 4294967296=y0:=aq;rw [r1,r2,r3,r4,e _ _ _ _ (prod_bound x1 y1 q1 q2 q5 q6) (prod_bound x1 y0 q1 q2 q7 q8) (prod_bound x0 y0 q3 q4 q7 q8) (prod_bound x0 y1 q3 q4 q5 q6),← split_mul,← hxx,← hyy]
theorem xp (x:Int):IntKind.u64.wrap x=x % 18446744073709551616:=by simp [IntKind.wrap,IntKind.bits,IntKind.signed]
def kL (A:Int × Int × Int→Int × Int) (a b:List Int) (k:Nat) (s:List Int × Int):List Int × Int :=
 (s.1.set k (A (gI a k,gI b k,s.2)).1,(A (gI a k,gI b k,s.2)).2)
def uw (A:Int × Int × Int→Int × Int) (M:Int × Int→Int × Int) (a:List Int) (k:Nat) (s:List Int × Int):List Int × Int :=
 (s.1.set k (A ((M (gI a k,4294968273)).2,s.2,0)).1,IntKind.u64.wrap ((M (gI a k,4294968273)).1+(A ((M (gI a k,4294968273)).2,s.2,0)).2))
def Ar:List Int:=[0,0,0,0,0,0,0,0]
theorem U0:Wn 8 Ar:=UZ 8
def pl (i k:Nat):Nat:=i+k
def zA (A:Int × Int × Int→Int × Int) (M:Int × Int→Int × Int) (a b:List Int) (i k:Nat) (s:List Int × Int):List Int × Int :=
 (s.1.set (pl i k) (A ((A ((M (gI a i,gI b k)).2,gI s.1 (pl i k),0)).1,s.2,0)).1,IntKind.u64.wrap (IntKind.u64.wrap ((M (gI a i,gI b k)).1+(A ((M (gI a i,gI b k)).2,gI s.1 (pl i k),0)).2)+(A ((A ((M (gI a i,gI b k)).2,gI s.1 (pl i k),0)).1,s.2,0)).2))
def pG (A:Int × Int × Int→Int × Int) (M:Int × Int→Int × Int) (a b:List Int) (i:Nat) (p:List Int):List Int :=
 (eD (zA A M a b i) (p,0) 4).1.set (pl i 4) (eD (zA A M a b i) (p,0) 4).2
def V:List Int→Int
 | []=>0
 | x :: r=>x+18446744073709551616*V r
theorem V4 (a b c d:Int):V [a,b,c,d]=a+18446744073709551616*(b+18446744073709551616*(c+18446744073709551616*d)):=by simp [V]
theorem iW {l:List Int} (h:Wn 4 l):∃ a b c d,l=[a,b,c,d]∧dh a∧dh b∧dh c∧dh d:=by
 obtain ⟨h1,h2⟩:=h
 match l,h1 with
 | [a,b,c,d],_=>exact ⟨a,b,c,d,rfl,h2 a aw,h2 b aw,h2 c aw,h2 d aw⟩
theorem jS {l:List Int} (h:Wn 4 l):0≤V l∧V l<115792089237316195423570985008687907853269984665640564039457584007913129639936:=by
 obtain ⟨a,b,c,d,rfl,ha,hb,hc,hd⟩:=iW h;rw [V4];unfold dh at *;omega
theorem O0 {l m:List Int} (h:Wn 4 l) (h':Wn 4 m) (e:V l=V m):l=m:=by
 obtain ⟨a,b,c,d,rfl,ha,hb,hc,hd⟩:=iW h;obtain ⟨a',b',c',d',rfl,ha',hb',hc',hd'⟩:=iW h';rw [V4,V4] at e;unfold dh at *;have e1:a=a':=aq;have e2:b=b':=aq;have e3:c=c':=aq;have e4:d=d':=aq;rw [e1,e2,e3,e4]
def FP (A:Int × Int × Int→Int × Int):Prop:=∀ x,dh x.1∧dh x.2.1∧C1 x.2.2→dh (A x).1∧C1 (A x).2∧(A x).1+18446744073709551616*(A x).2=x.1+x.2.1+x.2.2
def U3 (A:Int × Int × Int→Int × Int):Prop:=∀ x,dh x.1∧dh x.2.1∧C1 x.2.2→dh (A x).1∧C1 (A x).2∧(A x).1 - 18446744073709551616*(A x).2=x.1 - x.2.1 - x.2.2
def I4 (M:Int × Int→Int × Int):Prop:=∀ x,dh x.1∧dh x.2→dh (M x).1∧dh (M x).2∧(M x).2+18446744073709551616*(M x).1=x.1*x.2
theorem XN {A:Int × Int × Int→Int × Int} (hA:FP A) {a b:List Int} (ha:Wn 4 a) (hb:Wn 4 b) :
  V (eD (kL A a b) (zI,0) 4).1+115792089237316195423570985008687907853269984665640564039457584007913129639936*(eD (kL A a b) (zI,0) 4).2=V a+V b:=by
 obtain ⟨a0,a1,a2,a3,rfl,ha0,ha1,ha2,ha3⟩:=iW ha;obtain ⟨b0,b1,b2,b3,rfl,hb0,hb1,hb2,hb3⟩:=iW hb;have c0:C1 0:=⟨aq,aq⟩;have s0:=hA (a0,b0,0) ⟨ha0,hb0,c0⟩;have s1:=hA (a1,b1,(A (a0,b0,0)).2) ⟨ha1,hb1,s0.2.1⟩;have s2:=hA (a2,b2,(A (a1,b1,(A (a0,b0,0)).2)).2) ⟨ha2,hb2,s1.2.1⟩;have s3:=hA (a3,b3,(A (a2,b2,(A (a1,b1,(A (a0,b0,0)).2)).2)).2) ⟨ha3,hb3,s2.2.1⟩;have e:eD (kL A [a0,a1,a2,a3] [b0,b1,b2,b3]) (zI,0) 4=([(A (a0,b0,0)).1,(A (a1,b1,(A (a0,b0,0)).2)).1,(A (a2,b2,(A (a1,b1,(A (a0,b0,0)).2)).2)).1,(A (a3,b3,(A (a2,b2,(A (a1,b1,(A (a0,b0,0)).2)).2)).2)).1],(A (a3,b3,(A (a2,b2,(A (a1,b1,(A (a0,b0,0)).2)).2)).2)).2):=rfl;rw [e,V4,V4,V4];generalize A (a3,b3,(A (a2,b2,(A (a1,b1,(A (a0,b0,0)).2)).2)).2)=q3 at *;generalize A (a2,b2,(A (a1,b1,(A (a0,b0,0)).2)).2)=q2 at *;generalize A (a1,b1,(A (a0,b0,0)).2)=q1 at *;generalize A (a0,b0,0)=q0 at *;obtain ⟨_,_,e0⟩:=s0;obtain ⟨_,_,e1⟩:=s1;obtain ⟨_,_,e2⟩:=s2;obtain ⟨_,_,e3⟩:=s3;dsimp only at *;omega
theorem XO {A:Int × Int × Int→Int × Int} (hA:U3 A) {a b:List Int} (ha:Wn 4 a) (hb:Wn 4 b) :
  V (eD (kL A a b) (zI,0) 4).1 - 115792089237316195423570985008687907853269984665640564039457584007913129639936*(eD (kL A a b) (zI,0) 4).2=V a - V b:=by
 obtain ⟨a0,a1,a2,a3,rfl,ha0,ha1,ha2,ha3⟩:=iW ha;obtain ⟨b0,b1,b2,b3,rfl,hb0,hb1,hb2,hb3⟩:=iW hb;have c0:C1 0:=⟨aq,aq⟩;have s0:=hA (a0,b0,0) ⟨ha0,hb0,c0⟩;have s1:=hA (a1,b1,(A (a0,b0,0)).2) ⟨ha1,hb1,s0.2.1⟩;have s2:=hA (a2,b2,(A (a1,b1,(A (a0,b0,0)).2)).2) ⟨ha2,hb2,s1.2.1⟩;have s3:=hA (a3,b3,(A (a2,b2,(A (a1,b1,(A (a0,b0,0)).2)).2)).2) ⟨ha3,hb3,s2.2.1⟩;have e:eD (kL A [a0,a1,a2,a3] [b0,b1,b2,b3]) (zI,0) 4=([(A (a0,b0,0)).1,(A (a1,b1,(A (a0,b0,0)).2)).1,(A (a2,b2,(A (a1,b1,(A (a0,b0,0)).2)).2)).1,(A (a3,b3,(A (a2,b2,(A (a1,b1,(A (a0,b0,0)).2)).2)).2)).1],(A (a3,b3,(A (a2,b2,(A (a1,b1,(A (a0,b0,0)).2)).2)).2)).2):=rfl;rw [e,V4,V4,V4];generalize A (a3,b3,(A (a2,b2,(A (a1,b1,(A (a0,b0,0)).2)).2)).2)=q3 at *;generalize A (a2,b2,(A (a1,b1,(A (a0,b0,0)).2)).2)=q2 at *;generalize A (a1,b1,(A (a0,b0,0)).2)=q1 at *;generalize A (a0,b0,0)=q0 at *;obtain ⟨_,_,e0⟩:=s0;obtain ⟨_,_,e1⟩:=s1;obtain ⟨_,_,e2⟩:=s2;obtain ⟨_,_,e3⟩:=s3;dsimp only at *;omega
theorem DI {A:Int × Int × Int→Int × Int} {M:Int × Int→Int × Int} (hA:FP A) (hM:I4 M) {x y p c:Int} (hx:dh x) (hy:dh y) (hp:dh p) (hc:dh c) :
  dh (A ((A ((M (x,y)).2,p,0)).1,c,0)).1∧dh (IntKind.u64.wrap (IntKind.u64.wrap ((M (x,y)).1+(A ((M (x,y)).2,p,0)).2)+(A ((A ((M (x,y)).2,p,0)).1,c,0)).2)) ∧
  (A ((A ((M (x,y)).2,p,0)).1,c,0)).1+18446744073709551616*IntKind.u64.wrap (IntKind.u64.wrap ((M (x,y)).1+(A ((M (x,y)).2,p,0)).2)+(A ((A ((M (x,y)).2,p,0)).1,c,0)).2)=x*y+p+c:=by
 have c0:C1 0:=⟨aq,aq⟩;obtain ⟨m1,m2,m3⟩:=hM (x,y) ⟨hx,hy⟩;generalize M (x,y)=m at *;obtain ⟨n1,n2,n3⟩:=hA (m.2,p,0) ⟨m2,hp,c0⟩;generalize A (m.2,p,0)=q at *;obtain ⟨k1,k2,k3⟩:=hA (q.1,c,0) ⟨n1,hc,c0⟩;generalize A (q.1,c,0)=r at *
 have hxy:x*y≤18446744073709551615*18446744073709551615:=by
  unfold dh at hx hy;exact Int.mul_le_mul aq aq aq aq
 dsimp only at *;simp only [xp] at *;unfold dh C1 at *;generalize x*y=z at *;refine ⟨k1,⟨aq,aq⟩,aq⟩
theorem vE {l:List Int} {i j:Nat} {x:Int} (h:i ≠ j):gI (l.set i x) j=gI l j:=by
 unfold gI;rw [cS,cS,List.getElem?_set_ne h]
theorem zB {n:Nat} {l:List Int} (h:Wn n l) (k:Nat):dh (gI l k):=by
 unfold gI;rw [cS]
 cases e:l[k]? with
 | none=>exact ⟨aw,aw⟩
 | some x=>exact h.2 x (cr e)
theorem Nr {A:Int × Int × Int→Int × Int} {M:Int × Int→Int × Int} (hA:FP A) (hM:I4 M) {a b p:List Int} (ha:Wn 4 a) (hb:Wn 4 b) (hp:Wn 8 p) (i:Nat) :
  ∃ r0 r1 r2 r3 c,dh r0∧dh r1∧dh r2∧dh r3∧dh c ∧
   r0+18446744073709551616*(r1+18446744073709551616*(r2+18446744073709551616*(r3+18446744073709551616*c)))=gI a i*V b+(gI p i+18446744073709551616*(gI p (i+1)+18446744073709551616*(gI p (i+2)+18446744073709551616*gI p (i+3)))) ∧
   pG A M a b i p=((((p.set i r0).set (i+1) r1).set (i+2) r2).set (i+3) r3).set (i+4) c:=by
 obtain ⟨b0,b1,b2,b3,rfl,hb0,hb1,hb2,hb3⟩:=iW hb;have hx:=zB ha i;generalize hxe:gI a i=x at *;have z:dh 0:=⟨aq,aq⟩;obtain ⟨s1,s2,s3⟩:=DI hA hM hx hb0 (zB hp i) z;obtain ⟨t1,t2,t3⟩:=DI hA hM hx hb1 (zB hp (i+1)) s2;obtain ⟨u1,u2,u3⟩:=DI hA hM hx hb2 (zB hp (i+2)) t2;obtain ⟨v1,v2,v3⟩:=DI hA hM hx hb3 (zB hp (i+3)) u2;refine ⟨_,_,_,_,_,s1,t1,u1,v1,v2,?_,?_⟩
 ·have hm:∀ u v:Int,x*(u+18446744073709551616*v)=x*u+18446744073709551616*(x*v):=fun u v=>by rw [Int.mul_add,Int.mul_left_comm]
  rw [V4,hm,hm,hm];revert s3 t3 u3 v3;generalize gI p i=p0;generalize gI p (i+1)=p1;generalize gI p (i+2)=p2;generalize gI p (i+3)=p3;generalize x*b0=y0;generalize x*b1=y1;generalize x*b2=y2;generalize x*b3=y3;intro s3 t3 u3 v3;omega
 ·have n1:∀ (l:List Int) (y:Int),gI (l.set i y) (i+1)=gI l (i+1):=fun l y=>vE aq;have n2:∀ (l:List Int) (y:Int),gI (l.set i y) (i+2)=gI l (i+2):=fun l y=>vE aq;have n3:∀ (l:List Int) (y:Int),gI (l.set i y) (i+3)=gI l (i+3):=fun l y=>vE aq;have n4:∀ (l:List Int) (y:Int),gI (l.set (i+1) y) (i+2)=gI l (i+2):=fun l y=>vE aq;have n5:∀ (l:List Int) (y:Int),gI (l.set (i+1) y) (i+3)=gI l (i+3):=fun l y=>vE aq;have n6:∀ (l:List Int) (y:Int),gI (l.set (i+2) y) (i+3)=gI l (i+3):=fun l y=>vE aq;have g0:gI [b0,b1,b2,b3] 0=b0:=rfl;have g1:gI [b0,b1,b2,b3] 1=b1:=rfl;have g2:gI [b0,b1,b2,b3] 2=b2:=rfl;have g3:gI [b0,b1,b2,b3] 3=b3:=rfl;simp only [pG,eD,zA,pl,hxe,g0,g1,g2,g3,n1,n2,n3,n4,n5,n6,Nat.add_zero]
theorem I5 {A:Int × Int × Int→Int × Int} {M:Int × Int→Int × Int} (hA:FP A) (hM:I4 M) {a b:List Int} (ha:Wn 4 a) (hb:Wn 4 b) :
  Wn 8 (eD (pG A M a b) Ar 4)∧V (eD (pG A M a b) Ar 4)=V a*V b:=by
 obtain ⟨a0,a1,a2,a3,rfl,ha0,ha1,ha2,ha3⟩:=iW ha;have z:dh 0:=⟨aq,aq⟩;have w0:Wn 8 Ar:=⟨rfl,fun x hx=>by simp [Ar] at hx;subst hx;exact z⟩;obtain ⟨r0,r1,r2,r3,c0,hr0,hr1,hr2,hr3,hc0,e0,f0⟩:=Nr hA hM ha hb w0 0;have f0':pG A M [a0,a1,a2,a3] b 0 Ar=[r0,r1,r2,r3,c0,0,0,0]:=f0;have w1:Wn 8 [r0,r1,r2,r3,c0,0,0,0]:=⟨rfl,fun x hx=>by simp at hx;rcases hx with rfl | rfl | rfl | rfl | rfl | rfl <;> assumption⟩;obtain ⟨s0,s1,s2,s3,c1,hs0,hs1,hs2,hs3,hc1,e1,f1⟩:=Nr hA hM ha hb w1 1;have f1':pG A M [a0,a1,a2,a3] b 1 [r0,r1,r2,r3,c0,0,0,0]=[r0,s0,s1,s2,s3,c1,0,0]:=f1;have w2:Wn 8 [r0,s0,s1,s2,s3,c1,0,0]:=⟨rfl,fun x hx=>by simp at hx;rcases hx with rfl | rfl | rfl | rfl | rfl | rfl | rfl <;> assumption⟩;obtain ⟨t0,t1,t2,t3,c2,ht0,ht1,ht2,ht3,hc2,e2,f2⟩:=Nr hA hM ha hb w2 2;have f2':pG A M [a0,a1,a2,a3] b 2 [r0,s0,s1,s2,s3,c1,0,0]=[r0,s0,t0,t1,t2,t3,c2,0]:=f2;have w3:Wn 8 [r0,s0,t0,t1,t2,t3,c2,0]:=⟨rfl,fun x hx=>by simp at hx;rcases hx with rfl | rfl | rfl | rfl | rfl | rfl | rfl | rfl <;> assumption⟩;obtain ⟨u0,u1,u2,u3,c3,hu0,hu1,hu2,hu3,hc3,e3,f3⟩:=Nr hA hM ha hb w3 3;have f3':pG A M [a0,a1,a2,a3] b 3 [r0,s0,t0,t1,t2,t3,c2,0]=[r0,s0,t0,u0,u1,u2,u3,c3]:=f3
 have e:eD (pG A M [a0,a1,a2,a3] b) Ar 4=[r0,s0,t0,u0,u1,u2,u3,c3]:=by
  simp only [eD];rw [f0',f1',f2',f3']
 rw [e];refine ⟨⟨rfl,fun x hx=>by simp at hx;rcases hx with rfl | rfl | rfl | rfl | rfl | rfl | rfl | rfl <;> assumption⟩,?_⟩
 have k:V [a0,a1,a2,a3]*V b=a0*V b+18446744073709551616*(a1*V b+18446744073709551616*(a2*V b+18446744073709551616*(a3*V b))):=by
  rw [V4,Int.add_mul,Int.mul_assoc,Int.add_mul,Int.mul_assoc,Int.add_mul,Int.mul_assoc]
 have k2:V [r0,s0,t0,u0,u1,u2,u3,c3]=r0+18446744073709551616*(s0+18446744073709551616*(t0+18446744073709551616*(u0+18446744073709551616*(u1+18446744073709551616*(u2+18446744073709551616*(u3+18446744073709551616*c3)))))):=by simp [V]
 rw [k,k2];have g0:gI [a0,a1,a2,a3] 0*V b+(0+18446744073709551616*(0+18446744073709551616*(0+18446744073709551616*0)))=a0*V b:=by show a0*V b+_=_;omega
 have e0':r0+18446744073709551616*(r1+18446744073709551616*(r2+18446744073709551616*(r3+18446744073709551616*c0)))=a0*V b:=e0.trans g0;have e1':s0+18446744073709551616*(s1+18446744073709551616*(s2+18446744073709551616*(s3+18446744073709551616*c1)))=a1*V b+(r1+18446744073709551616*(r2+18446744073709551616*(r3+18446744073709551616*c0))):=e1;have e2':t0+18446744073709551616*(t1+18446744073709551616*(t2+18446744073709551616*(t3+18446744073709551616*c2)))=a2*V b+(s1+18446744073709551616*(s2+18446744073709551616*(s3+18446744073709551616*c1))):=e2;have e3':u0+18446744073709551616*(u1+18446744073709551616*(u2+18446744073709551616*(u3+18446744073709551616*c3)))=a3*V b+(t1+18446744073709551616*(t2+18446744073709551616*(t3+18446744073709551616*c2))):=e3;generalize a0*V b=y0 at *;generalize a1*V b=y1 at *;generalize a2*V b=y2 at *;generalize a3*V b=y3 at *;omega
theorem Ns {A:Int × Int × Int→Int × Int} {M:Int × Int→Int × Int} (hA:FP A) (hM:I4 M) {a:List Int} (ha:Wn 4 a) :
  V (eD (uw A M a) (zI,0) 4).1+115792089237316195423570985008687907853269984665640564039457584007913129639936*(eD (uw A M a) (zI,0) 4).2=V a*4294968273:=by
 obtain ⟨a0,a1,a2,a3,rfl,ha0,ha1,ha2,ha3⟩:=iW ha;have z:dh 0:=⟨aq,aq⟩;have c0:C1 0:=⟨aq,aq⟩;have ov:dh 4294968273:=⟨aq,aq⟩
 have one:∀ x c:Int,dh x→dh c→dh (A ((M (x,4294968273)).2,c,0)).1∧dh (IntKind.u64.wrap ((M (x,4294968273)).1+(A ((M (x,4294968273)).2,c,0)).2)) ∧
   (A ((M (x,4294968273)).2,c,0)).1+18446744073709551616*IntKind.u64.wrap ((M (x,4294968273)).1+(A ((M (x,4294968273)).2,c,0)).2)=x*4294968273+c:=by
  intro x c hx hc;obtain ⟨m1,m2,m3⟩:=hM (x,4294968273) ⟨hx,ov⟩;generalize M (x,4294968273)=m at *;obtain ⟨n1,n2,n3⟩:=hA (m.2,c,0) ⟨m2,hc,c0⟩;generalize A (m.2,c,0)=q at *;dsimp only at *;simp only [xp] at *;unfold dh C1 at *;refine ⟨n1,⟨aq,aq⟩,aq⟩
 obtain ⟨s1,s2,s3⟩:=one a0 0 ha0 z;obtain ⟨t1,t2,t3⟩:=one a1 _ ha1 s2;obtain ⟨u1,u2,u3⟩:=one a2 _ ha2 t2;obtain ⟨v1,v2,v3⟩:=one a3 _ ha3 u2;have g0:gI [a0,a1,a2,a3] 0=a0:=rfl;have g1:gI [a0,a1,a2,a3] 1=a1:=rfl;have g2:gI [a0,a1,a2,a3] 2=a2:=rfl;have g3:gI [a0,a1,a2,a3] 3=a3:=rfl;have e:∀ p q r s:Int,List.set (List.set (List.set (List.set zI 0 p) 1 q) 2 r) 3 s=[p,q,r,s]:=fun _ _ _ _=>rfl;simp only [eD,uw,g0,g1,g2,g3,e,V4];omega
theorem XP:eE Tryz.prog 96=some (cI zI):=by kernel_rfl
attribute [go_sem] XP
theorem Rh:zI.length=4:=rfl
attribute [go_sem] Rh eo BE
theorem xq {Q:AV→Prop} {st:St} {a:List Int} {b:Int} (hq:Q (.tup [.agg (cI a),.d (.int .u64 b)])):dk Q (.tup [.agg (cI a),.d (.int .u64 b)]) st :=
 aa (by
  intro c hc;simp at hc;rcases hc with rfl | rfl
  ·exact .inr ⟨_,rfl,iK _⟩
  ·exact .inl trivial) hq
theorem Ri:∃ A:Int × Int × Int→Int × Int,FP A∧∀ x,(dh x.1∧dh x.2.1∧C1 x.2.2)→dh (A x).1∧C1 (A x).2∧oR Tryz.prog 162 [.d (.int .u64 x.1),.d (.int .u64 x.2.1),.d (.int .u64 x.2.2)] (.tup [.d (.int .u64 (A x).1),.d (.int .u64 (A x).2)]):=by
 obtain ⟨A,hA⟩:=pick (α:=Int × Int × Int) (β:=Int × Int) (A:=fun x=>dh x.1∧dh x.2.1∧C1 x.2.2) (B:=fun x y=>dh y.1∧C1 y.2∧y.1+18446744073709551616*y.2=x.1+x.2.1+x.2.2∧oR Tryz.prog 162 [.d (.int .u64 x.1),.d (.int .u64 x.2.1),.d (.int .u64 x.2.2)] (.tup [.d (.int .u64 y.1),.d (.int .u64 y.2)])) (fun x hx=>by
  obtain ⟨s,d,h1,h2,h3,h4⟩:=I0 x.1 x.2.1 x.2.2 hx.1 hx.2.1 hx.2.2
  exact ⟨(s,d),h1,h2,h3,h4⟩)
 exact ⟨A,fun x hx=>⟨(hA x hx).1,(hA x hx).2.1,(hA x hx).2.2.1⟩,fun x hx=>⟨(hA x hx).1,(hA x hx).2.1,(hA x hx).2.2.2⟩⟩
theorem XQ:∃ A:Int × Int × Int→Int × Int,U3 A∧∀ x,(dh x.1∧dh x.2.1∧C1 x.2.2)→dh (A x).1∧C1 (A x).2∧oR Tryz.prog 179 [.d (.int .u64 x.1),.d (.int .u64 x.2.1),.d (.int .u64 x.2.2)] (.tup [.d (.int .u64 (A x).1),.d (.int .u64 (A x).2)]):=by
 obtain ⟨A,hA⟩:=pick (α:=Int × Int × Int) (β:=Int × Int) (A:=fun x=>dh x.1∧dh x.2.1∧C1 x.2.2) (B:=fun x y=>dh y.1∧C1 y.2∧y.1 - 18446744073709551616*y.2=x.1 - x.2.1 - x.2.2∧oR Tryz.prog 179 [.d (.int .u64 x.1),.d (.int .u64 x.2.1),.d (.int .u64 x.2.2)] (.tup [.d (.int .u64 y.1),.d (.int .u64 y.2)])) (fun x hx=>by
  obtain ⟨s,d,h1,h2,h3,h4⟩:=I1 x.1 x.2.1 x.2.2 hx.1 hx.2.1 hx.2.2
  exact ⟨(s,d),h1,h2,h3,h4⟩)
 exact ⟨A,fun x hx=>⟨(hA x hx).1,(hA x hx).2.1,(hA x hx).2.2.1⟩,fun x hx=>⟨(hA x hx).1,(hA x hx).2.1,(hA x hx).2.2.2⟩⟩
theorem U4:∃ M:Int × Int→Int × Int,∀ x,dh (M x).1∧dh (M x).2∧(dh x.1∧dh x.2→(M x).2+18446744073709551616*(M x).1=x.1*x.2∧av Tryz.prog 187 [.d (.int .u64 x.1),.d (.int .u64 x.2)] (fun r=>r=.tup [.d (.int .u64 (M x).1),.d (.int .u64 (M x).2)])):=by
 obtain ⟨M,hM⟩:=pick (α:=Int × Int) (β:=Int × Int) (A:=fun _=>True) (B:=fun x y=>dh y.1∧dh y.2∧(dh x.1∧dh x.2→y.2+18446744073709551616*y.1=x.1*x.2∧av Tryz.prog 187 [.d (.int .u64 x.1),.d (.int .u64 x.2)] (fun r=>r=.tup [.d (.int .u64 y.1),.d (.int .u64 y.2)]))) (fun x _=>by
  by_cases hx:dh x.1∧dh x.2
  ·obtain ⟨s,d,h1,h2,h3,h4⟩:=I3 x.1 x.2 hx.1 hx.2;exact ⟨(s,d),h1,h2,fun _=>⟨h3,h4⟩⟩
  ·exact ⟨(0,0),tw,tw,fun h=>absurd h hx⟩)
 exact ⟨M,fun x=>hM x trivial⟩
theorem DJ {M:Int × Int→Int × Int} {C:Int × Int→Prop} (hM:∀ x,dh (M x).1∧dh (M x).2∧(dh x.1∧dh x.2→(M x).2+18446744073709551616*(M x).1=x.1*x.2∧C x)):I4 M :=
 fun x hx=>⟨(hM x).1,(hM x).2.1,((hM x).2.2 hx).1⟩
theorem nB (a b:List Int) (ha:Wn 4 a) (hb:Wn 4 b):∃ (s:List Int) (c:Int),Wn 4 s∧C1 c∧V s+115792089237316195423570985008687907853269984665640564039457584007913129639936*c=V a+V b∧av Tryz.prog 131 [.agg (cI a),.agg (cI b)] (fun r=>r=.tup [.agg (cI s),.d (.int .u64 c)]):=by
 obtain ⟨A,hAV,hA⟩:=Ri
 have hS:∀ k,Wn 4 (eD (kL A a b) (zI,0) k).1∧C1 (eD (kL A a b) (zI,0) k).2:=iJ (P:=fun _ (s:List Int × Int)=>Wn 4 s.1∧C1 s.2) ⟨jq,zy⟩ fun k s hs=>by
  obtain ⟨h1,h2,_⟩:=hA (gI a k,gI b k,s.2) ⟨cT ha,cT hb,hs.2⟩;exact ⟨oD hs.1 h1,h2⟩
 refine ⟨(eD (kL A a b) (zI,0) 4).1,(eD (kL A a b) (zI,0) 4).2,(hS 4).1,(hS 4).2,XN hAV ha hb,?_⟩;refine bK Tryz.func131 Tryz.ntmps131 (rs:=[.cell 4 96,.tmp 5]) (aJ a b) ?_;have hal:=ha.1;have hbl:=hb.1;simp [go_sem,hal,hbl,ae hal,ae hbl];generalize hSS:eD (kL A a b) (zI,0)=S at *
 refine ax (fun k:Nat=>⟨[(2,.ptr 0 0 0 1),(3,.ptr 32 0 0 1),(4,.ptr 64 0 0 1),(6,.ptr 128 0 0 1),(7,.d (.int .u64 (S k).2)),(9,.d (.int .i64 (k:Int)))],[(128,⟨96,4,[cI (S k).1]⟩),(64,⟨96,4,[cI zI]⟩),(32,⟨96,4,[cI b]⟩),(0,⟨96,4,[cI a]⟩)],1000⟩)
  (fun k=>k≤4) (fun k=>4 - k) 0 aq (by
   rw [← hSS];simp [aA,ai,fv,lk,AV.low,AV.low1,eD]
   and_intros <;> first | rfl | exact bT _ _) ?_
 intro k hk;obtain ⟨hs1,hs2⟩:=hS k;have hsl:=hs1.1;have w3:=az (k:=k) aq;simp only [go_sem,Nat.reduceEqDiff,Nat.reduceAdd,Nat.reduceLT,↓reduceIte];by_cases h4:k<4
 ·refine ⟨fun h=>?_,fun h=>absurd (by exact_mod_cast h4) h⟩;have hka:=iV (l:=a) (k:=k) aq;have hkb:=iV (l:=b) (k:=k) aq;have hsn:S (k+1)=kL A a b k (S k):=by rw [← hSS];rfl
  obtain ⟨h1,h2,h3⟩:=hA (gI a k,gI b k,(S k).2) ⟨cT ha,cT hb,hs2⟩;simp only [kL] at hsn;generalize A (gI a k,gI b k,(S k).2)=y at *;have hk4:(k:Int)<4:=aq;refine d5 [0,1,2,3,4,5,6,7] [8,11,13,14] [0,1,2,3,4,5,6,7,9,10,12] (.step 8 [9,10,12] true (.alt (bt 11 (a_ [13,14])) (a_ [13,11,14]))) ⟨[(2,.ptr 0 0 0 1),(3,.ptr 32 0 0 1),(4,.ptr 64 0 0 1),(6,.ptr 128 0 0 1),(7,.d (.int .u64 y.2)),(9,.d (.int .i64 (k:Int)))],[(128,⟨96,4,[cI ((S k).1.set k y.1)]⟩),(64,⟨96,4,[cI zI]⟩),(32,⟨96,4,[cI b]⟩),(0,⟨96,4,[cI a]⟩)],9000⟩ (k:=15) ?h3 ?hq
  case h3 =>
   intro G hG
   have hW:∀ fr:Fr,(fv 2 fr=.ptr 0 0 0 1∧fv 3 fr=.ptr 32 0 0 1∧fv 4 fr=.ptr 64 0 0 1∧fv 6 fr=.ptr 128 0 0 1∧fv 7 fr=.d (.int .u64 y.2)∧fv 9 fr=.d (.int .i64 (k:Int)))→G fr [(128,⟨96,4,[cI ((S k).1.set k y.1)]⟩),(64,⟨96,4,[cI zI]⟩),(32,⟨96,4,[cI b]⟩),(0,⟨96,4,[cI a]⟩)]:=by
    rintro fr ⟨e2,e3,e4,e6,e7,e9⟩;exact hG _ _ rH
   simp [go_sem,hka,hkb,hal,hbl,hsl,dF,hk4];refine qj h3 ?_;simp [go_sem,hka,hkb,hal,hbl,hsl,mJ,dF,hk4];and_intros <;> first | exact h4 | exact hW _ ⟨rfl,rfl,rfl,rfl,rfl,rfl⟩ | (refine hW _ ?_;simp [fv,lk])
  case hq =>
   simp [go_sem,w3];refine ap (k+1) aq aq ?_;rw [hsn];simp [aA,ai,fv,lk,AV.low,AV.low1];and_intros <;> exact bT _ _
 ·refine ⟨fun h=>absurd (by exact_mod_cast h) h4,fun h=>?_⟩;have hk4:k=4:=aq;subst hk4;simp [go_sem,hsl,ae hsl,aV (l:=zI) (n:=4) rfl,ah];exact xq rfl
theorem pH (a b:List Int) (ha:Wn 4 a) (hb:Wn 4 b):∃ (s:List Int) (c:Int),Wn 4 s∧C1 c∧V s - 115792089237316195423570985008687907853269984665640564039457584007913129639936*c=V a - V b∧av Tryz.prog 157 [.agg (cI a),.agg (cI b)] (fun r=>r=.tup [.agg (cI s),.d (.int .u64 c)]):=by
 obtain ⟨A,hAV,hA⟩:=XQ
 have hS:∀ k,Wn 4 (eD (kL A a b) (zI,0) k).1∧C1 (eD (kL A a b) (zI,0) k).2:=iJ (P:=fun _ (s:List Int × Int)=>Wn 4 s.1∧C1 s.2) ⟨jq,zy⟩ fun k s hs=>by
  obtain ⟨h1,h2,_⟩:=hA (gI a k,gI b k,s.2) ⟨cT ha,cT hb,hs.2⟩;exact ⟨oD hs.1 h1,h2⟩
 refine ⟨(eD (kL A a b) (zI,0) 4).1,(eD (kL A a b) (zI,0) 4).2,(hS 4).1,(hS 4).2,XO hAV ha hb,?_⟩;refine bK Tryz.func157 Tryz.ntmps157 (rs:=[.cell 4 96,.tmp 5]) (aJ a b) ?_;have hal:=ha.1;have hbl:=hb.1;simp [go_sem,hal,hbl,ae hal,ae hbl];generalize hSS:eD (kL A a b) (zI,0)=S at *
 refine ax (fun k:Nat=>⟨[(2,.ptr 0 0 0 1),(3,.ptr 32 0 0 1),(4,.ptr 64 0 0 1),(6,.ptr 128 0 0 1),(7,.d (.int .u64 (S k).2)),(9,.d (.int .i64 (k:Int)))],[(128,⟨96,4,[cI (S k).1]⟩),(64,⟨96,4,[cI zI]⟩),(32,⟨96,4,[cI b]⟩),(0,⟨96,4,[cI a]⟩)],1000⟩)
  (fun k=>k≤4) (fun k=>4 - k) 0 aq (by
   rw [← hSS];simp [aA,ai,fv,lk,AV.low,AV.low1,eD]
   and_intros <;> first | rfl | exact bT _ _) ?_
 intro k hk;obtain ⟨hs1,hs2⟩:=hS k;have hsl:=hs1.1;have w3:=az (k:=k) aq;simp only [go_sem,Nat.reduceEqDiff,Nat.reduceAdd,Nat.reduceLT,↓reduceIte];by_cases h4:k<4
 ·refine ⟨fun h=>?_,fun h=>absurd (by exact_mod_cast h4) h⟩;have hka:=iV (l:=a) (k:=k) aq;have hkb:=iV (l:=b) (k:=k) aq;have hsn:S (k+1)=kL A a b k (S k):=by rw [← hSS];rfl
  obtain ⟨h1,h2,h3⟩:=hA (gI a k,gI b k,(S k).2) ⟨cT ha,cT hb,hs2⟩;simp only [kL] at hsn;generalize A (gI a k,gI b k,(S k).2)=y at *;have hk4:(k:Int)<4:=aq;refine d5 [0,1,2,3,4,5,6,7] [8,11,13,14] [0,1,2,3,4,5,6,7,9,10,12] (.step 8 [9,10,12] true (.alt (bt 11 (a_ [13,14])) (a_ [13,11,14]))) ⟨[(2,.ptr 0 0 0 1),(3,.ptr 32 0 0 1),(4,.ptr 64 0 0 1),(6,.ptr 128 0 0 1),(7,.d (.int .u64 y.2)),(9,.d (.int .i64 (k:Int)))],[(128,⟨96,4,[cI ((S k).1.set k y.1)]⟩),(64,⟨96,4,[cI zI]⟩),(32,⟨96,4,[cI b]⟩),(0,⟨96,4,[cI a]⟩)],9000⟩ (k:=15) ?h3 ?hq
  case h3 =>
   intro G hG
   have hW:∀ fr:Fr,(fv 2 fr=.ptr 0 0 0 1∧fv 3 fr=.ptr 32 0 0 1∧fv 4 fr=.ptr 64 0 0 1∧fv 6 fr=.ptr 128 0 0 1∧fv 7 fr=.d (.int .u64 y.2)∧fv 9 fr=.d (.int .i64 (k:Int)))→G fr [(128,⟨96,4,[cI ((S k).1.set k y.1)]⟩),(64,⟨96,4,[cI zI]⟩),(32,⟨96,4,[cI b]⟩),(0,⟨96,4,[cI a]⟩)]:=by
    rintro fr ⟨e2,e3,e4,e6,e7,e9⟩;exact hG _ _ rH
   simp [go_sem,hka,hkb,hal,hbl,hsl,dF,hk4];refine qj h3 ?_;simp [go_sem,hka,hkb,hal,hbl,hsl,mJ,dF,hk4];and_intros <;> first | exact h4 | exact hW _ ⟨rfl,rfl,rfl,rfl,rfl,rfl⟩ | (refine hW _ ?_;simp [fv,lk])
  case hq =>
   simp [go_sem,w3];refine ap (k+1) aq aq ?_;rw [hsn];simp [aA,ai,fv,lk,AV.low,AV.low1];and_intros <;> exact bT _ _
 ·refine ⟨fun h=>absurd (by exact_mod_cast h) h4,fun h=>?_⟩;have hk4:k=4:=aq;subst hk4;simp [go_sem,hsl,ae hsl,aV (l:=zI) (n:=4) rfl,ah];exact xq rfl
theorem O1 (x y:Int):∀ v,v ∈ [AV.d (.int .u64 x),AV.d (.int .u64 y)]→v.deep:=by
 intro v hv;simp at hv;rcases hv with rfl | rfl <;> trivial
theorem vF (a:List Int) (ha:Wn 4 a):∃ (s:List Int) (c:Int),Wn 4 s∧dh c∧V s+115792089237316195423570985008687907853269984665640564039457584007913129639936*c=V a*4294968273∧av Tryz.prog 238 [.agg (cI a)] (fun r=>r=.tup [.agg (cI s),.d (.int .u64 c)]):=by
 obtain ⟨A,hAV,hA⟩:=Ri;obtain ⟨M,hM⟩:=U4
 have hS:∀ k,Wn 4 (eD (uw A M a) (zI,0) k).1∧dh (eD (uw A M a) (zI,0) k).2:=iJ (P:=fun _ (s:List Int × Int)=>Wn 4 s.1∧dh s.2) ⟨jq,tw⟩ fun k s hs=>by
  obtain ⟨h1,h2,_⟩:=hA ((M (gI a k,4294968273)).2,s.2,0) ⟨(hM _).2.1,hs.2,zy⟩;exact ⟨oD hs.1 h1,Nq _⟩
 refine ⟨(eD (uw A M a) (zI,0) 4).1,(eD (uw A M a) (zI,0) 4).2,(hS 4).1,(hS 4).2,Ns hAV (DJ hM) ha,?_⟩;refine bK Tryz.func238 Tryz.ntmps238 (rs:=[.cell 2 96,.tmp 3]) (aN a) ?_;have hal:=ha.1;simp [go_sem,hal,ae hal];generalize hSS:eD (uw A M a) (zI,0)=S at *
 refine ax (fun k:Nat=>⟨[(1,.ptr 0 0 0 1),(2,.ptr 32 0 0 1),(4,.ptr 96 0 0 1),(5,.d (.int .u64 (S k).2)),(10,.d (.int .i64 (k:Int)))],[(96,⟨96,4,[cI (S k).1]⟩),(32,⟨96,4,[cI zI]⟩),(0,⟨96,4,[cI a]⟩)],1000⟩)
  (fun k=>k≤4) (fun k=>4 - k) 0 aq (by
   rw [← hSS];simp [aA,ai,fv,lk,AV.low,AV.low1,eD]
   and_intros <;> first | rfl | exact bT _ _) ?_
 intro k hk;obtain ⟨hs1,hs2⟩:=hS k;have hsl:=hs1.1;have w3:=az (k:=k) aq;simp only [go_sem,Nat.reduceEqDiff,Nat.reduceAdd,Nat.reduceLT,↓reduceIte];by_cases h4:k<4
 ·refine ⟨fun h=>?_,fun h=>absurd (by exact_mod_cast h4) h⟩;have hka:=iV (l:=a) (k:=k) aq;have hsn:S (k+1)=uw A M a k (S k):=by rw [← hSS];rfl
  obtain ⟨m1,m2,m3⟩:=hM (gI a k,4294968273);obtain ⟨h1,h2,h3⟩:=hA ((M (gI a k,4294968273)).2,(S k).2,0) ⟨m2,hs2,zy⟩;simp only [uw] at hsn;have hk4:(k:Int)<4:=aq;simp [go_sem,hka,hal,hsl,hk4];refine ag (m3 ⟨cT ha,⟨aq,aq⟩⟩).2 (O1 _ _) ?_;simp [go_sem,hka,hal,hsl,hk4];refine qj h3 ?_;generalize A ((M (gI a k,4294968273)).2,(S k).2,0)=y at *;generalize M (gI a k,4294968273)=z at *;simp [go_sem,hka,hal,hsl,hk4,mJ,w3];refine ⟨h4,?_⟩;refine ap (k+1) aq aq ?_;rw [hsn];simp [aA,ai,fv,lk,AV.low,AV.low1];and_intros <;> exact bT _ _
 ·refine ⟨fun h=>absurd (by exact_mod_cast h) h4,fun h=>?_⟩;have hk4:k=4:=aq;subst hk4;simp [go_sem,hsl,ae hsl,aV (l:=zI) (n:=4) rfl,ah];exact xq rfl
theorem XR:eE Tryz.prog 226=some (cI Ar):=by kernel_rfl
attribute [go_sem] XR
theorem Nu:Ar.length=8:=rfl
attribute [go_sem] Nu
theorem BG (a b:List Int) (ha:Wn 4 a) (hb:Wn 4 b):∃ (s:List Int),Wn 8 s∧V s=V a*V b∧av Tryz.prog 163 [.agg (cI a),.agg (cI b)] (fun r=>r=.agg (cI s)):=by
 obtain ⟨A,hAV,hA⟩:=Ri;obtain ⟨M,hM⟩:=U4
 have hI:∀ i p,Wn 8 p→∀ k,Wn 8 (eD (zA A M a b i) (p,0) k).1∧dh (eD (zA A M a b i) (p,0) k).2:=fun i p hp=>iJ (P:=fun _ (s:List Int × Int)=>Wn 8 s.1∧dh s.2) ⟨hp,tw⟩ fun k s hs=>by
  obtain ⟨h1,h2,_⟩:=hA ((M (gI a i,gI b k)).2,gI s.1 (pl i k),0) ⟨(hM _).2.1,cT hs.1,zy⟩;obtain ⟨h3,h4,_⟩:=hA ((A ((M (gI a i,gI b k)).2,gI s.1 (pl i k),0)).1,s.2,0) ⟨h1,hs.2,zy⟩;exact ⟨oD hs.1 h3,Nq _⟩
 have hS:∀ i,Wn 8 (eD (pG A M a b) Ar i):=iJ (P:=fun _ (s:List Int)=>Wn 8 s) U0 fun i s hs=>oD (hI i s hs 4).1 (hI i s hs 4).2;refine ⟨eD (pG A M a b) Ar 4,hS 4,(I5 hAV (DJ hM) ha hb).2,?_⟩;refine bK Tryz.func163 Tryz.ntmps163 (rs:=[.cell 4 226]) (aJ a b) ?_;have hal:=ha.1;have hbl:=hb.1;simp [go_sem,hal,hbl,ae hal,ae hbl];generalize hSS:eD (pG A M a b) Ar=S at *
 refine ax (fun i:Nat=>⟨[(2,.ptr 0 0 0 1),(3,.ptr 32 0 0 1),(4,.ptr 64 0 0 1),(5,.ptr 96 0 0 1),(12,.d (.int .i64 (i:Int)))],[(96,⟨226,8,[cI (S i)]⟩),(64,⟨226,8,[cI Ar]⟩),(32,⟨96,4,[cI b]⟩),(0,⟨96,4,[cI a]⟩)],1000⟩)
  (fun k=>k≤4) (fun k=>4 - k) 0 aq (by
   rw [← hSS];simp [aA,ai,fv,lk,AV.low,AV.low1,eD]
   and_intros <;> first | rfl | exact bT _ _) ?_
 intro i hi;have hs1:=hS i;have w3:=az (k:=i) aq;simp only [go_sem,Nat.reduceEqDiff,Nat.reduceAdd,Nat.reduceLT,↓reduceIte];by_cases h4:i<4
 ·refine ⟨fun h=>?_,fun h=>absurd (by exact_mod_cast h4) h⟩;have hka:=iV (l:=a) (k:=i) aq;have hi4:(i:Int)<4:=aq;have hsn:S (i+1)=pG A M a b i (S i):=by rw [← hSS];rfl
  have hIi:=hI i (S i) hs1;unfold pG at hsn;generalize hTT:eD (zA A M a b i) (S i,0)=T at *;have hT0:T 0=(S i,0):=by rw [← hTT];rfl
  refine ax (fun k:Nat=>⟨[(2,.ptr 0 0 0 1),(3,.ptr 32 0 0 1),(4,.ptr 64 0 0 1),(5,.ptr 96 0 0 1),(12,.d (.int .i64 (i:Int))),(6,.d (.int .i64 (i:Int))),(7,.d (.int .u64 (T k).2)),(15,.d (.int .i64 (k:Int)))],[(96,⟨226,8,[cI (T k).1]⟩),(64,⟨226,8,[cI Ar]⟩),(32,⟨96,4,[cI b]⟩),(0,⟨96,4,[cI a]⟩)],2000⟩)
   (fun k=>k≤4) (fun k=>4 - k) 0 aq (by
    rw [hT0];simp [aA,ai,fv,lk,AV.low,AV.low1]
    and_intros <;> first | rfl | exact bT _ _) ?_
  intro k hk;obtain ⟨ht1,ht2⟩:=hIi k;have htl:=ht1.1;have w4:=az (k:=k) aq;have hpl:pl i k=i+k:=rfl;have hp4:pl i 4=i+4:=rfl;have w5:IntKind.i64.wrap ((i:Int)+(k:Int))=(pl i k:Int):=by rw [hpl,IntWalk.i64_in _ aq];omega
  have w6:IntKind.i64.wrap ((i:Int)+4)=(pl i 4:Int):=by rw [hp4,IntWalk.i64_in _ aq];omega
  simp only [go_sem,Nat.reduceEqDiff,Nat.reduceAdd,Nat.reduceLT,↓reduceIte];by_cases h5:k<4
  ·refine ⟨fun h=>?_,fun h=>absurd (by exact_mod_cast h5) h⟩;have hkb:=iV (l:=b) (k:=k) aq;have hkt:=iV (l:=(T k).1) (k:=pl i k) aq;have hk4:(k:Int)<4:=aq;have hik:(pl i k:Int)<8:=aq;have hikn:pl i k<8:=aq;have htn:T (k+1)=zA A M a b i k (T k):=by rw [← hTT];rfl
   obtain ⟨m1,m2,m3⟩:=hM (gI a i,gI b k);obtain ⟨h1,h2,h3⟩:=hA ((M (gI a i,gI b k)).2,gI (T k).1 (pl i k),0) ⟨m2,cT ht1,zy⟩;obtain ⟨q1,q2,q3⟩:=hA ((A ((M (gI a i,gI b k)).2,gI (T k).1 (pl i k),0)).1,(T k).2,0) ⟨h1,ht2,zy⟩;unfold zA at htn;generalize A ((A ((M (gI a i,gI b k)).2,gI (T k).1 (pl i k),0)).1,(T k).2,0)=y2 at *;generalize A ((M (gI a i,gI b k)).2,gI (T k).1 (pl i k),0)=y at *;generalize M (gI a i,gI b k)=z at *;refine b7 [0,1,2,3,4,5] [(6,[7,8,9,10,11])] 1 (k:=12) ?_;intro G hG;simp [go_sem,hka,hkb,hal,hbl,hi4,hk4];refine ag (m3 ⟨cT ha,cT hb⟩).2 (O1 _ _) ?_;simp [go_sem,hka,hkb,hal,hbl,hi4,hk4];refine hG _ _ ?_;clear hG G;simp [go_sem,hkt,htl,w5,hik]
   first | refine qj h3 ?_
   simp [go_sem,hkt,htl,w5,hik]
   first | refine qj q3 ?_
   simp [go_sem,hkt,htl,w5,hik,hikn,mJ,w4]
   first | refine ap (k+1) aq aq ?_ | refine ⟨aq,ap (k+1) aq aq ?_⟩
   rw [htn];simp [aA,ai,fv,lk,AV.low,AV.low1];and_intros <;> exact bT _ _
  ·refine ⟨fun h=>absurd (by exact_mod_cast h) h5,fun h=>?_⟩;have hk4:k=4:=aq;subst hk4;have hi8:(pl i 4:Int)<8:=aq;have hi8n:pl i 4<8:=aq;simp [go_sem,htl,w6,hi8,hi8n,mJ,w3]
   first | refine ap (i+1) aq aq ?_ | refine ⟨aq,ap (i+1) aq aq ?_⟩
   rw [hsn];simp [aA,ai,fv,lk,AV.low,AV.low1];and_intros <;> exact bT _ _
 ·refine ⟨fun h=>absurd (by exact_mod_cast h) h4,fun h=>?_⟩;have hk4:i=4:=aq;subst hk4;have hsl:=hs1.1;simp [go_sem,hsl,ae hsl,aV (l:=Ar) (n:=8) rfl,ah];exact aa (eA _) rfl
end Go.Proofs.YtmfnimjnneflnaaGreat
