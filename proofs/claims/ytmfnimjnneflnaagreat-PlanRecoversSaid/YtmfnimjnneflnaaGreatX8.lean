/-
 Part 9 of what the claim rests on.
-/
import Derived.Test.YtmfnimjnneflnaaGreatX6
import Derived.Test.YtmfnimjnneflnaaGreatX7
import Derived.Laws.Externs
import Derived.Laws.MathBits
import Derived.Laws.Bits64b
set_option linter.unusedVariables false
set_option linter.unusedSimpArgs false
set_option maxRecDepth 100000
set_option maxHeartbeats 16000000
namespace Go.Proofs.YtmfnimjnneflnaaGreat
open Go.Am Go.Sha
def X1(b:Bool):Int:=if b then 1 else 0
theorem GR(b:Bool):au Tryz.prog 259 [.d (.bool b)] (fun r=>r=.d (.int .i64 (X1 b))):=by
 refine bF Tryz.func259 Tryz.ntmps259 (rs:=[.tmp 2]) a9 ?_;cases b with
 |true =>
  simp[go_sem,ah,X1];exact aa a9 rfl
 |false =>
  simp[go_sem,ah,X1];exact aa a9 rfl
def oq(o:Option Int):AV:=.tup [.d (.int .i64 (o.getD 0)),.d (.bool o.isSome)]
def lK(o:Option Bool):AV:=.tup [.d (.bool (o.getD false)),.d (.bool o.isSome)]
theorem dS(o:Option Int):(oq o).deep:=by
 intro c hc;simp at hc;rcases hc with rfl|rfl<;>exact .inl trivial
theorem dT(o:Option Bool):(lK o).deep:=by
 intro c hc;simp at hc;rcases hc with rfl|rfl<;>exact .inl trivial
theorem aT{v r:AV}{st:St}(h:v=r)(a:r.deep):dC (fun x=>x=r) v st:=by
 subst h;exact aa a rfl
theorem VO(b:Nat)(u:b<256)(a:Int)(v:-2147483648<a∧a<2147483648):au Tryz.prog 255 [.d (.int .u8 (b:Int)),.d (.int .i64 a)] (fun r=>r=oq (vU b a)):=by
 refine bF Tryz.func255 Tryz.ntmps255 (rs:=[.tmp 4,.tmp 5]) a9 ?_;simp[go_sem];by_cases f:b=139
 ·subst f;rw[show vU 139 a=some (a+1)from rfl];have w:IntKind.i64.wrap (a+1)=a+1:=IntWalk.i64_in _ aq;simp[go_sem,w];exact aT rfl (dS _)
 have p:¬(b:Int)=139:=aq;simp[go_sem,p];by_cases i:b=140
 ·subst i;rw[show vU 140 a=some (a-1)from rfl];have w:IntKind.i64.wrap (a-1)=a-1:=IntWalk.i64_in _ aq;simp[go_sem,w];exact aT rfl (dS _)
 have l:¬(b:Int)=140:=aq;simp[go_sem,l];by_cases g:b=143
 ·subst g;rw[show vU 143 a=some (-a)from rfl];have w:IntKind.i64.wrap (0-a)=-a:=by rw[IntWalk.i64_in _ aq];omega
  have q:IntKind.i64.wrap (-a)=-a:=IntWalk.i64_in _ aq;simp[go_sem,q];exact aT rfl (dS _)
 have m:¬(b:Int)=143:=aq;simp[go_sem,m];by_cases j:b=144
 ·subst j;rw[show vU 144 a=some (max a (-a))from rfl];have w:IntKind.i64.wrap (0-a)=-a:=by rw[IntWalk.i64_in _ aq];omega
  have q:IntKind.i64.wrap (-a)=-a:=IntWalk.i64_in _ aq;have s:(if a < -a then -a else a)=max a (-a):=aq;simp[go_sem,q,s];exact aT rfl (dS _)
 have n:¬(b:Int)=144:=aq;simp[go_sem,n];by_cases e:b=145
 ·subst e;rw[show vU 145 a=some (if a=0 then 1 else 0)from rfl];simp[go_sem];refine ag (GR _) a9 ?_;simp[go_sem,ah];exact aT (by by_cases h:a=0<;>simp[oq,X1,h]) (dS _)
 have k:¬(b:Int)=145:=aq;simp[go_sem,k];by_cases c:b=146
 ·subst c;rw[show vU 146 a=some (if a=0 then 0 else 1)from rfl];simp[go_sem];refine ag (GR _) a9 ?_;simp[go_sem,ah];exact aT (by by_cases h:a=0<;>simp[oq,X1,h]) (dS _)
 have o:¬(b:Int)=146:=aq;have t:vU b a=none:=by simp[vU,f,i,g,j,e,c]
 rw[t];simp[go_sem,o];exact aT rfl (dS _)
theorem aa9(c:Nat)(z:c<256)(a:Int)(A:-2147483648<a∧a<2147483648)(b:Int)(B:-2147483648<b∧b<2147483648):au Tryz.prog 260 [.d (.int .u8 (c:Int)),.d (.int .i64 a),.d (.int .i64 b)] (fun r=>r=lK (FH c a b)):=by
 refine bF Tryz.func260 Tryz.ntmps260 (rs:=[.tmp 6,.tmp 7]) a9 ?_;simp[go_sem];by_cases n:c=154
 ·subst n;rw[show FH 154 a b=some (decide (a≠0)&&decide (b≠0))from rfl];by_cases e:a=0
  ·simp[go_sem,e,ah];exact aT (by simp[lK]) (dT _)
  ·simp[go_sem,e,ah];exact aT (by simp[lK]) (dT _)
 have w:¬(c:Int)=154:=aq;simp[go_sem,w];by_cases i:c=155
 ·subst i;rw[show FH 155 a b=some (decide (a≠0)||decide (b≠0))from rfl];by_cases e:a=0
  ·simp[go_sem,e,ah];exact aT (by simp[lK]) (dT _)
  ·simp[go_sem,e,ah];exact aT (by simp[lK]) (dT _)
 have v:¬(c:Int)=155:=aq;simp[go_sem,v];by_cases g:c=156
 ·subst g;rw[show FH 156 a b=some (decide (a=b))from rfl];simp[go_sem];exact aT (by simp[lK]) (dT _)
 have o:¬(c:Int)=156:=aq;simp[go_sem,o];by_cases h:c=157
 ·subst h;rw[show FH 157 a b=some (decide (a=b))from rfl];simp[go_sem];exact aT (by simp[lK]) (dT _)
 have t:¬(c:Int)=157:=aq;simp[go_sem,t];by_cases f:c=158
 ·subst f;rw[show FH 158 a b=some (decide (a≠b))from rfl];simp[go_sem];exact aT (by simp[lK]) (dT _)
 have u:¬(c:Int)=158:=aq;simp[go_sem,u];by_cases l:c=159
 ·subst l;rw[show FH 159 a b=some (decide (a<b))from rfl];simp[go_sem];exact aT (by simp[lK]) (dT _)
 have q:¬(c:Int)=159:=aq;simp[go_sem,q];by_cases j:c=160
 ·subst j;rw[show FH 160 a b=some (decide (b<a))from rfl];simp[go_sem];exact aT (by simp[lK]) (dT _)
 have x:¬(c:Int)=160:=aq;simp[go_sem,x];by_cases k:c=161
 ·subst k;rw[show FH 161 a b=some (decide (a≤b))from rfl];simp[go_sem];exact aT (by simp[lK]) (dT _)
 have s:¬(c:Int)=161:=aq;simp[go_sem,s];by_cases m:c=162
 ·subst m;rw[show FH 162 a b=some (decide (b≤a))from rfl];simp[go_sem];exact aT (by simp[lK]) (dT _)
 have p:¬(c:Int)=162:=aq;have y:FH c a b=none:=by simp[FH,n,i,g,h,f,l,j,k,m]
 rw[y];simp[go_sem,p];exact aT rfl (dT _)
theorem VP(c:Nat)(n:c<256)(a:Int)(o:-2147483648<a∧a<2147483648)(b:Int)(p:-2147483648<b∧b<2147483648):au Tryz.prog 256 [.d (.int .u8 (c:Int)),.d (.int .i64 a),.d (.int .i64 b)] (fun r=>r=oq (xF c a b)):=by
 refine bF Tryz.func256 Tryz.ntmps256 (rs:=[.tmp 6,.tmp 7]) a9 ?_;simp[go_sem];by_cases f:c=147
 ·subst f;rw[show xF 147 a b=some (a+b)from rfl];have w:IntKind.i64.wrap (a+b)=a+b:=IntWalk.i64_in _ aq;simp[go_sem,w];exact aT rfl (dS _)
 have k:¬(c:Int)=147:=aq;simp[go_sem,k];by_cases e:c=148
 ·subst e;rw[show xF 148 a b=some (a-b)from rfl];have w:IntKind.i64.wrap (a-b)=a-b:=IntWalk.i64_in _ aq;simp[go_sem,w];exact aT rfl (dS _)
 have i:¬(c:Int)=148:=aq;simp[go_sem,i];by_cases h:c=163
 ·subst h;rw[show xF 163 a b=some (min a b)from rfl];have m:(if b<a then b else a)=min a b:=aq;simp[go_sem,m];exact aT rfl (dS _)
 have l:¬(c:Int)=163:=aq;simp[go_sem,l];by_cases g:c=164
 ·subst g;rw[show xF 164 a b=some (max a b)from rfl];have m:(if a<b then b else a)=max a b:=aq;simp[go_sem,m];exact aT rfl (dS _)
 have j:¬(c:Int)=164:=aq;have q:xF c a b=(FH c a b).map fun v=>if v then 1 else 0:=by simp[xF,f,e,h,g]
 rw[q];simp[go_sem,j];refine ag (aa9 c n a o b p) a9 ?_;simp[go_sem,lK];refine ag (GR _) a9 ?_;simp[go_sem,ah]
 exact aT (by cases FH c a b with
  |none=>simp[oq,X1]
  |some v=>cases v<;>simp[oq,X1]) (dS _)
def kz(l:List Int):List (List AV):=l.map fun v=>[.d (.int .i64 v)]
theorem OH(ρ:Nat→Nat)(l:List Int):aO ρ (kz l)=kz l:=by
 simp only[aO,kz,List.map_map];exact List.map_congr_left fun v _=>rfl
theorem OI(l:List Int):(kz l).length=l.length:=by simp[kz]
theorem xU(n:Nat)(l:List Int):∀r,r∈kz l→∀v,v∈r→v.low1 n:=by
 intro r b v a;obtain⟨x,_,rfl⟩:=List.mem_map.1 b;simp only[et,List.mem_nil_iff,or_false]at a;subst a;trivial
def VQ(g:FuncId)(C:Nat)(ty:TypeId)(s:McS)(b:List AV)(R:List Int→McS→Prop):Prop :=
 cX Tryz.prog g 3 (ju 3 bu s id) b (fun r a=>∃vs s',R vs s'∧r=.own C 0 vs.length vs.length∧lk C a=some ⟨ty,1,kz vs⟩∧vA 3 bu s' id a)
theorem OJ{N C:Nat}{Pp:Hp}{g:FuncId}{ty:TypeId}{s:McS}{d:List AV}{R:List Int→McS→Prop}{K:AV→Hp→Prop}(h:VQ g C ty s (.ptr 0 0 0 1::d) R)(E:3≤C)(M:3≤N)(z:∀p,p∈Pp→p.1<N∧3≤p.1)(u:∀ ρ,AV.renL ρ d=d)
  (G:∀vs m,R vs m→K (.own N 0 vs.length vs.length) ((N,⟨ty,1,kz vs⟩)::(Pp++ju 3 bu m id))):uK Tryz.prog g (.ptr 0 0 0 1::d) (Pp++ju 3 bu s id) N K:=by
 have v:∀j,j<3→b8 (lI 3 id id) 3 (id j)=j:=fun j a=>vV id 3 (aV 3) a;have k:db (lI 3 id id) [(C,0)]=true:=GA E;have t:vA 3 bu s id (Pp++ju 3 bu s id):=fun j a=>by
  rw[nN];cases l:lk (id j) Pp with
  |none=>exact Bq _ (aV 3) a
  |some x=>have:=(z _ (bK l)).2;exact absurd a (by show ¬j<3;simp[id]at this;omega)
 refine .inl (pV (n:=3) (b0:=bu s id) id h (fun i x b=>IB i x b) (aV 3) (fun i b=>by show i<N;omega) (fun j a=>⟨_,t j a,bN.2 _ _ _ a,(bN.1 s id _ id j a v).symm⟩) ?_ [(C,0)] k ?_)
 rw[AV.renL,u,AV.ren];rfl;rintro r F⟨vs,m,I,rfl,o,y⟩L H B D;have q:∀j,j<3→zT 3 id [(C,0)] N (id j)=id j:=fun j a=>Br k a;have w:zT 3 id [(C,0)] N C=N:=Bt (c:=C) (j:=0) k (d7 ..);refine⟨(N,⟨ty,1,kz vs⟩)::(Pp++ju 3 bu m id),fun i x b=>?_,?_⟩;rw[pu]at b;split at b;rename_i e;subst e;cases b;have:=B C 0 aw _ o;rw[Blk.ren,OH]at this;exact this;rw[nN]at b;cases l:lk i Pp with
 |some x' =>
  rw[l]at b;cases b;obtain⟨A,J⟩:=z _ (bK l);rw[D i A (fun j a=>by show j≠i;simp at J;omega),nN,l]
 |none =>
  rw[l]at b;obtain⟨j,f,e⟩:=nM.1 (bK b);cases e;have:=H j f _ (y j f);rw[bN.1 m id _ id j f q]at this;exact this
 ·rw[AV.ren,w];exact G vs m I
theorem IOa:∀(k:Nat)(x:Int)(a:List Int),(kz (List.replicate (k+1) 0++a)).set k [.d (.int .i64 x)]=kz (List.replicate k 0++x::a)
 |0,x,a=>by simp[kz]
 |k+1,x,a=>by
  have h:=IOa k x a;rw[List.replicate_succ,List.cons_append];show[.d (.int .i64 0)]::(kz (List.replicate (k+1) 0++a)).set k [.d (.int .i64 x)]=_;rw[h];rfl
theorem xW(m:Mc)(Q:bc→Prop)(h:∀x,x∈m.main→Q x)(b:m.main.length≤1000):(∀x,x∈(dR m).2.main→Q x)∧(dR m).2.main.length≤1000∧((aQ 1 m).e=0→(dR m).1∈m.main):=by
 by_cases c:(aQ 1 m).e=0;obtain⟨l,x,a,d,g⟩:=BI c;rw[d,a];refine⟨fun y f=>h y (by rw[a];exact List.mem_append_left _ f),?_,fun _=>aw⟩;rw[a]at b;simp at b⊢;omega;have d:dR m=([],aQ 1 m):=if_neg c;rw[d];simp only[(qd 1 m).1];exact⟨h,b,fun h=>absurd h c⟩
theorem uk(most:Nat)(x:bc)(m:Mc):(gw most x m).2.main=m.main:=by
 unfold gw;split;cases gv most x with
 |none=>simp only;unfold jc;split<;>rfl
 |some n=>rfl
 ·rfl
theorem BJ(n:Nat)(hn:n≤3)(aa:1≤n)(m:Mc)(J H:List Jk)(T:m.main.length≤1000)(D:∀x,x∈m.main→x.length≤1000000)(S:∀x,x∈m.main→bytes x) :
  VQ 254 68 2 ⟨m,J,H⟩ [.ptr 0 0 0 1,.d (.int .i64 (n:Int))] (fun vs A=>vs=(d6 n m).1∧∃J',A=⟨(d6 n m).2,J',H⟩):=by
 refine ap Tryz.func254 (by kernel_rfl) rfl Tryz.ntmps254 (rs:=[.tmp 4]) rfl (dJ rfl) (by decide) ?_;obtain⟨a,alt,e⟩:=m;simp only at T D S;rw[cf];simp only[bu,id];simp[go_sem];refine⟨aq,aq,aq,?_⟩;refine eJ (Pp:=[(68,⟨2,1,List.replicate n [.d (.int .i64 0)]⟩)]) (s:=⟨⟨a,alt,e⟩,J,H⟩) (mo ⟨a,alt,e⟩ J H n) aq aw (by simp[AV.renL,AV.ren]) ?_;rintro v A ρ ⟨rfl,rfl⟩ M;by_cases h:(aQ n ⟨a,alt,e⟩).e=0
 ·obtain⟨h1,U,W⟩:=jv h;simp only at h1 U;subst U;have R:d6 n ⟨a,alt,0⟩=oC n ⟨a,alt,0⟩:=if_pos h;rw[R,W];simp only[cf,bu,id];have w1:IntKind.i64.wrap ((n:Int)-1)=(n:Int)-1:=IntWalk.i64_in _ aq;simp[go_sem,AV.ren,w1]
  refine av (fun u:Nat×List Int×Mc×List Jk=>⟨[(0,.ptr 0 0 0 1),(5,.own 68 0 n n),(6,.d (.int .i64 ((u.1:Int)-1)))],
   [(68,⟨2,1,kz (List.replicate u.1 0++u.2.1)⟩),(0,⟨283,3,[[.own 1 0 u.2.2.1.main.length (u.2.2.1.main.length+u.2.2.2.length),.own 2 0 u.2.2.1.alt.length (u.2.2.1.alt.length+H.length),.d (.int .i64 u.2.2.1.e)]]⟩),(1,⟨31,1,dm u.2.2.1.main u.2.2.2⟩),(2,⟨31,1,dm u.2.2.1.alt H⟩)],9000⟩)
   (fun u=>u.1+u.2.1.length=n∧oC n ⟨a,alt,0⟩=((oC u.1 u.2.2.1).1++u.2.1,(oC u.1 u.2.2.1).2)∧u.2.2.1.main.length≤1000∧(∀x,x∈u.2.2.1.main→x.length≤1000000∧bytes x)) (fun u=>u.1) (n,[],⟨a,alt,0⟩,J)
   ⟨aw,aw,T,fun x h=>⟨D x h,S x h⟩⟩
   ⟨by simp[ai,fv,lk,AV.low,AV.low1],List.forall_mem_cons.2 ⟨⟨.inl (by simp[lk,kz]),by show 68<9000;omega,xU _ _⟩,Ob (m:=⟨a,alt,0⟩) rfl rfl rfl (dJ rfl) trivial⟩,aw⟩ ?_
  rintro⟨k,i,m,K⟩⟨Z,c,C,o⟩;simp only at Z c C o;simp only[go_sem,Nat.reduceEqDiff,Nat.reduceAdd,Nat.reduceLT,↓reduceIte];refine⟨fun X=>?_,fun X=>?_⟩
  ·obtain⟨k,rfl⟩:∃Y,k=Y+1:=⟨k-1,aq⟩;have B:k<n:=aq;have l:(k:Int)<(n:Int):=aq;have Q:(kz (List.replicate (k+1) 0++i))[k]?=some [.d (.int .i64 0)]:=by
    simp only[kz,c_];rw[List.getElem?_append_left aw,List.getElem?_replicate,if_pos aq];rfl
   have y:∀h:k<(kz (List.replicate (k+1) 0++i)).length,(kz (List.replicate (k+1) 0++i))[k]=[.d (.int .i64 0)]:=fun h=>Option.some.inj ((cm h).symm.trans Q);have F:((k+1:Nat):Int)-1=(k:Int):=aq;rw[F];have j:=fun x=>IOa k x i;have z:(kz (List.replicate (k+1) 0++i)).length=n:=by rw[OI];simp;omega
   generalize kz (List.replicate (k+1) 0++i)=row at *;refine eJ (Pp:=[(68,⟨2,1,row⟩)]) (s:=⟨m,K,H⟩) (zU m K H aq) aq aw (by simp[AV.renL]) ?_;rintro v A ρ ⟨rfl,t,rfl⟩ M;obtain⟨g,f,G⟩:=xW m _ o C;have hq:oC (k+1) m=((oC k (gw 4 (dR m).1 (dR m).2).2).1++[(gw 4 (dR m).1 (dR m).2).1],(oC k (gw 4 (dR m).1 (dR m).2).2).2):=rfl;rw[hq]at c;by_cases w:(aQ 1 m).e=0
   ·rw[if_pos w];obtain⟨I,O⟩:=o _ (G w);generalize dR m=p at *;obtain⟨x,b⟩:=p;simp only[cf,bu,id];simp[go_sem,AV.ren];refine eJ (Pp:=[(68,⟨2,1,row⟩)]) (s:=⟨b,t,H⟩) (Oq b t H 4 x O (by decide) I) aq aw (by simp[AV.renL,AV.ren,nb]) ?_;rintro v A ρ ⟨rfl,rfl⟩ M;have q:=uk 4 x b;simp only at c g f;generalize gw 4 x b=r at *;obtain⟨r1,N⟩:=r;simp only at q c;simp only[cf,bu,id];simp[go_sem,AV.ren,B,l,y,z,j];have E:IntKind.i64.wrap ((k:Int)-1)=(k:Int)-1:=IntWalk.i64_in _ aq;refine am (k,r1::i,N,t) ⟨by simp;omega,by rw[c];simp,by show N.main.length≤1000;rw[q];exact f,by intro x D;exact g x (by rw[←q];exact D)⟩ (by show k<k+1;omega) ⟨by simp[ai,fv,lk,AV.low,AV.low1,E],List.forall_mem_cons.2 ⟨⟨.inl rfl,by show 68<9000;omega,xU _ _⟩,Ob (m:=N) rfl rfl rfl (dJ rfl) trivial⟩,aw⟩
   ·rw[if_neg w];have L:dR m=([],aQ 1 m):=if_neg w;rw[L]at c g f⊢;generalize aQ 1 m=b at *;have P:gw 4 [] b=(0,b):=if_neg w;simp only[P]at c;simp only[cf,bu,id];simp[go_sem,AV.ren];refine eJ (Pp:=[(68,⟨2,1,row⟩)]) (s:=⟨b,t,H⟩) (IK b t H 4 w) aq aw (by simp[AV.renL,AV.ren]) ?_;rintro v A ρ ⟨rfl,rfl⟩ M;simp only[cf,bu,id];simp[go_sem,AV.ren,B,l,y,z,j];have E:IntKind.i64.wrap ((k:Int)-1)=(k:Int)-1:=IntWalk.i64_in _ aq;refine am (k,0::i,b,t) ⟨by simp;omega,by rw[c];simp,f,g⟩ (by show k<k+1;omega) ⟨by simp[ai,fv,lk,AV.low,AV.low1,E],List.forall_mem_cons.2 ⟨⟨.inl rfl,by show 68<9000;omega,xU _ _⟩,Ob (m:=b) rfl rfl rfl (dJ rfl) trivial⟩,aw⟩
  ·obtain rfl:k=0:=aq;have V:oC 0 m=([],m):=rfl;rw[V]at c;rw[c];simp[go_sem];exact⟨i,_,⟨rfl,K,rfl⟩,aq,rfl,a8 rfl rfl rfl⟩
 ·have R:d6 n ⟨a,alt,e⟩=(List.replicate n 0,aQ n ⟨a,alt,e⟩):=if_neg h;rw[R];generalize aQ n ⟨a,alt,e⟩=b at *;simp only[cf,bu,id];simp[go_sem,AV.ren,h,ah];exact⟨_,_,⟨rfl,J,rfl⟩,aw,by simp[kz],a8 rfl rfl rfl⟩
theorem IP{b:bc}{n:Int}(c:bytes b)(h:gv 4 b=some n):-2147483648<n∧n<2147483648:=by
 unfold gv at h;split at h;rename_i i;obtain rfl:=Option.some.inj h;have g:b.length≤4:=aq;rcases fe b with rfl|⟨a,x,rfl⟩;decide;have j:x<256:=c x aw;have d:=ug (b:=a) (fun y f=>c y (List.mem_append_left _ f));simp at g;rw[iW];have hc:a.length=0∨a.length=1∨a.length=2∨a.length=3:=aq;rcases hc with e|e|e|e<;>rw[e]at d⊢<;>simp at d⊢<;>split<;>omega;cases h
def i31(v:Int):Prop:=-2147483648<v∧v<2147483648
theorem OK{x:bc}{m:Mc}(a:bytes x):i31 (gw 4 x m).1:=by
 unfold gw;split;cases h:gv 4 x with
 |none=>exact⟨aw,aw⟩
 |some n=>exact IP a h
 ·exact⟨aw,aw⟩
theorem IQ:∀(k:Nat)(m:Mc),(∀x,x∈m.main→bytes x)→m.main.length≤1000→(oC k m).1.length=k∧∀v,v∈(oC k m).1→i31 v
 |0,m,_,_=>⟨rfl,fun v h=>by cases h⟩
 | k+1,m,hb,hl=>by
  obtain⟨c,d,f⟩:=xW m _ hb hl;have a:bytes (dR m).1:=by
   by_cases h:(aQ 1 m).e=0;exact hb _ (f h);rw[show dR m=([],aQ 1 m)from if_neg h];intro x a;cases a
  have g:=OK (m:=(dR m).2) a;have b:=uk 4 (dR m).1 (dR m).2;obtain⟨i,i2⟩:=IQ k (gw 4 (dR m).1 (dR m).2).2 (by rw[b];exact c) (by rw[b];exact d);rw[oC];refine⟨by simp[i],fun v j=>?_⟩;rcases cL.1 j with h|h;exact i2 v h;simp at h;subst h;exact g
theorem xX(n:Nat)(m:Mc)(b:∀x,x∈m.main→bytes x)(c:m.main.length≤1000):(d6 n m).1.length=n∧∀v,v∈(d6 n m).1→i31 v:=by
 unfold d6;split;exact IQ n m b c;refine⟨aw,fun v a=>?_⟩;rw[List.mem_replicate]at a;rw[a.2];exact⟨by decide,by decide⟩
theorem ED:∀(k:Nat)(m:Mc),m.main.length≤1000→(oC k m).2.main.length≤1000
 |0,m,h=>h
 |k+1,m,h=>by
  rw[oC];refine ED k _ ?_;rw[uk];exact(xW m (fun _=>True) (fun _ _=>trivial) h).2.1
theorem um(n:Nat)(m:Mc)(a:m.main.length≤1000):(d6 n m).2.main.length≤1000:=by
 unfold d6;split;exact ED n m a;rw[(qd n m).1];exact a
theorem OL(b:Nat)(a:Int):(vU b a).isSome=(vU b 0).isSome:=by
 unfold vU;repeat' split<;>try rfl
theorem X2(b:Nat)(a:Int)(h:i31 a):-4294967296<(vU b a).getD 0∧(vU b a).getD 0<4294967296:=by
 obtain⟨c,d⟩:=h;unfold vU
 repeat' split
 all_goals simp only[Option.getD_some,Option.getD_none]
 all_goals omega
theorem X3(c:Nat)(a b:Int)(h:i31 a)(k:i31 b):-4294967297<(xF c a b).getD 0∧(xF c a b).getD 0<4294967297:=by
 obtain⟨e,f⟩:=h;obtain⟨d,k2⟩:=k;unfold xF;split;simp only[Option.getD_some];omega;split;simp only[Option.getD_some];omega;split;simp only[Option.getD_some];omega;split;simp only[Option.getD_some];omega;cases FH c a b with
 |none=>simp
 |some v=>cases v<;>simp
theorem KV(m:Mc)(J H:List Jk)(g:Nat)(R:g<256)(t:m.main.length≤1000)(S:∀x,x∈m.main→x.length≤1000000)(K:∀x,x∈m.main→bytes x):dr Tryz.prog 3 bu 237 ⟨m,J,H⟩ [.ptr 0 0 0 1,.d (.int .u8 (g:Int))]
  (fun v w=>v=.d (.bool (qE g m).isSome)∧∃n,w=⟨(qE g m).getD m,n,H⟩):=by
 refine ap Tryz.func237 (by kernel_rfl) rfl Tryz.ntmps237 (rs:=[.tmp 4]) rfl (dJ rfl) (by decide) ?_;obtain⟨f,alt,e⟩:=m;simp only at t S K;rw[cf];simp only[bu,id];simp[go_sem];by_cases l:g=165
 ·subst l;have i:qE 165 ⟨f,alt,e⟩=some (eV [js (decide ((d6 3 ⟨f,alt,e⟩).1.getD 1 0≤(d6 3 ⟨f,alt,e⟩).1.getD 0 0)&&decide ((d6 3 ⟨f,alt,e⟩).1.getD 0 0<(d6 3 ⟨f,alt,e⟩).1.getD 2 0))] (d6 3 ⟨f,alt,e⟩).2):=rfl;rw[i];simp[go_sem];refine OJ (Pp:=[]) (s:=⟨⟨f,alt,e⟩,J,H⟩) (BJ 3 (by decide) (by decide) ⟨f,alt,e⟩ J H t S K) (by decide) aq aw (by simp[AV.renL,AV.ren]) ?_;rintro B w⟨rfl,n,rfl⟩;obtain⟨D,F⟩:=xX 3 ⟨f,alt,e⟩ K t;have Q:=um 3 ⟨f,alt,e⟩ t;generalize d6 3 ⟨f,alt,e⟩=p at *;obtain⟨B,h⟩:=p;simp only at D F Q
  match B,D with
  | [a,b,c],_ =>
   simp only[cf,bu,id];simp[go_sem,kz];have P:∀b:Bool,(js b).length≤1:=fun b=>by cases b<;>decide
   by_cases z:b≤a
   ·
    refine cz [0,1,2,3,4,5,6,7,8,9,10,11,12,13,14,15,16] [(17,[]),(18,[]),(19,[])] 2 (k:=20) ?_;intro G C;simp[go_sem,z];refine ag (nQ _) (by intro v i;simp at i;subst i;trivial) ?_;generalize o:js (decide (a<c))=y;have I:y.length≤1:=by rw[←o];exact P _
    simp[go_sem]
    refine c8 [772] [] (args':=[.ptr 0 0 0 1,.d (.ro 1 [[nb y]])]) bN id (hJ h n H y aq aq) (aV 3) (fun j U=>by show j<804;omega) (by simp[cf,bu,aE,lk]) rfl
     (iH rfl) aw rfl ?_
    rintro v w ρ ⟨r,rfl⟩ T;simp only[cf,bu,eV,id];simp[go_sem];refine C _ _ ?_;clear C G;simp[go_sem,ah];exact⟨⟨⟨h.main++[y],h.alt,h.e⟩,r,H⟩,⟨r,by simp[eV,z,o]⟩,a8 (by simp[lk]) rfl rfl⟩
   ·
    refine cz [0,1,2,3,4,5,6,7,8,9,10,11,12,13,14,15,16] [(17,[]),(18,[]),(19,[])] 2 (k:=20) ?_;intro G C;simp[go_sem,z];refine ag (nQ _) (by intro v i;simp at i;subst i;trivial) ?_;generalize o:js false=y;have I:y.length≤1:=by rw[←o];exact P _
    simp[go_sem]
    refine c8 [772] [] (args':=[.ptr 0 0 0 1,.d (.ro 1 [[nb y]])]) bN id (hJ h n H y aq aq) (aV 3) (fun j U=>by show j<804;omega) (by simp[cf,bu,aE,lk]) rfl
     (iH rfl) aw rfl ?_
    rintro v w ρ ⟨r,rfl⟩ T;simp only[cf,bu,eV,id];simp[go_sem];refine C _ _ ?_;clear C G;simp[go_sem,ah];exact⟨⟨⟨h.main++[y],h.alt,h.e⟩,r,H⟩,⟨r,by simp[eV,z,o]⟩,a8 (by simp[lk]) rfl rfl⟩
 have N:¬(g:Int)=165:=aq;simp[go_sem,N];refine ag (VO g R 0 ⟨aq,aq⟩) a9 ?_;simp[go_sem,oq];by_cases E:(vU g 0).isSome=true
 ·simp[go_sem,E]
  have i:qE g ⟨f,alt,e⟩=some (eV [cQ ((vU g ((d6 1 ⟨f,alt,e⟩).1.getD 0 0)).getD 0)] (d6 1 ⟨f,alt,e⟩).2):=by
   unfold qE;rw[if_neg l];cases u:vU g 0 with
   |none=>rw[u]at E;simp at E
   |some q=>rfl
  rw[i];refine OJ (Pp:=[]) (s:=⟨⟨f,alt,e⟩,J,H⟩) (BJ 1 (by decide) (by decide) ⟨f,alt,e⟩ J H t S K) (by decide) aq aw (by simp[AV.renL,AV.ren]) ?_;rintro B w⟨rfl,n,rfl⟩;obtain⟨D,F⟩:=xX 1 ⟨f,alt,e⟩ K t;have Q:=um 1 ⟨f,alt,e⟩ t;generalize d6 1 ⟨f,alt,e⟩=p at *;obtain⟨B,h⟩:=p;simp only at D F Q
  match B,D with
  | [a],_ =>
   simp only[cf,bu,id];have O:=F a aw;have X:=OL g a;simp[go_sem,kz];refine ag (VO g R a O) a9 ?_;simp[go_sem,oq];have V:=X2 g a O;refine ag (lD _ aq aq) (by intro v i;simp at i;subst i;trivial) ?_;have I:=gq ((vU g a).getD 0);generalize cQ ((vU g a).getD 0)=y at *;simp[go_sem]
   refine c8 [804] [] (args':=[.ptr 0 0 0 1,.d (.ro 1 [[nb y]])]) bN id (hJ h n H y aq aq) (aV 3) (fun j U=>by show j<836;omega) (by simp[cf,bu,aE,lk]) rfl
    (iH rfl) aw rfl ?_
   rintro v w ρ ⟨r,rfl⟩ T;simp only[cf,bu,eV,id];simp[go_sem,ah];exact⟨⟨⟨h.main++[y],h.alt,h.e⟩,r,H⟩,⟨r,rfl⟩,a8 (by simp[lk]) rfl rfl⟩
 ·simp[go_sem,E];refine ag (VP g R 0 ⟨aq,aq⟩ 0 ⟨aq,aq⟩) a9 ?_;simp[go_sem,oq];by_cases A:(xF g 0 0).isSome=true
  ·have L:(xF g 0 0).isNone=false:=by cases u:xF g 0 0 with
    |none=>rw[u]at A;simp at A
    |some q=>rfl
   simp[go_sem,L];refine OJ (Pp:=[]) (s:=⟨⟨f,alt,e⟩,J,H⟩) (BJ 2 (by decide) (by decide) ⟨f,alt,e⟩ J H t S K) (by decide) aq aw (by simp[AV.renL,AV.ren]) ?_;rintro B w⟨rfl,n,rfl⟩;obtain⟨D,F⟩:=xX 2 ⟨f,alt,e⟩ K t;have Q:=um 2 ⟨f,alt,e⟩ t
   have i:qE g ⟨f,alt,e⟩=some (if g=157 then kJ (decide ((xF g ((d6 2 ⟨f,alt,e⟩).1.getD 0 0) ((d6 2 ⟨f,alt,e⟩).1.getD 1 0)).getD 0≠0)) (d6 2 ⟨f,alt,e⟩).2 else eV [cQ ((xF g ((d6 2 ⟨f,alt,e⟩).1.getD 0 0) ((d6 2 ⟨f,alt,e⟩).1.getD 1 0)).getD 0)] (d6 2 ⟨f,alt,e⟩).2):=by
    unfold qE;rw[if_neg l];cases u:vU g 0 with
    |some q=>rw[u]at E;simp at E
    |none =>
     cases M:xF g 0 0 with
     |none=>rw[M]at A;simp at A
     |some q=>rfl
   rw[i];clear i;generalize d6 2 ⟨f,alt,e⟩=p at *;obtain⟨B,h⟩:=p;simp only at D F Q
   match B,D with
   | [a,b],_ =>
    simp only[cf,bu,id];have O:=F a aw;have W:=F b aw;simp[go_sem,kz];refine cz [0,1,2,3,4,5,6] [(7,[8,9,10,11,12])] 1 (k:=13) ?_;intro G C;simp[go_sem];refine ag (VP g R a O b W) a9 ?_;simp[go_sem,oq];refine C _ _ ?_;clear C G;have V:=X3 g a b O W;simp[go_sem];refine⟨fun Y=>?_,fun Y=>?_⟩
    ·rw[if_pos (show g=157 by omega)];refine eJ (Pp:=[(676,⟨2,1,[[.d (.int .i64 a)],[.d (.int .i64 b)]]⟩)]) (s:=⟨h,n,H⟩) (BH h n H _) aq aw (by simp[AV.renL,AV.ren]) ?_;rintro v w ρ rfl T;generalize kJ _ h=m';simp only[cf,bu,id];simp[go_sem,ah];exact⟨⟨m',n,H⟩,⟨n,rfl⟩,a8 rfl rfl rfl⟩
    ·rw[if_neg (show ¬g=157 by omega)];refine ag (lD _ aq aq) (by intro v i;simp at i;subst i;trivial) ?_;have I:=gq ((xF g a b).getD 0);generalize cQ ((xF g a b).getD 0)=y at *;simp[go_sem]
     refine c8 [1316] [] (args':=[.ptr 0 0 0 1,.d (.ro 1 [[nb y]])]) bN id (hJ h n H y aq aq) (aV 3) (fun j U=>by show j<1348;omega) (by simp[cf,bu,aE,lk]) rfl
      (iH rfl) aw rfl ?_
     rintro v w ρ ⟨r,rfl⟩ T;simp only[cf,bu,eV,id];simp[go_sem,ah];exact⟨⟨⟨h.main++[y],h.alt,h.e⟩,r,H⟩,⟨r,rfl⟩,a8 (by simp[lk]) rfl rfl⟩
  ·have L:(xF g 0 0).isNone=true:=by cases u:xF g 0 0 with
    |none=>rfl
    |some q=>rw[u]at A;simp at A
   have i:qE g ⟨f,alt,e⟩=none:=by
    unfold qE;rw[if_neg l];cases u:vU g 0 with
    |some q=>rw[u]at E;simp at E
    |none =>
     cases M:xF g 0 0 with
     |some q=>rw[M]at A;simp at A
     |none=>rfl
   rw[i];simp[go_sem,L,ah];exact⟨⟨⟨f,alt,e⟩,J,H⟩,⟨J,rfl⟩,a8 rfl rfl rfl⟩
theorem X4(e:Int)(c:e≠0)(n k:Nat)(J H:List Jk):dr Tryz.prog 3 BG 223 (.z e n k J H) [.ptr 0 0 0 1]
  (fun v f=>v=.tup [.agg [.nil,.nil],.d (.int .i64 e)]):=by
 refine ap Tryz.func223 (by kernel_rfl) rfl Tryz.ntmps223 (rs:=[.cell 2 155,.tmp 3]) rfl (dJ rfl) (by decide) ?_;show oy _ _ _ _ ⟨_,[(0,⟨283,3,[[.own 1 0 n J.length,.own 2 0 k H.length,.d (.int .i64 e)]]⟩),(1,⟨31,1,dm [] J⟩),(2,⟨31,1,dm [] H⟩)],_⟩;simp[go_sem];refine cz [0,1,2,3,4,5,6,7,8] [(9,[]),(10,[])] 1 (k:=11) ?_;intro G a;simp[go_sem];refine a _ _ ?_;clear a G;simp[go_sem,c];refine cz [0,1,2,3,4] [(5,[6])] 1 (k:=7) ?_;intro G a;simp[go_sem];refine a _ _ ?_;clear a G;simp[go_sem,ah];refine⟨.z e n k J H,fun i b=>?_⟩
 match i,b with
 |0,_=>rfl
 |1,_=>rfl
 |2,_=>rfl
def mq(m:Mc)(a b:Nat):Prop:=m.main.length≤a∧m.alt.length≤b
theorem BK{m:Mc}{a b:Nat}(x:Int)(h:mq m a b):mq (jc x m) a b:=by unfold jc;split<;>exact h
theorem kQ{m:Mc}{a b:Nat}(n:Nat)(h:mq m a b):mq (aQ n m) a b:=by
 obtain⟨d,c⟩:=qd n m;unfold mq;rw[d,c];exact h
theorem xY{m:Mc}{a b:Nat}(h:mq m a b):mq (dR m).2 a b:=by
 unfold dR;split;refine⟨?_,h.2⟩;have:=h.1;simp;omega;exact kQ 1 h
theorem mK{m:Mc}{a b:Nat}(l:List bc)(h:mq m a b):mq (eV l m) (a+l.length) b:=by
 refine⟨?_,h.2⟩;have:=h.1;simp[eV];omega
theorem fD{m:Mc}{a b:Nat}(k:Nat)(put:List Nat)(h:mq m a b):mq (c6 k put m) (a+put.length) b:=by
 unfold c6;split;refine⟨?_,h.2⟩;have:=h.1;simp;omega;exact⟨Nat.le_trans (kQ k h).1 aq,(kQ k h).2⟩
theorem IR{m:Mc}{a b:Nat}(most:Nat)(x:bc)(h:mq m a b):mq (gw most x m).2 a b:=by
 unfold gw;split;cases gv most x with
 |none=>exact BK 15 h
 |some n=>exact h
 ·exact h
theorem OM{a b:Nat}:∀(k:Nat)(m:Mc),mq m a b→mq (oC k m).2 a b
 |0,m,h=>h
 |k+1,m,h=>by rw[oC];exact OM k _ (IR 4 _ (xY h))
theorem vY{m:Mc}{a b:Nat}(n:Nat)(h:mq m a b):mq (d6 n m).2 a b:=by
 unfold d6;split;exact OM n m h;exact kQ n h
theorem BL{m:Mc}{a b:Nat}(c:Bool)(h:mq m a b):mq (kJ c m) a b:=by unfold kJ;split;exact h;exact BK 16 h
theorem IS{m:Mc}{a b:Nat}(h:mq m a b):mq (iq m).2 a b:=by
 unfold iq;split;exact fD 2 [] h;exact kQ 2 h
theorem df{m:Mc}{a b c d:Nat}(h:mq m a b)(e:a≤c)(f:b≤d):mq m c d:=⟨Nat.le_trans h.1 e,Nat.le_trans h.2 f⟩
theorem IT{m:Mc}{a b:Nat}(f:bc→bc)(h:mq m a b):mq (mi f m) (a+1) b:=by
 unfold mi;split;exact mK _ (xY h);exact df (kQ 1 h) aq (cR _)
theorem IU{m:Mc}{a b:Nat}(r:Bool)(h:mq m a b):mq (kH r m) (a+1) b:=by
 unfold kH;have c:=IR 4 (dR m).1 (xY h);simp only;split;split;exact df (BK 12 c) aq (cR _);refine mK [_] ⟨?_,c.2⟩;have d:=c.1;simp only;split;exact Nat.le_trans (List.length_eraseIdx_le ..) d;exact d;exact df c aq (cR _)
theorem cO{c:Prop}[Decidable c]{x y:Mc}{r:Option Mc}(h:(if c then some x else r)=some y)(b:mq x 2000 2000)(a:r=some y→mq y 2000 2000):mq y 2000 2000:=by
 split at h;cases h;exact b;exact a h
theorem ON{m:Mc}{a b:Nat}(h:mq m a b):mq (nL m) a (b+1):=by
 have c:=xY h;refine⟨c.1,?_⟩;have:=c.2;simp[nL];omega
theorem TC{m:Mc}{a b:Nat}(h:mq m a b):mq (qL m) (a+1) b:=by
 unfold qL;split;exact df (BK 12 h) aq (cR _);have c:=h.1;have d:=h.2;refine⟨?_,?_⟩<;>simp<;>omega
theorem TD{m:Mc}{a b:Nat}(h:mq m a b):mq (qM m) (a+1) b:=by
 unfold qM;split;exact mK _ (fD 2 [] h);exact df (kQ 2 h) aq (cR _)
theorem GU{c:Nat}{m b:Mc}(h:jN c m=some b)(d:m.main.length≤1000)(e:m.alt.length≤1000):b.main.length≤2000∧b.alt.length≤2000:=by
 have a:mq m 1000 1000:=⟨d,e⟩;show mq b 2000 2000;unfold jN at h;refine cO h (df a (by decide) (by decide)) fun h=>?_;refine cO h (df (ON a) (by decide) (by decide)) fun h=>?_;refine cO h (df (TC a) (by decide) (by decide)) fun h=>?_;refine cO h (df (fD _ _ a) (by decide) (by decide)) fun h=>?_;refine cO h (df (fD _ _ a) (by decide) (by decide)) fun h=>?_;refine cO h (df (fD _ _ a) (by decide) (by decide)) fun h=>?_;refine cO h (df (fD _ _ a) (by decide) (by decide)) fun h=>?_;refine cO h (df (fD _ _ a) (by decide) (by decide)) fun h=>?_;refine cO h (df (fD _ _ a) (by decide) (by decide)) fun h=>?_;refine cO h (df (fD _ _ a) (by decide) (by decide)) fun h=>?_;refine cO h (df (fD _ _ a) (by decide) (by decide)) fun h=>?_;refine cO h (df (fD _ _ a) (by decide) (by decide)) fun h=>?_;refine cO h (df (fD _ _ a) (by decide) (by decide)) fun h=>?_;refine cO h (df (fD _ _ a) (by decide) (by decide)) fun h=>?_;refine cO h (df (fD _ _ a) (by decide) (by decide)) fun h=>?_;refine cO h (df (fD _ _ a) (by decide) (by decide)) fun h=>?_;cases h
theorem KW{c:Nat}{m b:Mc}(h:yF aW eW c m=some b)(d:m.main.length≤1000)(e:m.alt.length≤1000):b.main.length≤2000∧b.alt.length≤2000:=by
 have a:mq m 1000 1000:=⟨d,e⟩;show mq b 2000 2000;unfold yF at h;refine cO h (df (IU _ a) (by decide) (by decide)) fun h=>?_;refine cO h (df (IU _ a) (by decide) (by decide)) fun h=>?_;refine cO h (df (BL _ (xY a)) (by decide) (by decide)) fun h=>?_;refine cO h ?_ fun h=>?_;show mq _ 2000 2000;split;split;exact df (mK _ a) aw (by decide);exact df a (by decide) (by decide);exact df (kQ 1 a) (by decide) (by decide);refine cO h (df (mK _ a) aw (by decide)) fun h=>?_;refine cO h (df (TD a) (by decide) (by decide)) fun h=>?_;refine cO h ?_ fun h=>?_;show mq _ 2000 2000;split;exact df (mK _ a) aw (by decide);exact df (kQ 1 a) (by decide) (by decide);refine cO h (df (mK _ (IS a)) aw (by decide)) fun h=>?_;refine cO h (df (BL _ (IS a)) (by decide) (by decide)) fun h=>?_;refine cO h (df (IT _ a) (by decide) (by decide)) fun h=>?_;refine cO h (df (IT _ a) (by decide) (by decide)) fun h=>?_;cases h
theorem GV{c:Nat}{m a:Mc}(h:qE c m=some a)(d:m.main.length≤1000)(e:m.alt.length≤1000):a.main.length≤2000∧a.alt.length≤2000:=by
 have b:mq m 1000 1000:=⟨d,e⟩;show mq a 2000 2000;unfold qE at h;split at h;obtain rfl:=Option.some.inj h;exact df (mK _ (vY 3 b)) aw (by decide);split at h;obtain rfl:=Option.some.inj h;exact df (mK _ (vY 1 b)) aw (by decide);split at h;cases h;obtain rfl:=Option.some.inj h;simp only;split;exact df (BL _ (vY 2 b)) (by decide) (by decide);exact df (mK _ (vY 2 b)) aw (by decide)
def C4(a:Nat)(main alt:List bc):AV:=.tup [.agg (kP (zS aW eW a main alt).1 (zS aW eW a main alt).2.1),.d (.int .i64 (zS aW eW a main alt).2.2)]
theorem TE(f:Nat)(L:f<256)(main alt:List bc)(z:main.length≤1000)(K:alt.length≤1000)(h3:∀x,x∈main→x.length≤100000)(S:∀x,x∈alt→x.length≤100000)(O:∀x,x∈main→bytes x) :
  au Tryz.prog 204 [.d (.int .u8 (f:Int)),.agg (kP main alt)] (fun r=>r=C4 f main alt):=by
 refine bF Tryz.func204 Tryz.ntmps204 (rs:=[.cell 4 155,.tmp 5]) (by intro v Q;simp at Q;rcases Q with rfl|rfl;trivial;exact fM _ _) ?_;have w:∀x,x∈main→x.length≤1000000:=fun x h=>Nat.le_trans (h3 x h) (by decide);have E:∀x,x∈alt→x.length≤1000000:=fun x h=>Nat.le_trans (S x h) (by decide);simp[go_sem,kP];refine aP [] (BF main alt aq aq w E) rfl aw aw aw (by simp[AV.renL,AV.ren,kP]) ?_;rintro r R⟨rfl,V,U,T⟩;refine⟨[(289,0),(129,1),(225,2)],by simp[db,gm],?_⟩;simp[go_sem,bZ,bB,V,U,T,Blk.ren,o9,AV.renL,AV.ren,b8,aO]
 refine c8 [] [(32,⟨155,2,[[.nil,.nil]]⟩)] IL (fun j=>128+j) (Tz ⟨main,alt,0⟩ [] [] f L z K w E) nR (fun j o=>by show 128+j<256;omega) (by simp[mcA,cf,bu,aE,lk]) rfl jy
  (fun p c=>by simp at c;subst c;exact⟨by show 32<256;omega,fun j o=>by show 128+j≠32;omega⟩) rfl ?_
 rintro v A ρ ⟨rfl,s⟩ q;cases i:jN f ⟨main,alt,0⟩with
 | some m =>
  rw[i]at s;have b:zS aW eW f main alt=dY m:=by unfold zS;rw[i]
  obtain⟨C,B⟩:=GU i z K;rcases s with ⟨t,l,rfl⟩|⟨D,n,k,t,l,rfl⟩
  ·simp only[Option.getD_some];rw[mcA];simp only[cf,bu];simp[go_sem,AV.ren]
   refine c8 [] [(32,⟨155,2,[[.nil,.nil]]⟩)] bN (fun j=>128+j) (BE m t l aq aq) nR (fun j o=>by show 128+j<352;omega) (by simp[cf,bu,aE,lk]) rfl jy
    (fun p c=>by simp at c;subst c;exact⟨by show 32<352;omega,fun j o=>by show 128+j≠32;omega⟩) rfl ?_
   rintro v A ρ ⟨rfl,P,rfl⟩ q;have F:ρ 1=129:=q 1 aq;have G:ρ 2=130:=q 2 aq;simp only[cf,bu];unfold sS;by_cases hc:(dY m).2.2=0
   ·have a:=nS hc;rw[if_pos hc];have g:C4 f main alt=.tup [.agg (kP m.main m.alt),.d (.int .i64 0)]:=by unfold C4;rw[b,a]
    rw[g];simp[go_sem,AV.ren,AV.renL,F,G,ah];exact qa (J:=t) (H:=l) rfl rfl
   ·have a:=pY hc;rw[if_neg hc];have g:C4 f main alt=.tup [.agg (kP [] []),.d (.int .i64 (dY m).2.2)]:=by unfold C4;rw[b,a]
    rw[g];simp[go_sem,AV.ren,AV.renL,ah];exact kZ
  ·simp only[Option.getD_some]at D⊢;have a:dY m=([],[],m.e):=if_neg D;have g:C4 f main alt=.tup [.agg (kP [] []),.d (.int .i64 m.e)]:=by unfold C4;rw[b,a]
   rw[g];generalize m.e=e at *;show F7 _ _ _ _ _ _ _ _ _ [(32,⟨155,2,[[.nil,.nil]]⟩),(128,⟨283,3,[[.own 129 0 n t.length,.own 130 0 k l.length,.d (.int .i64 e)]]⟩),(129,⟨31,1,dm [] t⟩),(130,⟨31,1,dm [] l⟩)];simp[go_sem,AV.ren]
   refine c8 [] [(32,⟨155,2,[[.nil,.nil]]⟩)] IL (fun j=>128+j) (X4 e D n k t l) nR (fun j o=>by show 128+j<352;omega) (by
    intro p c;have I:p∈[((32:Nat),(⟨155,2,[[.nil,.nil]]⟩:Blk)),(128,⟨283,3,[[.own 129 0 n t.length,.own 130 0 k l.length,.d (.int .i64 e)]]⟩),(129,⟨31,1,dm [] t⟩),(130,⟨31,1,dm [] l⟩)]:=c;simp only[et,List.mem_nil_iff,or_false]at I
    rcases I with rfl|rfl|rfl|rfl<;>simp[aE,lk]) rfl jy
    (fun p c=>by simp at c;subst c;exact⟨by show 32<352;omega,fun j o=>by show 128+j≠32;omega⟩) rfl ?_
   rintro v A ρ rfl q;simp[go_sem,AV.ren,AV.renL,ah];exact kZ
 | none =>
  rw[i]at s;simp only[Option.getD_none]at s;rcases s with ⟨t,l,rfl⟩|⟨D,_⟩
  rotate_left
  ·exact absurd rfl D
  rw[mcA];simp only[cf,bu];simp[go_sem,AV.ren]
  refine c8 [] [(32,⟨155,2,[[.nil,.nil]]⟩)] bN (fun j=>128+j) (TB ⟨main,alt,0⟩ t l f L z h3 O) nR (fun j o=>by show 128+j<384;omega) (by simp[cf,bu,aE,lk]) rfl jy
   (fun p c=>by simp at c;subst c;exact⟨by show 32<384;omega,fun j o=>by show 128+j≠32;omega⟩) rfl ?_
  rintro v A ρ ⟨rfl,M,rfl⟩ q;cases u:yF aW eW f ⟨main,alt,0⟩with
  | some m =>
   have b:zS aW eW f main alt=dY m:=by unfold zS;rw[i,u]
   obtain⟨C,B⟩:=KW u z K;simp only[Option.getD_some];simp only[cf,bu];simp[go_sem,AV.ren]
   refine c8 [] [(32,⟨155,2,[[.nil,.nil]]⟩)] bN (fun j=>128+j) (BE m M l aq aq) nR (fun j o=>by show 128+j<480;omega) (by simp[cf,bu,aE,lk]) rfl jy
    (fun p c=>by simp at c;subst c;exact⟨by show 32<480;omega,fun j o=>by show 128+j≠32;omega⟩) rfl ?_
   rintro v A ρ ⟨rfl,P,rfl⟩ q;have F:ρ 1=129:=q 1 aq;have G:ρ 2=130:=q 2 aq;simp only[cf,bu];unfold sS;by_cases hc:(dY m).2.2=0
   ·have a:=nS hc;rw[if_pos hc];have g:C4 f main alt=.tup [.agg (kP m.main m.alt),.d (.int .i64 0)]:=by unfold C4;rw[b,a]
    rw[g];simp[go_sem,AV.ren,AV.renL,F,G,ah];exact qa (J:=M) (H:=l) rfl rfl
   ·have a:=pY hc;rw[if_neg hc];have g:C4 f main alt=.tup [.agg (kP [] []),.d (.int .i64 (dY m).2.2)]:=by unfold C4;rw[b,a]
    rw[g];simp[go_sem,AV.ren,AV.renL,ah];exact kZ
  | none =>
   simp only[Option.getD_none];simp only[cf,bu];simp[go_sem,AV.ren]
   refine c8 [] [(32,⟨155,2,[[.nil,.nil]]⟩)] bN (fun j=>128+j) (KV ⟨main,alt,0⟩ M l f L z w O) nR (fun j o=>by show 128+j<512;omega) (by simp[cf,bu,aE,lk]) rfl jy
    (fun p c=>by simp at c;subst c;exact⟨by show 32<512;omega,fun j o=>by show 128+j≠32;omega⟩) rfl ?_
   rintro v A ρ ⟨rfl,N,rfl⟩ q;cases y:qE f ⟨main,alt,0⟩with
   | some m =>
    have b:zS aW eW f main alt=dY m:=by unfold zS;rw[i,u,y]
    obtain⟨C,B⟩:=GV y z K;simp only[Option.getD_some];simp only[cf,bu];simp[go_sem,AV.ren]
    refine c8 [] [(32,⟨155,2,[[.nil,.nil]]⟩)] bN (fun j=>128+j) (BE m N l aq aq) nR (fun j o=>by show 128+j<608;omega) (by simp[cf,bu,aE,lk]) rfl jy
     (fun p c=>by simp at c;subst c;exact⟨by show 32<608;omega,fun j o=>by show 128+j≠32;omega⟩) rfl ?_
    rintro v A ρ ⟨rfl,P,rfl⟩ q;have F:ρ 1=129:=q 1 aq;have G:ρ 2=130:=q 2 aq;simp only[cf,bu];unfold sS;by_cases hc:(dY m).2.2=0
    ·have a:=nS hc;rw[if_pos hc];have g:C4 f main alt=.tup [.agg (kP m.main m.alt),.d (.int .i64 0)]:=by unfold C4;rw[b,a]
     rw[g];simp[go_sem,AV.ren,AV.renL,F,G,ah];exact qa (J:=N) (H:=l) rfl rfl
    ·have a:=pY hc;rw[if_neg hc];have g:C4 f main alt=.tup [.agg (kP [] []),.d (.int .i64 (dY m).2.2)]:=by unfold C4;rw[b,a]
     rw[g];simp[go_sem,AV.ren,AV.renL,ah];exact kZ
   |none =>
    have b:zS aW eW f main alt=([],[],10):=by unfold zS;rw[i,u,y]
    have g:C4 f main alt=.tup [.agg (kP [] []),.d (.int .i64 10)]:=by unfold C4;rw[b]
    rw[g];simp only[Option.getD_none];simp only[cf,bu];simp[go_sem,AV.ren,ah];exact kZ
def jB:bc→Option (Nat×Nat)
 |[]=>none
 |op::r =>
  if 0<op∧op≤75 then some (op,1)
  else if op=76 then(match r with|a::_=>some (a,2) | []=>none)
  else if op=77 then(match r with|a::b::_=>some (a+256*b,3)|_=>none)
  else some (0,1)
def pa(s:bc)(a:Nat):Option (Wd×Nat) :=
 match jB (s.drop a)with
 |none=>none
 |some (n,h)=>if(s.drop a).length-h<n then none else some (((s.drop a).headD 0,((s.drop a).drop h).take n),a+h+n)
def fN(w:Wd):Option bc :=
 if w.1≤77 then some w.2 else if w.1=79 then some [129]else if 80<w.1∧w.1≤96 then some [w.1-80]else none
def uU(w:Wd):Bool:=match fN w with
 |none=>true
 |some b=>decide (cY b=w)
def qF(a:Nat):Bool:=[97,99,100,103,104,105,106,107,108,109,110,111,112,113,114,115,116,117,118,119,120,121,122,123,124,125,126,130,135,136,139,140,143,144,145,146,147,148,154,155,156,157,158,159,160,161,162,163,164,165,168,170,172,173,177,178,179,186,187,188,204].contains a
structure Rn where
 main:List bc
 alt:List bc
 br:List Bool
 bud:Int
 cl:List (Int×Int)
 e:Int
structure Rx where
 h1:bc→bc
 h2:bc→bc
 /-- whether a thing is a key's signature of a message -/
 sg:bc→bc→bc→Bool
 /-- what a signature of the spending signs -/
 msg:bc
 lock:Int
 ver:Int
 seq:Int
 tpl:bc
 rcv:bc→Int→Int×Int×Int
 trg:bc→Int→Int→Int→List (Int×Int)×Int
def aC(x:Int)(r:Rn):Rn:=if r.e=0 then { r with e:=x }else r
def bq(r:Rn):bc×Rn :=
 if r.e=0 then(if r.main.length=0 then([],aC 12 r)else(r.main.getLastD [],{ r with main:=r.main.dropLast }))else([],r)
def fg(most:Nat)(r:Rn):Int×Rn :=
 let p:=bq r
 if p.2.e=0 then(match gv most p.1 with|some n=>(n,p.2)|none=>(0,aC 15 p.2))else(0,p.2)
def oG(r:Rn):bc×Rn:=if r.main.length=0 then([],aC 12 r)else(r.main.getLastD [],r)
def eu(b:bc)(r:Rn):Rn :=
 if r.e=0 then(if fZ (r.main++[b]) r.alt=0 then { r with main:=r.main++[b] }else aC (fZ (r.main++[b]) r.alt) r)else r
def nh(b:Bool)(r:Rn):Rn:={ r with br:=r.br++[b] }
def nT(r:Rn):Option Bool×Rn:=if r.br.length=0 then(none,aC 18 r)else(some (r.br.getLastD false),{ r with br:=r.br.dropLast })
def je(r:Rn):Nat:=(r.br.filter fun b=>!b).length
def ou(r:Rn):Bool×Rn :=
 let p:=bq r
 (decide (p.1.length=1),if 1<p.1.length∨(p.1.length=1∧p.1.headD 0≠1)then aC 19 p.2 else p.2)
def pe(a:Nat)(r:Rn):Option Rn :=
 if a=99∨a=100 then
  some (if je r=0 then(let p:=ou r;nh (decide (p.1=decide (a=99))) p.2)else nh false r)
 else if a=103 then
  some (match nT r with|(some b,r')=>nh (!b) r'|(none,r')=>r')
 else if a=104 then some (nT r).2
 else none
def gy(c:bc→bc→bc→Bool)(key a b:bc)(r:Rn):Bool×Rn :=
 if r.e=0∧a.length≠0 then
  (if r.bud<50 then(false,aC 21 r)
  else if key.length=32∧c key a b then(true,{ r with bud:=r.bud-50 })else(false,aC 20 { r with bud:=r.bud-50 }))
 else(false,r)
def uo(x:Rx)(a:Nat)(r:Rn):Rn :=
 let k:=bq r
 if a=172 then
  let s:=bq k.2
  let g:=gy x.sg k.1 s.1 x.msg s.2
  eu (js g.1) g.2
 else if a=173 then
  let s:=bq k.2
  let g:=gy x.sg k.1 s.1 x.msg s.2
  if g.1 then g.2 else aC 16 g.2
 else if a=186 then
  let n:=fg 4 k.2
  let s:=bq n.2
  let g:=gy x.sg k.1 s.1 x.msg s.2
  eu (cQ (if g.1 then n.1+1 else n.1)) g.2
 else if a=204 then
  let m:=bq k.2
  let s:=bq m.2
  let g:=gy x.sg k.1 s.1 m.1 s.2
  eu (js g.1) g.2
 else k.2
def ow(r:Rn):Int×Rn :=
 let t:=oG r
 if t.2.e=0 then
  (match gv 5 t.1 with
  |some n=>(n,if n<0 then aC 22 t.2 else t.2)
  |none=>(0,aC 15 t.2))
 else(0,t.2)
def xZ(x:Rx)(r:Rn):Rn :=
 let p:=ow r
 if(decide (p.1<500000000) != decide (x.lock<500000000))||decide (x.lock<p.1)||decide (x.seq=4294967295)then aC 22 p.2 else p.2
def rD(k:Nat)(n:Int):Bool:=decide (n.fdiv (2 ^ k)%2=1)
def GW(x:Rx)(r:Rn):Rn :=
 let p:=ow r
 if rD 31 p.1 then p.2
 else if decide (x.ver<2)||rD 31 x.seq||(rD 22 p.1 != rD 22 x.seq)||decide (x.seq%65536<p.1%65536)then aC 22 p.2 else p.2
def GX(x:Rx)(r:Rn):Rn :=
 let p:=oG r
 if p.1=x.tpl then p.2 else aC 23 p.2
def BM(l:List (Int×Int))(e:Int)(r:Rn):Rn :=
 if r.e=0 then eu (js true) { aC e r with cl:=r.cl++l }else r
def BN(x:Rx)(r:Rn):Rn :=
 let h:=bq r
 let o:=fg 4 h.2
 if o.2.e=0 then BM [((x.rcv h.1 o.1).1,(x.rcv h.1 o.1).2.1)] (x.rcv h.1 o.1).2.2 o.2 else o.2
def dh:Nat→Rn→List bc×Rn
 |0,r=>([],r)
 |k+1,r=>let p:=bq r;let q:=dh k p.2;(q.1++[p.1],q.2)
def jC(n:Int)(r:Rn):List bc×Rn :=
 let r1:=if n<0∨(r.main.length:Int)<n then aC 12 r else r
 if r1.e=0 then dh n.toNat r1 else([],r1)
def GY(x:Rx)(r:Rn):Rn :=
 let n:=fg 4 r
 let b:=bq n.2
 let l:=jC n.1 b.2
 let o:=fg 4 l.2
 let t:=fg 4 o.2
 let k:=fg 8 t.2
 if k.2.e=0 then
  (if(qZ l.1 b.1).2=0 then BM (x.trg (qZ l.1 b.1).1 o.1 t.1 k.1).1 (x.trg (qZ l.1 b.1).1 o.1 t.1 k.1).2 k.2 else aC (qZ l.1 b.1).2 k.2)
 else k.2
def Ab(x:Rx)(a:Nat)(r:Rn):Rn :=
 if a=106 then aC 17 r
 else if a=172∨a=173∨a=186∨a=204 then uo x a r
 else if a=177 then xZ x r
 else if a=178 then GW x r
 else if a=179 then GX x r
 else if a=187 then GY x r
 else if a=188 then BN x r
 else
  let d:=zS x.h1 x.h2 a r.main r.alt
  { aC d.2.2 r with main:=d.1,alt:=d.2.1 }
def nU (x:Rx) (w:Wd) (r:Rn):Rn :=
 if !qF w.1&&(fN w).isNone then aC 10 r
 else match pe w.1 r with
  |some r'=>r'
  | none =>
   if 0<je r then r
   else match fN w with
    |some b=>if uU w then eu b r else aC 11 r
    |none=>Ab x w.1 r
def oH(x:Rx)(s:bc):Nat→Nat→Rn→Rn
 |0,_,r=>r
 | k+1,a,r =>
  if a<s.length∧r.e=0 then
   (match pa s a with
   |none=>aC 2 r
   |some (w,b)=>oH x s k b (nU x w r))
  else r
def rE(r:Rn):Rn :=
 let r1:=if 0<r.br.length then aC 18 r else r
 if r1.main.length=1∧lH (r1.main.headD [])=true then r1 else aC 25 r1
def BO(x:Rx)(s:bc)(a:List bc)(bud:Int):List (Int×Int)×Int :=
 let r:=rE (oH x s (s.length+1) 0 (aC (fZ a []) ⟨a,[],[],bud,[],0⟩))
 if r.e=0 then(r.cl,0)else([],r.e)
def Ac(o:Option (Nat×Nat)):AV:=match o with
 |none=>.tup [.d (.int .i64 0),.d (.int .i64 0),.d (.bool false)]
 |some (n,h)=>.tup [.d (.int .i64 (n:Int)),.d (.int .i64 (h:Int)),.d (.bool true)]
theorem gz(o:Option (Nat×Nat)):(Ac o).deep:=by
 rcases o with _|⟨n,h⟩;intro c hc;simp at hc;rcases hc with rfl|rfl<;>exact .inl trivial;intro c hc;simp at hc;rcases hc with rfl|rfl|rfl<;>exact .inl trivial
theorem X5(a b:Nat)(d:a<4294967296)(c:b<4294967296):Go.bits .or .i64 (a:Int) (b:Int)=((a ||| b:Nat):Int):=by
 show IntKind.i64.wrap (((BitVec.ofInt 64 (a:Int)) ||| (BitVec.ofInt 64 (b:Int))).toNat:Int)=_;rw[BitVec.toNat_or,fS,fS,←Nat.or_mod_two_pow];have:a ||| b<2 ^ 32:=Nat.or_lt_two_pow aq aq;rw[IntWalk.i64_in _ aq];omega
theorem OO (c:Nat) (r:bc) (o:bytes (c :: r)) (D:r.length≤1000000):au Tryz.prog 167 [.d (nb (c :: r))] (fun v=>v=Ac (jB (c :: r))):=by
 refine bF Tryz.func167 Tryz.ntmps167 (rs:=[.tmp 2,.tmp 3,.tmp 4]) a9 ?_;have E:c<256:=o c aw;have z:IntKind.i64.wrap (c:Int)=(c:Int):=IntWalk.i64_in _ aq;simp[go_sem,nb];by_cases s:0<c
 ·have A:(0:Int)<(c:Int):=aq;have n:¬ c=0:=aq;by_cases g:c≤75
  ·have f:(c:Int)≤75:=aq;have e:jB (c::r)=some (c,1):=by simp[jB,s,g]
   rw[e];simp[go_sem,s,n,f,z,ah];exact aT rfl (gz (some (c,1)))
  ·have f:¬ (c:Int)≤75:=aq;by_cases i:c=76
   ·subst i;rcases r with _|⟨a,r⟩
    ·have e:jB [76]=none:=rfl;rw[e];simp[go_sem,ah];exact aT rfl (gz none)
    ·have e:jB (76::a::r)=some (a,2):=rfl;have x:a<256:=o a aw;have p:IntKind.i64.wrap (a:Int)=(a:Int):=IntWalk.i64_in _ aq;rw[e];simp[go_sem,p,ah];refine⟨fun _=>aT rfl (gz (some (a,2))),fun h=>absurd h aq⟩
   ·have m:¬(c:Int)=76:=aq;by_cases l:c=77
    ·subst l;rcases r with _|⟨a,r⟩
     ·have e:jB [77]=none:=rfl;rw[e];simp[go_sem,ah];exact aT rfl (gz none)
     ·rcases r with _|⟨b,r⟩
      ·have e:jB [77,a]=none:=rfl;rw[e];simp[go_sem,ah];exact aT rfl (gz none)
      ·have e:jB (77::a::b::r)=some (a+256*b,3):=rfl;have x:a<256:=o a aw;have w:b<256:=o b aw;have p:IntKind.i64.wrap (a:Int)=(a:Int):=IntWalk.i64_in _ aq;have y:IntKind.i64.wrap (b:Int)=(b:Int):=IntWalk.i64_in _ aq;rw[e];simp[go_sem,ah];refine⟨fun _=>?_,fun h=>absurd h aq⟩;refine cz [0,1,2,3,4,5,6,7,8,9,10,11,12] [] 0 (k:=13) ?_;intro G u;have B:IntKind.i64.wrap ((b:Int)*256)=((b*2 ^ 8:Nat):Int):=by rw[IntWalk.i64_in _ aq];omega
       have C:Go.bits .or .i64 (a:Int) ((b*2 ^ 8:Nat):Int)=((a+256*b:Nat):Int):=by
        rw[X5 a (b*2 ^ 8) aq aq,On aq];omega
       generalize((b*2 ^ 8:Nat):Int)=q at *;simp[go_sem,p,y,B,C];refine u _ _ ?_;clear u G;simp[go_sem,ah];exact aT (by simp[Ac]) (gz (some (a+256*b,3)))
    ·have j:¬(c:Int)=77:=aq;have e:jB (c::r)=some (0,1):=(by simp[jB,g,i,l]);rw[e];simp[go_sem,s,n,f,m,j,ah];exact aT rfl (gz (some (0,1)))
 ·have t:c=0:=aq;subst t;have e:jB (0::r)=some (0,1):=rfl;rw[e];simp[go_sem,ah];exact aT rfl (gz (some (0,1)))
def yO(w:Wd):List AV:=[.d (.int .u8 (w.1:Int)),.d (nb w.2)]
def OP(o:Option (Wd×Nat)):AV:=match o with
 |some (w,p)=>.tup [.agg (yO w),.d (.int .i64 (p:Int)),.d (.int .i64 0)]
 |none=>.tup [.agg (yO (0,[])),.d (.int .i64 0),.d (.int .i64 2)]
theorem EE{e n h:Nat}{r:bc}(d:bytes (e::r))(c:jB (e::r)=some (n,h)):1≤h∧h≤r.length+1∧n≤65535:=by
 have i:e<256:=d e aw;unfold jB at c;simp only at c;split at c;cases c;omega;split at c;rcases r with _|⟨a,r⟩;cases c;have g:a<256:=d a aw;cases c;simp;omega;split at c;rcases r with _|⟨a,_|⟨b,r⟩⟩;cases c;cases c;have g:a<256:=d a aw;have f:b<256:=d b aw;cases c;simp;omega;cases c;omega
theorem uq{cs cs':List AV}{a b:AV}{st:St}(hc:so st.hp (fun _=>True) cs cs')(f:∀c,c∈cs'→c.deep1)(h:a.deep1)(g:b.deep1) :
  dC (fun r=>r=.tup [.agg cs',a,b]) (.tup [.agg cs,a,b]) st:=by
 refine⟨_,.tup (cs':=[.agg cs',a,b]) rfl (fun i c j d e=>?_),?_,rfl⟩
 ·match i with
  |0=>simp at d e;subst d;subst e;exact .inr ⟨_,_,rfl,rfl,hc⟩
  |1=>simp at d e;subst d;subst e;exact .inl (.inl ⟨rfl,h⟩)
  |2=>simp at d e;subst d;subst e;exact .inl (.inl ⟨rfl,g⟩)
  |i+3=>simp at d
 ·intro c hc;simp at hc;rcases hc with rfl|rfl|rfl;exact .inr ⟨_,rfl,f⟩;exact .inl h;exact .inl g
theorem lL(w:Wd):∀c,c∈yO w→c.deep1:=by
 intro c hc;simp[yO]at hc;rcases hc with rfl|rfl<;>trivial
theorem OQ (s:bc) (a:Nat) (B:bytes s) (N:s.length≤1000000) (L:a<s.length):au Tryz.prog 139 [.d (nb s),.d (.int .i64 (a:Int))] (fun v=>v=OP (pa s a)):=by
  refine bF Tryz.func139 Tryz.ntmps139 (rs:=[.cell 4 42,.tmp 5,.tmp 6]) a9 ?_;have F:¬(a:Int)<0:=aq;have I:¬(s.length:Int)≤(a:Int):=aq;have h3:(a:Int)≤(s.length:Int):=aq;obtain⟨c,r,g⟩:∃c r,s.drop a=c::r:=by
    rcases h:s.drop a with _|⟨c,r⟩
    · have:=congrArg List.length h
      simp at this;omega
    · exact⟨c,r,rfl⟩
  have i:bytes (c::r):=fun x w=>B x (by rw[←g]at w;exact List.mem_of_mem_drop w);have q:r.length≤1000000:=by
    have:=congrArg List.length g;simp at this;omega
  simp[go_sem,nb,F,I,h3]
  have j:List.drop a (List.take s.length (s.map fun(b:Nat)=>[DV.int .u8 (b:Int)]))=(c::r).map fun(b:Nat)=>[DV.int .u8 (b:Int)]:=by
    rw[cx aw,←List.map_drop,g]
  rw[j];refine ag (OO c r i q) a9 ?_;have l:pa s a=match jB (c::r)with
    |none=>none
    |some (n,h)=>if(c::r).length-h<n then none else some ((c,((c::r).drop h).take n),a+h+n):=by
    unfold pa;rw[g];rfl
  rw[l];cases A:jB (c::r)with
  | none =>
    simp[go_sem,Ac];exact uq (cs':=yO (0,[])) ⟨rfl,ax (aL trivial) (ax (ao (.nil 1)) bV)⟩ (lL _) trivial trivial
  | some p =>
    obtain⟨n,h⟩:=p;obtain⟨P,M,K⟩:=EE i A;have C:a+(r.length+1)=s.length:=by
      have:=congrArg List.length g;simp at this;omega
    have z:IntKind.i64.wrap ((r.length:Int)+1-(h:Int))=((r.length+1-h:Nat):Int):=by rw[IntWalk.i64_in _ aq];omega
    by_cases f:r.length+1-h<n
    · have e:((r.length+1 - h:Nat):Int)<(n:Int):=aq
      simp[go_sem,Ac,z,f,e];exact uq (cs':=yO (0,[])) ⟨rfl,ax (aL trivial) (ax (ao (.nil 1)) bV)⟩ (lL _) trivial trivial
    · have e:¬ ((r.length+1 - h:Nat):Int)<(n:Int):=aq
      have E:IntKind.i64.wrap ((h:Int)+(n:Int))=((h+n:Nat):Int):=by rw[IntWalk.i64_in _ aq];omega
      have O:IntKind.i64.wrap ((a:Int)+(h:Int))=((a+h:Nat):Int):=by rw[IntWalk.i64_in _ aq];omega
      have J:IntKind.i64.wrap (((a+h:Nat):Int)+(n:Int))=((a+h+n:Nat):Int):=by rw[IntWalk.i64_in _ aq];omega
      simp[go_sem,Ac,z,f,e];refine dE [0,1,2,3,4,5,6,7,8,11,12,13,14,15] [9,16] [0,1,2,3,4,5,6,7,8,10,11,12,13,14,15,17,18] (.step 9 [10] true (.step 16 [17,18] false .done)) ⟨[(4,.ptr 0 0 0 1),(5,.d (.int .i64 ((a+h+n:Nat):Int))),(6,.d (.int .i64 0))],[(0,⟨42,2,[yO (c,List.take n (List.drop h (c::r)))]⟩)],9000⟩ (k:=19) ?h3 ?hq
      case h3 =>
        intro G H;have o:IntKind.i64.wrap ((a:Int)+(h:Int))=(a:Int)+(h:Int):=IntWalk.i64_in _ aq;have m:IntKind.i64.wrap ((a:Int)+(h:Int)+(n:Int))=(a:Int)+(h:Int)+(n:Int):=IntWalk.i64_in _ aq;have t:((h:Int)+(n:Int)).toNat=h+n:=aq;have u:List.drop h (List.take (h+n) ([DV.int .u8 (c:Int)]::r.map fun(b:Nat)=>[DV.int .u8 (b:Int)]))=(List.take n (List.drop h (c::r))).map fun(b:Nat)=>[DV.int .u8 (b:Int)]:=by
          show List.drop h (List.take (h+n) ((c::r).map fun(b:Nat)=>[DV.int .u8 (b:Int)]))=_;rw[←List.map_take,←List.map_drop,List.drop_take,Nat.add_sub_cancel_left]
        have D:(List.take n (List.drop h (c::r))).length≤100000:=by simp;omega
        generalize List.take n (List.drop h (c::r))=y at *;simp (config := { maxSteps := 3000000 }) [go_sem,E,o,m,t,u];have hc:=ec y aq
        repeat' apply And.intro
        all_goals first
          |omega
          | (refine ag hc a9 ?_
             simp (config := { maxSteps := 3000000 }) [go_sem]
             repeat' apply And.intro
             all_goals
               refine H _ _ (b7 ?_)
               simp[az,ai,fv,lk,AV.low,AV.low1,yO])
      case hq =>
        simp[go_sem,ah,yO];exact uq (cs':=yO (c,List.take n (List.drop h (c::r)))) ⟨rfl,ax (aL trivial) (ax (aL trivial) bV)⟩ (lL _) trivial trivial
def OR(o:Option bc):AV:=match o with
 |some b=>.tup [.d (nb b),.d (.bool true)]
 |none=>.tup [.d (nb []),.d (.bool false)]
theorem KX(o:Option bc):(OR o).deep:=by
 rcases o with _|b;intro c hc;simp at hc;rcases hc with rfl|rfl<;>exact .inl trivial;intro c hc;simp at hc;rcases hc with rfl|rfl<;>exact .inl trivial
theorem Ad{Q:AV→Prop}{st:St}{b:Bool}(hq:Q (.tup [.d (nb []),.d (.bool b)])):dC Q (.tup [.nil,.d (.bool b)]) st :=
 ek (ax (ao (.nil 1)) (ax (aL trivial) bV)) rfl a9 hq
theorem x4(w:Wd)(p:w.1<256)(o:w.2.length≤100000):au Tryz.prog 21 [.agg (yO w)] (fun v=>v=OR (fN w)):=by
 refine bF Tryz.func21 Tryz.ntmps21 (rs:=[.tmp 2,.tmp 3]) (by intro v c;simp at c;subst c;exact lL _) ?_;obtain⟨a,b⟩:=w;simp only at p o;simp[go_sem,yO];by_cases j:a≤77
 ·have e:(a:Int)≤77:=aq;have d:¬(77:Int)<(a:Int):=aq;have c:fN (a,b)=some b:=by simp[fN,j]
  rw[c];simp[go_sem,e,d];have hc:=ec b aq;refine ag hc a9 ?_;simp[go_sem,ah];exact aT rfl (KX (some b))
 ·have e:¬(a:Int)≤77:=aq;have d:(77:Int)<(a:Int):=aq;by_cases k:a=79
  ·subst k;have c:fN (79,b)=some [129]:=by simp[fN]
   rw[c];simp[go_sem,ah];exact lA (L:=[129]) rfl rfl rfl
  ·have h:¬(a:Int)=79:=aq;by_cases m:80<a
   ·have g:(80:Int)<(a:Int):=aq;have f:¬(a:Int)≤80:=aq;by_cases n:a≤96
    ·have i:(a:Int)≤96:=aq;have l:¬(96:Int)<(a:Int):=aq;have c:fN (a,b)=some [a-80]:=(by simp[fN,j,k,m,n]);have r:IntKind.u8.wrap ((a:Int)-80)=((a-80:Nat):Int):=by rw[LJ];omega
     rw[c];simp[go_sem,e,d,h,g,f,i,r,ah];generalize a-80=q at *;exact lA (L:=[q]) rfl rfl rfl
    ·have i:¬(a:Int)≤96:=aq;have l:(96:Int)<(a:Int):=aq;have c:fN (a,b)=none:=(by simp[fN,j,k,m,n]);rw[c];simp[go_sem,e,d,h,g,f,i,ah];exact Ad rfl
   ·have g:¬(80:Int)<(a:Int):=aq;have f:(a:Int)≤80:=aq;have c:fN (a,b)=none:=(by simp[fN,j,k,m]);rw[c];simp[go_sem,e,d,h,g,f,ah];exact Ad rfl
theorem IV{w:Wd}{b:bc}(h:fN w=some b):b.length≤w.2.length+1:=by
 unfold fN at h;split at h;cases h;omega;split at h;cases h;simp;split at h;cases h;simp;cases h
theorem x5{w:Wd}{b:bc}(c:bytes w.2)(d:w.1<256)(h:fN w=some b):bytes b:=by
 unfold fN at h;split at h;cases h;exact c;split at h;cases h;intro x a;simp at a;omega;split at h;cases h;intro x a;simp at a;omega;cases h
theorem KY(w:Wd)(k:w.1<256)(i:bytes w.2)(q:w.2.length≤50000):au Tryz.prog 170 [.agg (yO w)] (fun v=>v=.d (.bool (uU w))):=by
 refine bF Tryz.func170 Tryz.ntmps170 (rs:=[.tmp 2]) (by intro v e;simp at e;subst e;exact lL _) ?_;obtain⟨h,b⟩:=w;simp only at k q i;have n:=x4 (h,b) k (by show b.length≤100000;omega);simp only[yO]at n;simp[go_sem,yO];refine ag n (by intro v e;simp at e;subst e;exact lL (h,b)) ?_;unfold uU
 cases o:fN (h,b)with
 |none =>
  simp[go_sem,OR,ah];exact aa trivial rfl
 |some y =>
  have s:=IV o;have c:=x5 i k o;simp only at s;have l:=pM y aq c;simp[go_sem,OR];refine ag l a9 ?_;have f:=fU y;have a:=mh c;have g:=(lB aq c:yM (cY y)).2;rcases r:cY y with ⟨p,b2⟩;rw[r]at f a g;simp only at f a g;simp only[sJ];by_cases m:p=h
  ·subst m;simp[go_sem];refine ag (jx b2 b a i) a9 ?_;simp[go_sem,ah];exact aa trivial rfl
  ·have j:¬(p:Int)=(h:Int):=aq;simp[go_sem,m,j,ah];exact aa trivial rfl
def rF(a:Nat):List (Nat×List Int)→List Int
 |[]=>[]
 |p::t=>if a=p.1 then p.2 else rF a t
theorem aB{a:Nat}{s:List Int}{t:List (Nat×List Int)}{n:Nat}(h:a=n):rF a ((n,s)::t)=s:=if_pos h
theorem aG{a:Nat}{s:List Int}{t:List (Nat×List Int)}{n:Nat}(h:¬a=n):rF a ((n,s)::t)=rF a t:=if_neg h
def sU:List (Nat×List Int):=(97,78::79::80::[])::(99,73::70::[])::(100,78::79::84::73::70::[])::(103,69::76::83::69::[])::(104,69::78::68::73::70::[])::(105,86::69::82::73::70::89::[])::(106,82::69::84::85::82::78::[])::(107,84::79::65::76::84::[])::(108,70::82::79::77::65::76::84::[])::(109,50::68::82::79::80::[])::(110,50::68::85::80::[])::(111,51::68::85::80::[])::(112,50::79::86::69::82::[])::(113,50::82::79::84::[])::(114,50::83::87::65::80::[])::(115,73::70::68::85::80::[])::(116,68::69::80::84::72::[])::(117,68::82::79::80::[])::(118,68::85::80::[])::(119,78::73::80::[])::(120,79::86::69::82::[])::(121,80::73::67::75::[])::(122,82::79::76::76::[])::(123,82::79::84::[])::(124,83::87::65::80::[])::(125,84::85::67::75::[])::[]
def lM:List (Nat×List Int):=(126,67::65::84::[])::(130,83::73::90::69::[])::(135,69::81::85::65::76::[])::(136,69::81::85::65::76::86::69::82::73::70::89::[])::(139,49::65::68::68::[])::(140,49::83::85::66::[])::(143,78::69::71::65::84::69::[])::(144,65::66::83::[])::(145,78::79::84::[])::(146,48::78::79::84::69::81::85::65::76::[])::(147,65::68::68::[])::(148,83::85::66::[])::(154,66::79::79::76::65::78::68::[])::(155,66::79::79::76::79::82::[])::(156,78::85::77::69::81::85::65::76::[])::(157,78::85::77::69::81::85::65::76::86::69::82::73::70::89::[])::(158,78::85::77::78::79::84::69::81::85::65::76::[])::(159,76::69::83::83::84::72::65::78::[])::(160,71::82::69::65::84::69::82::84::72::65::78::[])::(161,76::69::83::83::79::82::69::81::85::65::76::[])::[]
def qe:List (Nat×List Int):=(162,71::82::69::65::84::69::82::79::82::69::81::85::65::76::[])::(163,77::73::78::[])::(164,77::65::88::[])::(165,87::73::84::72::73::78::[])::(168,83::72::65::50::53::54::[])::(170,72::65::83::72::50::53::54::[])::(172,67::72::69::67::75::83::73::71::[])::(173,67::72::69::67::75::83::73::71::86::69::82::73::70::89::[])::(177,67::76::84::86::[])::(178,67::83::86::[])::(179,67::84::86::[])::(186,67::72::69::67::75::83::73::71::65::68::68::[])::(187,86::65::85::76::84::[])::(188,82::69::67::79::86::69::82::[])::(204,67::83::70::83::[])::[]
set_option maxRecDepth 4000 in
theorem KZ(a:Nat)(h8:a<256):au Tryz.prog 191 [.d (.int .u8 (a:Int))] (fun v=>v=.d (.str (rF a sU))):=by
 refine bF Tryz.func191 Tryz.ntmps191 (rs:=[.tmp 2]) a9 ?_;simp[go_sem,sU];by_cases R:a=97
 ·have b:(a:Int)=97:=aq;rw[aB R];simp[go_sem,R];exact aa trivial rfl
 have ad:¬(a:Int)=97:=aq;rw[aG R];simp[go_sem,ad];by_cases H:a=99
 ·have b:(a:Int)=99:=aq;rw[aB H];simp[go_sem,H];exact aa trivial rfl
 have ae:¬(a:Int)=99:=aq;rw[aG H];simp[go_sem,ae];by_cases j:a=100
 ·have b:(a:Int)=100:=aq;rw[aB j];simp[go_sem,j];exact aa trivial rfl
 have W:¬(a:Int)=100:=aq;rw[aG j];simp[go_sem,W];by_cases y:a=103
 ·have b:(a:Int)=103:=aq;rw[aB y];simp[go_sem,y];exact aa trivial rfl
 have P:¬(a:Int)=103:=aq;rw[aG y];simp[go_sem,P];by_cases k:a=104
 ·have b:(a:Int)=104:=aq;rw[aB k];simp[go_sem,k];exact aa trivial rfl
 have C:¬(a:Int)=104:=aq;rw[aG k];simp[go_sem,C];by_cases e:a=105
 ·have b:(a:Int)=105:=aq;rw[aB e];simp[go_sem,e];exact aa trivial rfl
 have L:¬(a:Int)=105:=aq;rw[aG e];simp[go_sem,L];by_cases z:a=106
 ·have b:(a:Int)=106:=aq;rw[aB z];simp[go_sem,z];exact aa trivial rfl
 have Y:¬(a:Int)=106:=aq;rw[aG z];simp[go_sem,Y];by_cases x:a=107
 ·have b:(a:Int)=107:=aq;rw[aB x];simp[go_sem,x];exact aa trivial rfl
 have J:¬(a:Int)=107:=aq;rw[aG x];simp[go_sem,J];by_cases r:a=108
 ·have b:(a:Int)=108:=aq;rw[aB r];simp[go_sem,r];exact aa trivial rfl
 have M:¬(a:Int)=108:=aq;rw[aG r];simp[go_sem,M];by_cases c:a=109
 ·have b:(a:Int)=109:=aq;rw[aB c];simp[go_sem,c];exact aa trivial rfl
 have F:¬(a:Int)=109:=aq;rw[aG c];simp[go_sem,F];by_cases p:a=110
 ·have b:(a:Int)=110:=aq;rw[aB p];simp[go_sem,p];exact aa trivial rfl
 have ab:¬(a:Int)=110:=aq;rw[aG p];simp[go_sem,ab];by_cases A:a=111
 ·have b:(a:Int)=111:=aq;rw[aB A];simp[go_sem,A];exact aa trivial rfl
 have S:¬(a:Int)=111:=aq;rw[aG A];simp[go_sem,S];by_cases h:a=112
 ·have b:(a:Int)=112:=aq;rw[aB h];simp[go_sem,h];exact aa trivial rfl
 have X:¬(a:Int)=112:=aq;rw[aG h];simp[go_sem,X];by_cases g:a=113
 ·have b:(a:Int)=113:=aq;rw[aB g];simp[go_sem,g];exact aa trivial rfl
 have U:¬(a:Int)=113:=aq;rw[aG g];simp[go_sem,U];by_cases l:a=114
 ·have b:(a:Int)=114:=aq;rw[aB l];simp[go_sem,l];exact aa trivial rfl
 have N:¬(a:Int)=114:=aq;rw[aG l];simp[go_sem,N];by_cases s:a=115
 ·have b:(a:Int)=115:=aq;rw[aB s];simp[go_sem,s];exact aa trivial rfl
 have G:¬(a:Int)=115:=aq;rw[aG s];simp[go_sem,G];by_cases o:a=116
 ·have b:(a:Int)=116:=aq;rw[aB o];simp[go_sem,o];exact aa trivial rfl
 have O:¬(a:Int)=116:=aq;rw[aG o];simp[go_sem,O];by_cases q:a=117
 ·have b:(a:Int)=117:=aq;rw[aB q];simp[go_sem,q];exact aa trivial rfl
 have I:¬(a:Int)=117:=aq;rw[aG q];simp[go_sem,I];by_cases n:a=118
 ·have b:(a:Int)=118:=aq;rw[aB n];simp[go_sem,n];exact aa trivial rfl
 have Z:¬(a:Int)=118:=aq;rw[aG n];simp[go_sem,Z];by_cases u:a=119
 ·have b:(a:Int)=119:=aq;rw[aB u];simp[go_sem,u];exact aa trivial rfl
 have T:¬(a:Int)=119:=aq;rw[aG u];simp[go_sem,T];by_cases i:a=120
 ·have b:(a:Int)=120:=aq;rw[aB i];simp[go_sem,i];exact aa trivial rfl
 have Q:¬(a:Int)=120:=aq;rw[aG i];simp[go_sem,Q];by_cases m:a=121
 ·have b:(a:Int)=121:=aq;rw[aB m];simp[go_sem,m];exact aa trivial rfl
 have ac:¬(a:Int)=121:=aq;rw[aG m];simp[go_sem,ac];by_cases f:a=122
 ·have b:(a:Int)=122:=aq;rw[aB f];simp[go_sem,f];exact aa trivial rfl
 have V:¬(a:Int)=122:=aq;rw[aG f];simp[go_sem,V];by_cases B:a=123
 ·have b:(a:Int)=123:=aq;rw[aB B];simp[go_sem,B];exact aa trivial rfl
 have D:¬(a:Int)=123:=aq;rw[aG B];simp[go_sem,D];by_cases t:a=124
 ·have b:(a:Int)=124:=aq;rw[aB t];simp[go_sem,t];exact aa trivial rfl
 have K:¬(a:Int)=124:=aq;rw[aG t];simp[go_sem,K];by_cases w:a=125
 ·have b:(a:Int)=125:=aq;rw[aB w];simp[go_sem,w];exact aa trivial rfl
 have E:¬(a:Int)=125:=aq;rw[aG w];simp[go_sem,E];exact aa trivial rfl
set_option maxRecDepth 4000 in
theorem BP(a:Nat)(S:a<256):au Tryz.prog 192 [.d (.int .u8 (a:Int))] (fun v=>v=.d (.str (rF a lM))):=by
 refine bF Tryz.func192 Tryz.ntmps192 (rs:=[.tmp 2]) a9 ?_;simp[go_sem,lM];by_cases c:a=126
 ·have b:(a:Int)=126:=aq;rw[aB c];simp[go_sem,c];exact aa trivial rfl
 have F:¬(a:Int)=126:=aq;rw[aG c];simp[go_sem,F];by_cases f:a=130
 ·have b:(a:Int)=130:=aq;rw[aB f];simp[go_sem,f];exact aa trivial rfl
 have O:¬(a:Int)=130:=aq;rw[aG f];simp[go_sem,O];by_cases s:a=135
 ·have b:(a:Int)=135:=aq;rw[aB s];simp[go_sem,s];exact aa trivial rfl
 have I:¬(a:Int)=135:=aq;rw[aG s];simp[go_sem,I];by_cases x:a=136
 ·have b:(a:Int)=136:=aq;rw[aB x];simp[go_sem,x];exact aa trivial rfl
 have K:¬(a:Int)=136:=aq;rw[aG x];simp[go_sem,K];by_cases l:a=139
 ·have b:(a:Int)=139:=aq;rw[aB l];simp[go_sem,l];exact aa trivial rfl
 have J:¬(a:Int)=139:=aq;rw[aG l];simp[go_sem,J];by_cases q:a=140
 ·have b:(a:Int)=140:=aq;rw[aB q];simp[go_sem,q];exact aa trivial rfl
 have B:¬(a:Int)=140:=aq;rw[aG q];simp[go_sem,B];by_cases o:a=143
 ·have b:(a:Int)=143:=aq;rw[aB o];simp[go_sem,o];exact aa trivial rfl
 have H:¬(a:Int)=143:=aq;rw[aG o];simp[go_sem,H];by_cases u:a=144
 ·have b:(a:Int)=144:=aq;rw[aB u];simp[go_sem,u];exact aa trivial rfl
 have A:¬(a:Int)=144:=aq;rw[aG u];simp[go_sem,A];by_cases g:a=145
 ·have b:(a:Int)=145:=aq;rw[aB g];simp[go_sem,g];exact aa trivial rfl
 have L:¬(a:Int)=145:=aq;rw[aG g];simp[go_sem,L];by_cases e:a=146
 ·have b:(a:Int)=146:=aq;rw[aB e];simp[go_sem,e];exact aa trivial rfl
 have y:¬(a:Int)=146:=aq;rw[aG e];simp[go_sem,y];by_cases r:a=147
 ·have b:(a:Int)=147:=aq;rw[aB r];simp[go_sem,r];exact aa trivial rfl
 have M:¬(a:Int)=147:=aq;rw[aG r];simp[go_sem,M];by_cases h:a=148
 ·have b:(a:Int)=148:=aq;rw[aB h];simp[go_sem,h];exact aa trivial rfl
 have z:¬(a:Int)=148:=aq;rw[aG h];simp[go_sem,z];by_cases w:a=154
 ·have b:(a:Int)=154:=aq;rw[aB w];simp[go_sem,w];exact aa trivial rfl
 have E:¬(a:Int)=154:=aq;rw[aG w];simp[go_sem,E];by_cases m:a=155
 ·have b:(a:Int)=155:=aq;rw[aB m];simp[go_sem,m];exact aa trivial rfl
 have C:¬(a:Int)=155:=aq;rw[aG m];simp[go_sem,C];by_cases j:a=156
 ·have b:(a:Int)=156:=aq;rw[aB j];simp[go_sem,j];exact aa trivial rfl
 have N:¬(a:Int)=156:=aq;rw[aG j];simp[go_sem,N];by_cases k:a=157
 ·have b:(a:Int)=157:=aq;rw[aB k];simp[go_sem,k];exact aa trivial rfl
 have Q:¬(a:Int)=157:=aq;rw[aG k];simp[go_sem,Q];by_cases i:a=158
 ·have b:(a:Int)=158:=aq;rw[aB i];simp[go_sem,i];exact aa trivial rfl
 have P:¬(a:Int)=158:=aq;rw[aG i];simp[go_sem,P];by_cases t:a=159
 ·have b:(a:Int)=159:=aq;rw[aB t];simp[go_sem,t];exact aa trivial rfl
 have R:¬(a:Int)=159:=aq;rw[aG t];simp[go_sem,R];by_cases n:a=160
 ·have b:(a:Int)=160:=aq;rw[aB n];simp[go_sem,n];exact aa trivial rfl
 have G:¬(a:Int)=160:=aq;rw[aG n];simp[go_sem,G];by_cases p:a=161
 ·have b:(a:Int)=161:=aq;rw[aB p];simp[go_sem,p];exact aa trivial rfl
 have D:¬(a:Int)=161:=aq;rw[aG p];simp[go_sem,D];exact aa trivial rfl
set_option maxRecDepth 4000 in
theorem EG(a:Nat)(I:a<256):au Tryz.prog 193 [.d (.int .u8 (a:Int))] (fun v=>v=.d (.str (rF a qe))):=by
 refine bF Tryz.func193 Tryz.ntmps193 (rs:=[.tmp 2]) a9 ?_;simp[go_sem,qe];by_cases n:a=162
 ·have b:(a:Int)=162:=aq;rw[aB n];simp[go_sem,n];exact aa trivial rfl
 have A:¬(a:Int)=162:=aq;rw[aG n];simp[go_sem,A];by_cases r:a=163
 ·have b:(a:Int)=163:=aq;rw[aB r];simp[go_sem,r];exact aa trivial rfl
 have C:¬(a:Int)=163:=aq;rw[aG r];simp[go_sem,C];by_cases o:a=164
 ·have b:(a:Int)=164:=aq;rw[aB o];simp[go_sem,o];exact aa trivial rfl
 have G:¬(a:Int)=164:=aq;rw[aG o];simp[go_sem,G];by_cases p:a=165
 ·have b:(a:Int)=165:=aq;rw[aB p];simp[go_sem,p];exact aa trivial rfl
 have B:¬(a:Int)=165:=aq;rw[aG p];simp[go_sem,B];by_cases f:a=168
 ·have b:(a:Int)=168:=aq;rw[aB f];simp[go_sem,f];exact aa trivial rfl
 have E:¬(a:Int)=168:=aq;rw[aG f];simp[go_sem,E];by_cases j:a=170
 ·have b:(a:Int)=170:=aq;rw[aB j];simp[go_sem,j];exact aa trivial rfl
 have z:¬(a:Int)=170:=aq;rw[aG j];simp[go_sem,z];by_cases q:a=172
 ·have b:(a:Int)=172:=aq;rw[aB q];simp[go_sem,q];exact aa trivial rfl
 have F:¬(a:Int)=172:=aq;rw[aG q];simp[go_sem,F];by_cases c:a=173
 ·have b:(a:Int)=173:=aq;rw[aB c];simp[go_sem,c];exact aa trivial rfl
 have D:¬(a:Int)=173:=aq;rw[aG c];simp[go_sem,D];by_cases e:a=177
 ·have b:(a:Int)=177:=aq;rw[aB e];simp[go_sem,e];exact aa trivial rfl
 have w:¬(a:Int)=177:=aq;rw[aG e];simp[go_sem,w];by_cases g:a=178
 ·have b:(a:Int)=178:=aq;rw[aB g];simp[go_sem,g];exact aa trivial rfl
 have H:¬(a:Int)=178:=aq;rw[aG g];simp[go_sem,H];by_cases i:a=179
 ·have b:(a:Int)=179:=aq;rw[aB i];simp[go_sem,i];exact aa trivial rfl
 have t:¬(a:Int)=179:=aq;rw[aG i];simp[go_sem,t];by_cases l:a=186
 ·have b:(a:Int)=186:=aq;rw[aB l];simp[go_sem,l];exact aa trivial rfl
 have x:¬(a:Int)=186:=aq;rw[aG l];simp[go_sem,x];by_cases m:a=187
 ·have b:(a:Int)=187:=aq;rw[aB m];simp[go_sem,m];exact aa trivial rfl
 have u:¬(a:Int)=187:=aq;rw[aG m];simp[go_sem,u];by_cases k:a=188
 ·have b:(a:Int)=188:=aq;rw[aB k];simp[go_sem,k];exact aa trivial rfl
 have s:¬(a:Int)=188:=aq;rw[aG k];simp[go_sem,s];by_cases h:a=204
 ·have b:(a:Int)=204:=aq;rw[aB h];simp[go_sem,h];exact aa trivial rfl
 have y:¬(a:Int)=204:=aq;rw[aG h];simp[go_sem,y];exact aa trivial rfl
def IW(a:Nat):List Int:=if rF a sU=[]then(if rF a lM=[]then rF a qe else rF a lM)else rF a sU
theorem TF:(List.range 256).all (fun a=>qF a==!decide (IW a=[]))=true:=by kernel_rfl
theorem X6{a:Nat}(h:a<256):qF a=!decide (IW a=[]):=by
 have:=d9.1 TF a (List.mem_range.2 h);simpa using this
@[go_sem] theorem afd:fQ Tryz.prog 253=some [.any,.any,.any]:=by kernel_rfl
@[go_sem] theorem afe:ca Tryz.prog 253=.arr 3 252:=by kernel_rfl
@[go_sem] theorem aff:Tryz.prog.cellsOf 252=1:=by kernel_rfl
@[go_sem] theorem afg:ca Tryz.prog 252=.scal:=by kernel_rfl
theorem TG(a:Nat)(c:a<256):au Tryz.prog 168 [.d (.int .u8 (a:Int))] (fun v=>v=.tup [.d (.str (IW a)),.d (.bool (qF a))]):=by
 rw[X6 c];refine bF Tryz.func168 Tryz.ntmps168 (rs:=[.tmp 2,.tmp 3]) a9 ?_;simp[go_sem];have l:=KZ a c;have j:=BP a c;have m:=EG a c;unfold IW;generalize rF a sU=a1 at *;generalize rF a lM=a2 at *;generalize rF a qe=a3 at *
 refine av (fun k:Nat=>⟨[(0,.d (.int .u8 (a:Int))),(7,.agg [.fn 191 [],.fn 192 [],.fn 193 []]),(8,.d (.int .i64 (k:Int)))],[],1000⟩)
  (fun k=>k≤3∧(1≤k→a1=[])∧(2≤k→a2=[])∧(3≤k→a3=[])) (fun k=>3-k) 0 ⟨aq,fun h=>aq,fun h=>aq,fun h=>aq⟩ (by simp[az,ai,fv,lk,AV.low,AV.low1]) ?_
 rintro k⟨n,e,g,i⟩;have f:k=0∨k=1∨k=2∨k=3:=aq;rcases f with rfl|rfl|rfl|rfl
 ·simp[go_sem];refine ag l a9 ?_;by_cases b:a1=[]
  ·subst b;simp[go_sem];refine am 1 aw aq ?_;simp[az,ai,fv,lk,AV.low,AV.low1];rfl
  ·simp[go_sem,b,ah];exact aa a9 rfl
 ·simp[go_sem];obtain rfl:=e aq;refine ag j a9 ?_;by_cases b:a2=[]
  ·subst b;simp[go_sem];refine am 2 aw aq ?_;simp[az,ai,fv,lk,AV.low,AV.low1];rfl
  ·simp[go_sem,b,ah];exact aa a9 rfl
 ·simp[go_sem];obtain rfl:=e aq;obtain rfl:=g aq;refine ag m a9 ?_;by_cases b:a3=[]
  ·subst b;simp[go_sem];refine am 3 aw aq ?_;simp[az,ai,fv,lk,AV.low,AV.low1];rfl
  ·simp[go_sem,b,ah];exact aa a9 rfl
 ·obtain rfl:=e aq;obtain rfl:=g aq;obtain rfl:=i aq;simp[go_sem,ah];exact aa a9 rfl
end Go.Proofs.YtmfnimjnneflnaaGreat
namespace Go.Sha
open Go.Proofs.YtmfnimjnneflnaaGreat
structure RnS where
 r:Rn
 J:List Bool
 H:Nat
end Go.Sha
namespace Go.Proofs.YtmfnimjnneflnaaGreat
open Go.Am Go.Sha
def bI(r:Rn)(b c:AV):List AV:=[.d (.ro 1 (r.main.map bL)),.d (.ro 1 (r.alt.map bL)),b,.d (.int .i64 (je r:Int)),.d (.int .i64 r.bud),c,.d (.int .i64 r.e)]
def uV(l J:List Bool):List (List AV):=(l++J).map fun b=>[AV.d (.bool b)]
def ZL(c:Int×Int):List AV:=[.d (.int .i64 c.1),.d (.int .u64 c.2)]
def LM(l:List (Int×Int))(H:Nat):List (List AV):=l.map ZL++List.replicate H [AV.d (.int .i64 0),.d (.int .u64 0)]
def bJ(C:List AV)(s:RnS)(f:Nat→Nat):List AV:=C++bI s.r (.own (f 1) 0 s.r.br.length (s.r.br.length+s.J.length)) (.own (f 2) 0 s.r.cl.length (s.r.cl.length+s.H))
def aI(C:List AV)(s:RnS)(f:Nat→Nat):Nat→Blk
 |0=>⟨158,48,[bJ C s f]⟩
 |1=>⟨4,1,uV s.r.br s.J⟩
 |_=>⟨55,2,LM s.r.cl s.H⟩
def jG(C:List AV):Prop:=(∀v,v∈C→∀ ρ,AV.ren ρ v=v)∧(∀v,v∈C→∀n,v.low1 n)∧C.length=41
theorem OS{C:List AV}(h:jG C)(ρ:Nat→Nat)(l:List AV):AV.renL ρ (C++l)=C++AV.renL ρ l:=by
 rw[kn,kn,List.map_append];congr 1;rw[List.map_congr_left (g:=id) (fun v a=>h.1 v a ρ),List.map_id]
theorem X7(ρ:Nat→Nat)(l J:List Bool):aO ρ (uV l J)=uV l J:=by
 unfold aO uV;rw[List.map_map];rfl
theorem X8(ρ:Nat→Nat)(l:List (Int×Int))(H:Nat):aO ρ (LM l H)=LM l H:=by
 unfold aO LM;rw[List.map_append,List.map_map,List.map_replicate];rfl
theorem uu{C:List AV}(b:jG C):KD 3 (aI C):=by
 refine⟨fun s f ρ g i a h=>?_,fun s f i a=>?_⟩
 ·match i with
  |0=>simp[aI,bJ,bI,Blk.ren,aO,OS b,AV.renL,AV.ren,h 1 aq,h 2 aq]
  |1=>simp only[aI,Blk.ren,X7]
  |i+2=>simp only[aI,Blk.ren,X8]
 ·match i with
  |0=>exact Nat.succ_ne_zero 47
  |1=>exact Nat.succ_ne_zero 0
  |i+2=>exact Nat.succ_ne_zero 1
theorem bH(C:List AV)(s:RnS)(f:Nat→Nat):ju 3 (aI C) s f=[(f 0,aI C s f 0),(f 1,aI C s f 1),(f 2,aI C s f 2)]:=rfl
theorem aF{C:List AV}{s:RnS}{hp:Hp}(b:lk 0 hp=some (aI C s id 0))(a:lk 1 hp=some (aI C s id 1))(c:lk 2 hp=some (aI C s id 2)):vA 3 (aI C) s id hp:=by
 intro i d
 match i with
 |0=>exact b
 |1=>exact a
 |2=>exact c
theorem bD{C:List AV}(c:jG C)(r:Rn)(J:List Bool)(H:Nat)(x:Int):dr Tryz.prog 3 (aI C) 96 ⟨r,J,H⟩ [.ptr 0 0 0 1,.d (.int .i64 x)] (fun v f=>f=⟨aC x r,J,H⟩):=by
 refine ap Tryz.func96 (by kernel_rfl) rfl Tryz.ntmps96 (rs:=[]) rfl (dJ rfl) (by decide) ?_;rw[bH];simp only[aI,bJ,bI,id];have b:=c.2.2;by_cases h:r.e=0
 ·have a:aC x r={ r with e:=x }:=if_pos h;simp[go_sem,h,b,a];exact aF rfl rfl rfl
 ·have a:aC x r=r:=if_neg h;simp[go_sem,h,b,a];exact aF rfl rfl rfl
theorem fE{C:List AV}(a:jG C)(r:Rn)(J:List Bool)(H:Nat):dr Tryz.prog 3 (aI C) 100 ⟨r,J,H⟩ [.ptr 0 0 0 1] (fun v c=>v=.d (.bool (decide (r.e=0)))∧c=⟨r,J,H⟩):=by
 refine ap Tryz.func100 (by kernel_rfl) rfl Tryz.ntmps100 (rs:=[.tmp 2]) rfl (dJ rfl) (by decide) ?_;rw[bH];simp only[aI,bJ,bI,id];have b:=a.2.2;simp[go_sem,ah,b];exact aF rfl rfl rfl
theorem eK{C:List AV}(e:jG C){N:Nat}{Pp:Hp}{g:FuncId}{s:RnS}{a:List AV}{R:AV→RnS→Prop}{K:AV→Hp→Prop}(h:dr Tryz.prog 3 (aI C) g s (.ptr 0 0 0 1::a) R)(k:3≤N)(d:∀p,p∈Pp→p.1<N∧3≤p.1)(b:∀ ρ,AV.renL ρ a=a)
  (i:∀v s' ρ,R v s'→(∀j,j<3→ρ j=j)→K (v.ren ρ) (Pp++ju 3 (aI C) s' id)):uK Tryz.prog g (.ptr 0 0 0 1::a) (Pp++ju 3 (aI C) s id) N K:=by
 refine vW (uu e) h (aV 3) (fun j f=>by show j<N;omega) (fun p c=>⟨(d p c).1,fun j f=>by have:=(d p c).2;show j≠p.1;omega⟩) ?_ i;rw[AV.renL,b,AV.ren];rfl
structure StOk(main alt:List bc):Prop where
 m:main.length≤1000
 a:alt.length≤1000
 mb:∀x,x∈main→x.length≤1000∧bytes x
 ab:∀x,x∈alt→x.length≤1000∧bytes x
theorem StOk.m1{main alt:List bc}(h:StOk main alt):∀x,x∈main→x.length≤1000000:=fun x a=>by have:=(h.mb x a).1;omega
theorem StOk.a1{main alt:List bc}(h:StOk main alt):∀x,x∈alt→x.length≤1000000:=fun x a=>by have:=(h.ab x a).1;omega
theorem GZ{C l:List AV}(a b:AV)(h:C.length=41):List.drop 43 (C++a::b::l)=l:=by rw[List.drop_append,h,dg aq];rfl
theorem TJ{C:List AV}(j:jG C)(r:Rn)(J:List Bool)(H:Nat)(k:StOk r.main r.alt):dr Tryz.prog 3 (aI C) 220 ⟨r,J,H⟩ [.ptr 0 0 0 1] (fun v n=>(v=.nil∧(bq r).1=[]∨v=.d (nb (bq r).1))∧n=⟨(bq r).2,J,H⟩):=by
 refine ap Tryz.func220 (by kernel_rfl) rfl Tryz.ntmps220 (rs:=[.tmp 2]) rfl (dJ rfl) (by decide) ?_;have q:=j.2.2;simp[go_sem];refine eK (Pp:=[]) j (fE j r J H) aq aw (by simp[AV.renL]) ?_;rintro v n ρ ⟨rfl,rfl⟩ y;by_cases h:r.e=0
 ·have c:=EA r.main r.alt k.m k.a k.m1 k.a1;obtain⟨f,alt,g,b,i,e⟩:=r;simp only at h c;subst h;rw[bH];simp only[aI,bJ,bI,id,kP]at *;simp[go_sem,q,AV.ren];refine ag c (by intro v w;simp at w;subst w;exact fM f alt) ?_;rcases f.eq_nil_or_concat with rfl|⟨l,x,u⟩
  ·have o:bq ⟨[],alt,g,b,i,0⟩=([],aC 12 ⟨[],alt,g,b,i,0⟩):=rfl;rw[o];simp[go_sem,GP,kP];refine eK (Pp:=[(420,⟨155,2,[[.d (.ro 1 []),.d (.ro 1 [])]]⟩)]) (s:=⟨⟨[],alt,g,b,i,0⟩,J,H⟩) j (bD j ⟨[],alt,g,b,i,0⟩ J H 12) aq (by intro p t;simp at t;subst t;simp) (by simp[AV.renL,AV.ren]) ?_;rintro v n ρ rfl y;rw[bH];generalize aC 12 ⟨[],alt,g,b,i,0⟩=r';simp only[aI,bJ,bI,id];simp[go_sem,ah];exact aF rfl rfl rfl
  ·rw[List.concat_eq_append]at u;subst u;have o:bq ⟨l++[x],alt,g,b,i,0⟩=(x,⟨l,alt,g,b,i,0⟩):=by simp[bq]
   rw[o];simp[go_sem,GP,kP,q,ah,GZ];exact aF rfl rfl rfl
 ·have z:bq r=([],r):=if_neg h;rw[z,bH];simp only[aI,bJ,bI,id];simp[go_sem,h,ah,AV.ren];exact aF rfl rfl rfl
theorem lN{C:List AV}(b:jG C)(r:Rn)(J:List Bool)(H:Nat)(c:StOk r.main r.alt):dr Tryz.prog 3 (aI C) 220 ⟨r,J,H⟩ [.ptr 0 0 0 1] (fun v a=>v=.d (nb (bq r).1)∧a=⟨(bq r).2,J,H⟩):=by
 refine Tv (TJ b r J H c) ?_;rintro v a⟨⟨rfl,h⟩|h,rfl⟩;exact .inr ⟨rfl,1,by rw[h];rfl,rfl⟩;exact .inl ⟨h,rfl⟩
theorem OT{l:List bc}{x:bc}{alt:List bc}(h:StOk (l++[x]) alt):StOk l alt∧x.length≤1000∧bytes x :=
 ⟨⟨by have:=h.m;simp at this;omega,h.a,fun y b=>h.mb y (by simp[b]),h.ab⟩,h.mb x aw⟩
theorem iy{x:Int}{r:Rn}(h:StOk r.main r.alt):StOk (aC x r).main (aC x r).alt:=by
 unfold aC;split<;>exact h
theorem ew{r:Rn}(h:StOk r.main r.alt):StOk (bq r).2.main (bq r).2.alt∧(bq r).1.length≤1000∧bytes (bq r).1:=by
 unfold bq;split;split;exact⟨iy h,aw,fun x a=>by simp at a⟩
 rename_i c;rcases r.main.eq_nil_or_concat with e|⟨l,x,b⟩;exact absurd (by rw[e];rfl) c;rw[List.concat_eq_append]at b;rw[b]at h⊢;simp only[List.dropLast_concat,List.getLastD_concat];exact OT h;exact⟨h,aw,fun x a=>by simp at a⟩
theorem rG(r:Rn):aC 0 r=r:=by
 unfold aC;split;rename_i h;obtain⟨a,b,c,d,f,e⟩:=r;simp only at h;subst h;rfl;rfl
theorem BQ{x:Int}{r:Rn}(a:x≠0):(aC x r).e≠0:=by
 unfold aC;split;exact a;rename_i h;exact h
theorem OU{C:List AV}(i:jG C)(r:Rn)(J:List Bool)(H:Nat)(k:StOk r.main r.alt):dr Tryz.prog 3 (aI C) 231 ⟨r,J,H⟩ [.ptr 0 0 0 1] (fun v n=>v=.d (nb (oG r).1)∧n=⟨(oG r).2,J,H⟩):=by
 refine ap Tryz.func231 (by kernel_rfl) rfl Tryz.ntmps231 (rs:=[.tmp 2]) rfl (dJ rfl) (by decide) ?_;have y:=i.2.2;have g:=EA r.main r.alt k.m k.a k.m1 k.a1;obtain⟨h,alt,c,b,f,e⟩:=r;simp only at g;rw[bH];simp only[aI,bJ,bI,id,kP]at *;simp[go_sem,y];refine ag g (by intro v u;simp at u;subst u;exact fM h alt) ?_;rcases h.eq_nil_or_concat with rfl|⟨l,x,t⟩
 ·have o:oG ⟨[],alt,c,b,f,e⟩=([],aC 12 ⟨[],alt,c,b,f,e⟩):=rfl;rw[o];simp[go_sem,GP,kP];refine eK (Pp:=[(324,⟨155,2,[[.d (.ro 1 []),.d (.ro 1 [])]]⟩)]) (s:=⟨⟨[],alt,c,b,f,e⟩,J,H⟩) i (bD i ⟨[],alt,c,b,f,e⟩ J H 12) aq (by intro p j;simp at j;subst j;simp) (by simp[AV.renL,AV.ren]) ?_;rintro v n ρ rfl w;rw[bH];generalize aC 12 ⟨[],alt,c,b,f,e⟩=r';simp only[aI,bJ,bI,id];simp[go_sem,ah];exact⟨_,⟨rfl,rfl⟩,aF rfl rfl rfl⟩
 ·rw[List.concat_eq_append]at t;subst t;have o:oG ⟨l++[x],alt,c,b,f,e⟩=(x,⟨l++[x],alt,c,b,f,e⟩):=by simp[oG]
  rw[o];have q:=bD i ⟨l++[x],alt,c,b,f,e⟩ J H 0;rw[rG]at q;simp[go_sem,GP,kP,-List.map_append];refine eK (Pp:=[(324,⟨155,2,[[.d (.ro 1 (l.map bL)),.d (.ro 1 (alt.map bL))]]⟩)]) (s:=⟨⟨l++[x],alt,c,b,f,e⟩,J,H⟩) i q aq (by intro p j;simp at j;subst j;simp) (by simp[AV.renL,AV.ren]) ?_;rintro v n ρ rfl w;rw[bH];simp only[aI,bJ,bI,id];simp[go_sem,ah,-List.map_append];exact aF rfl rfl rfl
theorem uW{C:List AV}(a:jG C)(r:Rn)(J:List Bool)(H:Nat)(l:StOk r.main r.alt)(most:Nat)(t:most≤8):dr Tryz.prog 3 (aI C) 227 ⟨r,J,H⟩ [.ptr 0 0 0 1,.d (.int .i64 (most:Int))] (fun v g=>v=.d (.int .i64 (fg most r).1)∧g=⟨(fg most r).2,J,H⟩):=by
 refine ap Tryz.func227 (by kernel_rfl) rfl Tryz.ntmps227 (rs:=[.tmp 4]) rfl (dJ rfl) (by decide) ?_;have u:=a.2.2;simp[go_sem];refine eK (Pp:=[]) a (lN a r J H l) aq aw (by simp[AV.renL]) ?_;rintro v g ρ ⟨rfl,rfl⟩ k;obtain⟨j,i,f⟩:=ew l;unfold fg;generalize bq r=p at *;obtain⟨b,c⟩:=p;simp only at j i f⊢;simp[go_sem,AV.ren];refine eK (Pp:=[]) a (fE a c J H) aq aw (by simp[AV.renL]) ?_;rintro v g ρ' ⟨rfl,rfl⟩ o;by_cases h:c.e=0
 ·have q:=GN most b f t aq;simp[go_sem,AV.ren,h];refine ag q a9 ?_
  cases w:gv most b with
  |none =>
   simp[go_sem];refine eK (Pp:=[]) (s:=⟨c,J,H⟩) a (bD a c J H 15) aq aw (by simp[AV.renL,AV.ren]) ?_;rintro v g ρ rfl k;rw[bH];generalize aC 15 c=r';simp only[aI,bJ,bI,id];simp[go_sem,ah];exact aF rfl rfl rfl
  |some n =>
   have m:=bD a c J H 0;rw[rG]at m;simp[go_sem];refine eK (Pp:=[]) (s:=⟨c,J,H⟩) a m aq aw (by simp[AV.renL,AV.ren]) ?_;rintro v g ρ rfl k;rw[bH];simp only[aI,bJ,bI,id];simp[go_sem,ah];exact aF rfl rfl rfl
 ·simp[go_sem,AV.ren,h,ah];rw[bH];exact aF rfl rfl rfl
theorem rH{C:List AV}(k:jG C)(r:Rn)(J:List Bool)(H:Nat)(n:StOk r.main r.alt)(b:bc)(y:b.length≤1000000):dr Tryz.prog 3 (aI C) 171 ⟨r,J,H⟩ [.ptr 0 0 0 1,.d (nb b)] (fun v q=>q=⟨eu b r,J,H⟩):=by
 refine ap Tryz.func171 (by kernel_rfl) rfl Tryz.ntmps171 (rs:=[]) rfl (dJ rfl) (by decide) ?_;have t:=k.2.2;have l:=KU r.main r.alt b n.m n.a n.m1 n.a1 y;simp[go_sem];refine eK (Pp:=[]) k (fE k r J H) aq aw (by simp[AV.renL]) ?_;rintro v q ρ ⟨rfl,rfl⟩ w;obtain⟨c,alt,g,f,i,e⟩:=r;simp only at l;by_cases h:e=0
 ·subst h;rw[bH];simp only[aI,bJ,bI,id,kP]at *;simp[go_sem,AV.ren,t];refine ag l (by intro v u;simp at u;rcases u with rfl|rfl;exact fM c alt;trivial) ?_;by_cases hc:fZ (c++[b]) alt=0
  ·have o:Aa ⟨c++[b],alt,0⟩=.tup [.agg (kP (c++[b]) alt),.d (.int .i64 0)]:=by simp[Aa,dY,hc]
   have j:eu b ⟨c,alt,g,f,i,0⟩=⟨c++[b],alt,g,f,i,0⟩:=by simp[eu,hc]
   rw[o,j];simp[go_sem,kP,t,GZ];refine aF ?_ rfl rfl;simp[lk,aI,bJ,bI];rfl
  ·have o:Aa ⟨c++[b],alt,0⟩=.tup [.agg (kP [] []),.d (.int .i64 (fZ (c++[b]) alt))]:=by simp[Aa,dY,hc]
   have j:eu b ⟨c,alt,g,f,i,0⟩=aC (fZ (c++[b]) alt) ⟨c,alt,g,f,i,0⟩:=by simp[eu,hc]
   rw[o,j];generalize fZ (c++[b]) alt=x at *;simp[go_sem,kP,hc];refine eK (Pp:=[(388,⟨155,2,[[.d (.ro 1 []),.d (.ro 1 [])]]⟩)]) (s:=⟨⟨c,alt,g,f,i,0⟩,J,H⟩) k (bD k ⟨c,alt,g,f,i,0⟩ J H x) aq (by intro p j;simp at j;subst j;simp) (by simp[AV.renL,AV.ren]) ?_;rintro v q ρ rfl w;rw[bH];generalize aC x ⟨c,alt,g,f,i,0⟩=r';simp only[aI,bJ,bI,id];simp[go_sem];exact aF rfl rfl rfl
 ·have j:eu b ⟨c,alt,g,f,i,e⟩=⟨c,alt,g,f,i,e⟩:=if_neg h;rw[j];simp[go_sem,AV.ren,h];rw[bH];exact aF rfl rfl rfl
theorem G0(r:Rn):je r≤r.br.length:=List.length_filter_le _ _
theorem TL(b:Bool)(r:Rn):je (nh b r)=je r+(if b then 0 else 1):=by
 unfold je nh;simp only[List.filter_append,b_];cases b<;>rfl
theorem vZ(l J:List Bool):(uV l J).length=l.length+J.length:=by simp[uV]
theorem EH{l J:List Bool}:(uV l J).take l.length=l.map fun b=>[AV.d (.bool b)]:=by
 unfold uV;rw[←List.map_take,List.take_left]
theorem TM(l:List Bool)(b:Bool):(l.map fun b=>[AV.d (.bool b)])++[[AV.d (.bool b)]]=uV (l++[b]) []:=by simp[uV]
theorem TN(l:List Bool)(j b:Bool)(J:List Bool):(l.map fun b=>[AV.d (.bool b)])++[AV.d (.bool b)]::(uV l (j::J)).drop (l.length+1)=uV (l++[b]) J:=by
 unfold uV;rw[←List.map_drop,←List.drop_drop,List.drop_left];simp
theorem sV{C:List AV}(u:jG C)(r:Rn)(J:List Bool)(H:Nat)(b:Bool)(w:r.br.length≤1000000):dr Tryz.prog 3 (aI C) 195 ⟨r,J,H⟩ [.ptr 0 0 0 1,.d (.bool b)] (fun v x=>∃i,x=⟨nh b r,i,H⟩):=by
 refine ap Tryz.func195 (by kernel_rfl) rfl Tryz.ntmps195 (rs:=[]) rfl (dJ rfl) (by decide) ?_;have o:=u.2.2;have y:=G0 r;have s:=TL b r;have t:IntKind.i64.wrap ((je r:Int)+1)=(je r:Int)+1:=IntWalk.i64_in _ aq;rw[bH];simp only[aI,bJ,bI,id];simp[go_sem,o];obtain⟨c,alt,a,f,n,e⟩:=r;simp only at w y t s⊢;generalize z:je ⟨c,alt,a,f,n,e⟩=q at *
 have l:∀i:List Bool,aI C ⟨nh b ⟨c,alt,a,f,n,e⟩,i,H⟩ id 0=⟨158,48,[C++[.d (.ro 1 (c.map bL)),.d (.ro 1 (alt.map bL)),.own 1 0 (a.length+1) (a.length+1+i.length),.d (.int .i64 ((q+(if b then 0 else 1):Nat):Int)),.d (.int .i64 f),.own 2 0 n.length (n.length+H),.d (.int .i64 e)]]⟩:=by
  intro i;simp only[aI,bJ,bI,s];simp[nh]
 have k:∀i:List Bool,aI C ⟨nh b ⟨c,alt,a,f,n,e⟩,i,H⟩ id 1=⟨4,1,uV (a++[b]) i⟩:=fun _=>rfl;have m:∀i:List Bool,aI C ⟨nh b ⟨c,alt,a,f,n,e⟩,i,H⟩ id 2=⟨55,2,LM n H⟩:=fun _=>rfl;rcases J with _|⟨j,J⟩
 ·have p:List.take a.length (uV a [])=a.map fun b=>[AV.d (.bool b)]:=EH;have g:(uV a []).length=a.length+([]:List Bool).length:=vZ _ _;have l:=l [];have k:=k [];have m:=m [];rw[←TM]at k;cases b
  ·simp[go_sem,fi,Ia,p,g,o,t];exact⟨aq,fun h=>aq,_,⟨[],rfl⟩,aF (l▸rfl) (k▸rfl) (m▸rfl)⟩
  ·simp[go_sem,fi,Ia,p,g,o];exact⟨aq,fun h=>aq,_,⟨[],rfl⟩,aF (l▸rfl) (k▸rfl) (m▸rfl)⟩
 ·have p:List.take a.length (uV a (j::J))=a.map fun b=>[AV.d (.bool b)]:=EH;have g:(uV a (j::J)).length=a.length+(j::J:List Bool).length:=vZ _ _;have l:=l J;have k:=k J;have m:=m J;rw[←TN a j b J]at k;rw[show a.length+1+J.length=a.length+(J.length+1)by omega]at l;cases b
  ·simp[go_sem,fi,Ia,p,g,o,t];exact⟨aq,_,⟨J,rfl⟩,aF (l▸rfl) (k▸rfl) (m▸rfl)⟩
  ·simp[go_sem,fi,Ia,p,g,o];exact⟨aq,_,⟨J,rfl⟩,aF (l▸rfl) (k▸rfl) (m▸rfl)⟩
def TP(o:Option Bool):AV:=match o with
 |some b=>.tup [.d (.bool b),.d (.bool true)]
 |none=>.tup [.d (.bool false),.d (.bool false)]
theorem X9{l:List Bool}{J:List Bool}{k:Nat}{b:Bool}(h:l[k]?=some b):(uV l J)[k]?=some [.d (.bool b)]:=by
 unfold uV;rw[c_,List.getElem?_append_left (ci.1 h).1,h];rfl
theorem TQ{main alt:List bc}{l:List Bool}{b:Bool}{bud e:Int}{cl:List (Int×Int)}:je ⟨main,alt,l++[b],bud,cl,e⟩=je ⟨main,alt,l,bud,cl,e⟩+(if b then 0 else 1):=by
 unfold je;simp only[List.filter_append,b_];cases b<;>rfl
theorem IX{C:List AV}(o:jG C)(r:Rn)(J:List Bool)(H:Nat)(x:r.br.length≤1000000):dr Tryz.prog 3 (aI C) 196 ⟨r,J,H⟩ [.ptr 0 0 0 1] (fun v A=>v=TP (nT r).1∧∃J',A=⟨(nT r).2,J',H⟩):=by
 refine ap Tryz.func196 (by kernel_rfl) rfl Tryz.ntmps196 (rs:=[.tmp 2,.tmp 3]) rfl (dJ rfl) (by decide) ?_;have p:=o.2.2;have m:=G0 r;obtain⟨a,alt,E,c,f,e⟩:=r;simp only at x m;rw[bH];simp only[aI,bJ,bI,id];rcases E.eq_nil_or_concat with rfl|⟨l,b,B⟩
 ·have u:nT ⟨a,alt,[],c,f,e⟩=(none,aC 18 ⟨a,alt,[],c,f,e⟩):=rfl;rw[u];simp[go_sem,p];rw[show AV.own 1 0 0 J.length=AV.own 1 0 ([]:List Bool).length (([]:List Bool).length+J.length)by simp];refine eK (Pp:=[]) (s:=⟨⟨a,alt,[],c,f,e⟩,J,H⟩) o (bD o ⟨a,alt,[],c,f,e⟩ J H 18) aq aw (by simp[AV.renL,AV.ren]) ?_;rintro v A ρ rfl L;rw[bH];generalize aC 18 ⟨a,alt,[],c,f,e⟩=r';simp only[aI,bJ,bI,id];simp[go_sem,ah,TP];exact⟨_,⟨J,rfl⟩,aF rfl rfl rfl⟩
 ·rw[List.concat_eq_append]at B;subst B;have u:nT ⟨a,alt,l++[b],c,f,e⟩=(some b,⟨a,alt,l,c,f,e⟩):=by simp[nT]
  rw[u];rw[TQ]at m⊢;have D:IntKind.i64.wrap (((l++[b]).length:Int)-1)=(l.length:Int):=by rw[IntWalk.i64_in _ (by simp at x⊢;omega)];simp
  have t:(uV (l++[b]) J)[l.length]?=some [.d (.bool b)]:=X9 aw;have F:∀h:l.length<(uV (l++[b]) J).length,(uV (l++[b]) J)[l.length]=[.d (.bool b)]:=fun h=>Option.some.inj ((cm h).symm.trans t);have z:uV (l++[b]) J=uV l (b::J):=by simp[uV]
  generalize w:(l++[b]).length=n at *;have K:n=l.length+1:=by rw[←w];simp
  have k:¬n=0:=aq;have I:l.length<n:=aq;have j:(l.length:Int)<(n:Int):=aq;have g:(l.length:Int)≤(n:Int):=aq;have i:n+J.length=l.length+(b::J).length:=by simp;omega
  generalize y:je ⟨a,alt,l,c,f,e⟩=q at *;cases b
  ·have M:IntKind.i64.wrap (((q:Int)+1)-1)=(q:Int):=by simp only[Bool.false_eq_true,if_false]at m;rw[IntWalk.i64_in _ aq];omega
   have G:IntKind.i64.wrap (q:Int)=(q:Int):=by simp only[Bool.false_eq_true,if_false]at m;exact IntWalk.i64_in _ aq
   simp[go_sem,p,k,D,t,j,g,vZ,w,G];exact⟨_,⟨rfl,false::J,rfl⟩,aF (by simp only[lk,aI,bJ,bI,y,i];rfl) (congrArg (fun r=>some (⟨4,1,r⟩:Blk)) z) rfl⟩
  ·simp[go_sem,p,k,D,t,j,g,vZ,w];exact⟨_,⟨rfl,true::J,rfl⟩,aF (by simp only[lk,aI,bJ,bI,y,i];rfl) (congrArg (fun r=>some (⟨4,1,r⟩:Blk)) z) rfl⟩
theorem Ya{C:List AV}(a:jG C)(r:Rn)(J:List Bool)(H:Nat)(t:StOk r.main r.alt):dr Tryz.prog 3 (aI C) 194 ⟨r,J,H⟩ [.ptr 0 0 0 1] (fun v c=>v=.d (.bool (ou r).1)∧c=⟨(ou r).2,J,H⟩):=by
 refine ap Tryz.func194 (by kernel_rfl) rfl Tryz.ntmps194 (rs:=[.tmp 2]) rfl (dJ rfl) (by decide) ?_;have u:=a.2.2;simp[go_sem];refine eK (Pp:=[]) a (lN a r J H t) aq aw (by simp[AV.renL]) ?_;rintro v c ρ ⟨rfl,rfl⟩ q;obtain⟨k,i,g⟩:=ew t;unfold ou;generalize bq r=p at *;obtain⟨b,e⟩:=p;simp only at k i g⊢;have uO:∀(d:Bool)(f:Rn)(n:St),n.hp=ju 3 (aI C) ⟨f,J,H⟩ id→∃c,(AV.d (.bool d)=.d (.bool d)∧c=⟨f,J,H⟩)∧vA 3 (aI C) c id n.hp:=fun d f n h=>⟨_,⟨rfl,rfl⟩,by rw[h];exact aF rfl rfl rfl⟩;rcases b with _|⟨x,_|⟨y,b⟩⟩
 ·simp[go_sem,AV.ren,nb,ah];exact aF rfl rfl rfl
 ·by_cases o:x=1
  ·subst o;simp[go_sem,AV.ren,nb,ah];exact aF rfl rfl rfl
  ·have j:¬(x:Int)=1:=aq;simp[go_sem,AV.ren,nb,o,j];refine eK (Pp:=[]) (s:=⟨e,J,H⟩) a (bD a e J H 19) aq aw (by simp[AV.renL,AV.ren]) ?_;rintro v c ρ rfl q;rw[bH];generalize aC 19 e=f;simp only[aI,bJ,bI,id];simp[go_sem,ah];exact aF rfl rfl rfl
 ·have l:(1:Int)<(b.length:Int)+1+1:=aq;have m:¬(b.length:Int)+1+1=1:=aq;simp[go_sem,AV.ren,nb,l];refine eK (Pp:=[]) (s:=⟨e,J,H⟩) a (bD a e J H 19) aq aw (by simp[AV.renL,AV.ren]) ?_;rintro v c ρ rfl q;rw[bH];generalize aC 19 e=f;simp only[aI,bJ,bI,id];simp[go_sem,ah,m];exact aF rfl rfl rfl
theorem aR{C:List AV}(c:jG C){N:Nat}{Pp hp:Hp}{g:FuncId}{s:RnS}{a:List AV}{R:AV→RnS→Prop}{K:AV→Hp→Prop}(h:dr Tryz.prog 3 (aI C) g s (.ptr 0 0 0 1::a) R)(d:hp=Pp++ju 3 (aI C) s id)(e:3≤N)(i:∀p,p∈Pp→p.1<N∧3≤p.1)(b:∀ ρ,AV.renL ρ a=a)
  (f:∀v s' ρ,R v s'→(∀j,j<3→ρ j=j)→K (v.ren ρ) (Pp++ju 3 (aI C) s' id)):uK Tryz.prog g (.ptr 0 0 0 1::a) hp N K:=d▸eK c h e i b f
theorem VR:Tryz.prog.underlying 4=some .bool:=by kernel_rfl
theorem VS(a b:Bool)(K:AV→Hp→Prop)(hp:Hp):dj Tryz.prog .eql 4 (.d (.bool a)) (.d (.bool b)) K hp=K (.d (.bool (a==b))) hp:=by
 show(_∧_)=_;rw[VR];simp
theorem TR{r:Rn}:(nT r).2.br.length≤r.br.length:=by
 unfold nT;split;unfold aC;split<;>exact cR _;simp
theorem OV(r:Rn):(ou r).2.br=r.br:=by
 have a:(bq r).2.br=r.br:=by
  unfold bq;split;split;unfold aC;split<;>rfl;rfl;rfl
 unfold ou;simp only;split;unfold aC;split<;>exact a;exact a
theorem OW{C:List AV}(e:jG C)(f:Nat)(D:f<256)(r:Rn)(J:List Bool)(H:Nat)(w:StOk r.main r.alt)(z:r.br.length≤100000):dr Tryz.prog 3 (aI C) 169 ⟨r,J,H⟩ [.ptr 0 0 0 1,.d (.int .u8 (f:Int))]
  (fun v i=>v=.d (.bool (pe f r).isSome)∧∃g,i=⟨(pe f r).getD r,g,H⟩):=by
 refine ap Tryz.func169 (by kernel_rfl) rfl Tryz.ntmps169 (rs:=[.tmp 4]) rfl (dJ rfl) (by decide) ?_;have n:=e.2.2;have E:=G0 r;by_cases o:f=99∨f=100
 ·have l:pe f r=some (if je r=0 then nh (decide ((ou r).1=decide (f=99))) (ou r).2 else nh false r):=if_pos o;rw[l];by_cases a:je r=0
  ·rw[if_pos a];have k:(ou r).2.br.length≤1000000:=by rw[OV];omega
   have c:=Ya e r J H w;generalize ou r=p at *;obtain⟨d,h⟩:=p;simp only at k c⊢;rcases o with rfl|rfl
   ·simp[go_sem];rw[bH];simp only[aI,bJ,bI,id];simp[go_sem,n,a];refine aR (Pp:=[]) (s:=⟨r,J,H⟩) e c (by simp[bH,aI,bJ,bI,a]) aq aw (by simp[AV.renL]) ?_;rintro v i ρ ⟨rfl,rfl⟩ q;simp[go_sem,AV.ren,VS];refine aR (Pp:=[]) (s:=⟨h,J,H⟩) e (sV e (h) J H (d) aq) (by first|rfl|simp[bH,aI,bJ,bI,a]) aq aw (by simp[AV.renL,AV.ren]) ?_;rintro v i ρ' ⟨g,rfl⟩ j;rw[bH];generalize nh (d) (h)=r';simp only[aI,bJ,bI,id];simp[go_sem,ah];exact⟨_,⟨g,rfl⟩,aF rfl rfl rfl⟩
   ·simp[go_sem];rw[bH];simp only[aI,bJ,bI,id];simp[go_sem,n,a];refine aR (Pp:=[]) (s:=⟨r,J,H⟩) e c (by simp[bH,aI,bJ,bI,a]) aq aw (by simp[AV.renL]) ?_;rintro v i ρ ⟨rfl,rfl⟩ q;simp[go_sem,AV.ren,VS];refine aR (Pp:=[]) (s:=⟨h,J,H⟩) e (sV e (h) J H (!d) aq) (by first|rfl|simp[bH,aI,bJ,bI,a]) aq aw (by simp[AV.renL,AV.ren]) ?_;rintro v i ρ' ⟨g,rfl⟩ j;rw[bH];generalize nh (!d) (h)=r';simp only[aI,bJ,bI,id];simp[go_sem,ah];exact⟨_,⟨g,rfl⟩,aF rfl rfl rfl⟩
  ·rw[if_neg a];rcases o with rfl|rfl
   ·simp[go_sem];rw[bH];simp only[aI,bJ,bI,id];simp[go_sem,n,a];refine aR (Pp:=[]) (s:=⟨r,J,H⟩) e (sV e (r) J H (false) aq) (by first|rfl|simp[bH,aI,bJ,bI,a]) aq aw (by simp[AV.renL,AV.ren]) ?_;rintro v i ρ' ⟨g,rfl⟩ j;rw[bH];generalize nh (false) (r)=r';simp only[aI,bJ,bI,id];simp[go_sem,ah];exact⟨_,⟨g,rfl⟩,aF rfl rfl rfl⟩
   ·simp[go_sem];rw[bH];simp only[aI,bJ,bI,id];simp[go_sem,n,a];refine aR (Pp:=[]) (s:=⟨r,J,H⟩) e (sV e (r) J H (false) aq) (by first|rfl|simp[bH,aI,bJ,bI,a]) aq aw (by simp[AV.renL,AV.ren]) ?_;rintro v i ρ' ⟨g,rfl⟩ j;rw[bH];generalize nh (false) (r)=r';simp only[aI,bJ,bI,id];simp[go_sem,ah];exact⟨_,⟨g,rfl⟩,aF rfl rfl rfl⟩
 ·by_cases t:f=103
  ·subst t;have l:pe 103 r=some (match nT r with|(some b,r')=>nh (!b) r'|(none,r')=>r'):=rfl;rw[l];have k:(nT r).2.br.length≤1000000:=by have:=@TR r;omega
   have c:=IX e r J H aq;generalize nT r=p at *;obtain⟨d,h⟩:=p;simp only at k c⊢;simp[go_sem];refine eK (Pp:=[]) (s:=⟨r,J,H⟩) e c aq aw (by simp[AV.renL]) ?_;rintro v i ρ ⟨rfl,m,rfl⟩ q
   cases d with
   |none =>
    rw[bH];simp only[aI,bJ,bI,id];simp[go_sem,AV.ren,AV.renL,TP,ah];exact⟨_,⟨m,rfl⟩,aF rfl rfl rfl⟩
   |some b =>
    simp[go_sem,AV.ren,AV.renL,TP];refine aR (Pp:=[]) (s:=⟨h,m,H⟩) e (sV e (h) m H (!b) aq) (by first|rfl|simp[bH,aI,bJ,bI]) aq aw (by simp[AV.renL,AV.ren]) ?_;rintro v i ρ' ⟨g,rfl⟩ j;rw[bH];generalize nh (!b) (h)=r';simp only[aI,bJ,bI,id];simp[go_sem,ah];exact⟨_,⟨g,rfl⟩,aF rfl rfl rfl⟩
  ·by_cases u:f=104
   ·subst u;have l:pe 104 r=some (nT r).2:=rfl;rw[l];have c:=IX e r J H aq;generalize nT r=p at *;obtain⟨d,h⟩:=p;simp only at c⊢;simp[go_sem];refine eK (Pp:=[]) (s:=⟨r,J,H⟩) e c aq aw (by simp[AV.renL]) ?_;rintro v i ρ ⟨rfl,m,rfl⟩ q;rw[bH];simp only[aI,bJ,bI,id];simp[go_sem,ah];exact⟨_,⟨m,rfl⟩,aF rfl rfl rfl⟩
   ·have l:pe f r=none:=by
     unfold pe;rw[if_neg o,if_neg t,if_neg u]
    rw[l];have y:¬(f:Int)=99:=aq;have i2:¬(f:Int)=100:=aq;have i3:¬(f:Int)=103:=aq;have x:¬(f:Int)=104:=aq;have A:¬f=99:=aq;have B:¬f=100:=aq;rw[bH];simp only[aI,bJ,bI,id];simp[go_sem,y,i2,i3,x,ah];exact⟨_,⟨J,rfl⟩,aF rfl rfl rfl⟩
end Go.Proofs.YtmfnimjnneflnaaGreat
namespace Go.Sha
def dZ(x:Int):Prop:=0≤x∧x<18446744073709551616
def Wn(n:Nat)(l:List Int):Prop:=l.length=n∧∀x,x∈l→dZ x
def ga{σ:Type}(f:Nat→σ→σ)(s:σ):Nat→σ
 |0=>s
 |k+1=>f k (ga f s k)
theorem j5{σ:Type}{f:Nat→σ→σ}{s:σ}{P:Nat→σ→Prop}(a:P 0 s)(b:∀k s,P k s→P (k+1) (f k s)):∀k,P k (ga f s k)
 |0=>a
 |k+1=>b k _ (j5 a b k)
theorem pick{α β:Type}[Inhabited β]{A:α→Prop}{B:α→β→Prop}(h:∀x,A x→∃y,B x y):∃F:α→β,∀x,A x→B x (F x):=by
 classical
 refine⟨fun x=>if a:A x then(h x a).choose else default,fun x a=>?_⟩;simp only[dif_pos a];exact(h x a).choose_spec
theorem x6:dZ 0:=⟨aq,aq⟩
theorem TS(x:Int):dZ (IntKind.u64.wrap x):=by
 have:IntKind.u64.wrap x=x%18446744073709551616:=by simp[IntKind.wrap,IntKind.bits,IntKind.signed]
 rw[this];exact⟨Int.emod_nonneg _ aq,Int.emod_lt_of_pos _ aq⟩
theorem rI{n k:Nat}{l:List Int}{x:Int}(h:Wn n l)(b:dZ x):Wn n (l.set k x):=by
 refine⟨by rw[List.length_set];exact h.1,fun y a=>?_⟩;rcases List.mem_or_eq_of_mem_set a with a|rfl;exact h.2 y a;exact b
theorem aba(n:Nat):Wn n (List.replicate n 0):=⟨aw,fun x a=>by rw[List.eq_of_mem_replicate a];exact x6⟩
theorem Yb{n k:Nat}{l:List Int}(h:Wn n l)(c:k<n):∃x,l[k]?=some x∧dZ x:=by
 obtain⟨b,a⟩:=h;refine⟨l[k]'aq,cm aq,a _ (List.getElem_mem _)⟩
def gI(l:List Int)(k:Nat):Int:=l.getD k 0
theorem dG{n k:Nat}{l:List Int}(h:Wn n l):dZ (gI l k):=by
 unfold gI;rw[cS];by_cases a:k<n;obtain⟨x,e,b⟩:=Yb h a;rw[e];exact b;rw[List.getElem?_eq_none (by rw[h.1];omega)];exact x6
theorem ko{l:List Int}{k:Nat}(h:k<l.length):l[k]?=some (gI l k):=by
 unfold gI;rw[cS,cm h];rfl
end Go.Sha
namespace Go.Proofs.YtmfnimjnneflnaaGreat
open Go.Am Go.Sha
def cI(l:List Int):List AV:=l.map fun x=>AV.d (.int .u64 x)
theorem fF(l:List Int):(cI l).length=l.length:=by simp[cI]
theorem G1(l:List Int)(i:Nat):(cI l)[i]?=(l[i]?).map fun x=>AV.d (.int .u64 x):=by simp[cI]
theorem pg(l:List Int)(i:Nat)(x:Int):(cI l).set i (.d (.int .u64 x))=cI (l.set i x):=by simp[cI,List.map_set]
theorem cE(n:Nat)(l:List Int):∀v,v∈cI l→v.low1 n:=by
 intro v a;rw[cI,List.mem_map]at a;obtain⟨x,_,rfl⟩:=a;trivial
theorem j6(l:List Int):∀c,c∈cI l→c.deep1:=by
 intro c hc;rw[cI,List.mem_map]at hc;obtain⟨x,_,rfl⟩:=hc;trivial
theorem fO(l:List Int):(AV.agg (cI l)).deep:=j6 l
theorem ae{l:List Int}{n:Nat}(h:l.length=n):(cI l).take n=cI l:=cx (by rw[fF];omega)
theorem be{l:List Int}{n:Nat}(h:l.length=n):(cI l).drop n=[]:=dg (by rw[fF];omega)
theorem aN(a b:List Int):∀v,v∈[AV.agg (cI a),AV.agg (cI b)]→v.deep:=by
 intro v c;simp at c;rcases c with rfl|rfl<;>exact fO _
theorem aS(a:List Int):∀v,v∈[AV.agg (cI a)]→v.deep:=by
 intro v b;simp at b;subst b;exact fO _
def zI:List Int:=[0,0,0,0]
theorem kR:Wn 4 zI:=aba 4
theorem qf{w:World}{S:Nat→Prop}{σ:Nat→Option Nat}{hp:Hp}{U:Nat→Prop}{k:IntKind}{n:Int}{x:Value}(h:AIs w S σ hp U (.d (.int k n)) x):x=.int k n:=by
 cases h with
 |d h=>cases h;rfl
def OX:Array Value→Sem Value:=fun args=>do
 let (x, y, b) ← Extern.MathBitsCarry.three "Sub64" args
 pure (Extern.MathBitsCarry.pair ((x+Extern.MathBitsCarry.m64-y-b)%Extern.MathBitsCarry.m64) (if x<y+b then 1 else 0))
theorem G2{P:Program}(x y:Int)(k:Nat)(a:k≤1)(w:World) :
  (OX #[.int .u64 x,.int .u64 y,.int .u64 (k:Int)]).run P w =
   .ok (Extern.MathBitsCarry.pair ((x.toNat+Extern.MathBitsCarry.m64-y.toNat-k)%Extern.MathBitsCarry.m64) (if x.toNat<y.toNat+k then 1 else 0)) w:=by
 have:k=0∨k=1:=aq;rcases this with rfl|rfl<;>rfl
def C1(c:Int):Prop:=0≤c∧c≤1
theorem EI:C1 0:=⟨aq,aq⟩
theorem IY{w:World}{S:Nat→Prop}{σ:Nat→Option Nat}{hp:Hp}{U:Nat→Prop}{a b:Int}:AIs w S σ hp U (.tup [.d (.int .u64 a),.d (.int .u64 b)]) (.tuple #[.int .u64 a,.int .u64 b]):=by
 refine .tup _ #[.int .u64 a,.int .u64 b] rfl fun i c x hc e=>?_
 match i with
 |0=>simp at hc e;subst hc e;exact .d (.int _ _)
 |1=>simp at hc e;subst hc e;exact .d (.int _ _)
 |n+2=>simp at hc
theorem OY(x y c:Int)(g:dZ x)(h:dZ y)(hc:C1 c):∃s d:Int,dZ s∧C1 d∧s+18446744073709551616*d=x+y+c∧rT Tryz.prog 162 [.d (.int .u64 x),.d (.int .u64 y),.d (.int .u64 c)] (.tup [.d (.int .u64 s),.d (.int .u64 d)]):=by
 refine⟨(x+y+c)%18446744073709551616,(x+y+c)/18446744073709551616,⟨Int.emod_nonneg _ aq,Int.emod_lt_of_pos _ aq⟩,?_,aq,?_⟩;obtain⟨r,u⟩:=g;obtain⟨o,q⟩:=h;obtain⟨t,n⟩:=hc;exact⟨aq,aq⟩
 ·intro w S σ p U m l f
  match m,l with
  |[a,b,e],_ =>
   have i:=qf (f 0 _ a rfl rfl);have k:=qf (f 1 _ b rfl rfl);have j:=qf (f 2 _ e rfl rfl);subst i k j;refine⟨_,?_,IY⟩;rw[run_callFunc_extern Tryz.func162 (by kernel_rfl) (by kernel_rfl) (by kernel_rfl) (e:=add64Entry) (by kernel_rfl),run_add64 x y c g.1 h.1 hc.1 hc.2];rfl
theorem OZ(x y c:Int)(g:dZ x)(m:dZ y)(hc:C1 c):∃s d:Int,dZ s∧C1 d∧s-18446744073709551616*d=x-y-c∧rT Tryz.prog 179 [.d (.int .u64 x),.d (.int .u64 y),.d (.int .u64 c)] (.tup [.d (.int .u64 s),.d (.int .u64 d)]):=by
 obtain⟨k,rfl⟩:=Int.eq_ofNat_of_zero_le hc.1;have o:k≤1:=by have:=hc.2;omega
 refine⟨((((x.toNat+Extern.MathBitsCarry.m64-y.toNat-k)%Extern.MathBitsCarry.m64:Nat)):Int),(((if x.toNat<y.toNat+k then 1 else 0:Nat)):Int),?_,?_,?_,?_⟩;have p:(x.toNat+Extern.MathBitsCarry.m64-y.toNat-k)%Extern.MathBitsCarry.m64<Extern.MathBitsCarry.m64:=Nat.mod_lt _ (by decide);have e:Extern.MathBitsCarry.m64=18446744073709551616:=by decide
 exact⟨Int.natCast_nonneg _,by rw[e]at p⊢;omega⟩;split;exact⟨aq,aq⟩;exact⟨aq,aq⟩;have e:Extern.MathBitsCarry.m64=18446744073709551616:=by decide
 obtain⟨u,v⟩:=g;obtain⟨q,t⟩:=m;rw[e];split<;>omega
 ·intro w S σ r U n l f
  match n,l with
  |[a,b,e],_ =>
   have h:=qf (f 0 _ a rfl rfl);have j:=qf (f 1 _ b rfl rfl);have i:=qf (f 2 _ e rfl rfl);subst h j i;refine⟨_,?_,IY⟩;rw[run_callFunc_extern Tryz.func179 (by kernel_rfl) (by kernel_rfl) (by kernel_rfl) (e:=OX) (by kernel_rfl),G2 x y k o];rfl
theorem O0(z:Int)(a:0≤z)(b:z<18446744073709551616):Go.bits .and .u64 z 4294967295=z%4294967296:=by
 obtain⟨n,rfl⟩:=Int.eq_ofNat_of_zero_le a;have h:=bits_and_u64_nat n 4294967295 aq aq;rw[nat_mask32]at h;rw[Int.natCast_emod]at h;exact h
theorem O4(x y:Int)(b:dZ x)(a:dZ y):∃s d:Int,dZ s∧dZ d∧d+18446744073709551616*s=x*y∧au Tryz.prog 187 [.d (.int .u64 x),.d (.int .u64 y)] (fun r=>r=.tup [.d (.int .u64 s),.d (.int .u64 d)]):=by
 have K:0≤x*y∧x*y≤18446744073709551615*18446744073709551615:=⟨Int.mul_nonneg b.1 a.1,by
  have L:=b.2;have Q:=a.2;have v:=a.1
  exact Int.mul_le_mul aq aq v aq⟩
 have M:=mul64_arith x y b.1 b.2 a.1 a.2;have w:∀z,IntKind.u64.wrap z=z%18446744073709551616:=fun z=>by simp[IntKind.wrap,IntKind.bits,IntKind.signed]
 refine⟨x*y/18446744073709551616,x*y%18446744073709551616,⟨aq,aq⟩,⟨Int.emod_nonneg _ aq,Int.emod_lt_of_pos _ aq⟩,aq,?_⟩;refine bF Tryz.func187 Tryz.ntmps187 (rs:=[.tmp 4,.tmp 5]) a9 ?_;simp[go_sem,ah,IntKind.bits,w];refine aa a9 ?_;have j:∀z:Int,Int.fdiv z 4294967296=z/4294967296:=fun z=>Int.fdiv_eq_ediv_of_nonneg _ aq;have G:∀z:Int,Go.bits .and .u64 (z%18446744073709551616) 4294967295=z%18446744073709551616%4294967296:=fun z=>O0 _ (Int.emod_nonneg _ aq) (Int.emod_lt_of_pos _ aq);simp only[j,O0 x b.1 b.2,O0 y a.1 a.2,G]
 have e:∀A B C D:Int,0≤A∧A≤18446744065119617025→0≤B∧B≤18446744065119617025→0≤C∧C≤18446744065119617025→0≤D∧D≤18446744065119617025 →
   (A+(B+C%18446744073709551616/4294967296)%18446744073709551616/4294967296+((B+C%18446744073709551616/4294967296)%18446744073709551616%4294967296+D)%18446744073709551616/4294967296)%18446744073709551616=(A*18446744073709551616+(B+D)*4294967296+C)/18446744073709551616:=by
  intro A B C D P N J O;omega
 obtain⟨c,g,i,q,l,m,t⟩:∃c g:Int,x=c*4294967296+g∧0≤c∧c≤4294967295∧0≤g∧g≤4294967295:=⟨x/4294967296,x%4294967296,aq,by have:=b.1;omega,by have:=b.2;omega,aq,aq⟩;obtain⟨f,h,k,u,p,o,n⟩:∃f h:Int,y=f*4294967296+h∧0≤f∧f≤4294967295∧0≤h∧h≤4294967295:=⟨y/4294967296,y%4294967296,aq,by have:=a.1;omega,by have:=a.2;omega,aq,aq⟩;have E:x/4294967296=c:=aq;have H:x%4294967296=g:=aq;have F:y/4294967296=f:=aq;have I:y%4294967296=h:=aq;rw[E,H,F,I,e _ _ _ _ (prod_bound c f q l u p) (prod_bound c h q l o n) (prod_bound g h m t o n) (prod_bound g f m t u p),←split_mul,←i,←k]
theorem BR(x:Int):IntKind.u64.wrap x=x%18446744073709551616:=by simp[IntKind.wrap,IntKind.bits,IntKind.signed]
def ni(A:Int×Int×Int→Int×Int)(a b:List Int)(k:Nat)(s:List Int×Int):List Int×Int :=
 (s.1.set k (A (gI a k,gI b k,s.2)).1,(A (gI a k,gI b k,s.2)).2)
def yP(A:Int×Int×Int→Int×Int)(M:Int×Int→Int×Int)(a:List Int)(k:Nat)(s:List Int×Int):List Int×Int :=
 (s.1.set k (A ((M (gI a k,4294968273)).2,s.2,0)).1,IntKind.u64.wrap ((M (gI a k,4294968273)).1+(A ((M (gI a k,4294968273)).2,s.2,0)).2))
def FI:List Int:=[0,0,0,0,0,0,0,0]
theorem abb:Wn 8 FI:=aba 8
def pl(i k:Nat):Nat:=i+k
def EJ(A:Int×Int×Int→Int×Int)(M:Int×Int→Int×Int)(a b:List Int)(i k:Nat)(s:List Int×Int):List Int×Int :=
 (s.1.set (pl i k) (A ((A ((M (gI a i,gI b k)).2,gI s.1 (pl i k),0)).1,s.2,0)).1,IntKind.u64.wrap (IntKind.u64.wrap ((M (gI a i,gI b k)).1+(A ((M (gI a i,gI b k)).2,gI s.1 (pl i k),0)).2)+(A ((A ((M (gI a i,gI b k)).2,gI s.1 (pl i k),0)).1,s.2,0)).2))
def sW(A:Int×Int×Int→Int×Int)(M:Int×Int→Int×Int)(a b:List Int)(i:Nat)(p:List Int):List Int :=
 (ga (EJ A M a b i) (p,0) 4).1.set (pl i 4) (ga (EJ A M a b i) (p,0) 4).2
def V:List Int→Int
 |[]=>0
 |x::r=>x+18446744073709551616*V r
theorem V4(a b c d:Int):V [a,b,c,d]=a+18446744073709551616*(b+18446744073709551616*(c+18446744073709551616*d)):=by simp[V]
theorem kp{l:List Int}(h:Wn 4 l):∃a b c d,l=[a,b,c,d]∧dZ a∧dZ b∧dZ c∧dZ d:=by
 obtain⟨f,e⟩:=h
 match l,f with
 |[a,b,c,d],_=>exact⟨a,b,c,d,rfl,e a aw,e b aw,e c aw,e d aw⟩
theorem lO{l:List Int}(h:Wn 4 l):0≤V l∧V l<115792089237316195423570985008687907853269984665640564039457584007913129639936:=by
 obtain⟨a,b,c,d,rfl,f,e,hc,g⟩:=kp h;rw[V4];unfold dZ at *;omega
theorem VT{l m:List Int}(h:Wn 4 l)(i:Wn 4 m)(e:V l=V m):l=m:=by
 obtain⟨a,b,c,d,rfl,v,w,hc,x⟩:=kp h;obtain⟨g,j,r,n,rfl,f,k,o,q⟩:=kp i;rw[V4,V4]at e;unfold dZ at *;have s:a=g:=aq;have t:b=j:=aq;have p:c=r:=aq;have u:d=n:=aq;rw[s,t,p,u]
def K0(A:Int×Int×Int→Int×Int):Prop:=∀x,dZ x.1∧dZ x.2.1∧C1 x.2.2→dZ (A x).1∧C1 (A x).2∧(A x).1+18446744073709551616*(A x).2=x.1+x.2.1+x.2.2
def abd(A:Int×Int×Int→Int×Int):Prop:=∀x,dZ x.1∧dZ x.2.1∧C1 x.2.2→dZ (A x).1∧C1 (A x).2∧(A x).1-18446744073709551616*(A x).2=x.1-x.2.1-x.2.2
def O5(M:Int×Int→Int×Int):Prop:=∀x,dZ x.1∧dZ x.2→dZ (M x).1∧dZ (M x).2∧(M x).2+18446744073709551616*(M x).1=x.1*x.2
theorem adX{A:Int×Int×Int→Int×Int}(j:K0 A){a b:List Int}(w:Wn 4 a)(x:Wn 4 b) :
  V (ga (ni A a b) (zI,0) 4).1+115792089237316195423570985008687907853269984665640564039457584007913129639936*(ga (ni A a b) (zI,0) 4).2=V a+V b:=by
 obtain⟨c,f,h,i,rfl,r,p,o,q⟩:=kp w;obtain⟨d,g,b2,b3,rfl,m,n,k,l⟩:=kp x;have y:C1 0:=⟨aq,aq⟩;have u:=j (c,d,0) ⟨r,m,y⟩;have s:=j (f,g,(A (c,d,0)).2) ⟨p,n,u.2.1⟩;have t:=j (h,b2,(A (f,g,(A (c,d,0)).2)).2) ⟨o,k,s.2.1⟩;have v:=j (i,b3,(A (h,b2,(A (f,g,(A (c,d,0)).2)).2)).2) ⟨q,l,t.2.1⟩;have e:ga (ni A [c,f,h,i] [d,g,b2,b3]) (zI,0) 4=([(A (c,d,0)).1,(A (f,g,(A (c,d,0)).2)).1,(A (h,b2,(A (f,g,(A (c,d,0)).2)).2)).1,(A (i,b3,(A (h,b2,(A (f,g,(A (c,d,0)).2)).2)).2)).1],(A (i,b3,(A (h,b2,(A (f,g,(A (c,d,0)).2)).2)).2)).2):=rfl;rw[e,V4,V4,V4];generalize A (i,b3,(A (h,b2,(A (f,g,(A (c,d,0)).2)).2)).2)=q3 at *;generalize A (h,b2,(A (f,g,(A (c,d,0)).2)).2)=q2 at *;generalize A (f,g,(A (c,d,0)).2)=q1 at *;generalize A (c,d,0)=q0 at *;obtain⟨_,_,B⟩:=u;obtain⟨_,_,C⟩:=s;obtain⟨_,_,D⟩:=t;obtain⟨_,_,z⟩:=v;dsimp only at *;omega
theorem adY{A:Int×Int×Int→Int×Int}(j:abd A){a b:List Int}(w:Wn 4 a)(x:Wn 4 b) :
  V (ga (ni A a b) (zI,0) 4).1-115792089237316195423570985008687907853269984665640564039457584007913129639936*(ga (ni A a b) (zI,0) 4).2=V a-V b:=by
 obtain⟨c,f,h,i,rfl,r,p,o,q⟩:=kp w;obtain⟨d,g,b2,b3,rfl,m,n,k,l⟩:=kp x;have y:C1 0:=⟨aq,aq⟩;have u:=j (c,d,0) ⟨r,m,y⟩;have s:=j (f,g,(A (c,d,0)).2) ⟨p,n,u.2.1⟩;have t:=j (h,b2,(A (f,g,(A (c,d,0)).2)).2) ⟨o,k,s.2.1⟩;have v:=j (i,b3,(A (h,b2,(A (f,g,(A (c,d,0)).2)).2)).2) ⟨q,l,t.2.1⟩;have e:ga (ni A [c,f,h,i] [d,g,b2,b3]) (zI,0) 4=([(A (c,d,0)).1,(A (f,g,(A (c,d,0)).2)).1,(A (h,b2,(A (f,g,(A (c,d,0)).2)).2)).1,(A (i,b3,(A (h,b2,(A (f,g,(A (c,d,0)).2)).2)).2)).1],(A (i,b3,(A (h,b2,(A (f,g,(A (c,d,0)).2)).2)).2)).2):=rfl;rw[e,V4,V4,V4];generalize A (i,b3,(A (h,b2,(A (f,g,(A (c,d,0)).2)).2)).2)=q3 at *;generalize A (h,b2,(A (f,g,(A (c,d,0)).2)).2)=q2 at *;generalize A (f,g,(A (c,d,0)).2)=q1 at *;generalize A (c,d,0)=q0 at *;obtain⟨_,_,B⟩:=u;obtain⟨_,_,C⟩:=s;obtain⟨_,_,D⟩:=t;obtain⟨_,_,z⟩:=v;dsimp only at *;omega
theorem IZ{A:Int×Int×Int→Int×Int}{M:Int×Int→Int×Int}(d:K0 A)(i:O5 M){x y p c:Int}(a:dZ x)(e:dZ y)(hp:dZ p)(hc:dZ c) :
  dZ (A ((A ((M (x,y)).2,p,0)).1,c,0)).1∧dZ (IntKind.u64.wrap (IntKind.u64.wrap ((M (x,y)).1+(A ((M (x,y)).2,p,0)).2)+(A ((A ((M (x,y)).2,p,0)).1,c,0)).2)) ∧
  (A ((A ((M (x,y)).2,p,0)).1,c,0)).1+18446744073709551616*IntKind.u64.wrap (IntKind.u64.wrap ((M (x,y)).1+(A ((M (x,y)).2,p,0)).2)+(A ((A ((M (x,y)).2,p,0)).1,c,0)).2)=x*y+p+c:=by
 have b:C1 0:=⟨aq,aq⟩;obtain⟨k,h,n⟩:=i (x,y) ⟨a,e⟩;generalize M (x,y)=m at *;obtain⟨j,l,o⟩:=d (m.2,p,0) ⟨h,hp,b⟩;generalize A (m.2,p,0)=q at *;obtain⟨g,k2,k3⟩:=d (q.1,c,0) ⟨j,hc,b⟩;generalize A (q.1,c,0)=r at *;have f:x*y≤18446744073709551615*18446744073709551615:=by
  unfold dZ at a e;exact Int.mul_le_mul aq aq aq aq
 dsimp only at *;simp only[BR]at *;unfold dZ C1 at *;generalize x*y=z at *;refine⟨g,⟨aq,aq⟩,aq⟩
theorem Ae{l:List Int}{i j:Nat}{x:Int}(h:i≠j):gI (l.set i x) j=gI l j:=by
 unfold gI;rw[cS,cS,List.getElem?_set_ne h]
theorem EK{n:Nat}{l:List Int}(h:Wn n l)(k:Nat):dZ (gI l k):=by
 unfold gI;rw[cS];cases e:l[k]? with
 |none=>exact⟨aw,aw⟩
 |some x=>exact h.2 x (cr e)
theorem TT{A:Int×Int×Int→Int×Int}{M:Int×Int→Int×Int}(h:K0 A)(g:O5 M){a b p:List Int}(F:Wn 4 a)(K:Wn 4 b)(hp:Wn 8 p)(i:Nat) :
  ∃r0 r1 r2 r3 c,dZ r0∧dZ r1∧dZ r2∧dZ r3∧dZ c ∧
   r0+18446744073709551616*(r1+18446744073709551616*(r2+18446744073709551616*(r3+18446744073709551616*c)))=gI a i*V b+(gI p i+18446744073709551616*(gI p (i+1)+18446744073709551616*(gI p (i+2)+18446744073709551616*gI p (i+3)))) ∧
   sW A M a b i p=((((p.set i r0).set (i+1) r1).set (i+2) r2).set (i+3) r3).set (i+4) c:=by
 obtain⟨e,d,b2,b3,rfl,m,n,j,k⟩:=kp K;have f:=EK F i;generalize o:gI a i=x at *;have z:dZ 0:=⟨aq,aq⟩;obtain⟨D,E,r⟩:=IZ h g f m (EK hp i) z;obtain⟨T,J,s⟩:=IZ h g f n (EK hp (i+1)) E;obtain⟨L,u2,u3⟩:=IZ h g f j (EK hp (i+2)) J;obtain⟨B,N,t⟩:=IZ h g f k (EK hp (i+3)) u2;refine⟨_,_,_,_,_,D,T,L,B,N,?_,?_⟩;have q:∀u v:Int,x*(u+18446744073709551616*v)=x*u+18446744073709551616*(x*v):=fun u v=>by rw[Int.mul_add,Int.mul_left_comm]
 rw[V4,q,q,q];revert r s u3 t;generalize gI p i=p0;generalize gI p (i+1)=p1;generalize gI p (i+2)=p2;generalize gI p (i+3)=p3;generalize x*e=y0;generalize x*d=y1;generalize x*b2=y2;generalize x*b3=y3;intro r s u3 t;omega;have P:∀(l:List Int)(y:Int),gI (l.set i y) (i+1)=gI l (i+1):=fun l y=>Ae aq;have H:∀(l:List Int)(y:Int),gI (l.set i y) (i+2)=gI l (i+2):=fun l y=>Ae aq;have Q:∀(l:List Int)(y:Int),gI (l.set i y) (i+3)=gI l (i+3):=fun l y=>Ae aq;have G:∀(l:List Int)(y:Int),gI (l.set (i+1) y) (i+2)=gI l (i+2):=fun l y=>Ae aq;have I:∀(l:List Int)(y:Int),gI (l.set (i+1) y) (i+3)=gI l (i+3):=fun l y=>Ae aq;have O:∀(l:List Int)(y:Int),gI (l.set (i+2) y) (i+3)=gI l (i+3):=fun l y=>Ae aq;have w:gI [e,d,b2,b3] 0=e:=rfl;have S:gI [e,d,b2,b3] 1=d:=rfl;have C:gI [e,d,b2,b3] 2=b2:=rfl;have R:gI [e,d,b2,b3] 3=b3:=rfl;simp only[sW,ga,EJ,pl,o,w,S,C,R,P,H,Q,G,I,O,Nat.add_zero]
theorem O6{A:Int×Int×Int→Int×Int}{M:Int×Int→Int×Int}(D:K0 A)(E:O5 M){a b:List Int}(m:Wn 4 a)(F:Wn 4 b) :
  Wn 8 (ga (sW A M a b) FI 4)∧V (ga (sW A M a b) FI 4)=V a*V b:=by
 obtain⟨f,h,j,i,rfl,ag,ab,R,aw⟩:=kp m;have z:dZ 0:=⟨aq,aq⟩;have Q:Wn 8 FI:=⟨rfl,fun x c=>by simp[FI]at c;subst c;exact z⟩;obtain⟨d,n,t,s,o,av,ax,O,ap,S,T,f0⟩:=TT D E m F Q 0;have I:sW A M [f,h,j,i] b 0 FI=[d,n,t,s,o,0,0,0]:=f0;have w1:Wn 8 [d,n,t,s,o,0,0,0]:=⟨rfl,fun x c=>by simp at c;rcases c with rfl|rfl|rfl|rfl|rfl|rfl<;>assumption⟩;obtain⟨g,w,p,u,r,af,al,N,aa,ao,e1,L⟩:=TT D E m F w1 1;have H:sW A M [f,h,j,i] b 1 [d,n,t,s,o,0,0,0]=[d,g,w,p,u,r,0,0]:=L;have w2:Wn 8 [d,g,w,p,u,r,0,0]:=⟨rfl,fun x c=>by simp at c;rcases c with rfl|rfl|rfl|rfl|rfl|rfl|rfl<;>assumption⟩;obtain⟨l,C,q,v,c2,ae,ar,U,aj,ah,X,W⟩:=TT D E m F w2 2;have G:sW A M [f,h,j,i] b 2 [d,g,w,p,u,r,0,0]=[d,g,l,C,q,v,c2,0]:=W;have w3:Wn 8 [d,g,l,C,q,v,c2,0]:=⟨rfl,fun x c=>by simp at c;rcases c with rfl|rfl|rfl|rfl|rfl|rfl|rfl|rfl<;>assumption⟩;obtain⟨y,B,u2,u3,c3,ak,Z,am,an,ac,P,f3⟩:=TT D E m F w3 3;have J:sW A M [f,h,j,i] b 3 [d,g,l,C,q,v,c2,0]=[d,g,l,y,B,u2,u3,c3]:=f3
 have e:ga (sW A M [f,h,j,i] b) FI 4=[d,g,l,y,B,u2,u3,c3]:=by
  simp only[ga];rw[I,H,G,J]
 rw[e];refine⟨⟨rfl,fun x c=>by simp at c;rcases c with rfl|rfl|rfl|rfl|rfl|rfl|rfl|rfl<;>assumption⟩,?_⟩
 have k:V [f,h,j,i]*V b=f*V b+18446744073709551616*(h*V b+18446744073709551616*(j*V b+18446744073709551616*(i*V b))):=by
  rw[V4,Int.add_mul,Int.mul_assoc,Int.add_mul,Int.mul_assoc,Int.add_mul,Int.mul_assoc]
 have k2:V [d,g,l,y,B,u2,u3,c3]=d+18446744073709551616*(g+18446744073709551616*(l+18446744073709551616*(y+18446744073709551616*(B+18446744073709551616*(u2+18446744073709551616*(u3+18446744073709551616*c3)))))):=by simp[V]
 rw[k,k2];have K:gI [f,h,j,i] 0*V b+(0+18446744073709551616*(0+18446744073709551616*(0+18446744073709551616*0)))=f*V b:=by show f*V b+_=_;omega
 have ai:d+18446744073709551616*(n+18446744073709551616*(t+18446744073709551616*(s+18446744073709551616*o)))=f*V b:=T.trans K;have Y:g+18446744073709551616*(w+18446744073709551616*(p+18446744073709551616*(u+18446744073709551616*r)))=h*V b+(n+18446744073709551616*(t+18446744073709551616*(s+18446744073709551616*o))):=e1;have ad:l+18446744073709551616*(C+18446744073709551616*(q+18446744073709551616*(v+18446744073709551616*c2)))=j*V b+(w+18446744073709551616*(p+18446744073709551616*(u+18446744073709551616*r))):=X;have au:y+18446744073709551616*(B+18446744073709551616*(u2+18446744073709551616*(u3+18446744073709551616*c3)))=i*V b+(C+18446744073709551616*(q+18446744073709551616*(v+18446744073709551616*c2))):=P;generalize f*V b=y0 at *;generalize h*V b=y1 at *;generalize j*V b=y2 at *;generalize i*V b=y3 at *;omega
theorem TU{A:Int×Int×Int→Int×Int}{M:Int×Int→Int×Int}(F:K0 A)(y:O5 M){a:List Int}(u:Wn 4 a) :
  V (ga (yP A M a) (zI,0) 4).1+115792089237316195423570985008687907853269984665640564039457584007913129639936*(ga (yP A M a) (zI,0) 4).2=V a*4294968273:=by
 obtain⟨d,b,g,f,rfl,k,i,h,j⟩:=kp u;have z:dZ 0:=⟨aq,aq⟩;have D:C1 0:=⟨aq,aq⟩;have E:dZ 4294968273:=⟨aq,aq⟩;have one:∀x c:Int,dZ x→dZ c→dZ (A ((M (x,4294968273)).2,c,0)).1∧dZ (IntKind.u64.wrap ((M (x,4294968273)).1+(A ((M (x,4294968273)).2,c,0)).2)) ∧
   (A ((M (x,4294968273)).2,c,0)).1+18446744073709551616*IntKind.u64.wrap ((M (x,4294968273)).1+(A ((M (x,4294968273)).2,c,0)).2)=x*4294968273+c:=by
  intro x c t hc;obtain⟨K,w,S⟩:=y (x,4294968273) ⟨t,E⟩;generalize M (x,4294968273)=m at *;obtain⟨B,N,T⟩:=F (m.2,c,0) ⟨w,hc,D⟩;generalize A (m.2,c,0)=q at *;dsimp only at *;simp only[BR]at *;unfold dZ C1 at *;refine⟨B,⟨aq,aq⟩,aq⟩
 obtain⟨L,o,H⟩:=one d 0 k z;obtain⟨Q,v,J⟩:=one b _ i o;obtain⟨O,u2,u3⟩:=one g _ h v;obtain⟨I,P,R⟩:=one f _ j u2;have l:gI [d,b,g,f] 0=d:=rfl;have G:gI [d,b,g,f] 1=b:=rfl;have n:gI [d,b,g,f] 2=g:=rfl;have C:gI [d,b,g,f] 3=f:=rfl;have e:∀p q r s:Int,List.set (List.set (List.set (List.set zI 0 p) 1 q) 2 r) 3 s=[p,q,r,s]:=fun _ _ _ _=>rfl;simp only[ga,yP,l,G,n,C,e,V4];omega
theorem adZ:fQ Tryz.prog 96=some (cI zI):=by kernel_rfl
attribute [go_sem] adZ
theorem Yc:zI.length=4:=rfl
attribute [go_sem] Yc fF G1
theorem BS{Q:AV→Prop}{st:St}{a:List Int}{b:Int}(hq:Q (.tup [.agg (cI a),.d (.int .u64 b)])):dC Q (.tup [.agg (cI a),.d (.int .u64 b)]) st :=
 aa (by
  intro c hc;simp at hc;rcases hc with rfl|rfl;exact .inr ⟨_,rfl,j6 _⟩
  exact .inl trivial) hq
theorem Yd:∃A:Int×Int×Int→Int×Int,K0 A∧∀x,(dZ x.1∧dZ x.2.1∧C1 x.2.2)→dZ (A x).1∧C1 (A x).2∧rT Tryz.prog 162 [.d (.int .u64 x.1),.d (.int .u64 x.2.1),.d (.int .u64 x.2.2)] (.tup [.d (.int .u64 (A x).1),.d (.int .u64 (A x).2)]):=by
 obtain⟨A,b⟩:=pick (α:=Int×Int×Int) (β:=Int×Int) (A:=fun x=>dZ x.1∧dZ x.2.1∧C1 x.2.2) (B:=fun x y=>dZ y.1∧C1 y.2∧y.1+18446744073709551616*y.2=x.1+x.2.1+x.2.2∧rT Tryz.prog 162 [.d (.int .u64 x.1),.d (.int .u64 x.2.1),.d (.int .u64 x.2.2)] (.tup [.d (.int .u64 y.1),.d (.int .u64 y.2)])) (fun x a=>by
  obtain⟨s,d,e,g,c,f⟩:=OY x.1 x.2.1 x.2.2 a.1 a.2.1 a.2.2
  exact⟨(s,d),e,g,c,f⟩)
 exact⟨A,fun x a=>⟨(b x a).1,(b x a).2.1,(b x a).2.2.1⟩,fun x a=>⟨(b x a).1,(b x a).2.1,(b x a).2.2.2⟩⟩
theorem ad0:∃A:Int×Int×Int→Int×Int,abd A∧∀x,(dZ x.1∧dZ x.2.1∧C1 x.2.2)→dZ (A x).1∧C1 (A x).2∧rT Tryz.prog 179 [.d (.int .u64 x.1),.d (.int .u64 x.2.1),.d (.int .u64 x.2.2)] (.tup [.d (.int .u64 (A x).1),.d (.int .u64 (A x).2)]):=by
 obtain⟨A,b⟩:=pick (α:=Int×Int×Int) (β:=Int×Int) (A:=fun x=>dZ x.1∧dZ x.2.1∧C1 x.2.2) (B:=fun x y=>dZ y.1∧C1 y.2∧y.1-18446744073709551616*y.2=x.1-x.2.1-x.2.2∧rT Tryz.prog 179 [.d (.int .u64 x.1),.d (.int .u64 x.2.1),.d (.int .u64 x.2.2)] (.tup [.d (.int .u64 y.1),.d (.int .u64 y.2)])) (fun x a=>by
  obtain⟨s,d,e,g,c,f⟩:=OZ x.1 x.2.1 x.2.2 a.1 a.2.1 a.2.2
  exact⟨(s,d),e,g,c,f⟩)
 exact⟨A,fun x a=>⟨(b x a).1,(b x a).2.1,(b x a).2.2.1⟩,fun x a=>⟨(b x a).1,(b x a).2.1,(b x a).2.2.2⟩⟩
theorem abe:∃M:Int×Int→Int×Int,∀x,dZ (M x).1∧dZ (M x).2∧(dZ x.1∧dZ x.2→(M x).2+18446744073709551616*(M x).1=x.1*x.2∧au Tryz.prog 187 [.d (.int .u64 x.1),.d (.int .u64 x.2)] (fun r=>r=.tup [.d (.int .u64 (M x).1),.d (.int .u64 (M x).2)])):=by
 obtain⟨M,c⟩:=pick (α:=Int×Int) (β:=Int×Int) (A:=fun _=>True) (B:=fun x y=>dZ y.1∧dZ y.2∧(dZ x.1∧dZ x.2→y.2+18446744073709551616*y.1=x.1*x.2∧au Tryz.prog 187 [.d (.int .u64 x.1),.d (.int .u64 x.2)] (fun r=>r=.tup [.d (.int .u64 y.1),.d (.int .u64 y.2)]))) (fun x _=>by
  by_cases a:dZ x.1∧dZ x.2;obtain⟨s,d,e,g,b,f⟩:=O4 x.1 x.2 a.1 a.2;exact⟨(s,d),e,g,fun _=>⟨b,f⟩⟩
  exact⟨(0,0),x6,x6,fun h=>absurd h a⟩)
 exact⟨M,fun x=>c x trivial⟩
theorem I0{M:Int×Int→Int×Int}{C:Int×Int→Prop}(a:∀x,dZ (M x).1∧dZ (M x).2∧(dZ x.1∧dZ x.2→(M x).2+18446744073709551616*(M x).1=x.1*x.2∧C x)):O5 M :=
 fun x b=>⟨(a x).1,(a x).2.1,((a x).2.2 b).1⟩
theorem qh(a b:List Int)(m:Wn 4 a)(o:Wn 4 b):∃(s:List Int)(c:Int),Wn 4 s∧C1 c∧V s+115792089237316195423570985008687907853269984665640564039457584007913129639936*c=V a+V b∧au Tryz.prog 131 [.agg (cI a),.agg (cI b)] (fun r=>r=.tup [.agg (cI s),.d (.int .u64 c)]):=by
 obtain⟨A,x,F⟩:=Yd;have u:∀k,Wn 4 (ga (ni A a b) (zI,0) k).1∧C1 (ga (ni A a b) (zI,0) k).2:=j5 (P:=fun _(s:List Int×Int)=>Wn 4 s.1∧C1 s.2) ⟨kR,EI⟩ fun k s E=>by
  obtain⟨D,H,_⟩:=F (gI a k,gI b k,s.2) ⟨dG m,dG o,E.2⟩;exact⟨rI E.1 D,H⟩
 refine⟨(ga (ni A a b) (zI,0) 4).1,(ga (ni A a b) (zI,0) 4).2,(u 4).1,(u 4).2,adX x m o,?_⟩;refine bF Tryz.func131 Tryz.ntmps131 (rs:=[.cell 4 96,.tmp 5]) (aN a b) ?_;have q:=m.1;have B:=o.1;simp[go_sem,q,B];generalize i:ga (ni A a b) (zI,0)=S at *
 refine av (fun k:Nat=>⟨[(2,.ptr 0 0 0 1),(3,.ptr 32 0 0 1),(4,.ptr 64 0 0 1),(6,.ptr 128 0 0 1),(7,.d (.int .u64 (S k).2)),(9,.d (.int .i64 (k:Int)))],[(128,⟨96,4,[cI (S k).1]⟩),(64,⟨96,4,[cI zI]⟩),(32,⟨96,4,[cI b]⟩),(0,⟨96,4,[cI a]⟩)],1000⟩)
  (fun k=>k≤4) (fun k=>4-k) 0 aq (by
   rw[←i];simp[az,ai,fv,lk,AV.low,AV.low1,ga]
   and_intros<;>first|rfl|exact cE _ _) ?_
 intro k M;obtain⟨t,p⟩:=u k;have g:=t.1;have I:=ay (k:=k) aq;simp only[go_sem,Nat.reduceEqDiff,Nat.reduceAdd,Nat.reduceLT,↓reduceIte];by_cases v:k<4
 ·refine⟨fun h=>?_,fun h=>absurd (by exact_mod_cast v) h⟩;have z:=ko (l:=a) (k:=k) aq;have w:=ko (l:=b) (k:=k) aq;have j:S (k+1)=ni A a b k (S k):=by rw[←i];rfl
  obtain⟨D,H,h3⟩:=F (gI a k,gI b k,(S k).2) ⟨dG m,dG o,p⟩;simp only[ni]at j;generalize A (gI a k,gI b k,(S k).2)=y at *;have e:(k:Int)<4:=aq;refine dE [0,1,2,3,4,5,6,7] [8,11,13,14] [0,1,2,3,4,5,6,7,9,10,12] (.step 8 [9,10,12] true (.alt (bt 11 (a_ [13,14])) (a_ [13,11,14]))) ⟨[(2,.ptr 0 0 0 1),(3,.ptr 32 0 0 1),(4,.ptr 64 0 0 1),(6,.ptr 128 0 0 1),(7,.d (.int .u64 y.2)),(9,.d (.int .i64 (k:Int)))],[(128,⟨96,4,[cI ((S k).1.set k y.1)]⟩),(64,⟨96,4,[cI zI]⟩),(32,⟨96,4,[cI b]⟩),(0,⟨96,4,[cI a]⟩)],9000⟩ (k:=15) ?h3 ?hq
  case h3 =>
   intro G J;have C:∀f:Fr,(fv 2 f=.ptr 0 0 0 1∧fv 3 f=.ptr 32 0 0 1∧fv 4 f=.ptr 64 0 0 1∧fv 6 f=.ptr 128 0 0 1∧fv 7 f=.d (.int .u64 y.2)∧fv 9 f=.d (.int .i64 (k:Int)))→G f [(128,⟨96,4,[cI ((S k).1.set k y.1)]⟩),(64,⟨96,4,[cI zI]⟩),(32,⟨96,4,[cI b]⟩),(0,⟨96,4,[cI a]⟩)]:=by
    rintro f⟨Q,L,R,N,O,K⟩;exact J _ _ qC
   simp[go_sem,z,w,e];refine tW h3 ?_;simp[go_sem,g,pg,dI,e];and_intros<;>first|exact v|exact C _ ⟨rfl,rfl,rfl,rfl,rfl,rfl⟩|(refine C _ ?_;simp[fv,lk])
  case hq =>
   simp[go_sem,I];refine am (k+1) aq aq ?_;rw[j];simp[az,ai,fv,lk,AV.low,AV.low1];and_intros<;>exact cE _ _
 ·refine⟨fun h=>absurd (by exact_mod_cast h) v,fun h=>?_⟩;have e:k=4:=aq;subst e;simp[go_sem,g,ae g,be (l:=zI) (n:=4) rfl];exact BS rfl
theorem sX(a b:List Int)(m:Wn 4 a)(o:Wn 4 b):∃(s:List Int)(c:Int),Wn 4 s∧C1 c∧V s-115792089237316195423570985008687907853269984665640564039457584007913129639936*c=V a-V b∧au Tryz.prog 157 [.agg (cI a),.agg (cI b)] (fun r=>r=.tup [.agg (cI s),.d (.int .u64 c)]):=by
 obtain⟨A,x,F⟩:=ad0;have u:∀k,Wn 4 (ga (ni A a b) (zI,0) k).1∧C1 (ga (ni A a b) (zI,0) k).2:=j5 (P:=fun _(s:List Int×Int)=>Wn 4 s.1∧C1 s.2) ⟨kR,EI⟩ fun k s E=>by
  obtain⟨D,H,_⟩:=F (gI a k,gI b k,s.2) ⟨dG m,dG o,E.2⟩;exact⟨rI E.1 D,H⟩
 refine⟨(ga (ni A a b) (zI,0) 4).1,(ga (ni A a b) (zI,0) 4).2,(u 4).1,(u 4).2,adY x m o,?_⟩;refine bF Tryz.func157 Tryz.ntmps157 (rs:=[.cell 4 96,.tmp 5]) (aN a b) ?_;have q:=m.1;have B:=o.1;simp[go_sem,q,B];generalize i:ga (ni A a b) (zI,0)=S at *
 refine av (fun k:Nat=>⟨[(2,.ptr 0 0 0 1),(3,.ptr 32 0 0 1),(4,.ptr 64 0 0 1),(6,.ptr 128 0 0 1),(7,.d (.int .u64 (S k).2)),(9,.d (.int .i64 (k:Int)))],[(128,⟨96,4,[cI (S k).1]⟩),(64,⟨96,4,[cI zI]⟩),(32,⟨96,4,[cI b]⟩),(0,⟨96,4,[cI a]⟩)],1000⟩)
  (fun k=>k≤4) (fun k=>4-k) 0 aq (by
   rw[←i];simp[az,ai,fv,lk,AV.low,AV.low1,ga]
   and_intros<;>first|rfl|exact cE _ _) ?_
 intro k M;obtain⟨t,p⟩:=u k;have g:=t.1;have I:=ay (k:=k) aq;simp only[go_sem,Nat.reduceEqDiff,Nat.reduceAdd,Nat.reduceLT,↓reduceIte];by_cases v:k<4
 ·refine⟨fun h=>?_,fun h=>absurd (by exact_mod_cast v) h⟩;have z:=ko (l:=a) (k:=k) aq;have w:=ko (l:=b) (k:=k) aq;have j:S (k+1)=ni A a b k (S k):=by rw[←i];rfl
  obtain⟨D,H,h3⟩:=F (gI a k,gI b k,(S k).2) ⟨dG m,dG o,p⟩;simp only[ni]at j;generalize A (gI a k,gI b k,(S k).2)=y at *;have e:(k:Int)<4:=aq;refine dE [0,1,2,3,4,5,6,7] [8,11,13,14] [0,1,2,3,4,5,6,7,9,10,12] (.step 8 [9,10,12] true (.alt (bt 11 (a_ [13,14])) (a_ [13,11,14]))) ⟨[(2,.ptr 0 0 0 1),(3,.ptr 32 0 0 1),(4,.ptr 64 0 0 1),(6,.ptr 128 0 0 1),(7,.d (.int .u64 y.2)),(9,.d (.int .i64 (k:Int)))],[(128,⟨96,4,[cI ((S k).1.set k y.1)]⟩),(64,⟨96,4,[cI zI]⟩),(32,⟨96,4,[cI b]⟩),(0,⟨96,4,[cI a]⟩)],9000⟩ (k:=15) ?h3 ?hq
  case h3 =>
   intro G J;have C:∀f:Fr,(fv 2 f=.ptr 0 0 0 1∧fv 3 f=.ptr 32 0 0 1∧fv 4 f=.ptr 64 0 0 1∧fv 6 f=.ptr 128 0 0 1∧fv 7 f=.d (.int .u64 y.2)∧fv 9 f=.d (.int .i64 (k:Int)))→G f [(128,⟨96,4,[cI ((S k).1.set k y.1)]⟩),(64,⟨96,4,[cI zI]⟩),(32,⟨96,4,[cI b]⟩),(0,⟨96,4,[cI a]⟩)]:=by
    rintro f⟨Q,L,R,N,O,K⟩;exact J _ _ qC
   simp[go_sem,z,w,e];refine tW h3 ?_;simp[go_sem,g,pg,dI,e];and_intros<;>first|exact v|exact C _ ⟨rfl,rfl,rfl,rfl,rfl,rfl⟩|(refine C _ ?_;simp[fv,lk])
  case hq =>
   simp[go_sem,I];refine am (k+1) aq aq ?_;rw[j];simp[az,ai,fv,lk,AV.low,AV.low1];and_intros<;>exact cE _ _
 ·refine⟨fun h=>absurd (by exact_mod_cast h) v,fun h=>?_⟩;have e:k=4:=aq;subst e;simp[go_sem,g,ae g,be (l:=zI) (n:=4) rfl];exact BS rfl
theorem VU(x y:Int):∀v,v∈[AV.d (.int .u64 x),AV.d (.int .u64 y)]→v.deep:=by
 intro v a;simp at a;rcases a with rfl|rfl<;>trivial
theorem Af(a:List Int)(o:Wn 4 a):∃(s:List Int)(c:Int),Wn 4 s∧dZ c∧V s+115792089237316195423570985008687907853269984665640564039457584007913129639936*c=V a*4294968273∧au Tryz.prog 238 [.agg (cI a)] (fun r=>r=.tup [.agg (cI s),.d (.int .u64 c)]):=by
 obtain⟨A,u,B⟩:=Yd;obtain⟨M,t⟩:=abe;have p:∀k,Wn 4 (ga (yP A M a) (zI,0) k).1∧dZ (ga (yP A M a) (zI,0) k).2:=j5 (P:=fun _(s:List Int×Int)=>Wn 4 s.1∧dZ s.2) ⟨kR,x6⟩ fun k s x=>by
  obtain⟨w,G,_⟩:=B ((M (gI a k,4294968273)).2,s.2,0) ⟨(t _).2.1,x.2,EI⟩;exact⟨rI x.1 w,TS _⟩
 refine⟨(ga (yP A M a) (zI,0) 4).1,(ga (yP A M a) (zI,0) 4).2,(p 4).1,(p 4).2,TU u (I0 t) o,?_⟩;refine bF Tryz.func238 Tryz.ntmps238 (rs:=[.cell 2 96,.tmp 3]) (aS a) ?_;have j:=o.1;simp[go_sem,j];generalize f:ga (yP A M a) (zI,0)=S at *
 refine av (fun k:Nat=>⟨[(1,.ptr 0 0 0 1),(2,.ptr 32 0 0 1),(4,.ptr 96 0 0 1),(5,.d (.int .u64 (S k).2)),(10,.d (.int .i64 (k:Int)))],[(96,⟨96,4,[cI (S k).1]⟩),(32,⟨96,4,[cI zI]⟩),(0,⟨96,4,[cI a]⟩)],1000⟩)
  (fun k=>k≤4) (fun k=>4-k) 0 aq (by
   rw[←f];simp[az,ai,fv,lk,AV.low,AV.low1,ga]
   and_intros<;>first|rfl|exact cE _ _) ?_
 intro k I;obtain⟨m,i⟩:=p k;have e:=m.1;have E:=ay (k:=k) aq;simp only[go_sem,Nat.reduceEqDiff,Nat.reduceAdd,Nat.reduceLT,↓reduceIte];by_cases q:k<4
 ·refine⟨fun h=>?_,fun h=>absurd (by exact_mod_cast q) h⟩;have v:=ko (l:=a) (k:=k) aq;have g:S (k+1)=yP A M a k (S k):=by rw[←f];rfl
  obtain⟨H,D,F⟩:=t (gI a k,4294968273);obtain⟨w,G,C⟩:=B ((M (gI a k,4294968273)).2,(S k).2,0) ⟨D,i,EI⟩;simp only[yP]at g;have b:(k:Int)<4:=aq;simp[go_sem,v,b];refine ag (F ⟨dG o,⟨aq,aq⟩⟩).2 (VU _ _) ?_;simp[go_sem];refine tW C ?_;generalize A ((M (gI a k,4294968273)).2,(S k).2,0)=y at *;generalize M (gI a k,4294968273)=z at *;simp[go_sem,e,b,pg,E];refine⟨q,?_⟩;refine am (k+1) aq aq ?_;rw[g];simp[az,ai,fv,lk,AV.low,AV.low1];and_intros<;>exact cE _ _
 ·refine⟨fun h=>absurd (by exact_mod_cast h) q,fun h=>?_⟩;have b:k=4:=aq;subst b;simp[go_sem,e,ae e,be (l:=zI) (n:=4) rfl];exact BS rfl
theorem ad1:fQ Tryz.prog 226=some (cI FI):=by kernel_rfl
attribute [go_sem] ad1
theorem TV:FI.length=8:=rfl
attribute [go_sem] TV
theorem G3(a b:List Int)(F:Wn 4 a)(I:Wn 4 b):∃(s:List Int),Wn 8 s∧V s=V a*V b∧au Tryz.prog 163 [.agg (cI a),.agg (cI b)] (fun r=>r=.agg (cI s)):=by
 obtain⟨A,X,B⟩:=Yd;obtain⟨M,R⟩:=abe;have hI:∀i p,Wn 8 p→∀k,Wn 8 (ga (EJ A M a b i) (p,0) k).1∧dZ (ga (EJ A M a b i) (p,0) k).2:=fun i p hp=>j5 (P:=fun _(s:List Int×Int)=>Wn 8 s.1∧dZ s.2) ⟨hp,x6⟩ fun k s e=>by
  obtain⟨U,h2,_⟩:=B ((M (gI a i,gI b k)).2,gI s.1 (pl i k),0) ⟨(R _).2.1,dG e.1,EI⟩;obtain⟨H,N,_⟩:=B ((A ((M (gI a i,gI b k)).2,gI s.1 (pl i k),0)).1,s.2,0) ⟨U,e.2,EI⟩;exact⟨rI e.1 H,TS _⟩
 have hS:∀i,Wn 8 (ga (sW A M a b) FI i):=j5 (P:=fun _(s:List Int)=>Wn 8 s) abb fun i s e=>rI (hI i s e 4).1 (hI i s e 4).2;refine⟨ga (sW A M a b) FI 4,hS 4,(O6 X (I0 R) F I).2,?_⟩;refine bF Tryz.func163 Tryz.ntmps163 (rs:=[.cell 4 226]) (aN a b) ?_;have E:=F.1;have ab:=I.1;simp[go_sem,E,ab];generalize o:ga (sW A M a b) FI=S at *
 refine av (fun i:Nat=>⟨[(2,.ptr 0 0 0 1),(3,.ptr 32 0 0 1),(4,.ptr 64 0 0 1),(5,.ptr 96 0 0 1),(12,.d (.int .i64 (i:Int)))],[(96,⟨226,8,[cI (S i)]⟩),(64,⟨226,8,[cI FI]⟩),(32,⟨96,4,[cI b]⟩),(0,⟨96,4,[cI a]⟩)],1000⟩)
  (fun k=>k≤4) (fun k=>4-k) 0 aq (by
   rw[←o];simp[az,ai,fv,lk,AV.low,AV.low1,ga]
   and_intros<;>first|rfl|exact cE _ _) ?_
 intro i hi;have g:=hS i;have w3:=ay (k:=i) aq;simp only[go_sem,Nat.reduceEqDiff,Nat.reduceAdd,Nat.reduceLT,↓reduceIte];by_cases N:i<4
 ·refine⟨fun h=>?_,fun h=>absurd (by exact_mod_cast N) h⟩;have Z:=ko (l:=a) (k:=i) aq;have K:(i:Int)<4:=aq;have v:S (i+1)=sW A M a b i (S i):=by rw[←o];rfl
  have C:=hI i (S i) g;unfold sW at v;generalize f:ga (EJ A M a b i) (S i,0)=T at *;have L:T 0=(S i,0):=by rw[←f];rfl
  refine av (fun k:Nat=>⟨[(2,.ptr 0 0 0 1),(3,.ptr 32 0 0 1),(4,.ptr 64 0 0 1),(5,.ptr 96 0 0 1),(12,.d (.int .i64 (i:Int))),(6,.d (.int .i64 (i:Int))),(7,.d (.int .u64 (T k).2)),(15,.d (.int .i64 (k:Int)))],[(96,⟨226,8,[cI (T k).1]⟩),(64,⟨226,8,[cI FI]⟩),(32,⟨96,4,[cI b]⟩),(0,⟨96,4,[cI a]⟩)],2000⟩)
   (fun k=>k≤4) (fun k=>4-k) 0 aq (by
    rw[L];simp[az,ai,fv,lk,AV.low,AV.low1]
    and_intros<;>first|rfl|exact cE _ _) ?_
  intro k hk;obtain⟨w,W⟩:=C k;have t:=w.1;have w4:=ay (k:=k) aq;have Q:pl i k=i+k:=rfl;have J:pl i 4=i+4:=rfl;have w5:IntKind.i64.wrap ((i:Int)+(k:Int))=(pl i k:Int):=by rw[Q,IntWalk.i64_in _ aq];omega
  have w6:IntKind.i64.wrap ((i:Int)+4)=(pl i 4:Int):=by rw[J,IntWalk.i64_in _ aq];omega
  simp only[go_sem,Nat.reduceEqDiff,Nat.reduceAdd,Nat.reduceLT,↓reduceIte];by_cases h5:k<4
  ·refine⟨fun h=>?_,fun h=>absurd (by exact_mod_cast h5) h⟩;have O:=ko (l:=b) (k:=k) aq;have D:=ko (l:=(T k).1) (k:=pl i k) aq;have c:(k:Int)<4:=aq;have m:(pl i k:Int)<8:=aq;have u:pl i k<8:=aq;have j:T (k+1)=EJ A M a b i k (T k):=by rw[←f];rfl
   obtain⟨m1,m2,m3⟩:=R (gI a i,gI b k);obtain⟨U,h2,H⟩:=B ((M (gI a i,gI b k)).2,gI (T k).1 (pl i k),0) ⟨m2,dG w,EI⟩;obtain⟨q1,q2,q3⟩:=B ((A ((M (gI a i,gI b k)).2,gI (T k).1 (pl i k),0)).1,(T k).2,0) ⟨U,W,EI⟩;unfold EJ at j;generalize A ((A ((M (gI a i,gI b k)).2,gI (T k).1 (pl i k),0)).1,(T k).2,0)=y2 at *;generalize A ((M (gI a i,gI b k)).2,gI (T k).1 (pl i k),0)=y at *;generalize M (gI a i,gI b k)=z at *;refine cz [0,1,2,3,4,5] [(6,[7,8,9,10,11])] 1 (k:=12) ?_;intro G hG;simp[go_sem,Z,O,K,c];refine ag (m3 ⟨dG F,dG I⟩).2 (VU _ _) ?_;simp[go_sem];refine hG _ _ ?_;clear hG G;simp[go_sem,D,w5,m]
   first|refine tW H ?_
   simp[go_sem]
   first|refine tW q3 ?_
   simp[go_sem,t,w5,m,u,pg,w4]
   first|refine am (k+1) aq aq ?_|refine⟨aq,am (k+1) aq aq ?_⟩
   rw[j];simp[az,ai,fv,lk,AV.low,AV.low1];and_intros<;>exact cE _ _
  ·refine⟨fun h=>absurd (by exact_mod_cast h) h5,fun h=>?_⟩;have c:k=4:=aq;subst c;have Y:(pl i 4:Int)<8:=aq;have x:pl i 4<8:=aq;simp[go_sem,t,w6,Y,x,pg,w3]
   first|refine am (i+1) aq aq ?_|refine⟨aq,am (i+1) aq aq ?_⟩
   rw[v];simp[az,ai,fv,lk,AV.low,AV.low1];and_intros<;>exact cE _ _
 ·refine⟨fun h=>absurd (by exact_mod_cast h) N,fun h=>?_⟩;have c:i=4:=aq;subst c;have q:=g.1;simp[go_sem,q,ae q,be (l:=FI) (n:=8) rfl];exact aa (fO _) rfl
end Go.Proofs.YtmfnimjnneflnaaGreat
