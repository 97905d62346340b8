/-
 Part 9.
-/
import Derived.Test.YtmfnimjnneflnaaGreatN7
import Derived.Laws.Externs
import Derived.Laws.MathBits
import Derived.Laws.Bits64b
set_option linter.unusedVariables false
set_option linter.unusedSimpArgs false
set_option maxRecDepth 100000
set_option maxHeartbeats 16000000
open Go.Proofs.Tryz
namespace Go.Proofs.YtmfnimjnneflnaaGreat
def Yu(b:Bool):Int:=if b then 1 else 0
theorem Hk(b:Bool):fm prog 259 [.d (.bool b)] (.d (.int .i64 (Yu b))):=by
 refine bL func259 ntmps259 (rs:=[.tmp 2]) a9 ?_;cases b with
 |true =>
  simp[go_sem,ah,Yu];exact aa a9 rfl
 |false =>
  simp[go_sem,ah,Yu];exact aa a9 rfl
def oI(o:Option Int):AV:=.tup [.d (.int .i64 (o.getD 0)),.d (.bool o.isSome)]
def lU(o:Option Bool):AV:=.tup [.d (.bool (o.getD false)),.d (.bool o.isSome)]
theorem dZ(o:Option Int):(oI o).deep:=by
 intro c hc;simp at hc;rcases hc with rfl|rfl<;>exact .inl trivial
theorem d0(o:Option Bool):(lU o).deep:=by
 intro c hc;simp at hc;rcases hc with rfl|rfl<;>exact .inl trivial
theorem aW{v r:AV}{st:St}(h:v=r)(a:r.deep):dG (fun x=>x=r) v st:=by
 subst h;exact aa a rfl
theorem Wm(b:Nat)(u:b<256)(a:Int)(v:-2147483648<a∧a<2147483648):fm prog 255 [.d (.int .u8 (b:Int)),.d (.int .i64 a)] (oI (wF b a)):=by
 refine bL func255 ntmps255 (rs:=[.tmp 4,.tmp 5]) a9 ?_;simp[go_sem];by_cases c:b=139
 ·subst c;rw[show wF 139 a=some (a+1)from rfl];have w:IntKind.i64.wrap (a+1)=a+1:=IntWalk.i64_in _ aq;simp[go_sem,w];exact aW rfl (dZ _)
 have n:¬(b:Int)=139:=aq;simp[go_sem,n];by_cases f:b=140
 ·subst f;rw[show wF 140 a=some (a-1)from rfl];have w:IntKind.i64.wrap (a-1)=a-1:=IntWalk.i64_in _ aq;simp[go_sem,w];exact aW rfl (dZ _)
 have l:¬(b:Int)=140:=aq;simp[go_sem,l];by_cases i:b=143
 ·subst i;rw[show wF 143 a=some (-a)from rfl];have w:IntKind.i64.wrap (0-a)=-a:=by rw[IntWalk.i64_in _ aq];omega
  have q:IntKind.i64.wrap (-a)=-a:=IntWalk.i64_in _ aq;simp[go_sem,q];exact aW rfl (dZ _)
 have k:¬(b:Int)=143:=aq;simp[go_sem,k];by_cases e:b=144
 ·subst e;rw[show wF 144 a=some (max a (-a))from rfl];have w:IntKind.i64.wrap (0-a)=-a:=by rw[IntWalk.i64_in _ aq];omega
  have q:IntKind.i64.wrap (-a)=-a:=IntWalk.i64_in _ aq;have t:(if a < -a then -a else a)=max a (-a):=aq;simp[go_sem,q,t];exact aW rfl (dZ _)
 have p:¬(b:Int)=144:=aq;simp[go_sem,p];by_cases g:b=145
 ·subst g;rw[show wF 145 a=some (if a=0 then 1 else 0)from rfl];simp[go_sem];refine ag (Hk _) a9 ?_;simp[go_sem,ah];exact aW (by by_cases h:a=0<;>simp[oI,Yu,h]) (dZ _)
 have o:¬(b:Int)=145:=aq;simp[go_sem,o];by_cases j:b=146
 ·subst j;rw[show wF 146 a=some (if a=0 then 0 else 1)from rfl];simp[go_sem];refine ag (Hk _) a9 ?_;simp[go_sem,ah];exact aW (by by_cases h:a=0<;>simp[oI,Yu,h]) (dZ _)
 have m:¬(b:Int)=146:=aq;have s:wF b a=none:=by simp[wF,c,f,i,e,g,j]
 rw[s];simp[go_sem,m];exact aW rfl (dZ _)
theorem abE(c:Nat)(z:c<256)(a:Int)(A:-2147483648<a∧a<2147483648)(b:Int)(B:-2147483648<b∧b<2147483648):fm prog 260 [.d (.int .u8 (c:Int)),.d (.int .i64 a),.d (.int .i64 b)] (lU (F9 c a b)):=by
 refine bL func260 ntmps260 (rs:=[.tmp 6,.tmp 7]) a9 ?_;simp[go_sem];by_cases j:c=154
 ·subst j;rw[show F9 154 a b=some (decide (a≠0)&&decide (b≠0))from rfl];by_cases e:a=0
  ·simp[go_sem,e,ah];exact aW (by simp[lU]) (d0 _)
  ·simp[go_sem,e,ah];exact aW (by simp[lU]) (d0 _)
 have v:¬(c:Int)=154:=aq;simp[go_sem,v];by_cases l:c=155
 ·subst l;rw[show F9 155 a b=some (decide (a≠0)||decide (b≠0))from rfl];by_cases e:a=0
  ·simp[go_sem,e,ah];exact aW (by simp[lU]) (d0 _)
  ·simp[go_sem,e,ah];exact aW (by simp[lU]) (d0 _)
 have p:¬(c:Int)=155:=aq;simp[go_sem,p];by_cases h:c=156
 ·subst h;rw[show F9 156 a b=some (decide (a=b))from rfl];simp[go_sem];exact aW (by simp[lU]) (d0 _)
 have s:¬(c:Int)=156:=aq;simp[go_sem,s];by_cases f:c=157
 ·subst f;rw[show F9 157 a b=some (decide (a=b))from rfl];simp[go_sem];exact aW (by simp[lU]) (d0 _)
 have t:¬(c:Int)=157:=aq;simp[go_sem,t];by_cases m:c=158
 ·subst m;rw[show F9 158 a b=some (decide (a≠b))from rfl];simp[go_sem];exact aW (by simp[lU]) (d0 _)
 have x:¬(c:Int)=158:=aq;simp[go_sem,x];by_cases k:c=159
 ·subst k;rw[show F9 159 a b=some (decide (a<b))from rfl];simp[go_sem];exact aW (by simp[lU]) (d0 _)
 have q:¬(c:Int)=159:=aq;simp[go_sem,q];by_cases i:c=160
 ·subst i;rw[show F9 160 a b=some (decide (b<a))from rfl];simp[go_sem];exact aW (by simp[lU]) (d0 _)
 have u:¬(c:Int)=160:=aq;simp[go_sem,u];by_cases g:c=161
 ·subst g;rw[show F9 161 a b=some (decide (a≤b))from rfl];simp[go_sem];exact aW (by simp[lU]) (d0 _)
 have w:¬(c:Int)=161:=aq;simp[go_sem,w];by_cases n:c=162
 ·subst n;rw[show F9 162 a b=some (decide (b≤a))from rfl];simp[go_sem];exact aW (by simp[lU]) (d0 _)
 have o:¬(c:Int)=162:=aq;have y:F9 c a b=none:=by simp[F9,j,l,h,f,m,k,i,g,n]
 rw[y];simp[go_sem,o];exact aW rfl (d0 _)
theorem Wp(c:Nat)(n:c<256)(a:Int)(p:-2147483648<a∧a<2147483648)(b:Int)(q:-2147483648<b∧b<2147483648):fm prog 256 [.d (.int .u8 (c:Int)),.d (.int .i64 a),.d (.int .i64 b)] (oI (xY c a b)):=by
 refine bL func256 ntmps256 (rs:=[.tmp 6,.tmp 7]) a9 ?_;simp[go_sem];by_cases e:c=147
 ·subst e;rw[show xY 147 a b=some (a+b)from rfl];have w:IntKind.i64.wrap (a+b)=a+b:=IntWalk.i64_in _ aq;simp[go_sem,w];exact aW rfl (dZ _)
 have i:¬(c:Int)=147:=aq;simp[go_sem,i];by_cases g:c=148
 ·subst g;rw[show xY 148 a b=some (a-b)from rfl];have w:IntKind.i64.wrap (a-b)=a-b:=IntWalk.i64_in _ aq;simp[go_sem,w];exact aW rfl (dZ _)
 have k:¬(c:Int)=148:=aq;simp[go_sem,k];by_cases f:c=163
 ·subst f;rw[show xY 163 a b=some (min a b)from rfl];have m:(if b<a then b else a)=min a b:=aq;simp[go_sem,m];exact aW rfl (dZ _)
 have l:¬(c:Int)=163:=aq;simp[go_sem,l];by_cases h:c=164
 ·subst h;rw[show xY 164 a b=some (max a b)from rfl];have m:(if a<b then b else a)=max a b:=aq;simp[go_sem,m];exact aW rfl (dZ _)
 have j:¬(c:Int)=164:=aq;have o:xY c a b=(F9 c a b).map fun v=>if v then 1 else 0:=by simp[xY,e,g,f,h]
 rw[o];simp[go_sem,j];refine ag (abE c n a p b q) a9 ?_;simp[go_sem,lU];refine ag (Hk _) a9 ?_;simp[go_sem,ah]
 exact aW (by cases F9 c a b with
  |none=>simp[oI,Yu]
  |some v=>cases v<;>simp[oI,Yu]) (dZ _)
def kM(l:List Int):List (List AV):=l.map fun v=>[.d (.int .i64 v)]
theorem Ph(ρ:Nat→Nat)(l:List Int):aQ ρ (kM l)=kM l:=by
 simp only[aQ,kM,List.map_map];exact List.map_congr_left fun v _=>rfl
theorem Pi(l:List Int):(kM l).length=l.length:=by simp[kM]
theorem yg(n:Nat)(l:List Int):∀r,r∈kM l→∀v,v∈r→v.l n:=by
 intro r b v a;obtain⟨x,_,rfl⟩:=List.mem_map.1 b;simp only[d_,List.mem_nil_iff,or_false]at a;subst a;trivial
def Wq(g:FuncId)(C:Nat)(ty:TypeId)(s:McS)(b:List AV)(R:List Int→McS→Prop):Prop :=
 cZ prog g 3 (jD 3 bA s id) b (fun r a=>∃vs s',R vs s'∧r=.own C 0 vs.length vs.length∧lk C a=some ⟨ty,1,kM vs⟩∧vS 3 bA s' id a)
theorem Pj{N C:Nat}{Pp:Hp}{g:FuncId}{ty:TypeId}{s:McS}{d:List AV}{R:List Int→McS→Prop}{K:AV→Hp→Prop}(h:Wq g C ty s (.ptr 0 0 0 1::d) R)(H:3≤C)(M:3≤N)(z:∀p,p∈Pp→p.1<N∧3≤p.1)(q:∀ ρ,AV.R ρ d=d)
  (L:∀vs l,R vs l→K (.own N 0 vs.length vs.length) ((N,⟨ty,1,kM vs⟩)::(Pp++jD 3 bA l id))):uX prog g (.ptr 0 0 0 1::d) (Pp++jD 3 bA s id) N K:=by
 have t:∀j,j<3→cn (lR 3 id id) 3 (id j)=j:=fun j a=>wG id 3 (a8 3) a;have k:de (lR 3 id id) [(C,0)]=true:=G4 H;have u:vS 3 bA s id (Pp++jD 3 bA s id):=fun j a=>by
  rw[nY];cases m:lk (id j) Pp with
  |none=>exact BP _ (a8 3) a
  |some x=>have:=(z _ (bR m)).2;exact absurd a (by show ¬j<3;simp[id]at this;omega)
 refine .inl (qf (n:=3) (b0:=bA s id) id h (fun i x b=>I3 i x b) (a8 3) (fun i b=>by show i<N;omega) (fun j a=>⟨_,u j a,bT.2 _ _ _ a,(bT.1 s id _ id j a t).symm⟩) ?_ [(C,0)] k ?_)
 rw[AV.R,q,AV.r];rfl;rintro r F⟨vs,l,A,rfl,o,v⟩D J I G;have y:∀j,j<3→Ar 3 id [(C,0)] N (id j)=id j:=fun j a=>BQ k a;have w:Ar 3 id [(C,0)] N C=N:=BR (c:=C) (j:=0) k (dz ..);refine⟨(N,⟨ty,1,kM vs⟩)::(Pp++jD 3 bA l id),fun i x b=>?_,?_⟩;rw[pG]at b;split at b;rename_i e;subst e;cases b;have:=I C 0 aw _ o;rw[Blk.r,Ph]at this;exact this;rw[nY]at b;cases m:lk i Pp with
 |some x' =>
  rw[m]at b;cases b;obtain⟨E,B⟩:=z _ (bR m);rw[G i E (fun j a=>by show j≠i;simp at B;omega),nY,m]
 |none =>
  rw[m]at b;obtain⟨j,f,e⟩:=nX.1 (bR b);cases e;have:=J j f _ (v j f);rw[bT.1 l id _ id j f y]at this;exact this
 ·rw[AV.r,w];exact L vs l A
theorem Jf:∀(k:Nat)(x:Int)(a:List Int),(kM (List.replicate (k+1) 0++a)).set k [.d (.int .i64 x)]=kM (List.replicate k 0++x::a)
 |0,x,a=>by simp[kM]
 |k+1,x,a=>by
  have h:=Jf k x a;rw[List.replicate_succ,List.cons_append];show[.d (.int .i64 0)]::(kM (List.replicate (k+1) 0++a)).set k [.d (.int .i64 x)]=_;rw[h];rfl
theorem yh(m:Mc)(Q:bm→Prop)(h:∀x,x∈m.main→Q x)(c:m.main.length≤1000):(∀x,x∈(dY m).2.main→Q x)∧(dY m).2.main.length≤1000∧((aT 1 m).e=0→(dY m).1∈m.main):=by
 by_cases d:(aT 1 m).e=0;obtain⟨l,x,b,a,g⟩:=B9 d;rw[a,b];refine⟨fun y f=>h y (by rw[b];exact List.mem_append_left _ f),?_,fun _=>aw⟩;rw[b]at c;simp at c⊢;omega;have a:dY m=([],aT 1 m):=if_neg d;rw[a];simp only[(qm 1 m).1];exact⟨h,c,fun h=>absurd h d⟩
theorem uD(most:Nat)(x:bm)(m:Mc):(gP most x m).2.main=m.main:=by
 unfold gP;split;cases gK most x with
 |none=>simp only;unfold jm;split<;>rfl
 |some n=>rfl
 ·rfl
theorem Cb(n:Nat)(hn:n≤3)(Z:1≤n)(m:Mc)(J H:List Jk)(S:m.main.length≤1000)(D:∀x,x∈m.main→x.length≤1000000)(T:∀x,x∈m.main→bytes x) :
  Wq 254 68 2 ⟨m,J,H⟩ [.ptr 0 0 0 1,.d (.int .i64 (n:Int))] (fun vs y=>vs=(ek n m).1∧∃J',y=⟨(ek n m).2,J',H⟩):=by
 refine ap func254 (by kernel_rfl) rfl ntmps254 (rs:=[.tmp 4]) rfl (dN rfl) (by decide) ?_;obtain⟨a,alt,e⟩:=m;simp only at S D T;rw[cq];simp only[bA,id];simp[go_sem];refine⟨aq,aq,aq,?_⟩;refine eU (Pp:=[(68,⟨2,1,List.replicate n [.d (.int .i64 0)]⟩)]) (s:=⟨⟨a,alt,e⟩,J,H⟩) (mC ⟨a,alt,e⟩ J H n) aq aw (by simp[AV.R,AV.r]) ?_;rintro v y ρ ⟨rfl,rfl⟩ F;by_cases h:(aT n ⟨a,alt,e⟩).e=0
 ·obtain⟨h1,U,V⟩:=jE h;simp only at h1 U;subst U;have M:ek n ⟨a,alt,0⟩=oM n ⟨a,alt,0⟩:=if_pos h;rw[M,V];simp only[cq,bA,id];have W:IntKind.i64.wrap ((n:Int)-1)=(n:Int)-1:=IntWalk.i64_in _ aq;simp[go_sem,AV.r,W]
  refine av (fun u:Nat×List Int×Mc×List Jk=>⟨[(0,.ptr 0 0 0 1),(5,.own 68 0 n n),(6,.d (.int .i64 ((u.1:Int)-1)))],
   [(68,⟨2,1,kM (List.replicate u.1 0++u.2.1)⟩),(0,⟨283,3,[[.own 1 0 u.2.2.1.main.length (u.2.2.1.main.length+u.2.2.2.length),.own 2 0 u.2.2.1.alt.length (u.2.2.1.alt.length+H.length),.d (.int .i64 u.2.2.1.e)]]⟩),(1,⟨31,1,dy u.2.2.1.main u.2.2.2⟩),(2,⟨31,1,dy u.2.2.1.alt H⟩)],9000⟩)
   (fun u=>u.1+u.2.1.length=n∧oM n ⟨a,alt,0⟩=((oM u.1 u.2.2.1).1++u.2.1,(oM u.1 u.2.2.1).2)∧u.2.2.1.main.length≤1000∧(∀x,x∈u.2.2.1.main→x.length≤1000000∧bytes x)) (fun u=>u.1) (n,[],⟨a,alt,0⟩,J)
   ⟨aw,aw,S,fun x h=>⟨D x h,T x h⟩⟩
   ⟨by simp[ai,fv,lk,AV.low,AV.l],List.forall_mem_cons.2 ⟨⟨.inl (by simp[lk,kM]),by show 68<9000;omega,yg _ _⟩,OK (m:=⟨a,alt,0⟩) rfl rfl rfl (dN rfl) trivial⟩,aw⟩ ?_
  rintro⟨k,f,m,K⟩⟨hk,c,B,q⟩;simp only at hk c B q;simp only[go_sem,Nat.reduceEqDiff,Nat.reduceAdd,Nat.reduceLT,↓reduceIte];refine⟨fun X=>?_,fun X=>?_⟩
  ·obtain⟨k,rfl⟩:∃k',k=k'+1:=⟨k-1,aq⟩;have z:k<n:=aq;have l:(k:Int)<(n:Int):=aq;have Q:(kM (List.replicate (k+1) 0++f))[k]?=some [.d (.int .i64 0)]:=by
    simp only[kM,cU];rw[List.getElem?_append_left aw,List.getElem?_replicate,if_pos aq];rfl
   have C:∀h:k<(kM (List.replicate (k+1) 0++f)).length,(kM (List.replicate (k+1) 0++f))[k]=[.d (.int .i64 0)]:=fun h=>Option.some.inj ((cm h).symm.trans Q);have L:((k+1:Nat):Int)-1=(k:Int):=aq;rw[L];have j:=fun x=>Jf k x f;have A:(kM (List.replicate (k+1) 0++f)).length=n:=by rw[Pi];simp;omega
   generalize kM (List.replicate (k+1) 0++f)=row at *;refine eU (Pp:=[(68,⟨2,1,row⟩)]) (s:=⟨m,K,H⟩) (As m K H aq) aq aw (by simp[AV.R]) ?_;rintro v y ρ ⟨rfl,t,rfl⟩ F;obtain⟨i,g,N⟩:=yh m _ q B;have Y:oM (k+1) m=((oM k (gP 4 (dY m).1 (dY m).2).2).1++[(gP 4 (dY m).1 (dY m).2).1],(oM k (gP 4 (dY m).1 (dY m).2).2).2):=rfl;rw[Y]at c;by_cases w:(aT 1 m).e=0
   ·rw[if_pos w];obtain⟨O,P⟩:=q _ (N w);generalize dY m=p at *;obtain⟨x,b⟩:=p;simp only[cq,bA,id];simp[go_sem,AV.r];refine eU (Pp:=[(68,⟨2,1,row⟩)]) (s:=⟨b,t,H⟩) (OV b t H 4 x P (by decide) O) aq aw (by simp[AV.R,AV.r,nb]) ?_;rintro v y ρ ⟨rfl,rfl⟩ F;have o:=uD 4 x b;simp only at c i g;generalize gP 4 x b=r at *;obtain⟨r1,R⟩:=r;simp only at o c;simp only[cq,bA,id];simp[go_sem,AV.r,z,l,C,A,j];have E:IntKind.i64.wrap ((k:Int)-1)=(k:Int)-1:=IntWalk.i64_in _ aq;refine ao (k,r1::f,R,t) ⟨by simp;omega,by rw[c];simp,by show R.main.length≤1000;rw[o];exact g,by intro x D;exact i x (by rw[←o];exact D)⟩ (by show k<k+1;omega) ⟨by simp[ai,fv,lk,AV.low,AV.l,E],List.forall_mem_cons.2 ⟨⟨.inl rfl,by show 68<9000;omega,yg _ _⟩,OK (m:=R) rfl rfl rfl (dN rfl) trivial⟩,aw⟩
   ·rw[if_neg w];have I:dY m=([],aT 1 m):=if_neg w;rw[I]at c i g⊢;generalize aT 1 m=b at *;have G:gP 4 [] b=(0,b):=if_neg w;simp only[G]at c;simp only[cq,bA,id];simp[go_sem,AV.r];refine eU (Pp:=[(68,⟨2,1,row⟩)]) (s:=⟨b,t,H⟩) (Jb b t H 4 w) aq aw (by simp[AV.R,AV.r]) ?_;rintro v y ρ ⟨rfl,rfl⟩ F;simp only[cq,bA,id];simp[go_sem,AV.r,z,l,C,A,j];have E:IntKind.i64.wrap ((k:Int)-1)=(k:Int)-1:=IntWalk.i64_in _ aq;refine ao (k,0::f,b,t) ⟨by simp;omega,by rw[c];simp,g,i⟩ (by show k<k+1;omega) ⟨by simp[ai,fv,lk,AV.low,AV.l,E],List.forall_mem_cons.2 ⟨⟨.inl rfl,by show 68<9000;omega,yg _ _⟩,OK (m:=b) rfl rfl rfl (dN rfl) trivial⟩,aw⟩
  ·obtain rfl:k=0:=aq;have hz:oM 0 m=([],m):=rfl;rw[hz]at c;rw[c];simp[go_sem];exact⟨f,_,⟨rfl,K,rfl⟩,aq,rfl,bf rfl rfl rfl⟩
 ·have M:ek n ⟨a,alt,e⟩=(List.replicate n 0,aT n ⟨a,alt,e⟩):=if_neg h;rw[M];generalize aT n ⟨a,alt,e⟩=b at *;simp only[cq,bA,id];simp[go_sem,AV.r,h,ah];exact⟨_,_,⟨rfl,J,rfl⟩,aw,by simp[kM],bf rfl rfl rfl⟩
theorem Jg{b:bm}{n:Int}(c:bytes b)(h:gK 4 b=some n):-2147483648<n∧n<2147483648:=by
 unfold gK at h;split at h;rename_i j;obtain rfl:=Option.some.inj h;have g:b.length≤4:=aq;rcases eF b with rfl|⟨a,x,rfl⟩;decide;have i:x<256:=c x aw;have d:=uA (b:=a) (fun y f=>c y (List.mem_append_left _ f));simp at g;rw[jf];have hc:a.length=0∨a.length=1∨a.length=2∨a.length=3:=aq;rcases hc with e|e|e|e<;>rw[e]at d⊢<;>simp at d⊢<;>split<;>omega;cases h
def i31(v:Int):Prop:=-2147483648<v∧v<2147483648
theorem Pl{x:bm}{m:Mc}(a:bytes x):i31 (gP 4 x m).1:=by
 unfold gP;split;cases h:gK 4 x with
 |none=>exact⟨aw,aw⟩
 |some n=>exact Jg a h
 ·exact⟨aw,aw⟩
theorem Jh:∀(k:Nat)(m:Mc),(∀x,x∈m.main→bytes x)→m.main.length≤1000→(oM k m).1.length=k∧∀v,v∈(oM k m).1→i31 v
 |0,m,_,_=>⟨rfl,fun v h=>by cases h⟩
 | k+1,m,hb,hl=>by
  obtain⟨g,d,i⟩:=yh m _ hb hl;have a:bytes (dY m).1:=by
   by_cases h:(aT 1 m).e=0;exact hb _ (i h);rw[show dY m=([],aT 1 m)from if_neg h];intro x a;cases a
  have f:=Pl (m:=(dY m).2) a;have b:=uD 4 (dY m).1 (dY m).2;obtain⟨c,i2⟩:=Jh k (gP 4 (dY m).1 (dY m).2).2 (by rw[b];exact g) (by rw[b];exact d);rw[oM];refine⟨by simp[c],fun v j=>?_⟩;rcases cD.1 j with h|h;exact i2 v h;simp at h;subst h;exact f
theorem yi(n:Nat)(m:Mc)(b:∀x,x∈m.main→bytes x)(c:m.main.length≤1000):(ek n m).1.length=n∧∀v,v∈(ek n m).1→i31 v:=by
 unfold ek;split;exact Jh n m b c;refine⟨aw,fun v a=>?_⟩;rw[List.mem_replicate]at a;rw[a.2];exact⟨by decide,by decide⟩
theorem EW:∀(k:Nat)(m:Mc),m.main.length≤1000→(oM k m).2.main.length≤1000
 |0,m,h=>h
 |k+1,m,h=>by
  rw[oM];refine EW k _ ?_;rw[uD];exact(yh m (fun _=>True) (fun _ _=>trivial) h).2.1
theorem uE(n:Nat)(m:Mc)(a:m.main.length≤1000):(ek n m).2.main.length≤1000:=by
 unfold ek;split;exact EW n m a;rw[(qm n m).1];exact a
theorem Pm(b:Nat)(a:Int):(wF b a).isSome=(wF b 0).isSome:=by
 unfold wF;repeat' split<;>try rfl
theorem Yv(b:Nat)(a:Int)(h:i31 a):-4294967296<(wF b a).getD 0∧(wF b a).getD 0<4294967296:=by
 obtain⟨d,c⟩:=h;unfold wF
 repeat' split
 all_goals simp only[Option.getD_some,Option.getD_none]
 all_goals omega
theorem Yw(c:Nat)(a b:Int)(h:i31 a)(k:i31 b):-4294967297<(xY c a b).getD 0∧(xY c a b).getD 0<4294967297:=by
 obtain⟨e,d⟩:=h;obtain⟨f,k2⟩:=k;unfold xY;split;simp only[Option.getD_some];omega;split;simp only[Option.getD_some];omega;split;simp only[Option.getD_some];omega;split;simp only[Option.getD_some];omega;cases F9 c a b with
 |none=>simp
 |some v=>cases v<;>simp
theorem Ls(m:Mc)(J H:List Jk)(g:Nat)(R:g<256)(t:m.main.length≤1000)(T:∀x,x∈m.main→x.length≤1000000)(M:∀x,x∈m.main→bytes x):dB prog 3 bA 237 ⟨m,J,H⟩ [.ptr 0 0 0 1,.d (.int .u8 (g:Int))]
  (fun v u=>v=.d (.bool (qN g m).isSome)∧∃n,u=⟨(qN g m).getD m,n,H⟩):=by
 refine ap func237 (by kernel_rfl) rfl ntmps237 (rs:=[.tmp 4]) rfl (dN rfl) (by decide) ?_;obtain⟨f,alt,e⟩:=m;simp only at t T M;rw[cq];simp only[bA,id];simp[go_sem];by_cases l:g=165
 ·subst l;have i:qN 165 ⟨f,alt,e⟩=some (fj [jX (decide ((ek 3 ⟨f,alt,e⟩).1.getD 1 0≤(ek 3 ⟨f,alt,e⟩).1.getD 0 0)&&decide ((ek 3 ⟨f,alt,e⟩).1.getD 0 0<(ek 3 ⟨f,alt,e⟩).1.getD 2 0))] (ek 3 ⟨f,alt,e⟩).2):=rfl;rw[i];simp[go_sem];refine Pj (Pp:=[]) (s:=⟨⟨f,alt,e⟩,J,H⟩) (Cb 3 (by decide) (by decide) ⟨f,alt,e⟩ J H t T M) (by decide) aq aw (by simp[AV.R,AV.r]) ?_;rintro A u⟨rfl,n,rfl⟩;obtain⟨E,F⟩:=yi 3 ⟨f,alt,e⟩ M t;have N:=uE 3 ⟨f,alt,e⟩ t;generalize ek 3 ⟨f,alt,e⟩=p at *;obtain⟨A,h⟩:=p;simp only at E F N
  match A,E with
  | [a,b,c],_ =>
   simp only[cq,bA,id];simp[go_sem,kM];have P:∀b:Bool,(jX b).length≤1:=fun b=>by cases b<;>decide
   by_cases z:b≤a
   ·
    refine cK [0,1,2,3,4,5,6,7,8,9,10,11,12,13,14,15,16] [(17,[]),(18,[]),(19,[])] 2 (k:=20) ?_;intro G C;simp[go_sem,z];refine ag (oa _) (by intro v i;simp at i;subst i;trivial) ?_;generalize o:jX (decide (a<c))=y;have I:y.length≤1:=by rw[←o];exact P _
    simp[go_sem]
    refine db [772] [] (args':=[.ptr 0 0 0 1,.d (.ro 1 [[nb y]])]) bT id (iq h n H y aq aq) (a8 3) (fun j U=>by show j<804;omega) (by simp[cq,bA,aC,lk]) rfl
     (iT rfl) aw rfl ?_
    rintro v u ρ ⟨r,rfl⟩ S;simp only[cq,bA,fj,id];simp[go_sem];refine C _ _ ?_;clear C G;simp[go_sem,ah];exact⟨⟨⟨h.main++[y],h.alt,h.e⟩,r,H⟩,⟨r,by simp[fj,z,o]⟩,bf (by simp[lk]) rfl rfl⟩
   ·
    refine cK [0,1,2,3,4,5,6,7,8,9,10,11,12,13,14,15,16] [(17,[]),(18,[]),(19,[])] 2 (k:=20) ?_;intro G C;simp[go_sem,z];refine ag (oa _) (by intro v i;simp at i;subst i;trivial) ?_;generalize o:jX false=y;have I:y.length≤1:=by rw[←o];exact P _
    simp[go_sem]
    refine db [772] [] (args':=[.ptr 0 0 0 1,.d (.ro 1 [[nb y]])]) bT id (iq h n H y aq aq) (a8 3) (fun j U=>by show j<804;omega) (by simp[cq,bA,aC,lk]) rfl
     (iT rfl) aw rfl ?_
    rintro v u ρ ⟨r,rfl⟩ S;simp only[cq,bA,fj,id];simp[go_sem];refine C _ _ ?_;clear C G;simp[go_sem,ah];exact⟨⟨⟨h.main++[y],h.alt,h.e⟩,r,H⟩,⟨r,by simp[fj,z,o]⟩,bf (by simp[lk]) rfl rfl⟩
 have O:¬(g:Int)=165:=aq;simp[go_sem,O];refine ag (Wm g R 0 ⟨aq,aq⟩) a9 ?_;simp[go_sem,oI];by_cases B:(wF g 0).isSome=true
 ·simp[go_sem,B]
  have i:qN g ⟨f,alt,e⟩=some (fj [dk ((wF g ((ek 1 ⟨f,alt,e⟩).1.getD 0 0)).getD 0)] (ek 1 ⟨f,alt,e⟩).2):=by
   unfold qN;rw[if_neg l];cases w:wF g 0 with
   |none=>rw[w]at B;simp at B
   |some q=>rfl
  rw[i];refine Pj (Pp:=[]) (s:=⟨⟨f,alt,e⟩,J,H⟩) (Cb 1 (by decide) (by decide) ⟨f,alt,e⟩ J H t T M) (by decide) aq aw (by simp[AV.R,AV.r]) ?_;rintro A u⟨rfl,n,rfl⟩;obtain⟨E,F⟩:=yi 1 ⟨f,alt,e⟩ M t;have N:=uE 1 ⟨f,alt,e⟩ t;generalize ek 1 ⟨f,alt,e⟩=p at *;obtain⟨A,h⟩:=p;simp only at E F N
  match A,E with
  | [a],_ =>
   simp only[cq,bA,id];have Q:=F a aw;have Y:=Pm g a;simp[go_sem,kM];refine ag (Wm g R a Q) a9 ?_;simp[go_sem,oI];have V:=Yv g a Q;refine ag (mO _ aq aq) (by intro v i;simp at i;subst i;trivial) ?_;have I:=iH ((wF g a).getD 0);generalize dk ((wF g a).getD 0)=y at *;simp[go_sem]
   refine db [804] [] (args':=[.ptr 0 0 0 1,.d (.ro 1 [[nb y]])]) bT id (iq h n H y aq aq) (a8 3) (fun j U=>by show j<836;omega) (by simp[cq,bA,aC,lk]) rfl
    (iT rfl) aw rfl ?_
   rintro v u ρ ⟨r,rfl⟩ S;simp only[cq,bA,fj,id];simp[go_sem,ah];exact⟨⟨⟨h.main++[y],h.alt,h.e⟩,r,H⟩,⟨r,rfl⟩,bf (by simp[lk]) rfl rfl⟩
 ·simp[go_sem,B];refine ag (Wp g R 0 ⟨aq,aq⟩ 0 ⟨aq,aq⟩) a9 ?_;simp[go_sem,oI];by_cases D:(xY g 0 0).isSome=true
  ·have L:(xY g 0 0).isNone=false:=by cases w:xY g 0 0 with
    |none=>rw[w]at D;simp at D
    |some q=>rfl
   simp[go_sem,L];refine Pj (Pp:=[]) (s:=⟨⟨f,alt,e⟩,J,H⟩) (Cb 2 (by decide) (by decide) ⟨f,alt,e⟩ J H t T M) (by decide) aq aw (by simp[AV.R,AV.r]) ?_;rintro A u⟨rfl,n,rfl⟩;obtain⟨E,F⟩:=yi 2 ⟨f,alt,e⟩ M t;have N:=uE 2 ⟨f,alt,e⟩ t
   have i:qN g ⟨f,alt,e⟩=some (if g=157 then kT (decide ((xY g ((ek 2 ⟨f,alt,e⟩).1.getD 0 0) ((ek 2 ⟨f,alt,e⟩).1.getD 1 0)).getD 0≠0)) (ek 2 ⟨f,alt,e⟩).2 else fj [dk ((xY g ((ek 2 ⟨f,alt,e⟩).1.getD 0 0) ((ek 2 ⟨f,alt,e⟩).1.getD 1 0)).getD 0)] (ek 2 ⟨f,alt,e⟩).2):=by
    unfold qN;rw[if_neg l];cases w:wF g 0 with
    |some q=>rw[w]at B;simp at B
    |none =>
     cases K:xY g 0 0 with
     |none=>rw[K]at D;simp at D
     |some q=>rfl
   rw[i];clear i;generalize ek 2 ⟨f,alt,e⟩=p at *;obtain⟨A,h⟩:=p;simp only at E F N
   match A,E with
   | [a,b],_ =>
    simp only[cq,bA,id];have Q:=F a aw;have W:=F b aw;simp[go_sem,kM];refine cK [0,1,2,3,4,5,6] [(7,[8,9,10,11,12])] 1 (k:=13) ?_;intro G C;simp[go_sem];refine ag (Wp g R a Q b W) a9 ?_;simp[go_sem,oI];refine C _ _ ?_;clear C G;have V:=Yw g a b Q W;simp[go_sem];refine⟨fun X=>?_,fun X=>?_⟩
    ·rw[if_pos (show g=157 by omega)];refine eU (Pp:=[(676,⟨2,1,[[.d (.int .i64 a)],[.d (.int .i64 b)]]⟩)]) (s:=⟨h,n,H⟩) (B8 h n H _) aq aw (by simp[AV.R,AV.r]) ?_;rintro v u ρ rfl S;generalize kT _ h=m';simp only[cq,bA,id];simp[go_sem,ah];exact⟨⟨m',n,H⟩,⟨n,rfl⟩,bf rfl rfl rfl⟩
    ·rw[if_neg (show ¬g=157 by omega)];refine ag (mO _ aq aq) (by intro v i;simp at i;subst i;trivial) ?_;have I:=iH ((xY g a b).getD 0);generalize dk ((xY g a b).getD 0)=y at *;simp[go_sem]
     refine db [1316] [] (args':=[.ptr 0 0 0 1,.d (.ro 1 [[nb y]])]) bT id (iq h n H y aq aq) (a8 3) (fun j U=>by show j<1348;omega) (by simp[cq,bA,aC,lk]) rfl
      (iT rfl) aw rfl ?_
     rintro v u ρ ⟨r,rfl⟩ S;simp only[cq,bA,fj,id];simp[go_sem,ah];exact⟨⟨⟨h.main++[y],h.alt,h.e⟩,r,H⟩,⟨r,rfl⟩,bf (by simp[lk]) rfl rfl⟩
  ·have L:(xY g 0 0).isNone=true:=by cases w:xY g 0 0 with
    |none=>rfl
    |some q=>rw[w]at D;simp at D
   have i:qN g ⟨f,alt,e⟩=none:=by
    unfold qN;rw[if_neg l];cases w:wF g 0 with
    |some q=>rw[w]at B;simp at B
    |none =>
     cases K:xY g 0 0 with
     |some q=>rw[K]at D;simp at D
     |none=>rfl
   rw[i];simp[go_sem,L,ah];exact⟨⟨⟨f,alt,e⟩,J,H⟩,⟨J,rfl⟩,bf rfl rfl rfl⟩
theorem Yx(e:Int)(b:e≠0)(n k:Nat)(J H:List Jk):dB prog 3 B7 223 (.z e n k J H) [.ptr 0 0 0 1]
  (fun v f=>v=.tup [.agg [.nil,.nil],.d (.int .i64 e)]):=by
 refine ap func223 (by kernel_rfl) rfl ntmps223 (rs:=[.cell 2 155,.tmp 3]) rfl (dN rfl) (by decide) ?_;show oL _ _ _ _ ⟨_,[(0,⟨283,3,[[.own 1 0 n J.length,.own 2 0 k H.length,.d (.int .i64 e)]]⟩),(1,⟨31,1,dy [] J⟩),(2,⟨31,1,dy [] H⟩)],_⟩;simp[go_sem];refine cK [0,1,2,3,4,5,6,7,8] [(9,[]),(10,[])] 1 (k:=11) ?_;intro G a;simp[go_sem];refine a _ _ ?_;clear a G;simp[go_sem,b];refine cK [0,1,2,3,4] [(5,[6])] 1 (k:=7) ?_;intro G a;simp[go_sem];refine a _ _ ?_;clear a G;simp[go_sem,ah];refine⟨.z e n k J H,fun i c=>?_⟩
 match i,c with
 |0,_=>rfl
 |1,_=>rfl
 |2,_=>rfl
def mE(m:Mc)(a b:Nat):Prop:=m.main.length≤a∧m.alt.length≤b
theorem Cc{m:Mc}{a b:Nat}(x:Int)(h:mE m a b):mE (jm x m) a b:=by unfold jm;split<;>exact h
theorem lg{m:Mc}{a b:Nat}(n:Nat)(h:mE m a b):mE (aT n m) a b:=by
 obtain⟨c,d⟩:=qm n m;unfold mE;rw[c,d];exact h
theorem yj{m:Mc}{a b:Nat}(h:mE m a b):mE (dY m).2 a b:=by
 unfold dY;split;refine⟨?_,h.2⟩;have:=h.1;simp;omega;exact lg 1 h
theorem mS{m:Mc}{a b:Nat}(l:List bm)(h:mE m a b):mE (fj l m) (a+l.length) b:=by
 refine⟨?_,h.2⟩;have:=h.1;simp[fj];omega
theorem fL{m:Mc}{a b:Nat}(k:Nat)(put:List Nat)(h:mE m a b):mE (c7 k put m) (a+put.length) b:=by
 unfold c7;split;refine⟨?_,h.2⟩;have:=h.1;simp;omega;exact⟨Nat.le_trans (lg k h).1 aq,(lg k h).2⟩
theorem Ji{m:Mc}{a b:Nat}(most:Nat)(x:bm)(h:mE m a b):mE (gP most x m).2 a b:=by
 unfold gP;split;cases gK most x with
 |none=>exact Cc 15 h
 |some n=>exact h
 ·exact h
theorem Pn{a b:Nat}:∀(k:Nat)(m:Mc),mE m a b→mE (oM k m).2 a b
 |0,m,h=>h
 |k+1,m,h=>by rw[oM];exact Pn k _ (Ji 4 _ (yj h))
theorem wJ{m:Mc}{a b:Nat}(n:Nat)(h:mE m a b):mE (ek n m).2 a b:=by
 unfold ek;split;exact Pn n m h;exact lg n h
theorem Cd{m:Mc}{a b:Nat}(c:Bool)(h:mE m a b):mE (kT c m) a b:=by unfold kT;split;exact h;exact Cc 16 h
theorem Jj{m:Mc}{a b:Nat}(h:mE m a b):mE (iJ m).2 a b:=by
 unfold iJ;split;exact fL 2 [] h;exact lg 2 h
theorem dm{m:Mc}{a b c d:Nat}(h:mE m a b)(f:a≤c)(e:b≤d):mE m c d:=⟨Nat.le_trans h.1 f,Nat.le_trans h.2 e⟩
theorem Jl{m:Mc}{a b:Nat}(f:bm→bm)(h:mE m a b):mE (mz f m) (a+1) b:=by
 unfold mz;split;exact mS _ (yj h);exact dm (lg 1 h) aq (cL _)
theorem Jm{m:Mc}{a b:Nat}(r:Bool)(h:mE m a b):mE (kS r m) (a+1) b:=by
 unfold kS;have c:=Ji 4 (dY m).1 (yj h);simp only;split;split;exact dm (Cc 12 c) aq (cL _);refine mS [_] ⟨?_,c.2⟩;have d:=c.1;simp only;split;exact Nat.le_trans (List.length_eraseIdx_le ..) d;exact d;exact dm c aq (cL _)
theorem cX{c:Prop}[Decidable c]{x y:Mc}{r:Option Mc}(h:(if c then some x else r)=some y)(b:mE x 2000 2000)(a:r=some y→mE y 2000 2000):mE y 2000 2000:=by
 split at h;cases h;exact b;exact a h
theorem Po{m:Mc}{a b:Nat}(h:mE m a b):mE (nW m) a (b+1):=by
 have c:=yj h;refine⟨c.1,?_⟩;have:=c.2;simp[nW];omega
theorem Uk{m:Mc}{a b:Nat}(h:mE m a b):mE (qT m) (a+1) b:=by
 unfold qT;split;exact dm (Cc 12 h) aq (cL _);have d:=h.1;have c:=h.2;refine⟨?_,?_⟩<;>simp<;>omega
theorem Ul{m:Mc}{a b:Nat}(h:mE m a b):mE (qU m) (a+1) b:=by
 unfold qU;split;exact mS _ (fL 2 [] h);exact dm (lg 2 h) aq (cL _)
theorem Hl{d:Nat}{m b:Mc}(h:jC d m=some b)(e:m.main.length≤1000)(c:m.alt.length≤1000):b.main.length≤2000∧b.alt.length≤2000:=by
 have a:mE m 1000 1000:=⟨e,c⟩;show mE b 2000 2000;unfold jC at h;refine cX h (dm a (by decide) (by decide)) fun h=>?_;refine cX h (dm (Po a) (by decide) (by decide)) fun h=>?_;refine cX h (dm (Uk a) (by decide) (by decide)) fun h=>?_;refine cX h (dm (fL _ _ a) (by decide) (by decide)) fun h=>?_;refine cX h (dm (fL _ _ a) (by decide) (by decide)) fun h=>?_;refine cX h (dm (fL _ _ a) (by decide) (by decide)) fun h=>?_;refine cX h (dm (fL _ _ a) (by decide) (by decide)) fun h=>?_;refine cX h (dm (fL _ _ a) (by decide) (by decide)) fun h=>?_;refine cX h (dm (fL _ _ a) (by decide) (by decide)) fun h=>?_;refine cX h (dm (fL _ _ a) (by decide) (by decide)) fun h=>?_;refine cX h (dm (fL _ _ a) (by decide) (by decide)) fun h=>?_;refine cX h (dm (fL _ _ a) (by decide) (by decide)) fun h=>?_;refine cX h (dm (fL _ _ a) (by decide) (by decide)) fun h=>?_;refine cX h (dm (fL _ _ a) (by decide) (by decide)) fun h=>?_;refine cX h (dm (fL _ _ a) (by decide) (by decide)) fun h=>?_;refine cX h (dm (fL _ _ a) (by decide) (by decide)) fun h=>?_;cases h
theorem Lt{d:Nat}{m b:Mc}(h:yZ bc fl d m=some b)(e:m.main.length≤1000)(c:m.alt.length≤1000):b.main.length≤2000∧b.alt.length≤2000:=by
 have a:mE m 1000 1000:=⟨e,c⟩;show mE b 2000 2000;unfold yZ at h;refine cX h (dm (Jm _ a) (by decide) (by decide)) fun h=>?_;refine cX h (dm (Jm _ a) (by decide) (by decide)) fun h=>?_;refine cX h (dm (Cd _ (yj a)) (by decide) (by decide)) fun h=>?_;refine cX h ?_ fun h=>?_;show mE _ 2000 2000;split;split;exact dm (mS _ a) aw (by decide);exact dm a (by decide) (by decide);exact dm (lg 1 a) (by decide) (by decide);refine cX h (dm (mS _ a) aw (by decide)) fun h=>?_;refine cX h (dm (Ul a) (by decide) (by decide)) fun h=>?_;refine cX h ?_ fun h=>?_;show mE _ 2000 2000;split;exact dm (mS _ a) aw (by decide);exact dm (lg 1 a) (by decide) (by decide);refine cX h (dm (mS _ (Jj a)) aw (by decide)) fun h=>?_;refine cX h (dm (Cd _ (Jj a)) (by decide) (by decide)) fun h=>?_;refine cX h (dm (Jl _ a) (by decide) (by decide)) fun h=>?_;refine cX h (dm (Jl _ a) (by decide) (by decide)) fun h=>?_;cases h
theorem Hm{d:Nat}{m a:Mc}(h:qN d m=some a)(e:m.main.length≤1000)(c:m.alt.length≤1000):a.main.length≤2000∧a.alt.length≤2000:=by
 have b:mE m 1000 1000:=⟨e,c⟩;show mE a 2000 2000;unfold qN at h;split at h;obtain rfl:=Option.some.inj h;exact dm (mS _ (wJ 3 b)) aw (by decide);split at h;obtain rfl:=Option.some.inj h;exact dm (mS _ (wJ 1 b)) aw (by decide);split at h;cases h;obtain rfl:=Option.some.inj h;simp only;split;exact dm (Cd _ (wJ 2 b)) (by decide) (by decide);exact dm (mS _ (wJ 2 b)) aw (by decide)
def Ds(a:Nat)(main alt:List bm):AV:=.tup [.agg (er (xZ bc fl a main alt).1 (xZ bc fl a main alt).2.1),.d (.int .i64 (xZ bc fl a main alt).2.2)]
theorem Um(f:Nat)(L:f<256)(main alt:List bm)(A:main.length≤1000)(K:alt.length≤1000)(h3:∀x,x∈main→x.length≤100000)(U:∀x,x∈alt→x.length≤100000)(O:∀x,x∈main→bytes x) :
  fm prog 204 [.d (.int .u8 (f:Int)),.agg (er main alt)] (Ds f main alt):=by
 refine bL func204 ntmps204 (rs:=[.cell 4 155,.tmp 5]) (by intro v N;simp at N;rcases N with rfl|rfl;trivial;exact fZ _ _) ?_;have w:∀x,x∈main→x.length≤1000000:=fun x h=>Nat.le_trans (h3 x h) (by decide);have B:∀x,x∈alt→x.length≤1000000:=fun x h=>Nat.le_trans (U x h) (by decide);simp[go_sem,er];refine aS [] (B6 main alt aq aq w B) rfl aw aw aw (by simp[AV.R,AV.r,er]) ?_;rintro r S⟨rfl,T,V,R⟩;refine⟨[(289,0),(129,1),(225,2)],by simp[de,gB],?_⟩;simp[go_sem,cj,bK,T,V,R,Blk.r,pu,AV.R,AV.r,cn,aQ]
 refine db [] [(32,⟨155,2,[[.nil,.nil]]⟩)] Jc (fun j=>128+j) (Uh ⟨main,alt,0⟩ [] [] f L A K w B) oc (fun j o=>by show 128+j<256;omega) (by simp[mcA,cq,bA,aC,lk]) rfl jH
  (fun p c=>by simp at c;subst c;exact⟨by show 32<256;omega,fun j o=>by show 128+j≠32;omega⟩) rfl ?_
 rintro v z ρ ⟨rfl,s⟩ q;cases i:jC f ⟨main,alt,0⟩with
 | some m =>
  rw[i]at s;have b:xZ bc fl f main alt=dR m:=by unfold xZ;rw[i]
  obtain⟨E,D⟩:=Hl i A K;rcases s with ⟨t,l,rfl⟩|⟨G,n,k,t,l,rfl⟩
  ·simp only[Option.getD_some];rw[mcA];simp only[cq,bA];simp[go_sem,AV.r]
   refine db [] [(32,⟨155,2,[[.nil,.nil]]⟩)] bT (fun j=>128+j) (B5 m t l aq aq) oc (fun j o=>by show 128+j<352;omega) (by simp[cq,bA,aC,lk]) rfl jH
    (fun p c=>by simp at c;subst c;exact⟨by show 32<352;omega,fun j o=>by show 128+j≠32;omega⟩) rfl ?_
   rintro v z ρ ⟨rfl,P,rfl⟩ q;have F:ρ 1=129:=q 1 aq;have I:ρ 2=130:=q 2 aq;simp only[cq,bA];unfold sZ;by_cases hc:(dR m).2.2=0
   ·have a:=oe hc;rw[if_pos hc];have g:Ds f main alt=.tup [.agg (er m.main m.alt),.d (.int .i64 0)]:=by unfold Ds;rw[b,a]
    rw[g];simp[go_sem,AV.r,AV.R,F,I,ah];exact qk (J:=t) (H:=l) rfl rfl
   ·have a:=qj hc;rw[if_neg hc];have g:Ds f main alt=.tup [.agg (er [] []),.d (.int .i64 (dR m).2.2)]:=by unfold Ds;rw[b,a]
    rw[g];simp[go_sem,AV.r,AV.R,ah];exact lu
  ·simp only[Option.getD_some]at G⊢;have a:dR m=([],[],m.e):=if_neg G;have g:Ds f main alt=.tup [.agg (er [] []),.d (.int .i64 m.e)]:=by unfold Ds;rw[b,a]
   rw[g];generalize m.e=e at *;show GB _ _ _ _ _ _ _ _ _ [(32,⟨155,2,[[.nil,.nil]]⟩),(128,⟨283,3,[[.own 129 0 n t.length,.own 130 0 k l.length,.d (.int .i64 e)]]⟩),(129,⟨31,1,dy [] t⟩),(130,⟨31,1,dy [] l⟩)];simp[go_sem,AV.r]
   refine db [] [(32,⟨155,2,[[.nil,.nil]]⟩)] Jc (fun j=>128+j) (Yx e G n k t l) oc (fun j o=>by show 128+j<352;omega) (by
    intro p c;have C:p∈[((32:Nat),(⟨155,2,[[.nil,.nil]]⟩:Blk)),(128,⟨283,3,[[.own 129 0 n t.length,.own 130 0 k l.length,.d (.int .i64 e)]]⟩),(129,⟨31,1,dy [] t⟩),(130,⟨31,1,dy [] l⟩)]:=c;simp only[d_,List.mem_nil_iff,or_false]at C
    rcases C with rfl|rfl|rfl|rfl<;>simp[aC,lk]) rfl jH
    (fun p c=>by simp at c;subst c;exact⟨by show 32<352;omega,fun j o=>by show 128+j≠32;omega⟩) rfl ?_
   rintro v z ρ rfl q;simp[go_sem,AV.r,AV.R,ah];exact lu
 | none =>
  rw[i]at s;simp only[Option.getD_none]at s;rcases s with ⟨t,l,rfl⟩|⟨G,_⟩
  rotate_left
  ·exact absurd rfl G
  rw[mcA];simp only[cq,bA];simp[go_sem,AV.r]
  refine db [] [(32,⟨155,2,[[.nil,.nil]]⟩)] bT (fun j=>128+j) (Uj ⟨main,alt,0⟩ t l f L A h3 O) oc (fun j o=>by show 128+j<384;omega) (by simp[cq,bA,aC,lk]) rfl jH
   (fun p c=>by simp at c;subst c;exact⟨by show 32<384;omega,fun j o=>by show 128+j≠32;omega⟩) rfl ?_
  rintro v z ρ ⟨rfl,M,rfl⟩ q;cases u:yZ bc fl f ⟨main,alt,0⟩with
  | some m =>
   have b:xZ bc fl f main alt=dR m:=by unfold xZ;rw[i,u]
   obtain⟨E,D⟩:=Lt u A K;simp only[Option.getD_some];simp only[cq,bA];simp[go_sem,AV.r]
   refine db [] [(32,⟨155,2,[[.nil,.nil]]⟩)] bT (fun j=>128+j) (B5 m M l aq aq) oc (fun j o=>by show 128+j<480;omega) (by simp[cq,bA,aC,lk]) rfl jH
    (fun p c=>by simp at c;subst c;exact⟨by show 32<480;omega,fun j o=>by show 128+j≠32;omega⟩) rfl ?_
   rintro v z ρ ⟨rfl,P,rfl⟩ q;have F:ρ 1=129:=q 1 aq;have I:ρ 2=130:=q 2 aq;simp only[cq,bA];unfold sZ;by_cases hc:(dR m).2.2=0
   ·have a:=oe hc;rw[if_pos hc];have g:Ds f main alt=.tup [.agg (er m.main m.alt),.d (.int .i64 0)]:=by unfold Ds;rw[b,a]
    rw[g];simp[go_sem,AV.r,AV.R,F,I,ah];exact qk (J:=M) (H:=l) rfl rfl
   ·have a:=qj hc;rw[if_neg hc];have g:Ds f main alt=.tup [.agg (er [] []),.d (.int .i64 (dR m).2.2)]:=by unfold Ds;rw[b,a]
    rw[g];simp[go_sem,AV.r,AV.R,ah];exact lu
  | none =>
   simp only[Option.getD_none];simp only[cq,bA];simp[go_sem,AV.r]
   refine db [] [(32,⟨155,2,[[.nil,.nil]]⟩)] bT (fun j=>128+j) (Ls ⟨main,alt,0⟩ M l f L A w O) oc (fun j o=>by show 128+j<512;omega) (by simp[cq,bA,aC,lk]) rfl jH
    (fun p c=>by simp at c;subst c;exact⟨by show 32<512;omega,fun j o=>by show 128+j≠32;omega⟩) rfl ?_
   rintro v z ρ ⟨rfl,Q,rfl⟩ q;cases y:qN f ⟨main,alt,0⟩with
   | some m =>
    have b:xZ bc fl f main alt=dR m:=by unfold xZ;rw[i,u,y]
    obtain⟨E,D⟩:=Hm y A K;simp only[Option.getD_some];simp only[cq,bA];simp[go_sem,AV.r]
    refine db [] [(32,⟨155,2,[[.nil,.nil]]⟩)] bT (fun j=>128+j) (B5 m Q l aq aq) oc (fun j o=>by show 128+j<608;omega) (by simp[cq,bA,aC,lk]) rfl jH
     (fun p c=>by simp at c;subst c;exact⟨by show 32<608;omega,fun j o=>by show 128+j≠32;omega⟩) rfl ?_
    rintro v z ρ ⟨rfl,P,rfl⟩ q;have F:ρ 1=129:=q 1 aq;have I:ρ 2=130:=q 2 aq;simp only[cq,bA];unfold sZ;by_cases hc:(dR m).2.2=0
    ·have a:=oe hc;rw[if_pos hc];have g:Ds f main alt=.tup [.agg (er m.main m.alt),.d (.int .i64 0)]:=by unfold Ds;rw[b,a]
     rw[g];simp[go_sem,AV.r,AV.R,F,I,ah];exact qk (J:=Q) (H:=l) rfl rfl
    ·have a:=qj hc;rw[if_neg hc];have g:Ds f main alt=.tup [.agg (er [] []),.d (.int .i64 (dR m).2.2)]:=by unfold Ds;rw[b,a]
     rw[g];simp[go_sem,AV.r,AV.R,ah];exact lu
   |none =>
    have b:xZ bc fl f main alt=([],[],10):=by unfold xZ;rw[i,u,y]
    have g:Ds f main alt=.tup [.agg (er [] []),.d (.int .i64 10)]:=by unfold Ds;rw[b]
    rw[g];simp only[Option.getD_none];simp only[cq,bA];simp[go_sem,AV.r,ah];exact lu
def jK:bm→Option (Nat×Nat)
 |[]=>none
 |op::r =>
  if 0<op∧op≤75 then some (op,1)
  else if op=76 then(match r with|a::_=>some (a,2) | []=>none)
  else if op=77 then(match r with|a::b::_=>some (a+256*b,3)|_=>none)
  else some (0,1)
def pv(s:bm)(a:Nat):Option (Wd×Nat) :=
 match jK (s.drop a)with
 |none=>none
 |some (n,h)=>if(s.drop a).length-h<n then none else some (((s.drop a).headD 0,((s.drop a).drop h).take n),a+h+n)
def ga(w:Wd):Option bm :=
 if w.1≤77 then some w.2 else if w.1=79 then some [129]else if 80<w.1∧w.1≤96 then some [w.1-80]else none
def vu(w:Wd):Bool:=match ga w with
 |none=>true
 |some b=>decide (c6 b=w)
def oO(a:Nat):Bool:=[97,99,100,103,104,105,106,107,108,109,110,111,112,113,114,115,116,117,118,119,120,121,122,123,124,125,126,130,135,136,139,140,143,144,145,146,147,148,154,155,156,157,158,159,160,161,162,163,164,165,168,170,172,173,177,178,179,186,187,188,204].contains a
structure Rn where
 main:List bm
 alt:List bm
 br:List Bool
 bud:Int
 cl:List (Int×Int)
 e:Int
structure Rx where
 h1:bm→bm
 h2:bm→bm
 sg:bm→bm→bm→Bool
 msg:bm
 lock:Int
 ver:Int
 seq:Int
 tpl:bm
 rcv:bm→Int→Int×Int×Int
 trg:bm→Int→Int→Int→List (Int×Int)×Int
def aB(x:Int)(r:Rn):Rn:=if r.e=0 then { r with e:=x }else r
def bB(r:Rn):bm×Rn :=
 if r.e=0 then(if r.main.length=0 then([],aB 12 r)else(r.main.getLastD [],{ r with main:=r.main.dropLast }))else([],r)
def fD(most:Nat)(r:Rn):Int×Rn :=
 let p:=bB r
 if p.2.e=0 then(match gK most p.1 with|some n=>(n,p.2)|none=>(0,aB 15 p.2))else(0,p.2)
def nu(r:Rn):bm×Rn:=if r.main.length=0 then([],aB 12 r)else(r.main.getLastD [],r)
def eQ(b:bm)(r:Rn):Rn :=
 if r.e=0 then(if gm (r.main++[b]) r.alt=0 then { r with main:=r.main++[b] }else aB (gm (r.main++[b]) r.alt) r)else r
def ny(b:Bool)(r:Rn):Rn:={ r with br:=r.br++[b] }
def og(r:Rn):Option Bool×Rn:=if r.br.length=0 then(none,aB 18 r)else(some (r.br.getLastD false),{ r with br:=r.br.dropLast })
def jq(r:Rn):Nat:=(r.br.filter fun b=>!b).length
def oJ(r:Rn):Bool×Rn :=
 let p:=bB r
 (decide (p.1.length=1),if 1<p.1.length∨(p.1.length=1∧p.1.headD 0≠1)then aB 19 p.2 else p.2)
def px(a:Nat)(r:Rn):Option Rn :=
 if a=99∨a=100 then
  some (if jq r=0 then(let p:=oJ r;ny (decide (p.1=decide (a=99))) p.2)else ny false r)
 else if a=103 then
  some (match og r with|(some b,r')=>ny (!b) r'|(none,r')=>r')
 else if a=104 then some (og r).2
 else none
def gR(sg:bm→bm→bm→Bool)(key a msg:bm)(r:Rn):Bool×Rn :=
 if r.e=0∧a.length≠0 then
  (if r.bud<50 then(false,aB 21 r)
  else if key.length=32∧sg key a msg then(true,{ r with bud:=r.bud-50 })else(false,aB 20 { r with bud:=r.bud-50 }))
 else(false,r)
def uF(x:Rx)(a:Nat)(r:Rn):Rn :=
 let k:=bB r
 if a=172 then
  let s:=bB k.2
  let g:=gR x.sg k.1 s.1 x.msg s.2
  eQ (jX g.1) g.2
 else if a=173 then
  let s:=bB k.2
  let g:=gR x.sg k.1 s.1 x.msg s.2
  if g.1 then g.2 else aB 16 g.2
 else if a=186 then
  let n:=fD 4 k.2
  let s:=bB n.2
  let g:=gR x.sg k.1 s.1 x.msg s.2
  eQ (dk (if g.1 then n.1+1 else n.1)) g.2
 else if a=204 then
  let m:=bB k.2
  let s:=bB m.2
  let g:=gR x.sg k.1 s.1 m.1 s.2
  eQ (jX g.1) g.2
 else k.2
def mF(r:Rn):Int×Rn :=
 let t:=nu r
 if t.2.e=0 then
  (match gK 5 t.1 with
  |some n=>(n,if n<0 then aB 22 t.2 else t.2)
  |none=>(0,aB 15 t.2))
 else(0,t.2)
def yk(x:Rx)(r:Rn):Rn :=
 let p:=mF r
 if(decide (p.1<500000000) != decide (x.lock<500000000))||decide (x.lock<p.1)||decide (x.seq=4294967295)then aB 22 p.2 else p.2
def gw(k:Nat)(n:Int):Bool:=decide (n.fdiv (2 ^ k)%2=1)
def Ce(x:Rx)(r:Rn):Rn :=
 let p:=mF r
 if gw 31 p.1 then p.2
 else if decide (x.ver<2)||gw 31 x.seq||(gw 22 p.1 != gw 22 x.seq)||decide (x.seq%65536<p.1%65536)then aB 22 p.2 else p.2
def Cf(x:Rx)(r:Rn):Rn :=
 let p:=nu r
 if p.1=x.tpl then p.2 else aB 23 p.2
def EX(l:List (Int×Int))(e:Int)(r:Rn):Rn :=
 if r.e=0 then eQ (jX true) { aB e r with cl:=r.cl++l }else r
def Hn(x:Rx)(r:Rn):Rn :=
 let h:=bB r
 let o:=fD 4 h.2
 if o.2.e=0 then EX [((x.rcv h.1 o.1).1,(x.rcv h.1 o.1).2.1)] (x.rcv h.1 o.1).2.2 o.2 else o.2
def dp:Nat→Rn→List bm×Rn
 |0,r=>([],r)
 |k+1,r=>let p:=bB r;let q:=dp k p.2;(q.1++[p.1],q.2)
def jL(n:Int)(r:Rn):List bm×Rn :=
 let r1:=if n<0∨(r.main.length:Int)<n then aB 12 r else r
 if r1.e=0 then dp n.toNat r1 else([],r1)
def Ho(x:Rx)(r:Rn):Rn :=
 let n:=fD 4 r
 let b:=bB n.2
 let l:=jL n.1 b.2
 let o:=fD 4 l.2
 let t:=fD 4 o.2
 let k:=fD 8 t.2
 if k.2.e=0 then
  (if(rp l.1 b.1).2=0 then EX (x.trg (rp l.1 b.1).1 o.1 t.1 k.1).1 (x.trg (rp l.1 b.1).1 o.1 t.1 k.1).2 k.2 else aB (rp l.1 b.1).2 k.2)
 else k.2
def yl(x:Rx)(a:Nat)(r:Rn):Rn :=
 if a=106 then aB 17 r
 else if a=172∨a=173∨a=186∨a=204 then uF x a r
 else if a=177 then yk x r
 else if a=178 then Ce x r
 else if a=179 then Cf x r
 else if a=187 then Ho x r
 else if a=188 then Hn x r
 else
  let d:=xZ x.h1 x.h2 a r.main r.alt
  { aB d.2.2 r with main:=d.1,alt:=d.2.1 }
def oh (x:Rx) (w:Wd) (r:Rn):Rn :=
 if !oO w.1&&(ga w).isNone then aB 10 r
 else match px w.1 r with
  |some r'=>r'
  | none =>
   if 0<jq r then r
   else match ga w with
    |some b=>if vu w then eQ b r else aB 11 r
    |none=>yl x w.1 r
def oP(x:Rx)(s:bm):Nat→Nat→Rn→Rn
 |0,_,r=>r
 | k+1,a,r =>
  if a<s.length∧r.e=0 then
   (match pv s a with
   |none=>aB 2 r
   |some (w,b)=>oP x s k b (oh x w r))
  else r
def om(r:Rn):Rn :=
 let r1:=if 0<r.br.length then aB 18 r else r
 if r1.main.length=1∧gu (r1.main.headD [])=true then r1 else aB 25 r1
def zo(x:Rx)(s:bm)(a:List bm)(bud:Int):List (Int×Int)×Int :=
 let r:=om (oP x s (s.length+1) 0 (aB (gm a []) ⟨a,[],[],bud,[],0⟩))
 if r.e=0 then(r.cl,0)else([],r.e)
def AA(o:Option (Nat×Nat)):AV:=match o with
 |none=>.tup [.d (.int .i64 0),.d (.int .i64 0),.d (.bool false)]
 |some (n,h)=>.tup [.d (.int .i64 (n:Int)),.d (.int .i64 (h:Int)),.d (.bool true)]
theorem gU(o:Option (Nat×Nat)):(AA o).deep:=by
 rcases o with _|⟨n,h⟩;intro c hc;simp at hc;rcases hc with rfl|rfl<;>exact .inl trivial;intro c hc;simp at hc;rcases hc with rfl|rfl|rfl<;>exact .inl trivial
theorem Yy(a b:Nat)(c:a<4294967296)(d:b<4294967296):Go.bits .or .i64 (a:Int) (b:Int)=((a ||| b:Nat):Int):=by
 show IntKind.i64.wrap (((BitVec.ofInt 64 (a:Int)) ||| (BitVec.ofInt 64 (b:Int))).toNat:Int)=_;rw[BitVec.toNat_or,gj,gj,←Nat.or_mod_two_pow];have:a ||| b<2 ^ 32:=Nat.or_lt_two_pow aq aq;rw[IntWalk.i64_in _ aq];omega
theorem Pq (c:Nat) (r:bm) (o:bytes (c :: r)) (E:r.length≤1000000):fm prog 167 [.d (nb (c :: r))] (AA (jK (c :: r))):=by
 refine bL func167 ntmps167 (rs:=[.tmp 2,.tmp 3,.tmp 4]) a9 ?_;have D:c<256:=o c aw;have A:IntKind.i64.wrap (c:Int)=(c:Int):=IntWalk.i64_in _ aq;simp[go_sem,nb];by_cases t:0<c
 ·have C:(0:Int)<(c:Int):=aq;have l:¬ c=0:=aq;by_cases m:c≤75
  ·have f:(c:Int)≤75:=aq;have e:jK (c::r)=some (c,1):=(by simp[jK,t,m]);rw[e];simp[go_sem,t,l,f,A,ah];exact aW rfl (gU (some (c,1)))
  ·have f:¬ (c:Int)≤75:=aq;by_cases i:c=76
   ·subst i;rcases r with _|⟨a,r⟩
    ·have e:jK [76]=none:=rfl;rw[e];simp[go_sem,ah];exact aW rfl (gU none)
    ·have e:jK (76::a::r)=some (a,2):=rfl;have w:a<256:=o a aw;have p:IntKind.i64.wrap (a:Int)=(a:Int):=IntWalk.i64_in _ aq;rw[e];simp[go_sem,p,ah];refine⟨fun _=>aW rfl (gU (some (a,2))),fun h=>absurd h aq⟩
   ·have j:¬(c:Int)=76:=aq;by_cases g:c=77
    ·subst g;rcases r with _|⟨a,r⟩
     ·have e:jK [77]=none:=rfl;rw[e];simp[go_sem,ah];exact aW rfl (gU none)
     ·rcases r with _|⟨b,r⟩
      ·have e:jK [77,a]=none:=rfl;rw[e];simp[go_sem,ah];exact aW rfl (gU none)
      ·have e:jK (77::a::b::r)=some (a+256*b,3):=rfl;have w:a<256:=o a aw;have z:b<256:=o b aw;have p:IntKind.i64.wrap (a:Int)=(a:Int):=IntWalk.i64_in _ aq;have B:IntKind.i64.wrap (b:Int)=(b:Int):=IntWalk.i64_in _ aq;rw[e];simp[go_sem,ah];refine⟨fun _=>?_,fun h=>absurd h aq⟩;refine cK [0,1,2,3,4,5,6,7,8,9,10,11,12] [] 0 (k:=13) ?_;intro G u;have x:IntKind.i64.wrap ((b:Int)*256)=((b*2 ^ 8:Nat):Int):=by rw[IntWalk.i64_in _ aq];omega
       have y:Go.bits .or .i64 (a:Int) ((b*2 ^ 8:Nat):Int)=((a+256*b:Nat):Int):=by
        rw[Yy a (b*2 ^ 8) aq aq,OT aq];omega
       generalize((b*2 ^ 8:Nat):Int)=q at *;simp[go_sem,p,B,x,y];refine u _ _ ?_;clear u G;simp[go_sem,ah];exact aW (by simp[AA]) (gU (some (a+256*b,3)))
    ·have n:¬(c:Int)=77:=aq;have e:jK (c::r)=some (0,1):=(by simp[jK,m,i,g]);rw[e];simp[go_sem,t,l,f,j,n,ah];exact aW rfl (gU (some (0,1)))
 ·have s:c=0:=aq;subst s;have e:jK (0::r)=some (0,1):=rfl;rw[e];simp[go_sem,ah];exact aW rfl (gU (some (0,1)))
def zp(w:Wd):List AV:=[.d (.int .u8 (w.1:Int)),.d (nb w.2)]
def Px(o:Option (Wd×Nat)):AV:=match o with
 |some (w,p)=>.tup [.agg (zp w),.d (.int .i64 (p:Int)),.d (.int .i64 0)]
 |none=>.tup [.agg (zp (0,[])),.d (.int .i64 0),.d (.int .i64 2)]
theorem EY{e n h:Nat}{r:bm}(d:bytes (e::r))(c:jK (e::r)=some (n,h)):1≤h∧h≤r.length+1∧n≤65535:=by
 have i:e<256:=d e aw;unfold jK at c;simp only at c;split at c;cases c;omega;split at c;rcases r with _|⟨a,r⟩;cases c;have g:a<256:=d a aw;cases c;simp;omega;split at c;rcases r with _|⟨a,_|⟨b,r⟩⟩;cases c;cases c;have g:a<256:=d a aw;have f:b<256:=d b aw;cases c;simp;omega;cases c;omega
theorem uG{cs cs':List AV}{a b:AV}{st:St}(hc:sA st.hp (fun _=>True) cs cs')(f:∀c,c∈cs'→c.deep1)(h:a.deep1)(g:b.deep1) :
  dG (fun r=>r=.tup [.agg cs',a,b]) (.tup [.agg cs,a,b]) st:=by
 refine⟨_,.tup (cs':=[.agg cs',a,b]) rfl (fun i c j d e=>?_),?_,rfl⟩
 ·match i with
  |0=>simp at d e;subst d;subst e;exact .inr ⟨_,_,rfl,rfl,hc⟩
  |1=>simp at d e;subst d;subst e;exact .inl (.inl ⟨rfl,h⟩)
  |2=>simp at d e;subst d;subst e;exact .inl (.inl ⟨rfl,g⟩)
  |i+3=>simp at d
 ·intro c hc;simp at hc;rcases hc with rfl|rfl|rfl;exact .inr ⟨_,rfl,f⟩;exact .inl h;exact .inl g
theorem lV(w:Wd):∀c,c∈zp w→c.deep1:=by
 intro c hc;simp[zp]at hc;rcases hc with rfl|rfl<;>trivial
theorem Py (s:bm) (a:Nat) (D:bytes s) (K:s.length≤1000000) (J:a<s.length):fm prog 139 [.d (nb s),.d (.int .i64 (a:Int))] (Px (pv s a)):=by
  refine bL func139 ntmps139 (rs:=[.cell 4 42,.tmp 5,.tmp 6]) a9 ?_;have F:¬(a:Int)<0:=aq;have E:¬(s.length:Int)≤(a:Int):=aq;have h3:(a:Int)≤(s.length:Int):=aq;obtain⟨c,r,i⟩:∃c r,s.drop a=c::r:=by
    rcases h:s.drop a with _|⟨c,r⟩
    · have:=congrArg List.length h
      simp at this;omega
    · exact⟨c,r,rfl⟩
  have f:bytes (c::r):=fun x z=>D x (by rw[←i]at z;exact List.mem_of_mem_drop z);have o:r.length≤1000000:=by
    have:=congrArg List.length i;simp at this;omega
  simp[go_sem,nb,F,E,h3]
  have m:List.drop a (List.take s.length (s.map fun(b:Nat)=>[DV.int .u8 (b:Int)]))=(c::r).map fun(b:Nat)=>[DV.int .u8 (b:Int)]:=by
    rw[cx aw,←List.map_drop,i]
  rw[m];refine ag (Pq c r f o) a9 ?_;have q:pv s a=match jK (c::r)with
    |none=>none
    |some (n,h)=>if(c::r).length-h<n then none else some ((c,((c::r).drop h).take n),a+h+n):=by
    unfold pv;rw[i];rfl
  rw[q];cases I:jK (c::r)with
  | none =>
    simp[go_sem,AA];exact uG (cs':=zp (0,[])) ⟨rfl,ax (aM trivial) (ax (am (.nil 1)) ca)⟩ (lV _) trivial trivial
  | some p =>
    obtain⟨n,h⟩:=p;obtain⟨L,N,M⟩:=EY f I;have B:a+(r.length+1)=s.length:=by
      have:=congrArg List.length i;simp at this;omega
    have w:IntKind.i64.wrap ((r.length:Int)+1-(h:Int))=((r.length+1-h:Nat):Int):=by rw[IntWalk.i64_in _ aq];omega
    by_cases g:r.length+1-h<n
    · have e:((r.length+1 - h:Nat):Int)<(n:Int):=aq
      simp[go_sem,AA,w,g,e];exact uG (cs':=zp (0,[])) ⟨rfl,ax (aM trivial) (ax (am (.nil 1)) ca)⟩ (lV _) trivial trivial
    · have e:¬ ((r.length+1 - h:Nat):Int)<(n:Int):=aq
      have C:IntKind.i64.wrap ((h:Int)+(n:Int))=((h+n:Nat):Int):=by rw[IntWalk.i64_in _ aq];omega
      have P:IntKind.i64.wrap ((a:Int)+(h:Int))=((a+h:Nat):Int):=by rw[IntWalk.i64_in _ aq];omega
      have O:IntKind.i64.wrap (((a+h:Nat):Int)+(n:Int))=((a+h+n:Nat):Int):=by rw[IntWalk.i64_in _ aq];omega
      simp[go_sem,AA,w,g,e];refine dI [0,1,2,3,4,5,6,7,8,11,12,13,14,15] [9,16] [0,1,2,3,4,5,6,7,8,10,11,12,13,14,15,17,18] (.step 9 [10] true (.step 16 [17,18] false .done)) ⟨[(4,.ptr 0 0 0 1),(5,.d (.int .i64 ((a+h+n:Nat):Int))),(6,.d (.int .i64 0))],[(0,⟨42,2,[zp (c,List.take n (List.drop h (c::r)))]⟩)],9000⟩ (k:=19) ?h3 ?hq
      case h3 =>
        intro G H;have l:IntKind.i64.wrap ((a:Int)+(h:Int))=(a:Int)+(h:Int):=IntWalk.i64_in _ aq;have j:IntKind.i64.wrap ((a:Int)+(h:Int)+(n:Int))=(a:Int)+(h:Int)+(n:Int):=IntWalk.i64_in _ aq;have t:((h:Int)+(n:Int)).toNat=h+n:=aq;have u:List.drop h (List.take (h+n) ([DV.int .u8 (c:Int)]::r.map fun(b:Nat)=>[DV.int .u8 (b:Int)]))=(List.take n (List.drop h (c::r))).map fun(b:Nat)=>[DV.int .u8 (b:Int)]:=by
          show List.drop h (List.take (h+n) ((c::r).map fun(b:Nat)=>[DV.int .u8 (b:Int)]))=_;rw[←List.map_take,←List.map_drop,List.drop_take,Nat.add_sub_cancel_left]
        have A:(List.take n (List.drop h (c::r))).length≤100000:=by simp;omega
        generalize List.take n (List.drop h (c::r))=y at *;simp (config := { maxSteps := 3000000 }) [go_sem,C,l,j,t,u];have hc:=eo y aq
        repeat' apply And.intro
        all_goals first
          |omega
          | (refine ag hc a9 ?_
             simp (config := { maxSteps := 3000000 }) [go_sem,l,j]
             repeat' apply And.intro
             all_goals
               refine H _ _ (b8 ?_)
               simp[aA,ai,fv,lk,AV.low,AV.l,zp])
      case hq =>
        simp[go_sem,ah,zp];exact uG (cs':=zp (c,List.take n (List.drop h (c::r)))) ⟨rfl,ax (aM trivial) (ax (aM trivial) ca)⟩ (lV _) trivial trivial
def Pz(o:Option bm):AV:=match o with
 |some b=>.tup [.d (nb b),.d (.bool true)]
 |none=>.tup [.d (nb []),.d (.bool false)]
theorem Lu(o:Option bm):(Pz o).deep:=by
 rcases o with _|b;intro c hc;simp at hc;rcases hc with rfl|rfl<;>exact .inl trivial;intro c hc;simp at hc;rcases hc with rfl|rfl<;>exact .inl trivial
theorem AB{Q:AV→Prop}{st:St}{b:Bool}(hq:Q (.tup [.d (nb []),.d (.bool b)])):dG Q (.tup [.nil,.d (.bool b)]) st :=
 eC (ax (am (.nil 1)) (ax (aM trivial) ca)) rfl a9 hq
theorem ym(w:Wd)(r:w.1<256)(p:w.2.length≤100000):fm prog 21 [.agg (zp w)] (Pz (ga w)):=by
 refine bL func21 ntmps21 (rs:=[.tmp 2,.tmp 3]) (by intro v c;simp at c;subst c;exact lV _) ?_;obtain⟨a,b⟩:=w;simp only at r p;simp[go_sem,zp];by_cases k:a≤77
 ·have e:(a:Int)≤77:=aq;have d:¬(77:Int)<(a:Int):=aq;have c:ga (a,b)=some b:=by simp[ga,k]
  rw[c];simp[go_sem,e,d];have hc:=eo b aq;refine ag hc a9 ?_;simp[go_sem,ah];exact aW rfl (Lu (some b))
 ·have e:¬(a:Int)≤77:=aq;have d:(77:Int)<(a:Int):=aq;by_cases j:a=79
  ·subst j;have c:ga (79,b)=some [129]:=(by simp[ga]);rw[c];simp[go_sem,ah];exact lM (L:=[129]) rfl rfl rfl
  ·have h:¬(a:Int)=79:=aq;by_cases l:80<a
   ·have f:(80:Int)<(a:Int):=aq;have g:¬(a:Int)≤80:=aq;by_cases n:a≤96
    ·have i:(a:Int)≤96:=aq;have m:¬(96:Int)<(a:Int):=aq;have c:ga (a,b)=some [a-80]:=(by simp[ga,k,j,l,n]);have o:IntKind.u8.wrap ((a:Int)-80)=((a-80:Nat):Int):=by rw[MF];omega
     rw[c];simp[go_sem,e,d,h,f,g,i,o,ah];generalize a-80=q at *;exact lM (L:=[q]) rfl rfl rfl
    ·have i:¬(a:Int)≤96:=aq;have m:(96:Int)<(a:Int):=aq;have c:ga (a,b)=none:=(by simp[ga,k,j,l,n]);rw[c];simp[go_sem,e,d,h,f,g,i,ah];exact AB rfl
   ·have f:¬(80:Int)<(a:Int):=aq;have g:(a:Int)≤80:=aq;have c:ga (a,b)=none:=(by simp[ga,k,j,l]);rw[c];simp[go_sem,e,d,h,f,g,ah];exact AB rfl
theorem Jn{w:Wd}{b:bm}(h:ga w=some b):b.length≤w.2.length+1:=by
 unfold ga at h;split at h;cases h;omega;split at h;cases h;simp;split at h;cases h;simp;cases h
theorem yn{w:Wd}{b:bm}(c:bytes w.2)(d:w.1<256)(h:ga w=some b):bytes b:=by
 unfold ga at h;split at h;cases h;exact c;split at h;cases h;intro x a;simp at a;omega;split at h;cases h;intro x a;simp at a;omega;cases h
theorem Lx(w:Wd)(i:w.1<256)(l:bytes w.2)(s:w.2.length≤50000):fm prog 170 [.agg (zp w)] (.d (.bool (vu w))):=by
 refine bL func170 ntmps170 (rs:=[.tmp 2]) (by intro v e;simp at e;subst e;exact lV _) ?_;obtain⟨f,b⟩:=w;simp only at i s l;have p:=ym (f,b) i (by show b.length≤100000;omega);simp only[zp]at p;simp[go_sem,zp];refine ag p (by intro v e;simp at e;subst e;exact lV (f,b)) ?_;unfold vu
 cases n:ga (f,b)with
 |none =>
  simp[go_sem,Pz,ah];exact aa trivial rfl
 |some y =>
  have q:=Jn n;have c:=yn l i n;simp only at q;have j:=pY y aq c;simp[go_sem,Pz];refine ag j a9 ?_;have g:=gk y;have a:=kD c;have h:=(kC aq c:zi (c6 y)).2;rcases r:c6 y with ⟨o,b2⟩;rw[r]at g a h;simp only at g a h;simp only[sP];by_cases m:o=f
  ·subst m;simp[go_sem];refine ag (jG b2 b a l) a9 ?_;simp[go_sem,ah];exact aa trivial rfl
  ·have k:¬(o:Int)=(f:Int):=aq;simp[go_sem,m,k,ah];exact aa trivial rfl
def rJ(a:Nat):List (Nat×List Int)→List Int
 |[]=>[]
 |p::t=>if a=p.1 then p.2 else rJ a t
theorem aE{a:Nat}{s:List Int}{t:List (Nat×List Int)}{n:Nat}(h:a=n):rJ a ((n,s)::t)=s:=if_pos h
theorem aH{a:Nat}{s:List Int}{t:List (Nat×List Int)}{n:Nat}(h:¬a=n):rJ a ((n,s)::t)=rJ a t:=if_neg h
def s7:List (Nat×List Int):=(97,78::79::80::[])::(99,73::70::[])::(100,78::79::84::73::70::[])::(103,69::76::83::69::[])::(104,69::78::68::73::70::[])::(105,86::69::82::73::70::89::[])::(106,82::69::84::85::82::78::[])::(107,84::79::65::76::84::[])::(108,70::82::79::77::65::76::84::[])::(109,50::68::82::79::80::[])::(110,50::68::85::80::[])::(111,51::68::85::80::[])::(112,50::79::86::69::82::[])::(113,50::82::79::84::[])::(114,50::83::87::65::80::[])::(115,73::70::68::85::80::[])::(116,68::69::80::84::72::[])::(117,68::82::79::80::[])::(118,68::85::80::[])::(119,78::73::80::[])::(120,79::86::69::82::[])::(121,80::73::67::75::[])::(122,82::79::76::76::[])::(123,82::79::84::[])::(124,83::87::65::80::[])::(125,84::85::67::75::[])::[]
def lW:List (Nat×List Int):=(126,67::65::84::[])::(130,83::73::90::69::[])::(135,69::81::85::65::76::[])::(136,69::81::85::65::76::86::69::82::73::70::89::[])::(139,49::65::68::68::[])::(140,49::83::85::66::[])::(143,78::69::71::65::84::69::[])::(144,65::66::83::[])::(145,78::79::84::[])::(146,48::78::79::84::69::81::85::65::76::[])::(147,65::68::68::[])::(148,83::85::66::[])::(154,66::79::79::76::65::78::68::[])::(155,66::79::79::76::79::82::[])::(156,78::85::77::69::81::85::65::76::[])::(157,78::85::77::69::81::85::65::76::86::69::82::73::70::89::[])::(158,78::85::77::78::79::84::69::81::85::65::76::[])::(159,76::69::83::83::84::72::65::78::[])::(160,71::82::69::65::84::69::82::84::72::65::78::[])::(161,76::69::83::83::79::82::69::81::85::65::76::[])::[]
def qn:List (Nat×List Int):=(162,71::82::69::65::84::69::82::79::82::69::81::85::65::76::[])::(163,77::73::78::[])::(164,77::65::88::[])::(165,87::73::84::72::73::78::[])::(168,83::72::65::50::53::54::[])::(170,72::65::83::72::50::53::54::[])::(172,67::72::69::67::75::83::73::71::[])::(173,67::72::69::67::75::83::73::71::86::69::82::73::70::89::[])::(177,67::76::84::86::[])::(178,67::83::86::[])::(179,67::84::86::[])::(186,67::72::69::67::75::83::73::71::65::68::68::[])::(187,86::65::85::76::84::[])::(188,82::69::67::79::86::69::82::[])::(204,67::83::70::83::[])::[]
set_option maxRecDepth 4000 in
theorem Ly(a:Nat)(h8:a<256):fm prog 191 [.d (.int .u8 (a:Int))] (.d (.str (rJ a s7))):=by
 refine bL func191 ntmps191 (rs:=[.tmp 2]) a9 ?_;simp[go_sem,s7];by_cases S:a=97
 ·have b:(a:Int)=97:=aq;rw[aE S];simp[go_sem,S];exact aa trivial rfl
 have ae:¬(a:Int)=97:=aq;rw[aH S];simp[go_sem,ae];by_cases N:a=99
 ·have b:(a:Int)=99:=aq;rw[aE N];simp[go_sem,N];exact aa trivial rfl
 have ad:¬(a:Int)=99:=aq;rw[aH N];simp[go_sem,ad];by_cases w:a=100
 ·have b:(a:Int)=100:=aq;rw[aE w];simp[go_sem,w];exact aa trivial rfl
 have Q:¬(a:Int)=100:=aq;rw[aH w];simp[go_sem,Q];by_cases m:a=103
 ·have b:(a:Int)=103:=aq;rw[aE m];simp[go_sem,m];exact aa trivial rfl
 have U:¬(a:Int)=103:=aq;rw[aH m];simp[go_sem,U];by_cases A:a=104
 ·have b:(a:Int)=104:=aq;rw[aE A];simp[go_sem,A];exact aa trivial rfl
 have O:¬(a:Int)=104:=aq;rw[aH A];simp[go_sem,O];by_cases g:a=105
 ·have b:(a:Int)=105:=aq;rw[aE g];simp[go_sem,g];exact aa trivial rfl
 have V:¬(a:Int)=105:=aq;rw[aH g];simp[go_sem,V];by_cases c:a=106
 ·have b:(a:Int)=106:=aq;rw[aE c];simp[go_sem,c];exact aa trivial rfl
 have D:¬(a:Int)=106:=aq;rw[aH c];simp[go_sem,D];by_cases t:a=107
 ·have b:(a:Int)=107:=aq;rw[aE t];simp[go_sem,t];exact aa trivial rfl
 have G:¬(a:Int)=107:=aq;rw[aH t];simp[go_sem,G];by_cases n:a=108
 ·have b:(a:Int)=108:=aq;rw[aE n];simp[go_sem,n];exact aa trivial rfl
 have X:¬(a:Int)=108:=aq;rw[aH n];simp[go_sem,X];by_cases q:a=109
 ·have b:(a:Int)=109:=aq;rw[aE q];simp[go_sem,q];exact aa trivial rfl
 have C:¬(a:Int)=109:=aq;rw[aH q];simp[go_sem,C];by_cases y:a=110
 ·have b:(a:Int)=110:=aq;rw[aE y];simp[go_sem,y];exact aa trivial rfl
 have I:¬(a:Int)=110:=aq;rw[aH y];simp[go_sem,I];by_cases z:a=111
 ·have b:(a:Int)=111:=aq;rw[aE z];simp[go_sem,z];exact aa trivial rfl
 have T:¬(a:Int)=111:=aq;rw[aH z];simp[go_sem,T];by_cases o:a=112
 ·have b:(a:Int)=112:=aq;rw[aE o];simp[go_sem,o];exact aa trivial rfl
 have ab:¬(a:Int)=112:=aq;rw[aH o];simp[go_sem,ab];by_cases u:a=113
 ·have b:(a:Int)=113:=aq;rw[aE u];simp[go_sem,u];exact aa trivial rfl
 have W:¬(a:Int)=113:=aq;rw[aH u];simp[go_sem,W];by_cases x:a=114
 ·have b:(a:Int)=114:=aq;rw[aE x];simp[go_sem,x];exact aa trivial rfl
 have Z:¬(a:Int)=114:=aq;rw[aH x];simp[go_sem,Z];by_cases B:a=115
 ·have b:(a:Int)=115:=aq;rw[aE B];simp[go_sem,B];exact aa trivial rfl
 have P:¬(a:Int)=115:=aq;rw[aH B];simp[go_sem,P];by_cases k:a=116
 ·have b:(a:Int)=116:=aq;rw[aE k];simp[go_sem,k];exact aa trivial rfl
 have K:¬(a:Int)=116:=aq;rw[aH k];simp[go_sem,K];by_cases p:a=117
 ·have b:(a:Int)=117:=aq;rw[aE p];simp[go_sem,p];exact aa trivial rfl
 have ac:¬(a:Int)=117:=aq;rw[aH p];simp[go_sem,ac];by_cases h:a=118
 ·have b:(a:Int)=118:=aq;rw[aE h];simp[go_sem,h];exact aa trivial rfl
 have Y:¬(a:Int)=118:=aq;rw[aH h];simp[go_sem,Y];by_cases l:a=119
 ·have b:(a:Int)=119:=aq;rw[aE l];simp[go_sem,l];exact aa trivial rfl
 have H:¬(a:Int)=119:=aq;rw[aH l];simp[go_sem,H];by_cases e:a=120
 ·have b:(a:Int)=120:=aq;rw[aE e];simp[go_sem,e];exact aa trivial rfl
 have F:¬(a:Int)=120:=aq;rw[aH e];simp[go_sem,F];by_cases j:a=121
 ·have b:(a:Int)=121:=aq;rw[aE j];simp[go_sem,j];exact aa trivial rfl
 have L:¬(a:Int)=121:=aq;rw[aH j];simp[go_sem,L];by_cases r:a=122
 ·have b:(a:Int)=122:=aq;rw[aE r];simp[go_sem,r];exact aa trivial rfl
 have M:¬(a:Int)=122:=aq;rw[aH r];simp[go_sem,M];by_cases i:a=123
 ·have b:(a:Int)=123:=aq;rw[aE i];simp[go_sem,i];exact aa trivial rfl
 have E:¬(a:Int)=123:=aq;rw[aH i];simp[go_sem,E];by_cases f:a=124
 ·have b:(a:Int)=124:=aq;rw[aE f];simp[go_sem,f];exact aa trivial rfl
 have J:¬(a:Int)=124:=aq;rw[aH f];simp[go_sem,J];by_cases s:a=125
 ·have b:(a:Int)=125:=aq;rw[aE s];simp[go_sem,s];exact aa trivial rfl
 have R:¬(a:Int)=125:=aq;rw[aH s];simp[go_sem,R];exact aa trivial rfl
set_option maxRecDepth 4000 in
theorem Ci(a:Nat)(S:a<256):fm prog 192 [.d (.int .u8 (a:Int))] (.d (.str (rJ a lW))):=by
 refine bL func192 ntmps192 (rs:=[.tmp 2]) a9 ?_;simp[go_sem,lW];by_cases m:a=126
 ·have b:(a:Int)=126:=aq;rw[aE m];simp[go_sem,m];exact aa trivial rfl
 have O:¬(a:Int)=126:=aq;rw[aH m];simp[go_sem,O];by_cases j:a=130
 ·have b:(a:Int)=130:=aq;rw[aE j];simp[go_sem,j];exact aa trivial rfl
 have D:¬(a:Int)=130:=aq;rw[aH j];simp[go_sem,D];by_cases t:a=135
 ·have b:(a:Int)=135:=aq;rw[aE t];simp[go_sem,t];exact aa trivial rfl
 have C:¬(a:Int)=135:=aq;rw[aH t];simp[go_sem,C];by_cases o:a=136
 ·have b:(a:Int)=136:=aq;rw[aE o];simp[go_sem,o];exact aa trivial rfl
 have E:¬(a:Int)=136:=aq;rw[aH o];simp[go_sem,E];by_cases e:a=139
 ·have b:(a:Int)=139:=aq;rw[aE e];simp[go_sem,e];exact aa trivial rfl
 have A:¬(a:Int)=139:=aq;rw[aH e];simp[go_sem,A];by_cases g:a=140
 ·have b:(a:Int)=140:=aq;rw[aE g];simp[go_sem,g];exact aa trivial rfl
 have z:¬(a:Int)=140:=aq;rw[aH g];simp[go_sem,z];by_cases u:a=143
 ·have b:(a:Int)=143:=aq;rw[aE u];simp[go_sem,u];exact aa trivial rfl
 have N:¬(a:Int)=143:=aq;rw[aH u];simp[go_sem,N];by_cases f:a=144
 ·have b:(a:Int)=144:=aq;rw[aE f];simp[go_sem,f];exact aa trivial rfl
 have J:¬(a:Int)=144:=aq;rw[aH f];simp[go_sem,J];by_cases k:a=145
 ·have b:(a:Int)=145:=aq;rw[aE k];simp[go_sem,k];exact aa trivial rfl
 have H:¬(a:Int)=145:=aq;rw[aH k];simp[go_sem,H];by_cases w:a=146
 ·have b:(a:Int)=146:=aq;rw[aE w];simp[go_sem,w];exact aa trivial rfl
 have L:¬(a:Int)=146:=aq;rw[aH w];simp[go_sem,L];by_cases c:a=147
 ·have b:(a:Int)=147:=aq;rw[aE c];simp[go_sem,c];exact aa trivial rfl
 have P:¬(a:Int)=147:=aq;rw[aH c];simp[go_sem,P];by_cases s:a=148
 ·have b:(a:Int)=148:=aq;rw[aE s];simp[go_sem,s];exact aa trivial rfl
 have F:¬(a:Int)=148:=aq;rw[aH s];simp[go_sem,F];by_cases n:a=154
 ·have b:(a:Int)=154:=aq;rw[aE n];simp[go_sem,n];exact aa trivial rfl
 have R:¬(a:Int)=154:=aq;rw[aH n];simp[go_sem,R];by_cases q:a=155
 ·have b:(a:Int)=155:=aq;rw[aE q];simp[go_sem,q];exact aa trivial rfl
 have y:¬(a:Int)=155:=aq;rw[aH q];simp[go_sem,y];by_cases i:a=156
 ·have b:(a:Int)=156:=aq;rw[aE i];simp[go_sem,i];exact aa trivial rfl
 have M:¬(a:Int)=156:=aq;rw[aH i];simp[go_sem,M];by_cases h:a=157
 ·have b:(a:Int)=157:=aq;rw[aE h];simp[go_sem,h];exact aa trivial rfl
 have K:¬(a:Int)=157:=aq;rw[aH h];simp[go_sem,K];by_cases r:a=158
 ·have b:(a:Int)=158:=aq;rw[aE r];simp[go_sem,r];exact aa trivial rfl
 have B:¬(a:Int)=158:=aq;rw[aH r];simp[go_sem,B];by_cases p:a=159
 ·have b:(a:Int)=159:=aq;rw[aE p];simp[go_sem,p];exact aa trivial rfl
 have G:¬(a:Int)=159:=aq;rw[aH p];simp[go_sem,G];by_cases l:a=160
 ·have b:(a:Int)=160:=aq;rw[aE l];simp[go_sem,l];exact aa trivial rfl
 have I:¬(a:Int)=160:=aq;rw[aH l];simp[go_sem,I];by_cases x:a=161
 ·have b:(a:Int)=161:=aq;rw[aE x];simp[go_sem,x];exact aa trivial rfl
 have Q:¬(a:Int)=161:=aq;rw[aH x];simp[go_sem,Q];exact aa trivial rfl
set_option maxRecDepth 4000 in
theorem EZ(a:Nat)(I:a<256):fm prog 193 [.d (.int .u8 (a:Int))] (.d (.str (rJ a qn))):=by
 refine bL func193 ntmps193 (rs:=[.tmp 2]) a9 ?_;simp[go_sem,qn];by_cases o:a=162
 ·have b:(a:Int)=162:=aq;rw[aE o];simp[go_sem,o];exact aa trivial rfl
 have G:¬(a:Int)=162:=aq;rw[aH o];simp[go_sem,G];by_cases e:a=163
 ·have b:(a:Int)=163:=aq;rw[aE e];simp[go_sem,e];exact aa trivial rfl
 have E:¬(a:Int)=163:=aq;rw[aH e];simp[go_sem,E];by_cases q:a=164
 ·have b:(a:Int)=164:=aq;rw[aE q];simp[go_sem,q];exact aa trivial rfl
 have H:¬(a:Int)=164:=aq;rw[aH q];simp[go_sem,H];by_cases n:a=165
 ·have b:(a:Int)=165:=aq;rw[aE n];simp[go_sem,n];exact aa trivial rfl
 have u:¬(a:Int)=165:=aq;rw[aH n];simp[go_sem,u];by_cases r:a=168
 ·have b:(a:Int)=168:=aq;rw[aE r];simp[go_sem,r];exact aa trivial rfl
 have D:¬(a:Int)=168:=aq;rw[aH r];simp[go_sem,D];by_cases c:a=170
 ·have b:(a:Int)=170:=aq;rw[aE c];simp[go_sem,c];exact aa trivial rfl
 have z:¬(a:Int)=170:=aq;rw[aH c];simp[go_sem,z];by_cases p:a=172
 ·have b:(a:Int)=172:=aq;rw[aE p];simp[go_sem,p];exact aa trivial rfl
 have F:¬(a:Int)=172:=aq;rw[aH p];simp[go_sem,F];by_cases i:a=173
 ·have b:(a:Int)=173:=aq;rw[aE i];simp[go_sem,i];exact aa trivial rfl
 have w:¬(a:Int)=173:=aq;rw[aH i];simp[go_sem,w];by_cases f:a=177
 ·have b:(a:Int)=177:=aq;rw[aE f];simp[go_sem,f];exact aa trivial rfl
 have B:¬(a:Int)=177:=aq;rw[aH f];simp[go_sem,B];by_cases k:a=178
 ·have b:(a:Int)=178:=aq;rw[aE k];simp[go_sem,k];exact aa trivial rfl
 have C:¬(a:Int)=178:=aq;rw[aH k];simp[go_sem,C];by_cases l:a=179
 ·have b:(a:Int)=179:=aq;rw[aE l];simp[go_sem,l];exact aa trivial rfl
 have x:¬(a:Int)=179:=aq;rw[aH l];simp[go_sem,x];by_cases j:a=186
 ·have b:(a:Int)=186:=aq;rw[aE j];simp[go_sem,j];exact aa trivial rfl
 have y:¬(a:Int)=186:=aq;rw[aH j];simp[go_sem,y];by_cases m:a=187
 ·have b:(a:Int)=187:=aq;rw[aE m];simp[go_sem,m];exact aa trivial rfl
 have t:¬(a:Int)=187:=aq;rw[aH m];simp[go_sem,t];by_cases g:a=188
 ·have b:(a:Int)=188:=aq;rw[aE g];simp[go_sem,g];exact aa trivial rfl
 have s:¬(a:Int)=188:=aq;rw[aH g];simp[go_sem,s];by_cases h:a=204
 ·have b:(a:Int)=204:=aq;rw[aE h];simp[go_sem,h];exact aa trivial rfl
 have A:¬(a:Int)=204:=aq;rw[aH h];simp[go_sem,A];exact aa trivial rfl
def Jo(a:Nat):List Int:=if rJ a s7=[]then(if rJ a lW=[]then rJ a qn else rJ a lW)else rJ a s7
theorem Un:(List.range 256).all (fun a=>oO a==!decide (Jo a=[]))=true:=by kernel_rfl
theorem Yz{a:Nat}(h:a<256):oO a=!decide (Jo a=[]):=by
 have:=fa.1 Un a (List.mem_range.2 h);simpa using this
@[go_sem] theorem afD:gi prog 253=some [.any,.any,.any]:=by kernel_rfl
@[go_sem] theorem afE:cp prog 253=.arr 3 252:=by kernel_rfl
@[go_sem] theorem afF:prog.cellsOf 252=1:=by kernel_rfl
@[go_sem] theorem afG:cp prog 252=.scal:=by kernel_rfl
theorem Uo(a:Nat)(c:a<256):fm prog 168 [.d (.int .u8 (a:Int))] (.tup [.d (.str (Jo a)),.d (.bool (oO a))]):=by
 rw[Yz c];refine bL func168 ntmps168 (rs:=[.tmp 2,.tmp 3]) a9 ?_;simp[go_sem];have i:=Ly a c;have m:=Ci a c;have l:=EZ a c;unfold Jo;generalize rJ a s7=a1 at *;generalize rJ a lW=a2 at *;generalize rJ a qn=a3 at *
 refine av (fun k:Nat=>⟨[(0,.d (.int .u8 (a:Int))),(7,.agg [.fn 191 [],.fn 192 [],.fn 193 []]),(8,.d (.int .i64 (k:Int)))],[],1000⟩)
  (fun k=>k≤3∧(1≤k→a1=[])∧(2≤k→a2=[])∧(3≤k→a3=[])) (fun k=>3-k) 0 ⟨aq,fun h=>aq,fun h=>aq,fun h=>aq⟩ (by simp[aA,ai,fv,lk,AV.low,AV.l]) ?_
 rintro k⟨n,e,g,j⟩;have f:k=0∨k=1∨k=2∨k=3:=aq;rcases f with rfl|rfl|rfl|rfl
 ·simp[go_sem];refine ag i a9 ?_;by_cases b:a1=[]
  ·subst b;simp[go_sem];refine ao 1 aw aq ?_;simp[aA,ai,fv,lk,AV.low,AV.l];rfl
  ·simp[go_sem,b,ah];exact aa a9 rfl
 ·simp[go_sem];obtain rfl:=e aq;refine ag m a9 ?_;by_cases b:a2=[]
  ·subst b;simp[go_sem];refine ao 2 aw aq ?_;simp[aA,ai,fv,lk,AV.low,AV.l];rfl
  ·simp[go_sem,b,ah];exact aa a9 rfl
 ·simp[go_sem];obtain rfl:=e aq;obtain rfl:=g aq;refine ag l a9 ?_;by_cases b:a3=[]
  ·subst b;simp[go_sem];refine ao 3 aw aq ?_;simp[aA,ai,fv,lk,AV.low,AV.l];rfl
  ·simp[go_sem,b,ah];exact aa a9 rfl
 ·obtain rfl:=e aq;obtain rfl:=g aq;obtain rfl:=j aq;simp[go_sem,ah];exact aa a9 rfl
structure RnS where
 r:Rn
 J:List Bool
 H:Nat
def bO(r:Rn)(b c:AV):List AV:=[.d (.ro 1 (r.main.map bX)),.d (.ro 1 (r.alt.map bX)),b,.d (.int .i64 (jq r:Int)),.d (.int .i64 r.bud),c,.d (.int .i64 r.e)]
def vA(l J:List Bool):List (List AV):=(l++J).map fun b=>[AV.d (.bool b)]
def clC(c:Int×Int):List AV:=[.d (.int .i64 c.1),.d (.int .u64 c.2)]
def MI(l:List (Int×Int))(H:Nat):List (List AV):=l.map clC++List.replicate H [AV.d (.int .i64 0),.d (.int .u64 0)]
def bP(C:List AV)(s:RnS)(f:Nat→Nat):List AV:=C++bO s.r (.own (f 1) 0 s.r.br.length (s.r.br.length+s.J.length)) (.own (f 2) 0 s.r.cl.length (s.r.cl.length+s.H))
def aK(C:List AV)(s:RnS)(f:Nat→Nat):Nat→Blk
 |0=>⟨158,48,[bP C s f]⟩
 |1=>⟨4,1,vA s.r.br s.J⟩
 |_=>⟨55,2,MI s.r.cl s.H⟩
def jQ(C:List AV):Prop:=(∀v,v∈C→∀ ρ,AV.r ρ v=v)∧(∀v,v∈C→∀n,v.l n)∧C.length=41
theorem PD{C:List AV}(h:jQ C)(ρ:Nat→Nat)(l:List AV):AV.R ρ (C++l)=C++AV.R ρ l:=by
 rw[kE,kE,List.map_append];congr 1;rw[List.map_congr_left (g:=id) (fun v a=>h.1 v a ρ),List.map_id]
theorem YA(ρ:Nat→Nat)(l J:List Bool):aQ ρ (vA l J)=vA l J:=by
 unfold aQ vA;rw[List.map_map];rfl
theorem YB(ρ:Nat→Nat)(l:List (Int×Int))(H:Nat):aQ ρ (MI l H)=MI l H:=by
 unfold aQ MI;rw[List.map_append,List.map_map,List.map_replicate];rfl
theorem uH{C:List AV}(b:jQ C):K7 3 (aK C):=by
 refine⟨fun s f ρ g i a h=>?_,fun s f i a=>?_⟩
 ·match i with
  |0=>simp[aK,bP,bO,Blk.r,aQ,PD b,AV.R,AV.r,h 1 aq,h 2 aq]
  |1=>simp only[aK,Blk.r,YA]
  |i+2=>simp only[aK,Blk.r,YB]
 ·match i with
  |0=>exact Nat.succ_ne_zero 47
  |1=>exact Nat.succ_ne_zero 0
  |i+2=>exact Nat.succ_ne_zero 1
theorem bN(C:List AV)(s:RnS)(f:Nat→Nat):jD 3 (aK C) s f=[(f 0,aK C s f 0),(f 1,aK C s f 1),(f 2,aK C s f 2)]:=rfl
theorem aG{C:List AV}{s:RnS}{hp:Hp}(a:lk 0 hp=some (aK C s id 0))(c:lk 1 hp=some (aK C s id 1))(b:lk 2 hp=some (aK C s id 2)):vS 3 (aK C) s id hp:=by
 intro i d
 match i with
 |0=>exact a
 |1=>exact c
 |2=>exact b
theorem bM{C:List AV}(f:jQ C)(r:Rn)(J:List Bool)(H:Nat)(x:Int):dB prog 3 (aK C) 96 ⟨r,J,H⟩ [.ptr 0 0 0 1,.d (.int .i64 x)] (fun v c=>c=⟨aB x r,J,H⟩):=by
 refine ap func96 (by kernel_rfl) rfl ntmps96 (rs:=[]) rfl (dN rfl) (by decide) ?_;rw[bN];simp only[aK,bP,bO,id];have b:=f.2.2;by_cases h:r.e=0
 ·have a:aB x r={ r with e:=x }:=if_pos h;simp[go_sem,h,b,a];exact aG rfl rfl rfl
 ·have a:aB x r=r:=if_neg h;simp[go_sem,h,b,a];exact aG rfl rfl rfl
theorem fM{C:List AV}(b:jQ C)(r:Rn)(J:List Bool)(H:Nat):dB prog 3 (aK C) 100 ⟨r,J,H⟩ [.ptr 0 0 0 1] (fun v a=>v=.d (.bool (decide (r.e=0)))∧a=⟨r,J,H⟩):=by
 refine ap func100 (by kernel_rfl) rfl ntmps100 (rs:=[.tmp 2]) rfl (dN rfl) (by decide) ?_;rw[bN];simp only[aK,bP,bO,id];have c:=b.2.2;simp[go_sem,ah,c];exact aG rfl rfl rfl
theorem eV{C:List AV}(i:jQ C){N:Nat}{Pp:Hp}{g:FuncId}{s:RnS}{a:List AV}{R:AV→RnS→Prop}{K:AV→Hp→Prop}(h:dB prog 3 (aK C) g s (.ptr 0 0 0 1::a) R)(k:3≤N)(c:∀p,p∈Pp→p.1<N∧3≤p.1)(b:∀ ρ,AV.R ρ a=a)
  (e:∀v s' ρ,R v s'→(∀j,j<3→ρ j=j)→K (v.r ρ) (Pp++jD 3 (aK C) s' id)):uX prog g (.ptr 0 0 0 1::a) (Pp++jD 3 (aK C) s id) N K:=by
 refine wH (uH i) h (a8 3) (fun j f=>by show j<N;omega) (fun p d=>⟨(c p d).1,fun j f=>by have:=(c p d).2;show j≠p.1;omega⟩) ?_ e;rw[AV.R,b,AV.r];rfl
structure StOk(main alt:List bm):Prop where
 m:main.length≤1000
 a:alt.length≤1000
 mb:∀x,x∈main→x.length≤1000∧bytes x
 ab:∀x,x∈alt→x.length≤1000∧bytes x
theorem StOk.m1{main alt:List bm}(h:StOk main alt):∀x,x∈main→x.length≤1000000:=fun x a=>by have:=(h.mb x a).1;omega
theorem StOk.a1{main alt:List bm}(h:StOk main alt):∀x,x∈alt→x.length≤1000000:=fun x a=>by have:=(h.ab x a).1;omega
theorem Hq{C l:List AV}(a b:AV)(h:C.length=41):List.drop 43 (C++a::b::l)=l:=by rw[List.drop_append,h,c_ aq];rfl
theorem Up{C:List AV}(j:jQ C)(r:Rn)(J:List Bool)(H:Nat)(k:StOk r.main r.alt):dB prog 3 (aK C) 220 ⟨r,J,H⟩ [.ptr 0 0 0 1] (fun v n=>(v=.nil∧(bB r).1=[]∨v=.d (nb (bB r).1))∧n=⟨(bB r).2,J,H⟩):=by
 refine ap func220 (by kernel_rfl) rfl ntmps220 (rs:=[.tmp 2]) rfl (dN rfl) (by decide) ?_;have q:=j.2.2;simp[go_sem];refine eV (Pp:=[]) j (fM j r J H) aq aw (by simp[AV.R]) ?_;rintro v n ρ ⟨rfl,rfl⟩ y;by_cases h:r.e=0
 ·have c:=ES r.main r.alt k.m k.a k.m1 k.a1;obtain⟨f,alt,g,b,i,e⟩:=r;simp only at h c;subst h;rw[bN];simp only[aK,bP,bO,id,er]at *;simp[go_sem,q,AV.r];refine ag c (by intro v t;simp at t;subst t;exact fZ f alt) ?_;rcases f.eq_nil_or_concat with rfl|⟨l,x,u⟩
  ·have o:bB ⟨[],alt,g,b,i,0⟩=([],aB 12 ⟨[],alt,g,b,i,0⟩):=rfl;rw[o];simp[go_sem,Hi,er];refine eV (Pp:=[(420,⟨155,2,[[.d (.ro 1 []),.d (.ro 1 [])]]⟩)]) (s:=⟨⟨[],alt,g,b,i,0⟩,J,H⟩) j (bM j ⟨[],alt,g,b,i,0⟩ J H 12) aq (by intro p w;simp at w;subst w;simp) (by simp[AV.R,AV.r]) ?_;rintro v n ρ rfl y;rw[bN];generalize aB 12 ⟨[],alt,g,b,i,0⟩=r';simp only[aK,bP,bO,id];simp[go_sem,ah];exact aG rfl rfl rfl
  ·rw[List.concat_eq_append]at u;subst u;have o:bB ⟨l++[x],alt,g,b,i,0⟩=(x,⟨l,alt,g,b,i,0⟩):=(by simp[bB]);rw[o];simp[go_sem,Hi,er,q,ah,Hq];exact aG rfl rfl rfl
 ·have z:bB r=([],r):=if_neg h;rw[z,bN];simp only[aK,bP,bO,id];simp[go_sem,h,ah,AV.r];exact aG rfl rfl rfl
theorem lY{C:List AV}(b:jQ C)(r:Rn)(J:List Bool)(H:Nat)(c:StOk r.main r.alt):dB prog 3 (aK C) 220 ⟨r,J,H⟩ [.ptr 0 0 0 1] (fun v a=>v=.d (nb (bB r).1)∧a=⟨(bB r).2,J,H⟩):=by
 refine Ug (Up b r J H c) ?_;rintro v a⟨⟨rfl,h⟩|h,rfl⟩;exact .inr ⟨rfl,1,by rw[h];rfl,rfl⟩;exact .inl ⟨h,rfl⟩
theorem PE{l:List bm}{x:bm}{alt:List bm}(h:StOk (l++[x]) alt):StOk l alt∧x.length≤1000∧bytes x :=
 ⟨⟨by have:=h.m;simp at this;omega,h.a,fun y b=>h.mb y (by simp[b]),h.ab⟩,h.mb x aw⟩
theorem iM{x:Int}{r:Rn}(h:StOk r.main r.alt):StOk (aB x r).main (aB x r).alt:=by
 unfold aB;split<;>exact h
theorem eH{r:Rn}(h:StOk r.main r.alt):StOk (bB r).2.main (bB r).2.alt∧(bB r).1.length≤1000∧bytes (bB r).1:=by
 unfold bB;split;split;exact⟨iM h,aw,fun x a=>by simp at a⟩
 rename_i c;rcases r.main.eq_nil_or_concat with e|⟨l,x,b⟩;exact absurd (by rw[e];rfl) c;rw[List.concat_eq_append]at b;rw[b]at h⊢;simp only[List.dropLast_concat,List.getLastD_concat];exact PE h;exact⟨h,aw,fun x a=>by simp at a⟩
theorem rK(r:Rn):aB 0 r=r:=by
 unfold aB;split;rename_i h;obtain⟨a,b,c,d,f,e⟩:=r;simp only at h;subst h;rfl;rfl
theorem Cj{x:Int}{r:Rn}(a:x≠0):(aB x r).e≠0:=by
 unfold aB;split;exact a;rename_i h;exact h
theorem PG{C:List AV}(i:jQ C)(r:Rn)(J:List Bool)(H:Nat)(k:StOk r.main r.alt):dB prog 3 (aK C) 231 ⟨r,J,H⟩ [.ptr 0 0 0 1] (fun v n=>v=.d (nb (nu r).1)∧n=⟨(nu r).2,J,H⟩):=by
 refine ap func231 (by kernel_rfl) rfl ntmps231 (rs:=[.tmp 2]) rfl (dN rfl) (by decide) ?_;have w:=i.2.2;have g:=ES r.main r.alt k.m k.a k.m1 k.a1;obtain⟨h,alt,c,b,f,e⟩:=r;simp only at g;rw[bN];simp only[aK,bP,bO,id,er]at *;simp[go_sem,w];refine ag g (by intro v t;simp at t;subst t;exact fZ h alt) ?_;rcases h.eq_nil_or_concat with rfl|⟨l,x,u⟩
 ·have o:nu ⟨[],alt,c,b,f,e⟩=([],aB 12 ⟨[],alt,c,b,f,e⟩):=rfl;rw[o];simp[go_sem,Hi,er];refine eV (Pp:=[(324,⟨155,2,[[.d (.ro 1 []),.d (.ro 1 [])]]⟩)]) (s:=⟨⟨[],alt,c,b,f,e⟩,J,H⟩) i (bM i ⟨[],alt,c,b,f,e⟩ J H 12) aq (by intro p j;simp at j;subst j;simp) (by simp[AV.R,AV.r]) ?_;rintro v n ρ rfl y;rw[bN];generalize aB 12 ⟨[],alt,c,b,f,e⟩=r';simp only[aK,bP,bO,id];simp[go_sem,ah];exact⟨_,⟨rfl,rfl⟩,aG rfl rfl rfl⟩
 ·rw[List.concat_eq_append]at u;subst u;have o:nu ⟨l++[x],alt,c,b,f,e⟩=(x,⟨l++[x],alt,c,b,f,e⟩):=by simp[nu]
  rw[o];have q:=bM i ⟨l++[x],alt,c,b,f,e⟩ J H 0;rw[rK]at q;simp[go_sem,Hi,er,-List.map_append];refine eV (Pp:=[(324,⟨155,2,[[.d (.ro 1 (l.map bX)),.d (.ro 1 (alt.map bX))]]⟩)]) (s:=⟨⟨l++[x],alt,c,b,f,e⟩,J,H⟩) i q aq (by intro p j;simp at j;subst j;simp) (by simp[AV.R,AV.r]) ?_;rintro v n ρ rfl y;rw[bN];simp only[aK,bP,bO,id];simp[go_sem,ah,-List.map_append];exact aG rfl rfl rfl
theorem vB{C:List AV}(a:jQ C)(r:Rn)(J:List Bool)(H:Nat)(m:StOk r.main r.alt)(most:Nat)(t:most≤8):dB prog 3 (aK C) 227 ⟨r,J,H⟩ [.ptr 0 0 0 1,.d (.int .i64 (most:Int))] (fun v f=>v=.d (.int .i64 (fD most r).1)∧f=⟨(fD most r).2,J,H⟩):=by
 refine ap func227 (by kernel_rfl) rfl ntmps227 (rs:=[.tmp 4]) rfl (dN rfl) (by decide) ?_;have u:=a.2.2;simp[go_sem];refine eV (Pp:=[]) a (lY a r J H m) aq aw (by simp[AV.R]) ?_;rintro v f ρ ⟨rfl,rfl⟩ k;obtain⟨j,i,g⟩:=eH m;unfold fD;generalize bB r=p at *;obtain⟨b,c⟩:=p;simp only at j i g⊢;simp[go_sem,AV.r];refine eV (Pp:=[]) a (fM a c J H) aq aw (by simp[AV.R]) ?_;rintro v f ρ' ⟨rfl,rfl⟩ o;by_cases h:c.e=0
 ·have q:=Hg most b g t aq;simp[go_sem,AV.r,h];refine ag q a9 ?_
  cases w:gK most b with
  |none =>
   simp[go_sem];refine eV (Pp:=[]) (s:=⟨c,J,H⟩) a (bM a c J H 15) aq aw (by simp[AV.R,AV.r]) ?_;rintro v f ρ rfl k;rw[bN];generalize aB 15 c=r';simp only[aK,bP,bO,id];simp[go_sem,ah];exact aG rfl rfl rfl
  |some n =>
   have l:=bM a c J H 0;rw[rK]at l;simp[go_sem];refine eV (Pp:=[]) (s:=⟨c,J,H⟩) a l aq aw (by simp[AV.R,AV.r]) ?_;rintro v f ρ rfl k;rw[bN];simp only[aK,bP,bO,id];simp[go_sem,ah];exact aG rfl rfl rfl
 ·simp[go_sem,AV.r,h,ah];rw[bN];exact aG rfl rfl rfl
theorem rL{C:List AV}(l:jQ C)(r:Rn)(J:List Bool)(H:Nat)(n:StOk r.main r.alt)(b:bm)(y:b.length≤1000000):dB prog 3 (aK C) 171 ⟨r,J,H⟩ [.ptr 0 0 0 1,.d (nb b)] (fun v o=>o=⟨eQ b r,J,H⟩):=by
 refine ap func171 (by kernel_rfl) rfl ntmps171 (rs:=[]) rfl (dN rfl) (by decide) ?_;have t:=l.2.2;have k:=Lr r.main r.alt b n.m n.a n.m1 n.a1 y;simp[go_sem];refine eV (Pp:=[]) l (fM l r J H) aq aw (by simp[AV.R]) ?_;rintro v o ρ ⟨rfl,rfl⟩ w;obtain⟨c,alt,g,f,i,e⟩:=r;simp only at k;by_cases h:e=0
 ·subst h;rw[bN];simp only[aK,bP,bO,id,er]at *;simp[go_sem,AV.r,t];refine ag k (by intro v u;simp at u;rcases u with rfl|rfl;exact fZ c alt;trivial) ?_;by_cases hc:gm (c++[b]) alt=0
  ·have q:Az ⟨c++[b],alt,0⟩=.tup [.agg (er (c++[b]) alt),.d (.int .i64 0)]:=(by simp[Az,dR,hc]);have j:eQ b ⟨c,alt,g,f,i,0⟩=⟨c++[b],alt,g,f,i,0⟩:=(by simp[eQ,hc]);rw[q,j];simp[go_sem,er,t,Hq];refine aG ?_ rfl rfl;simp[lk,aK,bP,bO];rfl
  ·have q:Az ⟨c++[b],alt,0⟩=.tup [.agg (er [] []),.d (.int .i64 (gm (c++[b]) alt))]:=(by simp[Az,dR,hc]);have j:eQ b ⟨c,alt,g,f,i,0⟩=aB (gm (c++[b]) alt) ⟨c,alt,g,f,i,0⟩:=(by simp[eQ,hc]);rw[q,j];generalize gm (c++[b]) alt=x at *;simp[go_sem,er,hc];refine eV (Pp:=[(388,⟨155,2,[[.d (.ro 1 []),.d (.ro 1 [])]]⟩)]) (s:=⟨⟨c,alt,g,f,i,0⟩,J,H⟩) l (bM l ⟨c,alt,g,f,i,0⟩ J H x) aq (by intro p j;simp at j;subst j;simp) (by simp[AV.R,AV.r]) ?_;rintro v o ρ rfl w;rw[bN];generalize aB x ⟨c,alt,g,f,i,0⟩=r';simp only[aK,bP,bO,id];simp[go_sem];exact aG rfl rfl rfl
 ·have j:eQ b ⟨c,alt,g,f,i,e⟩=⟨c,alt,g,f,i,e⟩:=if_neg h;rw[j];simp[go_sem,AV.r,h];rw[bN];exact aG rfl rfl rfl
theorem Hr(r:Rn):jq r≤r.br.length:=List.length_filter_le _ _
theorem Ur(b:Bool)(r:Rn):jq (ny b r)=jq r+(if b then 0 else 1):=by
 unfold jq ny;simp only[List.filter_append,b_];cases b<;>rfl
theorem wK(l J:List Bool):(vA l J).length=l.length+J.length:=by simp[vA]
theorem E0{l J:List Bool}:(vA l J).take l.length=l.map fun b=>[AV.d (.bool b)]:=by
 unfold vA;rw[←List.map_take,List.take_left]
theorem Us(l:List Bool)(b:Bool):(l.map fun b=>[AV.d (.bool b)])++[[AV.d (.bool b)]]=vA (l++[b]) []:=by simp[vA]
theorem Ut(l:List Bool)(j b:Bool)(J:List Bool):(l.map fun b=>[AV.d (.bool b)])++[AV.d (.bool b)]::(vA l (j::J)).drop (l.length+1)=vA (l++[b]) J:=by
 unfold vA;rw[←List.map_drop,←List.drop_drop,List.drop_left];simp
theorem s8{C:List AV}(w:jQ C)(r:Rn)(J:List Bool)(H:Nat)(b:Bool)(x:r.br.length≤1000000):dB prog 3 (aK C) 195 ⟨r,J,H⟩ [.ptr 0 0 0 1,.d (.bool b)] (fun v u=>∃i,u=⟨ny b r,i,H⟩):=by
 refine ap func195 (by kernel_rfl) rfl ntmps195 (rs:=[]) rfl (dN rfl) (by decide) ?_;have o:=w.2.2;have y:=Hr r;have s:=Ur b r;have t:IntKind.i64.wrap ((jq r:Int)+1)=(jq r:Int)+1:=IntWalk.i64_in _ aq;rw[bN];simp only[aK,bP,bO,id];simp[go_sem,o];obtain⟨c,alt,a,f,n,e⟩:=r;simp only at x y t s⊢;generalize z:jq ⟨c,alt,a,f,n,e⟩=q at *
 have l:∀i:List Bool,aK C ⟨ny b ⟨c,alt,a,f,n,e⟩,i,H⟩ id 0=⟨158,48,[C++[.d (.ro 1 (c.map bX)),.d (.ro 1 (alt.map bX)),.own 1 0 (a.length+1) (a.length+1+i.length),.d (.int .i64 ((q+(if b then 0 else 1):Nat):Int)),.d (.int .i64 f),.own 2 0 n.length (n.length+H),.d (.int .i64 e)]]⟩:=by
  intro i;simp only[aK,bP,bO,s];simp[ny]
 have k:∀i:List Bool,aK C ⟨ny b ⟨c,alt,a,f,n,e⟩,i,H⟩ id 1=⟨4,1,vA (a++[b]) i⟩:=fun _=>rfl;have m:∀i:List Bool,aK C ⟨ny b ⟨c,alt,a,f,n,e⟩,i,H⟩ id 2=⟨55,2,MI n H⟩:=fun _=>rfl;rcases J with _|⟨j,J⟩
 ·have p:List.take a.length (vA a [])=a.map fun b=>[AV.d (.bool b)]:=E0;have g:(vA a []).length=a.length+([]:List Bool).length:=wK _ _;have l:=l [];have k:=k [];have m:=m [];rw[←Us]at k;cases b
  ·simp[go_sem,fy,IE,p,g,o,t];exact⟨aq,fun h=>aq,_,⟨[],rfl⟩,aG (l▸rfl) (k▸rfl) (m▸rfl)⟩
  ·simp[go_sem,fy,IE,p,g,o];exact⟨aq,fun h=>aq,_,⟨[],rfl⟩,aG (l▸rfl) (k▸rfl) (m▸rfl)⟩
 ·have p:List.take a.length (vA a (j::J))=a.map fun b=>[AV.d (.bool b)]:=E0;have g:(vA a (j::J)).length=a.length+(j::J:List Bool).length:=wK _ _;have l:=l J;have k:=k J;have m:=m J;rw[←Ut a j b J]at k;rw[show a.length+1+J.length=a.length+(J.length+1)by omega]at l;cases b
  ·simp[go_sem,fy,IE,p,g,o,t];exact⟨aq,_,⟨J,rfl⟩,aG (l▸rfl) (k▸rfl) (m▸rfl)⟩
  ·simp[go_sem,fy,IE,p,g,o];exact⟨aq,_,⟨J,rfl⟩,aG (l▸rfl) (k▸rfl) (m▸rfl)⟩
def Uu(o:Option Bool):AV:=match o with
 |some b=>.tup [.d (.bool b),.d (.bool true)]
 |none=>.tup [.d (.bool false),.d (.bool false)]
theorem YC{l:List Bool}{J:List Bool}{k:Nat}{b:Bool}(h:l[k]?=some b):(vA l J)[k]?=some [.d (.bool b)]:=by
 unfold vA;rw[cU,List.getElem?_append_left (ci.1 h).1,h];rfl
theorem Uw{main alt:List bm}{l:List Bool}{b:Bool}{bud e:Int}{cl:List (Int×Int)}:jq ⟨main,alt,l++[b],bud,cl,e⟩=jq ⟨main,alt,l,bud,cl,e⟩+(if b then 0 else 1):=by
 unfold jq;simp only[List.filter_append,b_];cases b<;>rfl
theorem Jp{C:List AV}(u:jQ C)(r:Rn)(J:List Bool)(H:Nat)(B:r.br.length≤1000000):dB prog 3 (aK C) 196 ⟨r,J,H⟩ [.ptr 0 0 0 1] (fun v x=>v=Uu (og r).1∧∃J',x=⟨(og r).2,J',H⟩):=by
 refine ap func196 (by kernel_rfl) rfl ntmps196 (rs:=[.tmp 2,.tmp 3]) rfl (dN rfl) (by decide) ?_;have p:=u.2.2;have m:=Hr r;obtain⟨a,alt,F,c,f,e⟩:=r;simp only at B m;rw[bN];simp only[aK,bP,bO,id];rcases F.eq_nil_or_concat with rfl|⟨l,b,D⟩
 ·have w:og ⟨a,alt,[],c,f,e⟩=(none,aB 18 ⟨a,alt,[],c,f,e⟩):=rfl;rw[w];simp[go_sem,p];rw[show AV.own 1 0 0 J.length=AV.own 1 0 ([]:List Bool).length (([]:List Bool).length+J.length)by simp];refine eV (Pp:=[]) (s:=⟨⟨a,alt,[],c,f,e⟩,J,H⟩) u (bM u ⟨a,alt,[],c,f,e⟩ J H 18) aq aw (by simp[AV.R,AV.r]) ?_;rintro v x ρ rfl L;rw[bN];generalize aB 18 ⟨a,alt,[],c,f,e⟩=r';simp only[aK,bP,bO,id];simp[go_sem,ah,Uu];exact⟨_,⟨J,rfl⟩,aG rfl rfl rfl⟩
 ·rw[List.concat_eq_append]at D;subst D;have w:og ⟨a,alt,l++[b],c,f,e⟩=(some b,⟨a,alt,l,c,f,e⟩):=by simp[og]
  rw[w];rw[Uw]at m⊢;have y:IntKind.i64.wrap (((l++[b]).length:Int)-1)=(l.length:Int):=by rw[IntWalk.i64_in _ (by simp at B⊢;omega)];simp
  have t:(vA (l++[b]) J)[l.length]?=some [.d (.bool b)]:=YC aw;have I:∀h:l.length<(vA (l++[b]) J).length,(vA (l++[b]) J)[l.length]=[.d (.bool b)]:=fun h=>Option.some.inj ((cm h).symm.trans t);have z:vA (l++[b]) J=vA l (b::J):=by simp[vA]
  generalize o:(l++[b]).length=n at *;have E:n=l.length+1:=by rw[←o];simp
  have i:¬n=0:=aq;have G:l.length<n:=aq;have k:(l.length:Int)<(n:Int):=aq;have j:(l.length:Int)≤(n:Int):=aq;have g:n+J.length=l.length+(b::J).length:=by simp;omega
  generalize A:jq ⟨a,alt,l,c,f,e⟩=q at *;cases b
  ·have M:IntKind.i64.wrap (((q:Int)+1)-1)=(q:Int):=by simp only[Bool.false_eq_true,if_false]at m;rw[IntWalk.i64_in _ aq];omega
   have K:IntKind.i64.wrap (q:Int)=(q:Int):=by simp only[Bool.false_eq_true,if_false]at m;exact IntWalk.i64_in _ aq
   simp[go_sem,p,i,y,t,k,j,wK,o,K];exact⟨_,⟨rfl,false::J,rfl⟩,aG (by simp only[lk,aK,bP,bO,A,g];rfl) (congrArg (fun r=>some (⟨4,1,r⟩:Blk)) z) rfl⟩
  ·simp[go_sem,p,i,y,t,k,j,wK,o];exact⟨_,⟨rfl,true::J,rfl⟩,aG (by simp only[lk,aK,bP,bO,A,g];rfl) (congrArg (fun r=>some (⟨4,1,r⟩:Blk)) z) rfl⟩
theorem YD{C:List AV}(c:jQ C)(r:Rn)(J:List Bool)(H:Nat)(t:StOk r.main r.alt):dB prog 3 (aK C) 194 ⟨r,J,H⟩ [.ptr 0 0 0 1] (fun v a=>v=.d (.bool (oJ r).1)∧a=⟨(oJ r).2,J,H⟩):=by
 refine ap func194 (by kernel_rfl) rfl ntmps194 (rs:=[.tmp 2]) rfl (dN rfl) (by decide) ?_;have u:=c.2.2;simp[go_sem];refine eV (Pp:=[]) c (lY c r J H t) aq aw (by simp[AV.R]) ?_;rintro v a ρ ⟨rfl,rfl⟩ o;obtain⟨n,l,i⟩:=eH t;unfold oJ;generalize bB r=p at *;obtain⟨b,e⟩:=p;simp only at n l i⊢;have u7:∀(d:Bool)(f:Rn)(m:St),m.hp=jD 3 (aK C) ⟨f,J,H⟩ id→∃a,(AV.d (.bool d)=.d (.bool d)∧a=⟨f,J,H⟩)∧vS 3 (aK C) a id m.hp:=fun d f m h=>⟨_,⟨rfl,rfl⟩,by rw[h];exact aG rfl rfl rfl⟩;rcases b with _|⟨x,_|⟨y,b⟩⟩
 ·simp[go_sem,AV.r,nb,ah];exact aG rfl rfl rfl
 ·by_cases q:x=1
  ·subst q;simp[go_sem,AV.r,nb,ah];exact aG rfl rfl rfl
  ·have k:¬(x:Int)=1:=aq;simp[go_sem,AV.r,nb,q,k];refine eV (Pp:=[]) (s:=⟨e,J,H⟩) c (bM c e J H 19) aq aw (by simp[AV.R,AV.r]) ?_;rintro v a ρ rfl o;rw[bN];generalize aB 19 e=f;simp only[aK,bP,bO,id];simp[go_sem,ah];exact aG rfl rfl rfl
 ·have g:(1:Int)<(b.length:Int)+1+1:=aq;have j:¬(b.length:Int)+1+1=1:=aq;simp[go_sem,AV.r,nb,g];refine eV (Pp:=[]) (s:=⟨e,J,H⟩) c (bM c e J H 19) aq aw (by simp[AV.R,AV.r]) ?_;rintro v a ρ rfl o;rw[bN];generalize aB 19 e=f;simp only[aK,bP,bO,id];simp[go_sem,ah,j];exact aG rfl rfl rfl
theorem aU{C:List AV}(i:jQ C){N:Nat}{Pp hp:Hp}{g:FuncId}{s:RnS}{a:List AV}{R:AV→RnS→Prop}{K:AV→Hp→Prop}(h:dB prog 3 (aK C) g s (.ptr 0 0 0 1::a) R)(e:hp=Pp++jD 3 (aK C) s id)(f:3≤N)(d:∀p,p∈Pp→p.1<N∧3≤p.1)(b:∀ ρ,AV.R ρ a=a)
  (c:∀v s' ρ,R v s'→(∀j,j<3→ρ j=j)→K (v.r ρ) (Pp++jD 3 (aK C) s' id)):uX prog g (.ptr 0 0 0 1::a) hp N K:=e▸eV i h f d b c
theorem Ws:prog.underlying 4=some .bool:=by kernel_rfl
theorem Wt(a b:Bool)(K:AV→Hp→Prop)(hp:Hp):dr prog .eql 4 (.d (.bool a)) (.d (.bool b)) K hp=K (.d (.bool (a==b))) hp:=by
 show(_∧_)=_;rw[Ws];simp
theorem Ux{r:Rn}:(og r).2.br.length≤r.br.length:=by
 unfold og;split;unfold aB;split<;>exact cL _;simp
theorem PH(r:Rn):(oJ r).2.br=r.br:=by
 have a:(bB r).2.br=r.br:=by
  unfold bB;split;split;unfold aB;split<;>rfl;rfl;rfl
 unfold oJ;simp only;split;unfold aB;split<;>exact a;exact a
theorem PI{C:List AV}(e:jQ C)(f:Nat)(z:f<256)(r:Rn)(J:List Bool)(H:Nat)(x:StOk r.main r.alt)(A:r.br.length≤100000):dB prog 3 (aK C) 169 ⟨r,J,H⟩ [.ptr 0 0 0 1,.d (.int .u8 (f:Int))]
  (fun v i=>v=.d (.bool (px f r).isSome)∧∃g,i=⟨(px f r).getD r,g,H⟩):=by
 refine ap func169 (by kernel_rfl) rfl ntmps169 (rs:=[.tmp 4]) rfl (dN rfl) (by decide) ?_;have n:=e.2.2;have D:=Hr r;by_cases o:f=99∨f=100
 ·have l:px f r=some (if jq r=0 then ny (decide ((oJ r).1=decide (f=99))) (oJ r).2 else ny false r):=if_pos o;rw[l];by_cases a:jq r=0
  ·rw[if_pos a];have k:(oJ r).2.br.length≤1000000:=by rw[PH];omega
   have c:=YD e r J H x;generalize oJ r=p at *;obtain⟨d,h⟩:=p;simp only at k c⊢;rcases o with rfl|rfl
   ·simp[go_sem];rw[bN];simp only[aK,bP,bO,id];simp[go_sem,n,a];refine aU (Pp:=[]) (s:=⟨r,J,H⟩) e c (by simp[bN,aK,bP,bO,a]) aq aw (by simp[AV.R]) ?_;rintro v i ρ ⟨rfl,rfl⟩ q;simp[go_sem,AV.r,Wt];refine aU (Pp:=[]) (s:=⟨h,J,H⟩) e (s8 e (h) J H (d) aq) (by first|rfl|simp[bN,aK,bP,bO,a]) aq aw (by simp[AV.R,AV.r]) ?_;rintro v i ρ' ⟨g,rfl⟩ j;rw[bN];generalize ny (d) (h)=r';simp only[aK,bP,bO,id];simp[go_sem,ah];exact⟨_,⟨g,rfl⟩,aG rfl rfl rfl⟩
   ·simp[go_sem];rw[bN];simp only[aK,bP,bO,id];simp[go_sem,n,a];refine aU (Pp:=[]) (s:=⟨r,J,H⟩) e c (by simp[bN,aK,bP,bO,a]) aq aw (by simp[AV.R]) ?_;rintro v i ρ ⟨rfl,rfl⟩ q;simp[go_sem,AV.r,Wt];refine aU (Pp:=[]) (s:=⟨h,J,H⟩) e (s8 e (h) J H (!d) aq) (by first|rfl|simp[bN,aK,bP,bO,a]) aq aw (by simp[AV.R,AV.r]) ?_;rintro v i ρ' ⟨g,rfl⟩ j;rw[bN];generalize ny (!d) (h)=r';simp only[aK,bP,bO,id];simp[go_sem,ah];exact⟨_,⟨g,rfl⟩,aG rfl rfl rfl⟩
  ·rw[if_neg a];rcases o with rfl|rfl
   ·simp[go_sem];rw[bN];simp only[aK,bP,bO,id];simp[go_sem,n,a];refine aU (Pp:=[]) (s:=⟨r,J,H⟩) e (s8 e (r) J H (false) aq) (by first|rfl|simp[bN,aK,bP,bO,a]) aq aw (by simp[AV.R,AV.r]) ?_;rintro v i ρ' ⟨g,rfl⟩ j;rw[bN];generalize ny (false) (r)=r';simp only[aK,bP,bO,id];simp[go_sem,ah];exact⟨_,⟨g,rfl⟩,aG rfl rfl rfl⟩
   ·simp[go_sem];rw[bN];simp only[aK,bP,bO,id];simp[go_sem,n,a];refine aU (Pp:=[]) (s:=⟨r,J,H⟩) e (s8 e (r) J H (false) aq) (by first|rfl|simp[bN,aK,bP,bO,a]) aq aw (by simp[AV.R,AV.r]) ?_;rintro v i ρ' ⟨g,rfl⟩ j;rw[bN];generalize ny (false) (r)=r';simp only[aK,bP,bO,id];simp[go_sem,ah];exact⟨_,⟨g,rfl⟩,aG rfl rfl rfl⟩
 ·by_cases t:f=103
  ·subst t;have l:px 103 r=some (match og r with|(some b,r')=>ny (!b) r'|(none,r')=>r'):=rfl;rw[l];have k:(og r).2.br.length≤1000000:=by have:=@Ux r;omega
   have c:=Jp e r J H aq;generalize og r=p at *;obtain⟨d,h⟩:=p;simp only at k c⊢;simp[go_sem];refine eV (Pp:=[]) (s:=⟨r,J,H⟩) e c aq aw (by simp[AV.R]) ?_;rintro v i ρ ⟨rfl,m,rfl⟩ q
   cases d with
   |none =>
    rw[bN];simp only[aK,bP,bO,id];simp[go_sem,AV.r,AV.R,Uu,ah];exact⟨_,⟨m,rfl⟩,aG rfl rfl rfl⟩
   |some b =>
    simp[go_sem,AV.r,AV.R,Uu];refine aU (Pp:=[]) (s:=⟨h,m,H⟩) e (s8 e (h) m H (!b) aq) (by first|rfl|simp[bN,aK,bP,bO]) aq aw (by simp[AV.R,AV.r]) ?_;rintro v i ρ' ⟨g,rfl⟩ j;rw[bN];generalize ny (!b) (h)=r';simp only[aK,bP,bO,id];simp[go_sem,ah];exact⟨_,⟨g,rfl⟩,aG rfl rfl rfl⟩
  ·by_cases u:f=104
   ·subst u;have l:px 104 r=some (og r).2:=rfl;rw[l];have c:=Jp e r J H aq;generalize og r=p at *;obtain⟨d,h⟩:=p;simp only at c⊢;simp[go_sem];refine eV (Pp:=[]) (s:=⟨r,J,H⟩) e c aq aw (by simp[AV.R]) ?_;rintro v i ρ ⟨rfl,m,rfl⟩ q;rw[bN];simp only[aK,bP,bO,id];simp[go_sem,ah];exact⟨_,⟨m,rfl⟩,aG rfl rfl rfl⟩
   ·have l:px f r=none:=by
     unfold px;rw[if_neg o,if_neg t,if_neg u]
    rw[l];have y:¬(f:Int)=99:=aq;have i2:¬(f:Int)=100:=aq;have i3:¬(f:Int)=103:=aq;have w:¬(f:Int)=104:=aq;have E:¬f=99:=aq;have B:¬f=100:=aq;rw[bN];simp only[aK,bP,bO,id];simp[go_sem,y,i2,i3,w,ah];exact⟨_,⟨J,rfl⟩,aG rfl rfl rfl⟩
def ec(x:Int):Prop:=0≤x∧x<18446744073709551616
def Wn(n:Nat)(l:List Int):Prop:=l.length=n∧∀x,x∈l→ec x
def gp{σ:Type}(f:Nat→σ→σ)(s:σ):Nat→σ
 |0=>s
 |k+1=>f k (gp f s k)
theorem kj{σ:Type}{f:Nat→σ→σ}{s:σ}{P:Nat→σ→Prop}(a:P 0 s)(b:∀k s,P k s→P (k+1) (f k s)):∀k,P k (gp f s k)
 |0=>a
 |k+1=>b k _ (kj a b k)
theorem pick{α β:Type}[Inhabited β]{A:α→Prop}{B:α→β→Prop}(h:∀x,A x→∃y,B x y):∃F:α→β,∀x,A x→B x (F x):=by
 classical
 refine⟨fun x=>if a:A x then(h x a).choose else default,fun x a=>?_⟩;simp only[dif_pos a];exact(h x a).choose_spec
theorem yo:ec 0:=⟨aq,aq⟩
theorem Uy(x:Int):ec (IntKind.u64.wrap x):=by
 have:IntKind.u64.wrap x=x%18446744073709551616:=by simp[IntKind.wrap,IntKind.bits,IntKind.signed]
 rw[this];exact⟨Int.emod_nonneg _ aq,Int.emod_lt_of_pos _ aq⟩
theorem rM{n k:Nat}{l:List Int}{x:Int}(h:Wn n l)(b:ec x):Wn n (l.set k x):=by
 refine⟨by rw[List.length_set];exact h.1,fun y a=>?_⟩;rcases List.mem_or_eq_of_mem_set a with a|rfl;exact h.2 y a;exact b
theorem abG(n:Nat):Wn n (List.replicate n 0):=⟨aw,fun x a=>by rw[List.eq_of_mem_replicate a];exact yo⟩
theorem YE{n k:Nat}{l:List Int}(h:Wn n l)(b:k<n):∃x,l[k]?=some x∧ec x:=by
 obtain⟨c,a⟩:=h;refine⟨l[k]'aq,cm aq,a _ (List.getElem_mem _)⟩
def gI(l:List Int)(k:Nat):Int:=l.getD k 0
theorem dK{n k:Nat}{l:List Int}(h:Wn n l):ec (gI l k):=by
 unfold gI;rw[cR];by_cases a:k<n;obtain⟨x,e,b⟩:=YE h a;rw[e];exact b;rw[List.getElem?_eq_none (by rw[h.1];omega)];exact yo
theorem kF{l:List Int}{k:Nat}(h:k<l.length):l[k]?=some (gI l k):=by
 unfold gI;rw[cR,cm h];rfl
def cI(l:List Int):List AV:=l.map fun x=>AV.d (.int .u64 x)
theorem fN(l:List Int):(cI l).length=l.length:=by simp[cI]
theorem Ht(l:List Int)(i:Nat):(cI l)[i]?=(l[i]?).map fun x=>AV.d (.int .u64 x):=by simp[cI]
theorem py(l:List Int)(i:Nat)(x:Int):(cI l).set i (.d (.int .u64 x))=cI (l.set i x):=by simp[cI,List.map_set]
theorem cH(n:Nat)(l:List Int):∀v,v∈cI l→v.l n:=by
 intro v a;rw[cI,List.mem_map]at a;obtain⟨x,_,rfl⟩:=a;trivial
theorem km(l:List Int):∀c,c∈cI l→c.deep1:=by
 intro c hc;rw[cI,List.mem_map]at hc;obtain⟨x,_,rfl⟩:=hc;trivial
theorem gf(l:List Int):(AV.agg (cI l)).deep:=km l
theorem ae{l:List Int}{n:Nat}(h:l.length=n):(cI l).take n=cI l:=cx (by rw[fN];omega)
theorem bg{l:List Int}{n:Nat}(h:l.length=n):(cI l).drop n=[]:=c_ (by rw[fN];omega)
theorem aP(a b:List Int):∀v,v∈[AV.agg (cI a),AV.agg (cI b)]→v.deep:=by
 intro v c;simp at c;rcases c with rfl|rfl<;>exact gf _
theorem aV(a:List Int):∀v,v∈[AV.agg (cI a)]→v.deep:=by
 intro v b;simp at b;subst b;exact gf _
def ed:List Int:=[0,0,0,0]
theorem lh:Wn 4 ed:=abG 4
theorem qo{w:World}{S:Nat→Prop}{σ:Nat→Option Nat}{hp:Hp}{U:Nat→Prop}{k:IntKind}{n:Int}{x:Value}(h:AIs w S σ hp U (.d (.int k n)) x):x=.int k n:=by
 cases h with
 |d h=>cases h;rfl
def PK:Array Value→Sem Value:=fun args=>do
 let (x, y, b) ← Extern.MathBitsCarry.three "Sub64" args
 pure (Extern.MathBitsCarry.pair ((x+Extern.MathBitsCarry.m64-y-b)%Extern.MathBitsCarry.m64) (if x<y+b then 1 else 0))
theorem Hu{P:Program}(x y:Int)(k:Nat)(a:k≤1)(w:World) :
  (PK #[.int .u64 x,.int .u64 y,.int .u64 (k:Int)]).run P w =
   .ok (Extern.MathBitsCarry.pair ((x.toNat+Extern.MathBitsCarry.m64-y.toNat-k)%Extern.MathBitsCarry.m64) (if x.toNat<y.toNat+k then 1 else 0)) w:=by
 have:k=0∨k=1:=aq;rcases this with rfl|rfl<;>rfl
def C1(c:Int):Prop:=0≤c∧c≤1
theorem E4:C1 0:=⟨aq,aq⟩
theorem Jq{w:World}{S:Nat→Prop}{σ:Nat→Option Nat}{hp:Hp}{U:Nat→Prop}{a b:Int}:AIs w S σ hp U (.tup [.d (.int .u64 a),.d (.int .u64 b)]) (.tuple #[.int .u64 a,.int .u64 b]):=by
 refine .tup _ #[.int .u64 a,.int .u64 b] rfl fun i c x hc e=>?_
 match i with
 |0=>simp at hc e;subst hc e;exact .d (.int _ _)
 |1=>simp at hc e;subst hc e;exact .d (.int _ _)
 |n+2=>simp at hc
theorem PL(x y c:Int)(h:ec x)(g:ec y)(hc:C1 c):∃s d:Int,ec s∧C1 d∧s+18446744073709551616*d=x+y+c∧rY prog 162 [.d (.int .u64 x),.d (.int .u64 y),.d (.int .u64 c)] (.tup [.d (.int .u64 s),.d (.int .u64 d)]):=by
 refine⟨(x+y+c)%18446744073709551616,(x+y+c)/18446744073709551616,⟨Int.emod_nonneg _ aq,Int.emod_lt_of_pos _ aq⟩,?_,aq,?_⟩;obtain⟨q,o⟩:=h;obtain⟨n,p⟩:=g;obtain⟨u,r⟩:=hc;exact⟨aq,aq⟩
 ·intro w S σ t U j k f
  match j,k with
  |[a,b,e],_ =>
   have i:=qo (f 0 _ a rfl rfl);have l:=qo (f 1 _ b rfl rfl);have m:=qo (f 2 _ e rfl rfl);subst i l m;refine⟨_,?_,Jq⟩;rw[run_callFunc_extern func162 (by kernel_rfl) (by kernel_rfl) (by kernel_rfl) (e:=add64Entry) (by kernel_rfl),run_add64 x y c h.1 g.1 hc.1 hc.2];rfl
theorem PM(x y c:Int)(l:ec x)(g:ec y)(hc:C1 c):∃s d:Int,ec s∧C1 d∧s-18446744073709551616*d=x-y-c∧rY prog 179 [.d (.int .u64 x),.d (.int .u64 y),.d (.int .u64 c)] (.tup [.d (.int .u64 s),.d (.int .u64 d)]):=by
 obtain⟨k,rfl⟩:=Int.eq_ofNat_of_zero_le hc.1;have o:k≤1:=by have:=hc.2;omega
 refine⟨((((x.toNat+Extern.MathBitsCarry.m64-y.toNat-k)%Extern.MathBitsCarry.m64:Nat)):Int),(((if x.toNat<y.toNat+k then 1 else 0:Nat)):Int),?_,?_,?_,?_⟩;have n:(x.toNat+Extern.MathBitsCarry.m64-y.toNat-k)%Extern.MathBitsCarry.m64<Extern.MathBitsCarry.m64:=Nat.mod_lt _ (by decide);have e:Extern.MathBitsCarry.m64=18446744073709551616:=by decide
 exact⟨Int.natCast_nonneg _,by rw[e]at n⊢;omega⟩;split;exact⟨aq,aq⟩;exact⟨aq,aq⟩;have e:Extern.MathBitsCarry.m64=18446744073709551616:=by decide
 obtain⟨u,r⟩:=l;obtain⟨q,t⟩:=g;rw[e];split<;>omega
 ·intro w S σ v U i j f
  match i,j with
  |[a,b,e],_ =>
   have h:=qo (f 0 _ a rfl rfl);have m:=qo (f 1 _ b rfl rfl);have p:=qo (f 2 _ e rfl rfl);subst h m p;refine⟨_,?_,Jq⟩;rw[run_callFunc_extern func179 (by kernel_rfl) (by kernel_rfl) (by kernel_rfl) (e:=PK) (by kernel_rfl),Hu x y k o];rfl
theorem PN(z:Int)(a:0≤z)(b:z<18446744073709551616):Go.bits .and .u64 z 4294967295=z%4294967296:=by
 obtain⟨n,rfl⟩:=Int.eq_ofNat_of_zero_le a;have h:=bits_and_u64_nat n 4294967295 aq aq;rw[nat_mask32]at h;rw[Int.natCast_emod]at h;exact h
theorem PO(x y:Int)(b:ec x)(a:ec y):∃s d:Int,ec s∧ec d∧d+18446744073709551616*s=x*y∧fm prog 187 [.d (.int .u64 x),.d (.int .u64 y)] (.tup [.d (.int .u64 s),.d (.int .u64 d)]):=by
 have Q:0≤x*y∧x*y≤18446744073709551615*18446744073709551615:=⟨Int.mul_nonneg b.1 a.1,by
  have O:=b.2;have M:=a.2;have E:=a.1
  exact Int.mul_le_mul aq aq E aq⟩
 have N:=mul64_arith x y b.1 b.2 a.1 a.2;have w:∀z,IntKind.u64.wrap z=z%18446744073709551616:=fun z=>by simp[IntKind.wrap,IntKind.bits,IntKind.signed]
 refine⟨x*y/18446744073709551616,x*y%18446744073709551616,⟨aq,aq⟩,⟨Int.emod_nonneg _ aq,Int.emod_lt_of_pos _ aq⟩,aq,?_⟩;refine bL func187 ntmps187 (rs:=[.tmp 4,.tmp 5]) a9 ?_;simp[go_sem,ah,IntKind.bits,w];refine aa a9 ?_;have j:∀z:Int,Int.fdiv z 4294967296=z/4294967296:=fun z=>Int.fdiv_eq_ediv_of_nonneg _ aq;have v:∀z:Int,Go.bits .and .u64 (z%18446744073709551616) 4294967295=z%18446744073709551616%4294967296:=fun z=>PN _ (Int.emod_nonneg _ aq) (Int.emod_lt_of_pos _ aq);simp only[j,PN x b.1 b.2,PN y a.1 a.2,v]
 have e:∀A B C D:Int,0≤A∧A≤18446744065119617025→0≤B∧B≤18446744065119617025→0≤C∧C≤18446744065119617025→0≤D∧D≤18446744065119617025 →
   (A+(B+C%18446744073709551616/4294967296)%18446744073709551616/4294967296+((B+C%18446744073709551616/4294967296)%18446744073709551616%4294967296+D)%18446744073709551616/4294967296)%18446744073709551616=(A*18446744073709551616+(B+D)*4294967296+C)/18446744073709551616:=by
  intro A B C D P J L K;omega
 obtain⟨c,h,k,p,o,n,l⟩:∃c h:Int,x=c*4294967296+h∧0≤c∧c≤4294967295∧0≤h∧h≤4294967295:=⟨x/4294967296,x%4294967296,aq,by have:=b.1;omega,by have:=b.2;omega,aq,aq⟩;obtain⟨f,g,i,m,t,q,u⟩:∃f g:Int,y=f*4294967296+g∧0≤f∧f≤4294967295∧0≤g∧g≤4294967295:=⟨y/4294967296,y%4294967296,aq,by have:=a.1;omega,by have:=a.2;omega,aq,aq⟩;have G:x/4294967296=c:=aq;have I:x%4294967296=h:=aq;have H:y/4294967296=f:=aq;have F:y%4294967296=g:=aq;rw[G,I,H,F,e _ _ _ _ (prod_bound c f p o m t) (prod_bound c g p o q u) (prod_bound h g n l q u) (prod_bound h f n l m t),←split_mul,←k,←i]
theorem Cm(x:Int):IntKind.u64.wrap x=x%18446744073709551616:=by simp[IntKind.wrap,IntKind.bits,IntKind.signed]
def nA(A:Int×Int×Int→Int×Int)(a b:List Int)(k:Nat)(s:List Int×Int):List Int×Int :=
 (s.1.set k (A (gI a k,gI b k,s.2)).1,(A (gI a k,gI b k,s.2)).2)
def zq(A:Int×Int×Int→Int×Int)(M:Int×Int→Int×Int)(a:List Int)(k:Nat)(s:List Int×Int):List Int×Int :=
 (s.1.set k (A ((M (gI a k,4294968273)).2,s.2,0)).1,IntKind.u64.wrap ((M (gI a k,4294968273)).1+(A ((M (gI a k,4294968273)).2,s.2,0)).2))
def Gf:List Int:=[0,0,0,0,0,0,0,0]
theorem abH:Wn 8 Gf:=abG 8
def pl(i k:Nat):Nat:=i+k
def E5(A:Int×Int×Int→Int×Int)(M:Int×Int→Int×Int)(a b:List Int)(i k:Nat)(s:List Int×Int):List Int×Int :=
 (s.1.set (pl i k) (A ((A ((M (gI a i,gI b k)).2,gI s.1 (pl i k),0)).1,s.2,0)).1,IntKind.u64.wrap (IntKind.u64.wrap ((M (gI a i,gI b k)).1+(A ((M (gI a i,gI b k)).2,gI s.1 (pl i k),0)).2)+(A ((A ((M (gI a i,gI b k)).2,gI s.1 (pl i k),0)).1,s.2,0)).2))
def s9(A:Int×Int×Int→Int×Int)(M:Int×Int→Int×Int)(a b:List Int)(i:Nat)(p:List Int):List Int :=
 (gp (E5 A M a b i) (p,0) 4).1.set (pl i 4) (gp (E5 A M a b i) (p,0) 4).2
def V:List Int→Int
 |[]=>0
 |x::r=>x+18446744073709551616*V r
theorem V4(a b c d:Int):V [a,b,c,d]=a+18446744073709551616*(b+18446744073709551616*(c+18446744073709551616*d)):=by simp[V]
theorem kG{l:List Int}(h:Wn 4 l):∃a b c d,l=[a,b,c,d]∧ec a∧ec b∧ec c∧ec d:=by
 obtain⟨f,e⟩:=h
 match l,f with
 |[a,b,c,d],_=>exact⟨a,b,c,d,rfl,e a aw,e b aw,e c aw,e d aw⟩
theorem lZ{l:List Int}(h:Wn 4 l):0≤V l∧V l<115792089237316195423570985008687907853269984665640564039457584007913129639936:=by
 obtain⟨a,b,c,d,rfl,f,e,hc,g⟩:=kG h;rw[V4];unfold ec at *;omega
theorem Wu{l m:List Int}(h:Wn 4 l)(t:Wn 4 m)(e:V l=V m):l=m:=by
 obtain⟨a,b,c,d,rfl,v,x,hc,w⟩:=kG h;obtain⟨g,q,r,n,rfl,k,f,i,u⟩:=kG t;rw[V4,V4]at e;unfold ec at *;have o:a=g:=aq;have s:b=q:=aq;have j:c=r:=aq;have p:d=n:=aq;rw[o,s,j,p]
def LA(A:Int×Int×Int→Int×Int):Prop:=∀x,ec x.1∧ec x.2.1∧C1 x.2.2→ec (A x).1∧C1 (A x).2∧(A x).1+18446744073709551616*(A x).2=x.1+x.2.1+x.2.2
def abI(A:Int×Int×Int→Int×Int):Prop:=∀x,ec x.1∧ec x.2.1∧C1 x.2.2→ec (A x).1∧C1 (A x).2∧(A x).1-18446744073709551616*(A x).2=x.1-x.2.1-x.2.2
def PP(M:Int×Int→Int×Int):Prop:=∀x,ec x.1∧ec x.2→ec (M x).1∧ec (M x).2∧(M x).2+18446744073709551616*(M x).1=x.1*x.2
theorem aer{A:Int×Int×Int→Int×Int}(j:LA A){a b:List Int}(v:Wn 4 a)(x:Wn 4 b) :
  V (gp (nA A a b) (ed,0) 4).1+115792089237316195423570985008687907853269984665640564039457584007913129639936*(gp (nA A a b) (ed,0) 4).2=V a+V b:=by
 obtain⟨d,g,h,i,rfl,q,l,o,r⟩:=kG v;obtain⟨c,f,b2,b3,rfl,m,p,n,k⟩:=kG x;have y:C1 0:=⟨aq,aq⟩;have u:=j (d,c,0) ⟨q,m,y⟩;have s:=j (g,f,(A (d,c,0)).2) ⟨l,p,u.2.1⟩;have t:=j (h,b2,(A (g,f,(A (d,c,0)).2)).2) ⟨o,n,s.2.1⟩;have w:=j (i,b3,(A (h,b2,(A (g,f,(A (d,c,0)).2)).2)).2) ⟨r,k,t.2.1⟩;have e:gp (nA A [d,g,h,i] [c,f,b2,b3]) (ed,0) 4=([(A (d,c,0)).1,(A (g,f,(A (d,c,0)).2)).1,(A (h,b2,(A (g,f,(A (d,c,0)).2)).2)).1,(A (i,b3,(A (h,b2,(A (g,f,(A (d,c,0)).2)).2)).2)).1],(A (i,b3,(A (h,b2,(A (g,f,(A (d,c,0)).2)).2)).2)).2):=rfl;rw[e,V4,V4,V4];generalize A (i,b3,(A (h,b2,(A (g,f,(A (d,c,0)).2)).2)).2)=q3 at *;generalize A (h,b2,(A (g,f,(A (d,c,0)).2)).2)=q2 at *;generalize A (g,f,(A (d,c,0)).2)=q1 at *;generalize A (d,c,0)=q0 at *;obtain⟨_,_,D⟩:=u;obtain⟨_,_,B⟩:=s;obtain⟨_,_,C⟩:=t;obtain⟨_,_,z⟩:=w;dsimp only at *;omega
theorem aes{A:Int×Int×Int→Int×Int}(j:abI A){a b:List Int}(v:Wn 4 a)(x:Wn 4 b) :
  V (gp (nA A a b) (ed,0) 4).1-115792089237316195423570985008687907853269984665640564039457584007913129639936*(gp (nA A a b) (ed,0) 4).2=V a-V b:=by
 obtain⟨d,g,h,i,rfl,q,l,o,r⟩:=kG v;obtain⟨c,f,b2,b3,rfl,m,p,n,k⟩:=kG x;have y:C1 0:=⟨aq,aq⟩;have u:=j (d,c,0) ⟨q,m,y⟩;have s:=j (g,f,(A (d,c,0)).2) ⟨l,p,u.2.1⟩;have t:=j (h,b2,(A (g,f,(A (d,c,0)).2)).2) ⟨o,n,s.2.1⟩;have w:=j (i,b3,(A (h,b2,(A (g,f,(A (d,c,0)).2)).2)).2) ⟨r,k,t.2.1⟩;have e:gp (nA A [d,g,h,i] [c,f,b2,b3]) (ed,0) 4=([(A (d,c,0)).1,(A (g,f,(A (d,c,0)).2)).1,(A (h,b2,(A (g,f,(A (d,c,0)).2)).2)).1,(A (i,b3,(A (h,b2,(A (g,f,(A (d,c,0)).2)).2)).2)).1],(A (i,b3,(A (h,b2,(A (g,f,(A (d,c,0)).2)).2)).2)).2):=rfl;rw[e,V4,V4,V4];generalize A (i,b3,(A (h,b2,(A (g,f,(A (d,c,0)).2)).2)).2)=q3 at *;generalize A (h,b2,(A (g,f,(A (d,c,0)).2)).2)=q2 at *;generalize A (g,f,(A (d,c,0)).2)=q1 at *;generalize A (d,c,0)=q0 at *;obtain⟨_,_,D⟩:=u;obtain⟨_,_,B⟩:=s;obtain⟨_,_,C⟩:=t;obtain⟨_,_,z⟩:=w;dsimp only at *;omega
theorem Jr{A:Int×Int×Int→Int×Int}{M:Int×Int→Int×Int}(d:LA A)(g:PP M){x y p c:Int}(b:ec x)(a:ec y)(hp:ec p)(hc:ec c) :
  ec (A ((A ((M (x,y)).2,p,0)).1,c,0)).1∧ec (IntKind.u64.wrap (IntKind.u64.wrap ((M (x,y)).1+(A ((M (x,y)).2,p,0)).2)+(A ((A ((M (x,y)).2,p,0)).1,c,0)).2)) ∧
  (A ((A ((M (x,y)).2,p,0)).1,c,0)).1+18446744073709551616*IntKind.u64.wrap (IntKind.u64.wrap ((M (x,y)).1+(A ((M (x,y)).2,p,0)).2)+(A ((A ((M (x,y)).2,p,0)).1,c,0)).2)=x*y+p+c:=by
 have e:C1 0:=⟨aq,aq⟩;obtain⟨k,j,n⟩:=g (x,y) ⟨b,a⟩;generalize M (x,y)=m at *;obtain⟨h,l,o⟩:=d (m.2,p,0) ⟨j,hp,e⟩;generalize A (m.2,p,0)=q at *;obtain⟨i,k2,k3⟩:=d (q.1,c,0) ⟨h,hc,e⟩;generalize A (q.1,c,0)=r at *;have f:x*y≤18446744073709551615*18446744073709551615:=by
  unfold ec at b a;exact Int.mul_le_mul aq aq aq aq
 dsimp only at *;simp only[Cm]at *;unfold ec C1 at *;generalize x*y=z at *;refine⟨i,⟨aq,aq⟩,aq⟩
theorem AC{l:List Int}{i j:Nat}{x:Int}(h:i≠j):gI (l.set i x) j=gI l j:=by
 unfold gI;rw[cR,cR,List.getElem?_set_ne h]
theorem E6{n:Nat}{l:List Int}(h:Wn n l)(k:Nat):ec (gI l k):=by
 unfold gI;rw[cR];cases e:l[k]? with
 |none=>exact⟨aw,aw⟩
 |some x=>exact h.2 x (cr e)
theorem Uz{A:Int×Int×Int→Int×Int}{M:Int×Int→Int×Int}(h:LA A)(f:PP M){a b p:List Int}(B:Wn 4 a)(P:Wn 4 b)(hp:Wn 8 p)(i:Nat) :
  ∃r0 r1 r2 r3 c,ec r0∧ec r1∧ec r2∧ec r3∧ec c ∧
   r0+18446744073709551616*(r1+18446744073709551616*(r2+18446744073709551616*(r3+18446744073709551616*c)))=gI a i*V b+(gI p i+18446744073709551616*(gI p (i+1)+18446744073709551616*(gI p (i+2)+18446744073709551616*gI p (i+3)))) ∧
   s9 A M a b i p=((((p.set i r0).set (i+1) r1).set (i+2) r2).set (i+3) r3).set (i+4) c:=by
 obtain⟨d,e,b2,b3,rfl,m,q,n,j⟩:=kG P;have g:=E6 B i;generalize k:gI a i=x at *;have z:ec 0:=⟨aq,aq⟩;obtain⟨F,S,t⟩:=Jr h f g m (E6 hp i) z;obtain⟨D,R,s⟩:=Jr h f g q (E6 hp (i+1)) S;obtain⟨w,u2,u3⟩:=Jr h f g n (E6 hp (i+2)) R;obtain⟨L,G,r⟩:=Jr h f g j (E6 hp (i+3)) u2;refine⟨_,_,_,_,_,F,D,w,L,G,?_,?_⟩;have o:∀u v:Int,x*(u+18446744073709551616*v)=x*u+18446744073709551616*(x*v):=fun u v=>by rw[Int.mul_add,Int.mul_left_comm]
 rw[V4,o,o,o];revert t s u3 r;generalize gI p i=p0;generalize gI p (i+1)=p1;generalize gI p (i+2)=p2;generalize gI p (i+3)=p3;generalize x*d=y0;generalize x*e=y1;generalize x*b2=y2;generalize x*b3=y3;intro t s u3 r;omega;have E:∀(l:List Int)(y:Int),gI (l.set i y) (i+1)=gI l (i+1):=fun l y=>AC aq;have J:∀(l:List Int)(y:Int),gI (l.set i y) (i+2)=gI l (i+2):=fun l y=>AC aq;have Q:∀(l:List Int)(y:Int),gI (l.set i y) (i+3)=gI l (i+3):=fun l y=>AC aq;have N:∀(l:List Int)(y:Int),gI (l.set (i+1) y) (i+2)=gI l (i+2):=fun l y=>AC aq;have I:∀(l:List Int)(y:Int),gI (l.set (i+1) y) (i+3)=gI l (i+3):=fun l y=>AC aq;have O:∀(l:List Int)(y:Int),gI (l.set (i+2) y) (i+3)=gI l (i+3):=fun l y=>AC aq;have K:gI [d,e,b2,b3] 0=d:=rfl;have T:gI [d,e,b2,b3] 1=e:=rfl;have C:gI [d,e,b2,b3] 2=b2:=rfl;have H:gI [d,e,b2,b3] 3=b3:=rfl;simp only[s9,gp,E5,pl,k,K,T,C,H,E,J,Q,N,I,O,Nat.add_zero]
theorem PQ{A:Int×Int×Int→Int×Int}{M:Int×Int→Int×Int}(F:LA A)(D:PP M){a b:List Int}(n:Wn 4 a)(E:Wn 4 b) :
  Wn 8 (gp (s9 A M a b) Gf 4)∧V (gp (s9 A M a b) Gf 4)=V a*V b:=by
 obtain⟨f,h,j,i,rfl,ag,al,af,ap⟩:=kG n;have z:ec 0:=⟨aq,aq⟩;have w0:Wn 8 Gf:=⟨rfl,fun x c=>by simp[Gf]at c;subst c;exact z⟩;obtain⟨d,B,v,p,u,ak,am,T,aa,R,e0,f0⟩:=Uz F D n E w0 0;have J:s9 A M [f,h,j,i] b 0 Gf=[d,B,v,p,u,0,0,0]:=f0;have w1:Wn 8 [d,B,v,p,u,0,0,0]:=⟨rfl,fun x c=>by simp at c;rcases c with rfl|rfl|rfl|rfl|rfl|rfl<;>assumption⟩;obtain⟨g,q,r,C,m,K,S,ad,U,W,e1,Z⟩:=Uz F D n E w1 1;have H:s9 A M [f,h,j,i] b 1 [d,B,v,p,u,0,0,0]=[d,g,q,r,C,m,0,0]:=Z;have w2:Wn 8 [d,g,q,r,C,m,0,0]:=⟨rfl,fun x c=>by simp at c;rcases c with rfl|rfl|rfl|rfl|rfl|rfl|rfl<;>assumption⟩;obtain⟨l,s,y,t,c2,P,O,ac,ai,ao,e2,Q⟩:=Uz F D n E w2 2;have G:s9 A M [f,h,j,i] b 2 [d,g,q,r,C,m,0,0]=[d,g,l,s,y,t,c2,0]:=Q;have w3:Wn 8 [d,g,l,s,y,t,c2,0]:=⟨rfl,fun x c=>by simp at c;rcases c with rfl|rfl|rfl|rfl|rfl|rfl|rfl|rfl<;>assumption⟩;obtain⟨o,w,u2,u3,c3,L,aj,N,an,ae,e3,f3⟩:=Uz F D n E w3 3;have I:s9 A M [f,h,j,i] b 3 [d,g,l,s,y,t,c2,0]=[d,g,l,o,w,u2,u3,c3]:=f3
 have e:gp (s9 A M [f,h,j,i] b) Gf 4=[d,g,l,o,w,u2,u3,c3]:=by
  simp only[gp];rw[J,H,G,I]
 rw[e];refine⟨⟨rfl,fun x c=>by simp at c;rcases c with rfl|rfl|rfl|rfl|rfl|rfl|rfl|rfl<;>assumption⟩,?_⟩
 have k:V [f,h,j,i]*V b=f*V b+18446744073709551616*(h*V b+18446744073709551616*(j*V b+18446744073709551616*(i*V b))):=by
  rw[V4,Int.add_mul,Int.mul_assoc,Int.add_mul,Int.mul_assoc,Int.add_mul,Int.mul_assoc]
 have k2:V [d,g,l,o,w,u2,u3,c3]=d+18446744073709551616*(g+18446744073709551616*(l+18446744073709551616*(o+18446744073709551616*(w+18446744073709551616*(u2+18446744073709551616*(u3+18446744073709551616*c3)))))):=by simp[V]
 rw[k,k2];have g0:gI [f,h,j,i] 0*V b+(0+18446744073709551616*(0+18446744073709551616*(0+18446744073709551616*0)))=f*V b:=by show f*V b+_=_;omega
 have ab:d+18446744073709551616*(B+18446744073709551616*(v+18446744073709551616*(p+18446744073709551616*u)))=f*V b:=e0.trans g0;have ah:g+18446744073709551616*(q+18446744073709551616*(r+18446744073709551616*(C+18446744073709551616*m)))=h*V b+(B+18446744073709551616*(v+18446744073709551616*(p+18446744073709551616*u))):=e1;have Y:l+18446744073709551616*(s+18446744073709551616*(y+18446744073709551616*(t+18446744073709551616*c2)))=j*V b+(q+18446744073709551616*(r+18446744073709551616*(C+18446744073709551616*m))):=e2;have X:o+18446744073709551616*(w+18446744073709551616*(u2+18446744073709551616*(u3+18446744073709551616*c3)))=i*V b+(s+18446744073709551616*(y+18446744073709551616*(t+18446744073709551616*c2))):=e3;generalize f*V b=y0 at *;generalize h*V b=y1 at *;generalize j*V b=y2 at *;generalize i*V b=y3 at *;omega
theorem UA{A:Int×Int×Int→Int×Int}{M:Int×Int→Int×Int}(B:LA A)(t:PP M){a:List Int}(l:Wn 4 a) :
  V (gp (zq A M a) (ed,0) 4).1+115792089237316195423570985008687907853269984665640564039457584007913129639936*(gp (zq A M a) (ed,0) 4).2=V a*4294968273:=by
 obtain⟨d,g,f,b,rfl,j,h,i,k⟩:=kG l;have z:ec 0:=⟨aq,aq⟩;have C:C1 0:=⟨aq,aq⟩;have D:ec 4294968273:=⟨aq,aq⟩;have one:∀x c:Int,ec x→ec c→ec (A ((M (x,4294968273)).2,c,0)).1∧ec (IntKind.u64.wrap ((M (x,4294968273)).1+(A ((M (x,4294968273)).2,c,0)).2)) ∧
   (A ((M (x,4294968273)).2,c,0)).1+18446744073709551616*IntKind.u64.wrap ((M (x,4294968273)).1+(A ((M (x,4294968273)).2,c,0)).2)=x*4294968273+c:=by
  intro x c w hc;obtain⟨N,G,S⟩:=t (x,4294968273) ⟨w,D⟩;generalize M (x,4294968273)=m at *;obtain⟨o,P,T⟩:=B (m.2,c,0) ⟨G,hc,C⟩;generalize A (m.2,c,0)=q at *;dsimp only at *;simp only[Cm]at *;unfold ec C1 at *;refine⟨o,⟨aq,aq⟩,aq⟩
 obtain⟨K,F,J⟩:=one d 0 j z;obtain⟨I,y,R⟩:=one g _ h F;obtain⟨H,u2,u3⟩:=one f _ i y;obtain⟨Q,L,O⟩:=one b _ k u2;have v:gI [d,g,f,b] 0=d:=rfl;have E:gI [d,g,f,b] 1=g:=rfl;have n:gI [d,g,f,b] 2=f:=rfl;have u:gI [d,g,f,b] 3=b:=rfl;have e:∀p q r s:Int,List.set (List.set (List.set (List.set ed 0 p) 1 q) 2 r) 3 s=[p,q,r,s]:=fun _ _ _ _=>rfl;simp only[gp,zq,v,E,n,u,e,V4];omega
theorem aet:gi prog 96=some (cI ed):=by kernel_rfl
attribute [go_sem] aet
theorem YF:ed.length=4:=rfl
attribute [go_sem] YF fN Ht
theorem CB{Q:AV→Prop}{st:St}{a:List Int}{b:Int}(hq:Q (.tup [.agg (cI a),.d (.int .u64 b)])):dG Q (.tup [.agg (cI a),.d (.int .u64 b)]) st :=
 aa (by
  intro c hc;simp at hc;rcases hc with rfl|rfl;exact .inr ⟨_,rfl,km _⟩
  exact .inl trivial) hq
theorem YG:∃A:Int×Int×Int→Int×Int,LA A∧∀x,(ec x.1∧ec x.2.1∧C1 x.2.2)→ec (A x).1∧C1 (A x).2∧rY prog 162 [.d (.int .u64 x.1),.d (.int .u64 x.2.1),.d (.int .u64 x.2.2)] (.tup [.d (.int .u64 (A x).1),.d (.int .u64 (A x).2)]):=by
 obtain⟨A,b⟩:=pick (α:=Int×Int×Int) (β:=Int×Int) (A:=fun x=>ec x.1∧ec x.2.1∧C1 x.2.2) (B:=fun x y=>ec y.1∧C1 y.2∧y.1+18446744073709551616*y.2=x.1+x.2.1+x.2.2∧rY prog 162 [.d (.int .u64 x.1),.d (.int .u64 x.2.1),.d (.int .u64 x.2.2)] (.tup [.d (.int .u64 y.1),.d (.int .u64 y.2)])) (fun x a=>by
  obtain⟨s,d,g,e,c,f⟩:=PL x.1 x.2.1 x.2.2 a.1 a.2.1 a.2.2
  exact⟨(s,d),g,e,c,f⟩)
 exact⟨A,fun x a=>⟨(b x a).1,(b x a).2.1,(b x a).2.2.1⟩,fun x a=>⟨(b x a).1,(b x a).2.1,(b x a).2.2.2⟩⟩
theorem aeu:∃A:Int×Int×Int→Int×Int,abI A∧∀x,(ec x.1∧ec x.2.1∧C1 x.2.2)→ec (A x).1∧C1 (A x).2∧rY prog 179 [.d (.int .u64 x.1),.d (.int .u64 x.2.1),.d (.int .u64 x.2.2)] (.tup [.d (.int .u64 (A x).1),.d (.int .u64 (A x).2)]):=by
 obtain⟨A,b⟩:=pick (α:=Int×Int×Int) (β:=Int×Int) (A:=fun x=>ec x.1∧ec x.2.1∧C1 x.2.2) (B:=fun x y=>ec y.1∧C1 y.2∧y.1-18446744073709551616*y.2=x.1-x.2.1-x.2.2∧rY prog 179 [.d (.int .u64 x.1),.d (.int .u64 x.2.1),.d (.int .u64 x.2.2)] (.tup [.d (.int .u64 y.1),.d (.int .u64 y.2)])) (fun x a=>by
  obtain⟨s,d,g,e,c,f⟩:=PM x.1 x.2.1 x.2.2 a.1 a.2.1 a.2.2
  exact⟨(s,d),g,e,c,f⟩)
 exact⟨A,fun x a=>⟨(b x a).1,(b x a).2.1,(b x a).2.2.1⟩,fun x a=>⟨(b x a).1,(b x a).2.1,(b x a).2.2.2⟩⟩
theorem abJ:∃M:Int×Int→Int×Int,∀x,ec (M x).1∧ec (M x).2∧(ec x.1∧ec x.2→(M x).2+18446744073709551616*(M x).1=x.1*x.2∧fm prog 187 [.d (.int .u64 x.1),.d (.int .u64 x.2)] (.tup [.d (.int .u64 (M x).1),.d (.int .u64 (M x).2)])):=by
 obtain⟨M,f⟩:=pick (α:=Int×Int) (β:=Int×Int) (A:=fun _=>True) (B:=fun x y=>ec y.1∧ec y.2∧(ec x.1∧ec x.2→y.2+18446744073709551616*y.1=x.1*x.2∧fm prog 187 [.d (.int .u64 x.1),.d (.int .u64 x.2)] (.tup [.d (.int .u64 y.1),.d (.int .u64 y.2)]))) (fun x _=>by
  by_cases a:ec x.1∧ec x.2;obtain⟨s,d,g,c,b,e⟩:=PO x.1 x.2 a.1 a.2;exact⟨(s,d),g,c,fun _=>⟨b,e⟩⟩
  exact⟨(0,0),yo,yo,fun h=>absurd h a⟩)
 exact⟨M,fun x=>f x trivial⟩
theorem Js{M:Int×Int→Int×Int}{C:Int×Int→Prop}(a:∀x,ec (M x).1∧ec (M x).2∧(ec x.1∧ec x.2→(M x).2+18446744073709551616*(M x).1=x.1*x.2∧C x)):PP M :=
 fun x b=>⟨(a x).1,(a x).2.1,((a x).2.2 b).1⟩
theorem qp(a b:List Int)(m:Wn 4 a)(o:Wn 4 b):∃(s:List Int)(c:Int),Wn 4 s∧C1 c∧V s+115792089237316195423570985008687907853269984665640564039457584007913129639936*c=V a+V b∧fm prog 131 [.agg (cI a),.agg (cI b)] (.tup [.agg (cI s),.d (.int .u64 c)]):=by
 obtain⟨A,u,H⟩:=YG;have p:∀k,Wn 4 (gp (nA A a b) (ed,0) k).1∧C1 (gp (nA A a b) (ed,0) k).2:=kj (P:=fun _(s:List Int×Int)=>Wn 4 s.1∧C1 s.2) ⟨lh,E4⟩ fun k s C=>by
  obtain⟨F,D,_⟩:=H (gI a k,gI b k,s.2) ⟨dK m,dK o,C.2⟩;exact⟨rM C.1 F,D⟩
 refine⟨(gp (nA A a b) (ed,0) 4).1,(gp (nA A a b) (ed,0) 4).2,(p 4).1,(p 4).2,aer u m o,?_⟩;refine bL func131 ntmps131 (rs:=[.cell 4 96,.tmp 5]) (aP a b) ?_;have q:=m.1;have v:=o.1;simp[go_sem,q,v];generalize i:gp (nA A a b) (ed,0)=S at *
 refine av (fun k:Nat=>⟨[(2,.ptr 0 0 0 1),(3,.ptr 32 0 0 1),(4,.ptr 64 0 0 1),(6,.ptr 128 0 0 1),(7,.d (.int .u64 (S k).2)),(9,.d (.int .i64 (k:Int)))],[(128,⟨96,4,[cI (S k).1]⟩),(64,⟨96,4,[cI ed]⟩),(32,⟨96,4,[cI b]⟩),(0,⟨96,4,[cI a]⟩)],1000⟩)
  (fun k=>k≤4) (fun k=>4-k) 0 aq (by
   rw[←i];simp[aA,ai,fv,lk,AV.low,AV.l,gp]
   and_intros<;>first|rfl|exact cH _ _) ?_
 intro k O;obtain⟨z,w⟩:=p k;have g:=z.1;have J:=ay (k:=k) aq;simp only[go_sem,Nat.reduceEqDiff,Nat.reduceAdd,Nat.reduceLT,↓reduceIte];by_cases x:k<4
 ·refine⟨fun h=>?_,fun h=>absurd (by exact_mod_cast x) h⟩;have B:=kF (l:=a) (k:=k) aq;have t:=kF (l:=b) (k:=k) aq;have j:S (k+1)=nA A a b k (S k):=by rw[←i];rfl
  obtain⟨F,D,h3⟩:=H (gI a k,gI b k,(S k).2) ⟨dK m,dK o,w⟩;simp only[nA]at j;generalize A (gI a k,gI b k,(S k).2)=y at *;have e:(k:Int)<4:=aq;refine dI [0,1,2,3,4,5,6,7] [8,11,13,14] [0,1,2,3,4,5,6,7,9,10,12] (.step 8 [9,10,12] true (.alt (bt 11 (a_ [13,14])) (a_ [13,11,14]))) ⟨[(2,.ptr 0 0 0 1),(3,.ptr 32 0 0 1),(4,.ptr 64 0 0 1),(6,.ptr 128 0 0 1),(7,.d (.int .u64 y.2)),(9,.d (.int .i64 (k:Int)))],[(128,⟨96,4,[cI ((S k).1.set k y.1)]⟩),(64,⟨96,4,[cI ed]⟩),(32,⟨96,4,[cI b]⟩),(0,⟨96,4,[cI a]⟩)],9000⟩ (k:=15) ?h3 ?hq
  case h3 =>
   intro G I;have E:∀f:Fr,(fv 2 f=.ptr 0 0 0 1∧fv 3 f=.ptr 32 0 0 1∧fv 4 f=.ptr 64 0 0 1∧fv 6 f=.ptr 128 0 0 1∧fv 7 f=.d (.int .u64 y.2)∧fv 9 f=.d (.int .i64 (k:Int)))→G f [(128,⟨96,4,[cI ((S k).1.set k y.1)]⟩),(64,⟨96,4,[cI ed]⟩),(32,⟨96,4,[cI b]⟩),(0,⟨96,4,[cI a]⟩)]:=by
    rintro f⟨N,L,M,R,Q,K⟩;exact I _ _ qK
   simp[go_sem,B,t,e];refine ug h3 ?_;simp[go_sem,g,py,dM,e];and_intros<;>first|exact x|exact E _ ⟨rfl,rfl,rfl,rfl,rfl,rfl⟩|(refine E _ ?_;simp[fv,lk])
  case hq =>
   simp[go_sem,J];refine ao (k+1) aq aq ?_;rw[j];simp[aA,ai,fv,lk,AV.low,AV.l];and_intros<;>exact cH _ _
 ·refine⟨fun h=>absurd (by exact_mod_cast h) x,fun h=>?_⟩;have e:k=4:=aq;subst e;simp[go_sem,g,ae g,bg (l:=ed) (n:=4) rfl];exact CB rfl
theorem ta(a b:List Int)(m:Wn 4 a)(o:Wn 4 b):∃(s:List Int)(c:Int),Wn 4 s∧C1 c∧V s-115792089237316195423570985008687907853269984665640564039457584007913129639936*c=V a-V b∧fm prog 157 [.agg (cI a),.agg (cI b)] (.tup [.agg (cI s),.d (.int .u64 c)]):=by
 obtain⟨A,u,H⟩:=aeu;have p:∀k,Wn 4 (gp (nA A a b) (ed,0) k).1∧C1 (gp (nA A a b) (ed,0) k).2:=kj (P:=fun _(s:List Int×Int)=>Wn 4 s.1∧C1 s.2) ⟨lh,E4⟩ fun k s C=>by
  obtain⟨F,D,_⟩:=H (gI a k,gI b k,s.2) ⟨dK m,dK o,C.2⟩;exact⟨rM C.1 F,D⟩
 refine⟨(gp (nA A a b) (ed,0) 4).1,(gp (nA A a b) (ed,0) 4).2,(p 4).1,(p 4).2,aes u m o,?_⟩;refine bL func157 ntmps157 (rs:=[.cell 4 96,.tmp 5]) (aP a b) ?_;have q:=m.1;have v:=o.1;simp[go_sem,q,v];generalize i:gp (nA A a b) (ed,0)=S at *
 refine av (fun k:Nat=>⟨[(2,.ptr 0 0 0 1),(3,.ptr 32 0 0 1),(4,.ptr 64 0 0 1),(6,.ptr 128 0 0 1),(7,.d (.int .u64 (S k).2)),(9,.d (.int .i64 (k:Int)))],[(128,⟨96,4,[cI (S k).1]⟩),(64,⟨96,4,[cI ed]⟩),(32,⟨96,4,[cI b]⟩),(0,⟨96,4,[cI a]⟩)],1000⟩)
  (fun k=>k≤4) (fun k=>4-k) 0 aq (by
   rw[←i];simp[aA,ai,fv,lk,AV.low,AV.l,gp]
   and_intros<;>first|rfl|exact cH _ _) ?_
 intro k O;obtain⟨z,w⟩:=p k;have g:=z.1;have J:=ay (k:=k) aq;simp only[go_sem,Nat.reduceEqDiff,Nat.reduceAdd,Nat.reduceLT,↓reduceIte];by_cases x:k<4
 ·refine⟨fun h=>?_,fun h=>absurd (by exact_mod_cast x) h⟩;have B:=kF (l:=a) (k:=k) aq;have t:=kF (l:=b) (k:=k) aq;have j:S (k+1)=nA A a b k (S k):=by rw[←i];rfl
  obtain⟨F,D,h3⟩:=H (gI a k,gI b k,(S k).2) ⟨dK m,dK o,w⟩;simp only[nA]at j;generalize A (gI a k,gI b k,(S k).2)=y at *;have e:(k:Int)<4:=aq;refine dI [0,1,2,3,4,5,6,7] [8,11,13,14] [0,1,2,3,4,5,6,7,9,10,12] (.step 8 [9,10,12] true (.alt (bt 11 (a_ [13,14])) (a_ [13,11,14]))) ⟨[(2,.ptr 0 0 0 1),(3,.ptr 32 0 0 1),(4,.ptr 64 0 0 1),(6,.ptr 128 0 0 1),(7,.d (.int .u64 y.2)),(9,.d (.int .i64 (k:Int)))],[(128,⟨96,4,[cI ((S k).1.set k y.1)]⟩),(64,⟨96,4,[cI ed]⟩),(32,⟨96,4,[cI b]⟩),(0,⟨96,4,[cI a]⟩)],9000⟩ (k:=15) ?h3 ?hq
  case h3 =>
   intro G I;have E:∀f:Fr,(fv 2 f=.ptr 0 0 0 1∧fv 3 f=.ptr 32 0 0 1∧fv 4 f=.ptr 64 0 0 1∧fv 6 f=.ptr 128 0 0 1∧fv 7 f=.d (.int .u64 y.2)∧fv 9 f=.d (.int .i64 (k:Int)))→G f [(128,⟨96,4,[cI ((S k).1.set k y.1)]⟩),(64,⟨96,4,[cI ed]⟩),(32,⟨96,4,[cI b]⟩),(0,⟨96,4,[cI a]⟩)]:=by
    rintro f⟨N,L,M,R,Q,K⟩;exact I _ _ qK
   simp[go_sem,B,t,e];refine ug h3 ?_;simp[go_sem,g,py,dM,e];and_intros<;>first|exact x|exact E _ ⟨rfl,rfl,rfl,rfl,rfl,rfl⟩|(refine E _ ?_;simp[fv,lk])
  case hq =>
   simp[go_sem,J];refine ao (k+1) aq aq ?_;rw[j];simp[aA,ai,fv,lk,AV.low,AV.l];and_intros<;>exact cH _ _
 ·refine⟨fun h=>absurd (by exact_mod_cast h) x,fun h=>?_⟩;have e:k=4:=aq;subst e;simp[go_sem,g,ae g,bg (l:=ed) (n:=4) rfl];exact CB rfl
theorem Wv(x y:Int):∀v,v∈[AV.d (.int .u64 x),AV.d (.int .u64 y)]→v.deep:=by
 intro v a;simp at a;rcases a with rfl|rfl<;>trivial
theorem AD(a:List Int)(j:Wn 4 a):∃(s:List Int)(c:Int),Wn 4 s∧ec c∧V s+115792089237316195423570985008687907853269984665640564039457584007913129639936*c=V a*4294968273∧fm prog 238 [.agg (cI a)] (.tup [.agg (cI s),.d (.int .u64 c)]):=by
 obtain⟨A,p,B⟩:=YG;obtain⟨M,o⟩:=abJ;have i:∀k,Wn 4 (gp (zq A M a) (ed,0) k).1∧ec (gp (zq A M a) (ed,0) k).2:=kj (P:=fun _(s:List Int×Int)=>Wn 4 s.1∧ec s.2) ⟨lh,yo⟩ fun k s w=>by
  obtain⟨x,D,_⟩:=B ((M (gI a k,4294968273)).2,s.2,0) ⟨(o _).2.1,w.2,E4⟩;exact⟨rM w.1 x,Uy _⟩
 refine⟨(gp (zq A M a) (ed,0) 4).1,(gp (zq A M a) (ed,0) 4).2,(i 4).1,(i 4).2,UA p (Js o) j,?_⟩;refine bL func238 ntmps238 (rs:=[.cell 2 96,.tmp 3]) (aV a) ?_;have m:=j.1;simp[go_sem,m];generalize f:gp (zq A M a) (ed,0)=S at *
 refine av (fun k:Nat=>⟨[(1,.ptr 0 0 0 1),(2,.ptr 32 0 0 1),(4,.ptr 96 0 0 1),(5,.d (.int .u64 (S k).2)),(10,.d (.int .i64 (k:Int)))],[(96,⟨96,4,[cI (S k).1]⟩),(32,⟨96,4,[cI ed]⟩),(0,⟨96,4,[cI a]⟩)],1000⟩)
  (fun k=>k≤4) (fun k=>4-k) 0 aq (by
   rw[←f];simp[aA,ai,fv,lk,AV.low,AV.l,gp]
   and_intros<;>first|rfl|exact cH _ _) ?_
 intro k I;obtain⟨u,q⟩:=i k;have e:=u.1;have F:=ay (k:=k) aq;simp only[go_sem,Nat.reduceEqDiff,Nat.reduceAdd,Nat.reduceLT,↓reduceIte];by_cases t:k<4
 ·refine⟨fun h=>?_,fun h=>absurd (by exact_mod_cast t) h⟩;have v:=kF (l:=a) (k:=k) aq;have g:S (k+1)=zq A M a k (S k):=by rw[←f];rfl
  obtain⟨H,G,E⟩:=o (gI a k,4294968273);obtain⟨x,D,C⟩:=B ((M (gI a k,4294968273)).2,(S k).2,0) ⟨G,q,E4⟩;simp only[zq]at g;have b:(k:Int)<4:=aq;simp[go_sem,v,b];refine ag (E ⟨dK j,⟨aq,aq⟩⟩).2 (Wv _ _) ?_;simp[go_sem];refine ug C ?_;generalize A ((M (gI a k,4294968273)).2,(S k).2,0)=y at *;generalize M (gI a k,4294968273)=z at *;simp[go_sem,e,b,py,F];refine⟨t,?_⟩;refine ao (k+1) aq aq ?_;rw[g];simp[aA,ai,fv,lk,AV.low,AV.l];and_intros<;>exact cH _ _
 ·refine⟨fun h=>absurd (by exact_mod_cast h) t,fun h=>?_⟩;have b:k=4:=aq;subst b;simp[go_sem,e,ae e,bg (l:=ed) (n:=4) rfl];exact CB rfl
theorem aev:gi prog 226=some (cI Gf):=by kernel_rfl
attribute [go_sem] aev
theorem UB:Gf.length=8:=rfl
attribute [go_sem] UB
theorem Hv(a b:List Int)(D:Wn 4 a)(U:Wn 4 b):∃(s:List Int),Wn 8 s∧V s=V a*V b∧fm prog 163 [.agg (cI a),.agg (cI b)] (.agg (cI s)):=by
 obtain⟨A,L,B⟩:=YG;obtain⟨M,J⟩:=abJ;have N:∀i p,Wn 8 p→∀k,Wn 8 (gp (E5 A M a b i) (p,0) k).1∧ec (gp (E5 A M a b i) (p,0) k).2:=fun i p hp=>kj (P:=fun _(s:List Int×Int)=>Wn 8 s.1∧ec s.2) ⟨hp,yo⟩ fun k s e=>by
  obtain⟨h1,h2,_⟩:=B ((M (gI a i,gI b k)).2,gI s.1 (pl i k),0) ⟨(J _).2.1,dK e.1,E4⟩;obtain⟨C,W,_⟩:=B ((A ((M (gI a i,gI b k)).2,gI s.1 (pl i k),0)).1,s.2,0) ⟨h1,e.2,E4⟩;exact⟨rM e.1 C,Uy _⟩
 have hS:∀i,Wn 8 (gp (s9 A M a b) Gf i):=kj (P:=fun _(s:List Int)=>Wn 8 s) abH fun i s e=>rM (N i s e 4).1 (N i s e 4).2;refine⟨gp (s9 A M a b) Gf 4,hS 4,(PQ L (Js J) D U).2,?_⟩;refine bL func163 ntmps163 (rs:=[.cell 4 226]) (aP a b) ?_;have E:=D.1;have O:=U.1;simp[go_sem,E,O];generalize j:gp (s9 A M a b) Gf=S at *
 refine av (fun i:Nat=>⟨[(2,.ptr 0 0 0 1),(3,.ptr 32 0 0 1),(4,.ptr 64 0 0 1),(5,.ptr 96 0 0 1),(12,.d (.int .i64 (i:Int)))],[(96,⟨226,8,[cI (S i)]⟩),(64,⟨226,8,[cI Gf]⟩),(32,⟨96,4,[cI b]⟩),(0,⟨96,4,[cI a]⟩)],1000⟩)
  (fun k=>k≤4) (fun k=>4-k) 0 aq (by
   rw[←j];simp[aA,ai,fv,lk,AV.low,AV.l,gp]
   and_intros<;>first|rfl|exact cH _ _) ?_
 intro i hi;have q:=hS i;have w3:=ay (k:=i) aq;simp only[go_sem,Nat.reduceEqDiff,Nat.reduceAdd,Nat.reduceLT,↓reduceIte];by_cases W:i<4
 ·refine⟨fun h=>?_,fun h=>absurd (by exact_mod_cast W) h⟩;have Y:=kF (l:=a) (k:=i) aq;have R:(i:Int)<4:=aq;have t:S (i+1)=s9 A M a b i (S i):=by rw[←j];rfl
  have ab:=N i (S i) q;unfold s9 at t;generalize m:gp (E5 A M a b i) (S i,0)=T at *;have H:T 0=(S i,0):=by rw[←m];rfl
  refine av (fun k:Nat=>⟨[(2,.ptr 0 0 0 1),(3,.ptr 32 0 0 1),(4,.ptr 64 0 0 1),(5,.ptr 96 0 0 1),(12,.d (.int .i64 (i:Int))),(6,.d (.int .i64 (i:Int))),(7,.d (.int .u64 (T k).2)),(15,.d (.int .i64 (k:Int)))],[(96,⟨226,8,[cI (T k).1]⟩),(64,⟨226,8,[cI Gf]⟩),(32,⟨96,4,[cI b]⟩),(0,⟨96,4,[cI a]⟩)],2000⟩)
   (fun k=>k≤4) (fun k=>4-k) 0 aq (by
    rw[H];simp[aA,ai,fv,lk,AV.low,AV.l]
    and_intros<;>first|rfl|exact cH _ _) ?_
  intro k hk;obtain⟨f,F⟩:=ab k;have w:=f.1;have w4:=ay (k:=k) aq;have Z:pl i k=i+k:=rfl;have I:pl i 4=i+4:=rfl;have w5:IntKind.i64.wrap ((i:Int)+(k:Int))=(pl i k:Int):=by rw[Z,IntWalk.i64_in _ aq];omega
  have w6:IntKind.i64.wrap ((i:Int)+4)=(pl i 4:Int):=by rw[I,IntWalk.i64_in _ aq];omega
  simp only[go_sem,Nat.reduceEqDiff,Nat.reduceAdd,Nat.reduceLT,↓reduceIte];by_cases h5:k<4
  ·refine⟨fun h=>?_,fun h=>absurd (by exact_mod_cast h5) h⟩;have K:=kF (l:=b) (k:=k) aq;have X:=kF (l:=(T k).1) (k:=pl i k) aq;have c:(k:Int)<4:=aq;have g:(pl i k:Int)<8:=aq;have u:pl i k<8:=aq;have x:T (k+1)=E5 A M a b i k (T k):=by rw[←m];rfl
   obtain⟨m1,m2,m3⟩:=J (gI a i,gI b k);obtain⟨h1,h2,C⟩:=B ((M (gI a i,gI b k)).2,gI (T k).1 (pl i k),0) ⟨m2,dK f,E4⟩;obtain⟨q1,q2,q3⟩:=B ((A ((M (gI a i,gI b k)).2,gI (T k).1 (pl i k),0)).1,(T k).2,0) ⟨h1,F,E4⟩;unfold E5 at x;generalize A ((A ((M (gI a i,gI b k)).2,gI (T k).1 (pl i k),0)).1,(T k).2,0)=y2 at *;generalize A ((M (gI a i,gI b k)).2,gI (T k).1 (pl i k),0)=y at *;generalize M (gI a i,gI b k)=z at *;refine cK [0,1,2,3,4,5] [(6,[7,8,9,10,11])] 1 (k:=12) ?_;intro G hG;simp[go_sem,Y,K,R,c];refine ag (m3 ⟨dK D,dK U⟩).2 (Wv _ _) ?_;simp[go_sem];refine hG _ _ ?_;clear hG G;simp[go_sem,X,w5,g]
   first|refine ug C ?_
   simp[go_sem]
   first|refine ug q3 ?_
   simp[go_sem,w,w5,g,u,py,w4]
   first|refine ao (k+1) aq aq ?_|refine⟨aq,ao (k+1) aq aq ?_⟩
   rw[x];simp[aA,ai,fv,lk,AV.low,AV.l];and_intros<;>exact cH _ _
  ·refine⟨fun h=>absurd (by exact_mod_cast h) h5,fun h=>?_⟩;have c:k=4:=aq;subst c;have Q:(pl i 4:Int)<8:=aq;have v:pl i 4<8:=aq;simp[go_sem,w,w6,Q,v,py,w3]
   first|refine ao (i+1) aq aq ?_|refine⟨aq,ao (i+1) aq aq ?_⟩
   rw[t];simp[aA,ai,fv,lk,AV.low,AV.l];and_intros<;>exact cH _ _
 ·refine⟨fun h=>absurd (by exact_mod_cast h) W,fun h=>?_⟩;have c:i=4:=aq;subst c;have o:=q.1;simp[go_sem,o,ae o,bg (l:=Gf) (n:=8) rfl];exact aa (gf _) rfl
end Go.Proofs.YtmfnimjnneflnaaGreat
