/-
 Part 13 of what the claim rests on.
-/
import Derived.Test.YtmfnimjnneflnaaGreatD7
import Derived.Test.YtmfnimjnneflnaaGreatD11
set_option linter.unusedVariables false
set_option linter.unusedSimpArgs false
set_option maxRecDepth 100000
set_option maxHeartbeats 16000000
namespace Go.Proofs.YtmfnimjnneflnaaGreat
open Go.Am Go.Sha
def Ul(coins:List (Nat×List Nat)):Prop:=coins.length≤8∧∀o,o∈coins→o.1<18446744073709551616∧o.2.length≤1100
theorem ow(t:Tn)(n:Int)(coins:List (Nat×List Nat)):∀v,v∈[AV.agg (eS t n coins)]→v.deep:=by simp[AV.deep,AV.deep1,eS]
theorem aaU{a b c d e:List Nat}(k:Nat)(p:k<5)(n:a.length=32)(r:b.length=32)(hc:c.length=32)(q:d.length=32)(t:e.length=32) :
  List.take 32 (List.drop (k*32) (cb a++cb b++cb c++cb d++cb e))=cb ([a,b,c,d,e].getD k []):=by
 have h:(cb a).length=32:=by rw[aj,n]
 have g:(cb b).length=32:=by rw[aj,r]
 have i:(cb c).length=32:=by rw[aj,hc]
 have j:(cb d).length=32:=by rw[aj,q]
 have l:(cb e).length=32:=by rw[aj,t]
 have f:∀(A B C:List AV)(m:Nat),A.length=m→B.length=32→List.take 32 (List.drop m (A++(B++C)))=B:=by
  intro A B C m s o;subst s;rw[List.drop_left,←o,List.take_left]
 match k,p with
 |0,_=>simpa using f [] (cb a) (cb b++cb c++cb d++cb e) 0 rfl h
 |1,_=>simpa using f (cb a) (cb b) (cb c++cb d++cb e) 32 aq g
 |2,_=>simpa using f (cb a++cb b) (cb c) (cb d++cb e) 64 (by simp[h,g]) i
 |3,_=>simpa using f (cb a++cb b++cb c) (cb d) (cb e) 96 (by simp[h,g,i]) j
 |4,_=>simpa using f (cb a++cb b++cb c++cb d) (cb e) [] 128 (by simp[h,g,i,j]) l
def aaV(t:Tn)(n:Nat):List Nat:=le t.ver 4++(le t.lock 4++(le t.ins.length 4++(b7 (t.ins.map tA).flatten++(le t.outs.length 4++(b7 (t.outs.map ga).flatten++le n 4)))))
def Oa(t:Tn)(n:Nat):List Nat:=b7 (aaV t n)
theorem Xu(b:List Nat)(c:b.length≤100000000000) :
  c7 Tryz.prog 58 1 [(0,⟨167,10,[dI H0++[.nil,.d (.int .u64 0)]]⟩)] [.ptr 0 0 0 1,.d (nb b)] (fun r a=>r=.tup []∧lk 0 a=some ⟨167,10,[Ba b]⟩):=by
 have:=Qu H0 .nil [] b 0 (.inr ⟨rfl,rfl⟩) (by simp;omega) aq;rw[List.nil_append,Nat.zero_add]at this;exact this
theorem Sj(ρ:Nat→Nat):AV.renL ρ (dI H0++[.nil,.d (.int .u64 0)])=dI H0++[.nil,.d (.int .u64 0)]:=rfl
theorem Sl{Q:AV→Prop}{st:St}{b:List Nat}{e:Int}(hq:Q (.tup [.agg (cb b),.d (.int .i64 e)])):dm Q (.tup [.agg (cb b),.d (.int .i64 e)]) st:=by
 refine ae ?_ hq;intro c hc;simp at hc;rcases hc with rfl|rfl;exact .inr ⟨_,rfl,aW _⟩;exact .inl trivial
theorem Ob{b:List Nat}(a:b.length=32):(List.range 32).map (fun k=>((cb b).drop k).take 1)=List.map ((fun r=>List.map AV.d r)∘fun(x:Nat)=>[DV.int .u8 (x:Int)]) b:=by
 rw[sn a];rfl
theorem Xv(t:Tn)(n:Nat)(h:Sm t)(hc:mR t=0)(Y:n<t.ins.length):ap Tryz.prog 18 [.agg (eT t),.d (.int .i64 (n:Int))] (fun v=>v=.tup [.agg (cb (Oa t n)),.d (.int .i64 0)]):=by
 have w:=yR t h;rw[hc]at w;have z:=Ic t h;have C:=DY t.outs (by have:=h.2.2.1;omega) (fun o M=>⟨h.1.2.2.2 o M,by have:=h.2.2.2.1 o M;omega⟩);have e:=bo (t.ins.map tA).flatten;have c:=bo (t.outs.map ga).flatten;have T:=h.2.1;have R:=h.2.2.1;have y:=h.1.1;have L:=h.1.2.1;refine bz Tryz.func18 Tryz.ntmps18 (rs:=[.cell 4 29,.tmp 5]) (by intro v i;simp at i;rcases i with rfl|rfl;simp[AV.deep,AV.deep1,eT];trivial) ?_;have E:¬(n:Int)<0:=aq;have J:¬(t.ins.length:Int)≤(n:Int):=aq;have H:¬t.ins.length≤n:=aq;have m:IntKind.u32.wrap (t.ins.length:Int)=(t.ins.length:Int):=IntWalk.u32_in _ aq;have u:IntKind.u32.wrap (t.outs.length:Int)=(t.outs.length:Int):=IntWalk.u32_in _ aq;have j:IntKind.u32.wrap (n:Int)=(n:Int):=IntWalk.u32_in _ aq;have g:z32.length=32:=rfl;have s:List.drop 32 (cb z32)=[]:=rfl;unfold Oa aaV;generalize Q:b7 (t.ins.map tA).flatten=A at *;generalize S:b7 (t.outs.map ga).flatten=B at *;simp only[eT]at *;simp[go_sem];have F:∀v,v∈[AV.d (.ro 2 (t.outs.map eO))]→v.deep:=by simp[AV.deep,AV.deep1]
 have K:∀v,v∈[AV.agg [.d (.int .u32 (t.ver:Int)),.d (.ro 35 (t.ins.map eI)),.d (.ro 2 (t.outs.map eO)),.d (.int .u32 (t.lock:Int))]]→v.deep:=by simp[AV.deep,AV.deep1]
 refine ag w (by intro v i;simp at i;subst i;simp[AV.deep,AV.deep1]) ?_;simp[go_sem,E,J,H];refine cO [0,2,3] [1,4,5,6,7,8] [0,2,3] (.alt (bt 1 (.alt (bx 4 (.alt (a_ [5,6,7,8]) (a_ [6,5,7,8]))) (.alt (bt 5 (.alt (a_ [4,6,7,8]) (bt 6 (a_ [4,7,8])))) (bt 6 (.alt (a_ [4,5,7,8]) (bt 5 (a_ [4,7,8]))))))) (.alt (bt 5 (.alt (bt 1 (.alt (a_ [4,6,7,8]) (bt 6 (a_ [4,7,8])))) (bt 6 (bt 1 (a_ [4,7,8]))))) (bt 6 (.alt (bt 1 (.alt (a_ [4,5,7,8]) (bt 5 (a_ [4,7,8])))) (bt 5 (bt 1 (a_ [4,7,8]))))))) ⟨[(1,.d (.int .i64 (n:Int))),(2,.ptr 0 0 0 1),(4,.ptr 32 0 0 1),(6,.ptr 704 0 0 1),(7,.ptr 736 0 0 1)],[(704,⟨29,32,[cb A]⟩),(736,⟨29,32,[cb B]⟩),(32,⟨29,32,[cb z32]⟩),(0,⟨26,4,[[.d (.int .u32 (t.ver:Int)),.d (.ro 35 (t.ins.map eI)),.d (.ro 2 (t.outs.map eO)),.d (.int .u32 (t.lock:Int))]]⟩)],9000⟩ (k:=9) ?h3 ?hq
 case h3 =>
  intro G P;have N:∀(l:Fr)(f:Hp),(fv 1 l=.d (.int .i64 (n:Int))∧fv 2 l=.ptr 0 0 0 1∧fv 4 l=.ptr 32 0 0 1∧fv 6 l=.ptr 704 0 0 1∧fv 7 l=.ptr 736 0 0 1∧lk 704 f=some ⟨29,32,[cb A]⟩∧lk 736 f=some ⟨29,32,[cb B]⟩∧lk 32 f=some ⟨29,32,[cb z32]⟩∧lk 0 f=some ⟨26,4,[[.d (.int .u32 (t.ver:Int)),.d (.ro 35 (t.ins.map eI)),.d (.ro 2 (t.outs.map eO)),.d (.int .u32 (t.lock:Int))]]⟩)→G l f:=by
   rintro l f⟨V,q1,q2,q3,Z,U,W,q7,X⟩;refine P _ _ (aV ?_);simp only[av,ah];refine⟨fun p f=>?_,fun p f=>?_,aw⟩;simp only[d_,List.mem_nil_iff,or_false]at f;rcases f with rfl|rfl|rfl|rfl|rfl<;>exact⟨.inl (Eq.symm (by assumption)),by simp[AV.low,AV.low1]⟩
   ·simp only[d_,List.mem_nil_iff,or_false]at f;rcases f with rfl|rfl|rfl|rfl<;>exact⟨.inl (by assumption),aw,by intro r O;simp only[d_,List.mem_nil_iff,or_false]at O;subst O;first|exact aR _ _|exact aE _ _|(intro v i;simp only[d_,List.mem_nil_iff,or_false]at i;rcases i with rfl|rfl|rfl|rfl<;>trivial)⟩
  simp[go_sem,aj,e,c,g,s,al e,al c,cZ]
  repeat' first|exact N _ _ ⟨rfl,rfl,rfl,rfl,rfl,rfl,rfl,rfl,rfl⟩|(refine N _ _ ?_;simp[fv,lk];done)|refine ag z K ?_|refine ag C F ?_|apply And.intro|simp[go_sem,aj,e,c,g,s,al e,al c,cZ]
 case hq =>
  simp[go_sem];refine aZ [] nP rfl aw aw aw (by simp[AV.renL]) ?_;rintro r a⟨rfl,b⟩;refine⟨[(97,0)],rfl,?_⟩;simp[go_sem,bZ,bF,b,Blk.ren,aS,gG,AV.ren,bX];clear b a;refine bn [] (iV [] t.ver aw y) rfl (ak (.one (ao (.nil 1))) (ak (.deep a9) aC)) ?_;simp[go_sem,aN];refine aZ [(0,9000)] (Xu (le t.ver 4) (by simp[aO])) rfl aw (by simp[lk]) (by simp[lk,Blk.ren,aS,Sj]) (by simp[AV.renL,AV.ren,bX,iy,lk,ff]) ?_;rintro r a⟨rfl,b⟩;refine⟨[],rfl,?_⟩;simp[-List.append_assoc,go_sem,bZ,bF,b,Blk.ren,aS,bu,AV.renL,AV.ren,bX,dO,m,u,j];clear b a;refine bn [] (iV [] t.lock aw L) rfl (ak (.one (ao (.nil 1))) (ak (.deep a9) aC)) ?_;simp[go_sem,aN];refine aZ [(0,9000)] (pR (le t.ver 4) (le t.lock 4) (by simp[aO,e,c])) rfl aw (by simp[lk]) (by simp[lk,Blk.ren,aS,bu]) (by simp[AV.renL,AV.ren,bX,iy,lk,ff]) ?_;rintro r a⟨rfl,b⟩;refine⟨[],rfl,?_⟩;simp[-List.append_assoc,go_sem,bZ,bF,b,Blk.ren,aS,bu,AV.renL,AV.ren,bX,dO,m,u,j];clear b a;refine bn [] (iV [] t.ins.length aw aq) rfl (ak (.one (ao (.nil 1))) (ak (.deep a9) aC)) ?_;simp[go_sem,aN];refine aZ [(0,9000)] (pR ((le t.ver 4)++le t.lock 4) (le t.ins.length 4) (by simp[aO,e,c])) rfl aw (by simp[lk]) (by simp[lk,Blk.ren,aS,bu]) (by simp[AV.renL,AV.ren,bX,iy,lk,ff]) ?_;rintro r a⟨rfl,b⟩;refine⟨[],rfl,?_⟩;simp[-List.append_assoc,go_sem,bZ,bF,b,Blk.ren,aS,bu,AV.renL,AV.ren,bX,dO,m,u,j];clear b a;refine aZ [(0,9000),(1,704)] (Gn 29 32 (cb A) (((le t.ver 4)++le t.lock 4)++le t.ins.length 4) A (Ob e) (fun n=>aE n _) e (by simp[aO,e,c])) rfl aw (by simp[lk]) (by simp[lk,Blk.ren,aS,bu,dO]) (by simp[AV.renL,AV.ren,bX,iy,lk]) ?_;rintro r a⟨rfl,b,x⟩;refine⟨[],rfl,?_⟩;simp[-List.append_assoc,go_sem,bZ,bF,b,x,Blk.ren,aS,bu,AV.renL,AV.ren,bX,dO,m,u,j];clear b x a;refine bn [] (iV [] t.outs.length aw aq) rfl (ak (.one (ao (.nil 1))) (ak (.deep a9) aC)) ?_;simp[go_sem,aN];refine aZ [(0,9000)] (pR ((((le t.ver 4)++le t.lock 4)++le t.ins.length 4)++A) (le t.outs.length 4) (by simp[aO,e,c])) rfl aw (by simp[lk]) (by simp[lk,Blk.ren,aS,bu]) (by simp[AV.renL,AV.ren,bX,iy,lk,ff]) ?_;rintro r a⟨rfl,b⟩;refine⟨[],rfl,?_⟩;simp[-List.append_assoc,go_sem,bZ,bF,b,Blk.ren,aS,bu,AV.renL,AV.ren,bX,dO,m,u,j];clear b a;refine aZ [(0,9000),(1,736)] (Gn 29 32 (cb B) (((((le t.ver 4)++le t.lock 4)++le t.ins.length 4)++A)++le t.outs.length 4) B (Ob c) (fun n=>aE n _) c (by simp[aO,e,c])) rfl aw (by simp[lk]) (by simp[lk,Blk.ren,aS,bu,dO]) (by simp[AV.renL,AV.ren,bX,iy,lk]) ?_;rintro r a⟨rfl,b,x⟩;refine⟨[],rfl,?_⟩;simp[-List.append_assoc,go_sem,bZ,bF,b,x,Blk.ren,aS,bu,AV.renL,AV.ren,bX,dO,m,u,j];clear b x a;refine bn [] (iV [] n aw aq) rfl (ak (.one (ao (.nil 1))) (ak (.deep a9) aC)) ?_;simp[go_sem,aN];refine aZ [(0,9000)] (pR ((((((le t.ver 4)++le t.lock 4)++le t.ins.length 4)++A)++le t.outs.length 4)++B) (le n 4) (by simp[aO,e,c])) rfl aw (by simp[lk]) (by simp[lk,Blk.ren,aS,bu]) (by simp[AV.renL,AV.ren,bX,iy,lk,ff]) ?_;rintro r a⟨rfl,b⟩;refine⟨[],rfl,?_⟩;simp[-List.append_assoc,go_sem,bZ,bF,b,Blk.ren,aS,bu,AV.renL,AV.ren,bX,dO,m,u,j];clear b a;refine aZ [(0,9000)] (zn (((((((le t.ver 4)++le t.lock 4)++le t.ins.length 4)++A)++le t.outs.length 4)++B)++le n 4) (by simp[aO,e,c])) rfl aw (by simp[lk]) (by simp[lk,Blk.ren,aS,bu]) (by simp[AV.renL,AV.ren,bX,iy,lk]) ?_;rintro r a⟨rfl,b⟩;refine⟨[],rfl,?_⟩;have D:=bo (((((((le t.ver 4)++le t.lock 4)++le t.ins.length 4)++A)++le t.outs.length 4)++B)++le n 4);have I:(((((((le t.ver 4)++le t.lock 4)++le t.ins.length 4)++A)++le t.outs.length 4)++B)++le n 4)=le t.ver 4++(le t.lock 4++(le t.ins.length 4++(A++(le t.outs.length 4++(B++le n 4))))):=by simp only[cA]
  rw[I]at D b⊢;generalize b7 (le t.ver 4++(le t.lock 4++(le t.ins.length 4++(A++(le t.outs.length 4++(B++le n 4))))))=q at *;simp[go_sem,bZ,bF,b,Blk.ren,aS,bu,dO,AV.ren,bX,aj,D,al D,g,s,ai];exact Sl rfl
def Sr(a:List Nat):Nat:=if a=[]then 2 else 3
def Ss(a:List Nat):List Nat:=if a=[]then[]else b7 (cE a)
def Xw(t:Tn)(n:Nat)(coins:List (Nat×List Nat))(h a:List Nat):List Nat :=
 [0,0]++le t.ver 4++le t.lock 4++b7 (t.ins.map so).flatten++b7 (coins.map xp).flatten++b7 (coins.map xW).flatten++b7 (t.ins.map tA).flatten++b7 (t.outs.map ga).flatten++[Sr a]++le n 4++Ss a++h++[0]++le 4294967295 4
theorem Xx(t:Tn)(n:Int)(coins:List (Nat×List Nat))(h a:List Nat):∀v,v∈[AV.agg (eS t n coins),.d (nb h),.d (nb a)]→v.deep:=by simp[AV.deep,AV.deep1,eS]
theorem Su (t:Tn) (n:Int) (coins:List (Nat × List Nat)) (h f:List Nat) (ht:Sm t) (hc:Ul coins) (Z:h.length=32) (bl:f.length≤1000) (c0:cp t n coins=0) :
    ∃q:List Nat,q.length=32∧bytes q∧ap Tryz.prog 43 [.agg (eS t n coins),.d (nb h),.d (nb f)] (fun r=>r=.tup [.agg (cb q),.d (.int .i64 0)]):=by
  refine⟨eH js (Xw t n.toNat coins h f),bo _,ik _,?_⟩;refine bz Tryz.func43 Tryz.ntmps43 (rs:=[.cell 6 29,.tmp 7]) (Xx t n coins h f) ?_;have W:=mj t n coins ht (by have:=hc.1;omega);have aA:=ow t n coins
  · rw [c0] at W
    have hn:0≤n∧n<coins.length:=by
      unfold cp at c0;split at c0
      · cases c0
      · rename_i F
        simp only[not_or,Int.not_lt,Int.not_le]at F;exact⟨F.2.2.1,F.2.2.2.1⟩
    obtain⟨m,rfl⟩:∃m:Nat,n=(m:Int):=⟨n.toNat,aq⟩;rw[Int.toNat_natCast];obtain⟨hv,a5,hi,ho⟩:=ht.1;have p1:=N9 t ht;have p2:=N8 coins hc.1 hc.2;have g:Xw t m coins h f=[0,0]++le t.ver 4++le t.lock 4++b7 (t.ins.map so).flatten++b7 (coins.map xp).flatten++b7 (coins.map xW).flatten++b7 (t.ins.map tA).flatten++b7 (t.outs.map ga).flatten++[Sr f]++le m 4++Ss f++h++[0]++le 4294967295 4:=rfl;generalize Xw t m coins h f=M at *;have v:=bo (t.ins.map so).flatten;have T:=bo (t.ins.map tA).flatten;have l3:=bo (t.outs.map ga).flatten;have N:=bo (coins.map xp).flatten;have U:=bo (coins.map xW).flatten;generalize b7 (t.ins.map so).flatten=a at *;generalize b7 (t.ins.map tA).flatten=b at *;generalize b7 (t.outs.map ga).flatten=c at *;generalize b7 (coins.map xp).flatten=x at *;generalize b7 (coins.map xW).flatten=y at *;have hT:=Bc t;simp only[eT,eS]at hT W aA p1;have hL:(cb a++cb b++cb c).length=96:=(by simp[aj,v,T,l3]);have a4:List.take 96 (cb a++cb b++cb c)=cb a++cb b++cb c:=cx aq;have hE:cb (a++(b++c))=cb a++cb b++cb c:=(by rw[xq,xq,cA]);rw[hE]at p1;simp[go_sem,eS];refine ag W aA ?_;simp[go_sem,Z,nb];refine jy [512] (gl [0,0] t.ver aw hv) rfl (ak (.one (ao (bm (L:=[0,0]) rfl rfl aw))) (ak (.deep a9) aC)) (fun ρ=>by simp[AV.renL,AV.ren]) ?_;rintro r j⟨I,rfl,o⟩;refine⟨[(I,0)],by simp[dp,ii],?_⟩;generalize a6:[0,0]++le t.ver 4=A1 at *;have an:A1.length=6:=by rw[←a6];simp[aO]
    simp[go_sem,bZ,bF,o,Blk.ren,aS,dD,AV.renL,AV.ren,bX,aN];clear o j;refine jy [640] (gl A1 t.lock aq a5) rfl (ak (.one (ao (bm rfl rfl aw))) (ak (.deep a9) aC)) (fun ρ=>by simp[AV.renL,AV.ren]) ?_;rintro r j⟨I,rfl,o⟩;refine⟨[(I,0)],by simp[dp,ii],?_⟩;generalize bb:A1++le t.lock 4=A2 at *;have bi:A2.length=10:=by rw[←bb];simp[aO,an]
    simp[go_sem,bZ,bF,o,Blk.ren,aS,dD,AV.renL,AV.ren,bX,aN];clear o j;have r0:List.take 32 (cb a++cb b++cb c)=cb a:=(by rw[cA,←v,←aj a,List.take_left])
    have r1:List.take 32 (List.drop 32 (cb a++cb b++cb c))=cb b:=(by rw[cA,show List.drop 32 (cb a++(cb b++cb c))=cb b++cb c by rw[←v,←aj a,List.drop_left],←T,←aj b,List.take_left]);have r2:List.take 32 (List.drop 64 (cb a++cb b++cb c))=cb c:=by
      rw[show List.drop 64 (cb a++cb b++cb c)=cb c by rw[show 64=(cb a++cb b).length by simp[aj,v,T],List.drop_left]];exact al l3
    generalize hR:cb a++cb b++cb c=R at *;refine ag p1 hT ?_;simp[go_sem,hL,a4,DZ,aj,tB];refine ag p2 a9 ?_;simp[go_sem,aj,v,T,l3,N,U,al N,al U,bK,hL,r0,r1,r2,zo];rw[Gq (A:=cb a) (n:=32) (m:=64) (by rw[aj,v]) aq,←cA (cb a) (cb x),sr (A:=cb a++cb x) (n:=64) (m:=96) (by simp[aj,v,N]) aq,sr (A:=cb a++cb x++cb y) (n:=96) (m:=128) (by simp[aj,v,N,U]) aq,sr (A:=cb a++cb x++cb y++cb b) (n:=128) (m:=160) (by simp[aj,v,N,U,T]) aq,Gp,List.append_nil];have hF:=fun k hk=>aaU (a:=a) (b:=x) (c:=y) (d:=b) (e:=c) k hk v N U T l3;have hG:cb a++cb x++cb y++cb b++cb c=cb (a++x++y++b++c):=(by simp[xq])
    have bq:(a++x++y++b++c).length=160:=(by simp[v,N,U,T,l3]);rw[hG]at hF⊢;have hW:∀k,k<5→([a,x,y,b,c].getD k []).length=32:=by
      intro k hk
      match k,hk with
      |0,_=>exact v
      |1,_=>exact N
      |2,_=>exact U
      |3,_=>exact T
      |4,_=>exact l3
    have hS:∀k,k<5→([a,x,y,b,c].take (k+1)).flatten=([a,x,y,b,c].take k).flatten++[a,x,y,b,c].getD k []:=by
      intro k hk
      match k,hk with
      |0,_=>simp
      |1,_=>simp
      |2,_=>simp
      |3,_=>simp
      |4,_=>simp
    have O:A2++a++x++y++b++c=A2++([a,x,y,b,c].take 5).flatten:=(by simp);rw[O]at g;clear O;generalize a++x++y++b++c=G at *;generalize[a,x,y,b,c]=HS at *;refine au (fun u:Nat×List Nat=>⟨[(1,.d (nb h)),(2,.d (nb f)),(3,.ptr 0 0 0 1),(6,.ptr 32 0 0 1),(8,.own 832 0 u.2.length u.2.length),(57,.agg (cb G)),(58,.d (.int .i64 (u.1:Int)))],
        [(832,⟨5,1,rb u.2⟩),(32,⟨29,32,[cb z32]⟩),(0,⟨28,6,[eS t m coins]⟩)],3000⟩)
      (fun u=>u.1≤5∧u.2.length=10+32*u.1∧u.2=A2++(HS.take u.1).flatten) (fun u=>5-u.1) (0,A2) ⟨aw,by simp;omega,aw⟩ (by
        simp[av,ah,fv,lk,AV.low,AV.low1,nb,eS]
        exact⟨aE _ _,aT _ _,aE _ _⟩) ?_
    rintro⟨k,B⟩⟨hk,ba,hB⟩;simp only at hk ba hB;simp only[eS];simp only[go_sem,Nat.reduceEqDiff,Nat.reduceAdd,Nat.reduceLT,↓reduceIte,Nat.reduceMul];refine⟨fun aJ=>?_,fun aJ=>?_⟩
    · have s:k<5:=aq
      have hw:=hW k s;have hs:=hS k s;have hf:=hF k s;have w3:=az (k:=k) aq;have g1:32≤G.length-k*32:=aq;generalize HS.getD k []=w at *;have F:=(iP hw).trans (dC w);simp[go_sem]at F;simp[go_sem,s,hf,g1,aj,hw,bK,F,aL,kL,w3];refine⟨aq,aq,?_⟩;refine am (k+1,B++w) ⟨by simp only;omega,by simp only[b_,hw];omega,by simp only;rw[hs,hB,cA]⟩ (by simp only;omega) ?_;simp[av,ah,fv,lk,AV.low,AV.low1,nb,eS,hw];exact⟨aE _ _,aT _ _,aE _ _⟩
    · have s:k=5:=aq
      subst s;rw[←hB]at g;have wn:IntKind.u32.wrap (m:Int)=(m:Int):=by rw[Qo];have:=hc.1;omega
      have ac:m<4294967296:=by have:=hc.1;omega
      by_cases E:f=[]
      · subst E
        have V:Sr []=2:=rfl;have Y:Ss []=[]:=rfl;rw[V,Y,List.append_nil]at g;simp[go_sem,Z,nb];have H:bits BinOp.or IntKind.u8 0 2=2:=(by decide)
        have l:(B++[2]).length=B.length+1:=(by simp);have aD:(B++[2]++le m 4).length=B.length+5:=(by simp[aO]);generalize X:B++[2]++le m 4=B2 at *;refine cO [0,1] [2,3,4,5,6,7,8] [0,1] (.alt (bt 2 (.alt (a_ [3,4,5,6,7,8]) (bt 4 (.alt (a_ [3,5,6,7,8]) (bt 5 (.alt (a_ [3,6,7,8]) (bt 6 (a_ [3,7,8])))))))) (bt 4 (.alt (bt 2 (.alt (a_ [3,5,6,7,8]) (bt 5 (.alt (a_ [3,6,7,8]) (bt 6 (a_ [3,7,8])))))) (bt 5 (.alt (bt 2 (.alt (a_ [3,6,7,8]) (bt 6 (a_ [3,7,8])))) (bt 6 (bt 2 (a_ [3,7,8])))))))) ⟨[(1,.d (nb h)),(2,.d (nb [])),(3,.ptr 0 0 0 1),(6,.ptr 32 0 0 1),(8,.own 3576 0 B2.length B2.length)],[(3576,⟨5,1,rb B2⟩),(32,⟨29,32,[cb z32]⟩)],6000⟩ (k:=9) ?h3 ?hq
        case h3 =>
          intro G hG;have hW:∀(p:Fr)(i:Hp),(fv 1 p=.d (nb h)∧fv 2 p=.d (nb [])∧fv 3 p=.ptr 0 0 0 1∧fv 6 p=.ptr 32 0 0 1∧fv 8 p=.own 3576 0 B2.length B2.length∧lk 3576 i=some ⟨5,1,rb B2⟩∧lk 32 i=some ⟨29,32,[cb z32]⟩)→G p i:=by
            rintro p i⟨q0,q1,q2,q3,q4,q5,q6⟩;refine hG _ _ (aV ⟨?_,?_,aw⟩)
            · simp[ah,AV.low,AV.low1,q0,q1,q2,q3,q4,nb]
            · simp [q5,q6]
              exact⟨aT _ _,aE _ _⟩
          have ab:rb B++[[AV.d (DV.int IntKind.u8 2)]]=rb (B++[2]):=(by simp[rb]);have i:=gl (B++[2]) m (by rw[l];omega) ac;rw[X]at i;simp[go_sem,wn,H,aL,ab]
          repeat' apply And.intro
          all_goals first
            |omega
            | (refine jy [832] i rfl (ak (.one (ao (bm l rfl aw))) (ak (.deep a9) aC)) (fun ρ=>by simp [AV.renL,AV.ren]) ?_
               rintro r j⟨I,rfl,o⟩;refine⟨[(I,0)],by simp[dp,ii],?_⟩;simp[go_sem,bZ,bF,o,Blk.ren,aS,dD,AV.renL,AV.ren,bX,aN];refine hW _ _ ?_
               simp[fv,lk,nb])
        case hq =>
          simp[go_sem,Z,nb,aL];have z:rb B2++(List.map ((fun r=>List.map AV.d r)∘fun(b:Nat)=>[DV.int IntKind.u8 (b:Int)]) h++[[AV.d (DV.int IntKind.u8 0)]])=rb (B2++h++[0]):=(by simp[rb])
          have D:(B2++h++[0]).length=B2.length+32+1:=(by simp[Z]);rw[z];refine⟨aq,aq,?_⟩;generalize B2++h++[0]=B3 at *;have i:=gl B3 4294967295 aq aq;rw[←g]at i;have a7:M.length≤1000:=by rw[g,b_,aO];omega
          refine jy [3576] i rfl (ak (.one (ao (bm D rfl aw))) (ak (.deep a9) aC)) (fun ρ=>by simp[AV.renL,AV.ren]) ?_;rintro r j⟨I,rfl,o⟩;refine⟨[(I,0)],by simp[dp,ii],?_⟩;simp[go_sem,bZ,bF,o,Blk.ren,aS,dD,AV.renL,AV.ren,bX,aN];clear o j;refine bn [6416] (gk js _ rfl M (by simp[js]) aq) rfl (ak (.deep a9) (ak (.one (ao (bm rfl rfl aw))) aC)) ?_;have hR:=bo (b7 js++(b7 js++M));have C:(eH js M).length=32:=hR;generalize eH js M=S at *;simp[go_sem,aN,C,aj,al C,bK,ai]
          exact ae (by
            intro c hc;simp only[d_,List.mem_nil_iff,or_false]at hc;rcases hc with rfl|rfl
            · exact .inr ⟨_,rfl,aW _⟩
            · exact .inl trivial) rfl
      · have bj:¬ f.length=0:=fun h=>E (List.length_eq_zero_iff.1 h)
        have K:(0:Int)<(f.length:Int):=aq;have P:0<f.length:=aq;have V:Sr f=3:=if_neg E;have Y:Ss f=b7 (cE f):=if_neg E;have H:bits BinOp.or IntKind.u8 0 2=2:=(by decide);have a3:bits BinOp.or IntKind.u8 2 1=3:=(by decide);rw[V,Y]at g;have af:=fY [] f aw aq;have bh:=yx (cE f) (by have:=kU f;omega);have J:=bo (cE f);rw[show[]++(ax f.length++f)=cE f from rfl]at af;generalize b7 (cE f)=Q at *;generalize cE f=BA at *;simp[go_sem,Z,nb,K,P,H];have l:(B++[3]).length=B.length+1:=(by simp)
        have aD:(B++[3]++le m 4).length=B.length+5:=(by simp[aO]);generalize X:B++[3]++le m 4=B2 at *;refine cO [0,1] [2,3,4,5,6,7,8] [0,1] (.alt (bt 2 (.alt (a_ [3,4,5,6,7,8]) (bt 4 (.alt (a_ [3,5,6,7,8]) (bt 5 (.alt (a_ [3,6,7,8]) (bt 6 (a_ [3,7,8])))))))) (bt 4 (.alt (bt 2 (.alt (a_ [3,5,6,7,8]) (bt 5 (.alt (a_ [3,6,7,8]) (bt 6 (a_ [3,7,8])))))) (bt 5 (.alt (bt 2 (.alt (a_ [3,6,7,8]) (bt 6 (a_ [3,7,8])))) (bt 6 (bt 2 (a_ [3,7,8])))))))) ⟨[(1,.d (nb h)),(2,.d (nb f)),(3,.ptr 0 0 0 1),(6,.ptr 32 0 0 1),(8,.own 3672 0 B2.length B2.length)],[(3672,⟨5,1,rb B2⟩),(32,⟨29,32,[cb z32]⟩)],6000⟩ (k:=9) ?h3 ?hq
        case h3 =>
          intro G hG;have hW:∀(p:Fr)(i:Hp),(fv 1 p=.d (nb h)∧fv 2 p=.d (nb f)∧fv 3 p=.ptr 0 0 0 1∧fv 6 p=.ptr 32 0 0 1∧fv 8 p=.own 3672 0 B2.length B2.length∧lk 3672 i=some ⟨5,1,rb B2⟩∧lk 32 i=some ⟨29,32,[cb z32]⟩)→G p i:=by
            rintro p i⟨q0,q1,q2,q3,q4,q5,q6⟩;refine hG _ _ (aV ⟨?_,?_,aw⟩)
            · simp[ah,AV.low,AV.low1,q0,q1,q2,q3,q4,nb]
            · simp [q5,q6]
              exact⟨aT _ _,aE _ _⟩
          have ab:rb B++[[AV.d (DV.int IntKind.u8 3)]]=rb (B++[3]):=(by simp[rb]);have i:=gl (B++[3]) m (by rw[l];omega) ac;rw[X]at i;simp[go_sem,wn,H,a3,aL,ab]
          repeat' apply And.intro
          all_goals first
            |omega
            | (refine jy [832] i rfl (ak (.one (ao (bm l rfl aw))) (ak (.deep a9) aC)) (fun ρ=>by simp [AV.renL,AV.ren]) ?_
               rintro r j⟨I,rfl,o⟩;refine⟨[(I,0)],by simp[dp,ii],?_⟩;simp[go_sem,bZ,bF,o,Blk.ren,aS,dD,AV.renL,AV.ren,bX,aN];refine hW _ _ ?_
               simp[fv,lk,nb])
        case hq =>
          simp[go_sem,nb,K,P];refine bn [] af rfl (ak (.one (ao (.nil 1))) (ak (.deep a9) aC)) ?_;simp[go_sem,aN];refine ag bh a9 ?_;have F:=(iP J).trans (dC Q);simp[go_sem]at F;simp[go_sem,Z,nb,J,aj,al J,bK,F,aL,kL];have z:rb (B2++Q)++(List.map ((fun r=>List.map AV.d r)∘fun(b:Nat)=>[DV.int IntKind.u8 (b:Int)]) h++[[AV.d (DV.int IntKind.u8 0)]])=rb (B2++Q++h++[0]):=(by simp[rb])
          have D:(B2++Q++h++[0]).length=B2.length+32+32+1:=(by simp[Z,J]);rw[z];refine⟨aq,aq,aq,?_⟩;generalize B2++Q++h++[0]=B3 at *;have i:=gl B3 4294967295 aq aq;rw[←g]at i;have a7:M.length≤1000:=by rw[g,b_,aO];omega
          refine jy [3672] i rfl (ak (.one (ao (bm D rfl aw))) (ak (.deep a9) aC)) (fun ρ=>by simp[AV.renL,AV.ren]) ?_;rintro r j⟨I,rfl,o⟩;refine⟨[(I,0)],by simp[dp,ii],?_⟩;simp[go_sem,bZ,bF,o,Blk.ren,aS,dD,AV.renL,AV.ren,bX,aN];clear o j;refine bn [6704] (gk js _ rfl M (by simp[js]) aq) rfl (ak (.deep a9) (ak (.one (ao (bm rfl rfl aw))) aC)) ?_;have hR:=bo (b7 js++(b7 js++M));have C:(eH js M).length=32:=hR;generalize eH js M=S at *;simp[go_sem,aN,C,aj,al C,bK,ai]
          exact ae (by
            intro c hc;simp only[d_,List.mem_nil_iff,or_false]at hc;rcases hc with rfl|rfl
            · exact .inr ⟨_,rfl,aW _⟩
            · exact .inl trivial) rfl
theorem D1(b:List Nat)(e:b.length≤100000000000):ap Tryz.prog 52 [.d (nb b)] (fun r=>r=.d (nb b)):=by
 refine bz Tryz.func52 Tryz.ntmps52 (rs:=[.tmp 2]) a9 ?_;simp only[go_sem,nb,Nat.reduceEqDiff,Nat.reduceAdd,Nat.reduceLT,↓reduceIte];intro t a
 cases t with
 |true =>
  have c:b=[]:=List.eq_nil_of_length_eq_zero (by simpa using a rfl);subst c;simp only[go_sem,Nat.reduceEqDiff,Nat.reduceAdd,Nat.reduceLT,↓reduceIte];exact dR (.inr ⟨_,rfl,.nil 1⟩) a9 rfl
 |false =>
  simp[go_sem,dC,aL];refine⟨aq,dR (ao (bm (L:=b) rfl rfl trivial)) a9 rfl⟩
theorem dN(n:Nat)(inner:List Nat)(a b:AV)(d:a.low1 n)(e:b.low1 n):∀v,v∈ar inner a b→v.low1 n:=by
 intro v c;unfold ar at c;rcases cD.1 c with h|h;exact aE _ _ v h;simp at h;rcases h with rfl|rfl;exact d;exact e
theorem nf:∀l:List (List Nat),(∀p,p∈l→p.length=32)→l.flatten.length=32*l.length
 |[],_=>rfl
 |a::r,h=>by rw[List.flatten_cons,b_,nf r (fun p b=>h p (by simp[b])),h a aw,List.length_cons];omega
def pJ:Nat→AV
 |0=>.nil
 |k+1=>.own 9320 0 (k+1) (k+1)
def pH(inner x:List Nat)(a:List (List Nat)):Nat→Hp
 |0=>[(1184,⟨33,34,[ar inner .nil (.d (nb x))]⟩),(0,⟨33,34,[ar z32 .nil .nil]⟩)]
 |k+1=>[(9320,⟨29,32,(a.take (k+1)).map cb⟩),(1184,⟨33,34,[ar inner (.own 9320 0 (k+1) (k+1)) (.d (nb x))]⟩),(0,⟨33,34,[ar z32 .nil .nil]⟩)]
def pN:Nat→Nat
 |0=>9000
 |_=>20000
theorem my{inner:List Nat}(hi:inner.length=32)(a b c:AV):(ar inner a b).set 32 c=ar inner c b:=by
 have d:(cb inner).length=32:=by rw[aj,hi]
 unfold ar;rw[List.set_append_right _ _ aq,d];rfl
theorem bT{inner:List Nat}(hi:inner.length=32)(a b:AV):(ar inner a b).length=34:=by simp[ar,aj,hi]
theorem sw(n:Nat)(l:List (List Nat)):∀r,r∈l.map cb→∀v,v∈r→v.low1 n:=by
 intro r a v b;obtain⟨p,_,rfl⟩:=List.mem_map.1 a;exact aE _ _ v b
theorem bW{inner:List Nat}(hi:inner.length=32)(a b:AV):List.take 34 (ar inner a b)=ar inner a b:=cx (by rw[bT hi];exact cL _)
theorem Oc(a:List (List Nat)):(a.map cd).map (fun r=>r.map AV.d)=a.map cb:=by
 rw[List.map_map];exact List.map_congr_left fun p _=>cQ p
theorem Gs{hp:Hp}{I:Nat→Prop}(inner:List Nat){J S b S':AV}(d:fx hp I J b)(f:fx hp I S S'):qZ hp I (ar inner J S) (ar inner b S'):=by
 refine⟨by simp[ar],fun i c g hc a=>?_⟩;unfold ar at hc a;rcases Nat.lt_or_ge i (cb inner).length with h|h;rw[List.getElem?_append_left h]at hc a;rw[hc]at a;injection a with e;subst e;exact .inl ⟨rfl,aW _ _ (cr hc)⟩
 ·rw[dn h]at hc a;generalize i-(cb inner).length=k at hc a
  match k,hc,a with
  |0,hc,a=>simp at hc a;subst hc a;exact d
  |1,hc,a=>simp at hc a;subst hc a;exact f
  |n+2,hc,_=>simp at hc
theorem pq{Q:AV→Prop}{st:St}{inner:List Nat}{J S:AV}{f S':DV}{b:Bool}{e:Int}(j:fx st.hp (fun _=>True) J (.d f))(k:fx st.hp (fun _=>True) S (.d S'))(hq:Q (.tup [.agg (ar inner (.d f) (.d S')),.d (.bool b),.d (.int .i64 e)])):dm Q (.tup [.agg (ar inner J S),.d (.bool b),.d (.int .i64 e)]) st:=by
 refine⟨_,.tup (cs':=[.agg (ar inner (.d f) (.d S')),.d (.bool b),.d (.int .i64 e)]) rfl fun i c l hc a=>?_,?_,hq⟩
 ·match i,hc,a with
  |0,hc,a=>simp at hc a;subst hc a;exact .inr ⟨_,_,rfl,rfl,Gs inner j k⟩
  |1,hc,a=>simp at hc a;subst hc a;exact .inl (aM trivial)
  |2,hc,a=>simp at hc a;subst hc a;exact .inl (aM trivial)
  |n+3,hc,_=>simp at hc
 ·intro c hc;simp at hc;rcases hc with rfl|rfl|rfl;refine .inr ⟨_,rfl,fun x g=>?_⟩;unfold ar at g;rcases cD.1 g with h|h;exact aW _ _ h;simp at h;rcases h with rfl|rfl<;>trivial;exact .inl trivial;exact .inl trivial
theorem sx{inner:List Nat}(hi:inner.length=32)(a b X:AV):List.take 33 (List.take 32 (cb inner)++[a,b])++X::List.drop 34 (List.take 32 (cb inner)++[a,b])=ar inner a X:=by
 have c:(cb inner).length=32:=by rw[aj,hi]
 rw[al hi,List.take_append,cx aq,c_ (by simp[c]),c];simp[ar]
theorem JA(n m:Nat)(l:List (List Nat))(q:List Nat):∀r,r∈List.take m (List.map cb l)++[cb q]→∀v,v∈r→v.low1 n:=by
 intro r a;rcases cD.1 a with h|h;exact sw _ _ r (List.mem_of_mem_take h);simp at h;subst h;exact aE _ _
theorem pu{inner:List Nat}(hi:inner.length=32)(a b:AV):(List.drop 32 (ar inner a b)).head?=some a:=by
 have c:(cb inner).length=32:=by rw[aj,hi]
 unfold ar;rw[List.drop_append_of_le_length aq,c_ aq];rfl
theorem Sv{inner x:List Nat}{a:List (List Nat)}(o:Bool)(hi:inner.length=32)(n:∀p,p∈a→p.length=32)(af:a.length≤8)(hx:x.length≤1000) :
  ap Tryz.prog 119 [.d (nb (gy o inner a)),.d (nb x)] (fun r=>r=.tup [.agg (ar inner (.d (bS a)) (.d (nb x))),.d (.bool o),.d (.int .i64 0)]):=by
 refine bz Tryz.func119 Tryz.ntmps119 (rs:=[.cell 4 33,.tmp 5,.tmp 6]) a9 ?_;have ab:=nf a n;have w:(gy o inner a).length=33+32*a.length:=by unfold gy;rw[List.length_cons,b_,hi];omega
 have w1:IntKind.i64.wrap (((gy o inner a).length:Int)-33)=((32*a.length:Nat):Int):=by rw[IntWalk.i64_in _ aq];omega
 have i1:¬(((32*a.length:Nat):Int)<0):=aq;have i2:(((32*a.length:Nat):Int))%32=0:=aq;have Y:(((32*a.length:Nat):Int)).tmod 32=0:=i2;have i3:¬(256<((32*a.length:Nat):Int)):=aq;have i4:¬(1000<(x.length:Int)):=aq;generalize hN:32*a.length=N at *;have e2:(List.map (fun(b:Nat)=>[DV.int .u8 (b:Int)]) inner).flatten=cd inner:=by
  clear ab w hi w1
  induction inner with
  |nil=>rfl
  |cons x r ih=>simp only[List.map_cons,List.flatten_cons,ih];rfl
 have i:(ar z32 .nil .nil).length=34:=rfl;have j:List.drop 34 (ar z32 .nil .nil)=[]:=rfl;have lz:List.drop 32 (ar z32 .nil .nil)=[.nil,.nil]:=rfl;cases o
 ·have m:(gy false inner a)[0]?=some 192:=rfl;have hm:Go.bits .andNot .u8 192 1=192:=by decide
  have O:Go.bits .and .u8 192 1=0:=by decide
  have Z:List.take 32 (List.drop 1 (List.map (fun(b:Nat)=>[DV.int .u8 (b:Int)]) (gy false inner a)))=List.map (fun(b:Nat)=>[DV.int .u8 (b:Int)]) inner:=by
   unfold gy;rw[List.map_cons,List.drop_succ_cons,List.drop_zero,List.map_append,List.take_left' (by simp[hi])]
  have L:(List.take 33 (List.map (fun(b:Nat)=>[DV.int .u8 (b:Int)]) (gy false inner a))).tail=List.map (fun(b:Nat)=>[DV.int .u8 (b:Int)]) inner:=by
   unfold gy;rw[List.map_cons,List.take_succ_cons,List.tail_cons,List.map_append,List.take_left' (by simp[hi])]
  have i5:(33:Int)≤33+(N:Int):=aq;simp[go_sem,nb,w1,i1,i2,Y,i3,i4,m,hm];refine cO [0,1,2,3,4] [5,7,8] [0,1,2,3,4,6] (.alt (.step 5 [6] true (bt 7 (a_ [8]))) (bt 7 (.step 5 [6] true (a_ [8])))) ⟨[(0,.d (nb (gy false inner a))),(4,.ptr 0 0 0 1),(8,.ptr 1184 0 0 1)],[(1184,⟨33,34,[ar inner .nil (.d (nb x))]⟩),(0,⟨33,34,[ar z32 .nil .nil]⟩)],9000⟩ (k:=9) ?h3 ?hq
  case h3 =>
   intro G u;have l:∀(f:Fr)(c:Hp),(fv 0 f=.d (nb (gy false inner a))∧fv 4 f=.ptr 0 0 0 1∧fv 8 f=.ptr 1184 0 0 1∧lk 1184 c=some ⟨33,34,[ar inner .nil (.d (nb x))]⟩∧lk 0 c=some ⟨33,34,[ar z32 .nil .nil]⟩)→G f c:=by
    rintro f c⟨P,V,T,S,q4⟩;exact u _ _ pD
   simp[go_sem,nb,Z,L,i5,e2,lz,sx hi,bT hi,bW hi,hi,w,aj,bV,cQ,i,j,-List.map_flatten,-List.length_flatten,cZ]
   repeat' first|exact l _ _ ⟨rfl,rfl,rfl,rfl,rfl⟩|(refine l _ _ ?_;simp[fv,lk];done)|refine ag (D1 x aq) a9 ?_|apply And.intro|simp[go_sem,nb,Z,L,i5,e2,lz,sx hi,bT hi,bW hi,hi,w,aj,bV,cQ,i,j,-List.map_flatten,-List.length_flatten,cZ]
  case hq =>
   have e5:List.drop 33 (List.map (fun(b:Nat)=>[DV.int .u8 (b:Int)]) (gy false inner a))=List.map (fun(b:Nat)=>[DV.int .u8 (b:Int)]) a.flatten:=by
    unfold gy;rw[List.map_cons,List.drop_succ_cons,List.map_append,List.drop_left' (by simp[hi])]
   have ac:List.drop 0 a=a:=rfl;have e6:List.take (33+(N:Int)).toNat (List.map (fun(b:Nat)=>[DV.int .u8 (b:Int)]) (gy false inner a))=List.map (fun(b:Nat)=>[DV.int .u8 (b:Int)]) (gy false inner a):=cx (by rw[List.length_map,w];omega);simp[go_sem,nb,e5,e6,w,-List.map_flatten,-List.length_flatten];refine⟨aq,?_⟩
   refine au (fun k:Nat=>⟨[(0,.d (nb (gy false inner a))),(4,.ptr 0 0 0 1),(8,.ptr 1184 0 0 1),(9,.d (nb (a.drop k).flatten))],pH inner x a k,pN k⟩)
    (fun k=>k≤a.length) (fun k=>a.length-k) 0 aq (by
     simp[av,ah,fv,lk,AV.low,AV.low1,pH,pN,nb,-List.map_flatten]
     exact⟨dN _ _ _ _ trivial trivial,dN _ _ _ _ trivial trivial⟩) ?_
   intro k hk;simp only[go_sem,Nat.reduceEqDiff,Nat.reduceAdd,Nat.reduceLT,↓reduceIte];have H:=nf (a.drop k) (fun p c=>n p (List.mem_of_mem_drop c));rw[et]at H;by_cases C:k<a.length
   ·have B:(0:Int)<(((a.drop k).flatten.length:Nat):Int):=aq;have c:=cm C;have y:a.drop k=a[k]::a.drop (k+1):=List.drop_eq_getElem_cons C;have v:a.take (k+1)=a.take k++[a[k]]:=List.take_succ_eq_append_getElem C;generalize a[k]=q at c y v;have hq:q.length=32:=n q (cr c);have J:List.take 32 (List.map (fun(b:Nat)=>[DV.int .u8 (b:Int)]) (a.drop k).flatten)=List.map (fun(b:Nat)=>[DV.int .u8 (b:Int)]) q:=by
     rw[y,List.flatten_cons,List.map_append,List.take_left' (by simp[hq])]
    have F:List.drop 32 (List.map (fun(b:Nat)=>[DV.int .u8 (b:Int)]) (a.drop k).flatten)=List.map (fun(b:Nat)=>[DV.int .u8 (b:Int)]) (a.drop (k+1)).flatten:=by
     rw[y,List.flatten_cons,List.map_append,List.drop_left' (by simp[hq])]
    have U:(List.map (fun(b:Nat)=>[DV.int .u8 (b:Int)]) q).flatten=cd q:=by
     clear c y v hq J F
     induction q with
     |nil=>rfl
     |cons x r ih=>simp only[List.map_cons,List.flatten_cons,ih];rfl
    have g:32≤(a.drop k).flatten.length:=aq;cases k with
    |zero =>
     refine⟨fun _=>?_,fun h=>absurd B (by simpa only[nb,List.length_map]using h)⟩;simp only[List.drop_zero]at J F g;have e:(32:Int)≤(a.flatten.length:Int):=aq;have s:min 32 a.flatten.length=32:=aq;simp only[pH,pN];refine cG [0,1,2,3,4,5] [(6,[]),(7,[8]),(9,[])] 2 (k:=10) ?_;intro G u;simp[go_sem,nb,g,e,s,J,F,U,pu hi,my hi,bT hi,bV,hq,cQ,al hq,aj,-List.map_flatten,-List.length_flatten];refine u _ _ ?_;have Q:a.flatten.length=32*(a.length-0):=(by simpa using H)
     have R:List.take a.flatten.length (List.map (fun(b:Nat)=>[DV.int .u8 (b:Int)]) a.flatten)=List.map (fun(b:Nat)=>[DV.int .u8 (b:Int)]) a.flatten:=cx (by rw[List.length_map];omega);simp[go_sem,nb,g,e,R,F,-List.map_flatten,-List.length_flatten];refine am (0+1) aq aq ?_;have D:(a.take (0+1)).map cb=(a.take 0).map cb++[cb q]:=by rw[v];simp
     simp[av,ah,fv,lk,AV.low,AV.low1,pH,pN,nb,-List.map_flatten,-List.length_flatten,-List.map_take,-List.map_drop];have X:List.take 1 (List.map cb a)=[cb q]:=by rw[←List.map_take];exact D
     rw[X];refine⟨⟨rfl,fun r E=>?_⟩,dN _ _ _ _ (by simp[AV.low1]) trivial,dN _ _ _ _ trivial trivial⟩;simp at E;subst E;exact aE _ _
    | succ k =>
     refine⟨fun _=>?_,fun h=>absurd B (by simpa only[nb,List.length_map]using h)⟩;have e:(32:Int)≤((a.drop (k+1)).flatten.length:Int):=aq;have K:min (k+1) a.length=k+1:=aq;have M:k+1≤a.length:=aq;have A:(k+1+1)*32≤140737488355328:=aq;have z:k<a.length:=aq;have s:min 32 (a.drop (k+1)).flatten.length=32:=aq;simp only[pH,pN];refine cO [0,1,2,3,4,5] [6,7,8,9] [0,1,2,3,4,5] (bt 6 (a_ [7,8,9])) ⟨[(0,.d (nb (gy false inner a))),(4,.ptr 0 0 0 1),(8,.ptr 1184 0 0 1),(9,.d (nb (a.drop (k+1)).flatten))],[(9320,⟨29,32,List.take (k+1) (List.map cb a)++[cb q]⟩),(1184,⟨33,34,[ar inner (.own 9320 0 (k+1+1) (k+1+1)) (.d (nb x))]⟩),(0,⟨33,34,[ar z32 .nil .nil]⟩)],21000⟩ (k:=10) ?h3 ?hq
     case h3 =>
      intro G u;have l:∀(f:Fr)(c:Hp),(fv 0 f=.d (nb (gy false inner a))∧fv 4 f=.ptr 0 0 0 1∧fv 8 f=.ptr 1184 0 0 1∧fv 9 f=.d (nb (a.drop (k+1)).flatten)∧lk 9320 c=some ⟨29,32,List.take (k+1) (List.map cb a)++[cb q]⟩∧lk 1184 c=some ⟨33,34,[ar inner (.own 9320 0 (k+1+1) (k+1+1)) (.d (nb x))]⟩∧lk 0 c=some ⟨33,34,[ar z32 .nil .nil]⟩)→G f c:=by
       rintro f c⟨P,V,T,S,q4,q5,q6⟩;exact u _ _ pD
      simp[go_sem,nb,A,g,e,s,K,M,z,J,F,U,pu hi,my hi,bT hi,bV,hq,cQ,al hq,aj,-List.map_flatten,-List.length_flatten,cZ]
      repeat' first|exact l _ _ ⟨rfl,rfl,rfl,rfl,rfl,rfl,rfl⟩|(refine l _ _ ?_;simp[fv,lk];done)|fail|apply And.intro|simp[go_sem,nb,A,g,e,s,K,M,z,J,F,U,pu hi,my hi,bT hi,bV,hq,cQ,al hq,aj,-List.map_flatten,-List.length_flatten,cZ]
     case hq =>
      have Q:(a.drop (k+1)).flatten.length=32*(a.length-(k+1)):=(by simpa using H);have R:List.take (a.drop (k+1)).flatten.length (List.map (fun(b:Nat)=>[DV.int .u8 (b:Int)]) (a.drop (k+1)).flatten)=List.map (fun(b:Nat)=>[DV.int .u8 (b:Int)]) (a.drop (k+1)).flatten:=cx (by rw[List.length_map];omega);simp[go_sem,nb,g,e,R,F,-List.map_flatten,-List.length_flatten];refine am ((k+1)+1) aq aq ?_;have D:(a.take ((k+1)+1)).map cb=(a.take (k+1)).map cb++[cb q]:=by rw[v];simp
      simp[av,ah,fv,lk,AV.low,AV.low1,pH,pN,nb,-List.map_flatten,-List.length_flatten,-List.map_take,-List.map_drop];refine⟨⟨?_,fun r E=>?_⟩,dN _ _ _ _ (by simp[AV.low1]) trivial,dN _ _ _ _ trivial trivial⟩;rw[←List.map_take,←List.map_take];exact D.symm;exact sw _ a r (List.mem_of_mem_take E)
   ·have t:k=a.length:=aq;have hz:¬((0:Int)<(((a.drop k).flatten.length:Nat):Int)):=aq;refine⟨fun h=>absurd (by simpa only[nb,List.length_map]using h) hz,fun _=>?_⟩;cases k with
    | zero =>
     have I:a=[]:=List.eq_nil_of_length_eq_zero t.symm;subst I;simp only[pH,pN];refine cO [0] [1,2,3,4,5,6,7,8] [0] (.alt (bt 1 (.alt (bt 2 (.alt (bt 3 (.alt (bt 4 (.alt (bt 5 (a_ [6,7,8])) (a_ [6,5,7,8]))) (a_ [6,4,5,7,8]))) (a_ [6,3,4,5,7,8]))) (a_ [6,2,3,4,5,7,8]))) (a_ [6,1,2,3,4,5,7,8])) ⟨[(4,.ptr 0 0 0 1),(5,.d (.bool false)),(6,.d (.int .i64 0))],[(0,⟨33,34,[ar inner .nil (.d (nb x))]⟩)],30000⟩ (k:=9) ?h3 ?hq
     case h3 =>
      intro G u;have l:∀(f:Fr)(c:Hp),(fv 4 f=.ptr 0 0 0 1∧fv 5 f=.d (.bool false)∧fv 6 f=.d (.int .i64 0)∧lk 0 c=some ⟨33,34,[ar inner .nil (.d (nb x))]⟩)→G f c:=by
       rintro f c⟨P,V,T,S⟩;exact u _ _ pD
      simp (config := { maxSteps := 1000000 }) [go_sem,nb,m,O,bT hi,bW hi,i,j,-List.map_flatten,-List.length_flatten,cZ]
      repeat' first|exact l _ _ ⟨rfl,rfl,rfl,rfl⟩|(refine l _ _ ?_;simp[fv,lk];done)|fail|apply And.intro|simp (config := { maxSteps := 1000000 }) [go_sem,nb,m,O,bT hi,bW hi,i,j,-List.map_flatten,-List.length_flatten,cZ]
     case hq =>
      simp[go_sem,bT hi,bW hi,ai];exact pq (.inr ⟨_,rfl,.nil 32⟩) (.inl ⟨rfl,trivial⟩) rfl
    | succ k =>
     have W:a.take (k+1)=a:=cx aq;simp only[pH,pN,W];refine cO [0] [1,2,3,4,5,6,7,8] [0] (.alt (bt 1 (.alt (bt 2 (.alt (bt 3 (.alt (bt 4 (.alt (bt 5 (a_ [6,7,8])) (a_ [6,5,7,8]))) (a_ [6,4,5,7,8]))) (a_ [6,3,4,5,7,8]))) (a_ [6,2,3,4,5,7,8]))) (a_ [6,1,2,3,4,5,7,8])) ⟨[(4,.ptr 0 0 0 1),(5,.d (.bool false)),(6,.d (.int .i64 0))],[(9320,⟨29,32,a.map cb⟩),(0,⟨33,34,[ar inner (.own 9320 0 (k+1) (k+1)) (.d (nb x))]⟩)],30000⟩ (k:=9) ?h3 ?hq
     case h3 =>
      intro G u;have l:∀(f:Fr)(c:Hp),(fv 4 f=.ptr 0 0 0 1∧fv 5 f=.d (.bool false)∧fv 6 f=.d (.int .i64 0)∧lk 9320 c=some ⟨29,32,a.map cb⟩∧lk 0 c=some ⟨33,34,[ar inner (.own 9320 0 (k+1) (k+1)) (.d (nb x))]⟩)→G f c:=by
       rintro f c⟨P,V,T,S,q4⟩;exact u _ _ pD
      simp (config := { maxSteps := 1000000 }) [go_sem,nb,m,O,bT hi,bW hi,i,j,-List.map_flatten,-List.length_flatten,cZ]
      repeat' first|exact l _ _ ⟨rfl,rfl,rfl,rfl,rfl⟩|(refine l _ _ ?_;simp[fv,lk];done)|fail|apply And.intro|simp (config := { maxSteps := 1000000 }) [go_sem,nb,m,O,bT hi,bW hi,i,j,-List.map_flatten,-List.length_flatten,cZ]
     case hq =>
      simp[go_sem,bT hi,bW hi,ai];exact pq (.inr ⟨_,rfl,j5 (rows:=a.map cb) rfl trivial (by simp[t]) (by rw[List.drop_zero,cx (by simp[t]),←Oc a];exact kH _) (by simp[t]) (by intro r E;simp at E;obtain⟨p,c,rfl⟩:=E;rw[bV];exact n p c)⟩) (.inl ⟨rfl,trivial⟩) rfl
 ·have m:(gy true inner a)[0]?=some 193:=rfl;have hm:Go.bits .andNot .u8 193 1=192:=by decide
  have O:Go.bits .and .u8 193 1=1:=by decide
  have Z:List.take 32 (List.drop 1 (List.map (fun(b:Nat)=>[DV.int .u8 (b:Int)]) (gy true inner a)))=List.map (fun(b:Nat)=>[DV.int .u8 (b:Int)]) inner:=by
   unfold gy;rw[List.map_cons,List.drop_succ_cons,List.drop_zero,List.map_append,List.take_left' (by simp[hi])]
  have L:(List.take 33 (List.map (fun(b:Nat)=>[DV.int .u8 (b:Int)]) (gy true inner a))).tail=List.map (fun(b:Nat)=>[DV.int .u8 (b:Int)]) inner:=by
   unfold gy;rw[List.map_cons,List.take_succ_cons,List.tail_cons,List.map_append,List.take_left' (by simp[hi])]
  have i5:(33:Int)≤33+(N:Int):=aq;simp[go_sem,nb,w1,i1,i2,Y,i3,i4,m,hm];refine cO [0,1,2,3,4] [5,7,8] [0,1,2,3,4,6] (.alt (.step 5 [6] true (bt 7 (a_ [8]))) (bt 7 (.step 5 [6] true (a_ [8])))) ⟨[(0,.d (nb (gy true inner a))),(4,.ptr 0 0 0 1),(8,.ptr 1184 0 0 1)],[(1184,⟨33,34,[ar inner .nil (.d (nb x))]⟩),(0,⟨33,34,[ar z32 .nil .nil]⟩)],9000⟩ (k:=9) ?h3 ?hq
  case h3 =>
   intro G u;have l:∀(f:Fr)(c:Hp),(fv 0 f=.d (nb (gy true inner a))∧fv 4 f=.ptr 0 0 0 1∧fv 8 f=.ptr 1184 0 0 1∧lk 1184 c=some ⟨33,34,[ar inner .nil (.d (nb x))]⟩∧lk 0 c=some ⟨33,34,[ar z32 .nil .nil]⟩)→G f c:=by
    rintro f c⟨P,V,T,S,q4⟩;exact u _ _ pD
   simp[go_sem,nb,Z,L,i5,e2,lz,sx hi,bT hi,bW hi,hi,w,aj,bV,cQ,i,j,-List.map_flatten,-List.length_flatten,cZ]
   repeat' first|exact l _ _ ⟨rfl,rfl,rfl,rfl,rfl⟩|(refine l _ _ ?_;simp[fv,lk];done)|refine ag (D1 x aq) a9 ?_|apply And.intro|simp[go_sem,nb,Z,L,i5,e2,lz,sx hi,bT hi,bW hi,hi,w,aj,bV,cQ,i,j,-List.map_flatten,-List.length_flatten,cZ]
  case hq =>
   have e5:List.drop 33 (List.map (fun(b:Nat)=>[DV.int .u8 (b:Int)]) (gy true inner a))=List.map (fun(b:Nat)=>[DV.int .u8 (b:Int)]) a.flatten:=by
    unfold gy;rw[List.map_cons,List.drop_succ_cons,List.map_append,List.drop_left' (by simp[hi])]
   have ac:List.drop 0 a=a:=rfl;have e6:List.take (33+(N:Int)).toNat (List.map (fun(b:Nat)=>[DV.int .u8 (b:Int)]) (gy true inner a))=List.map (fun(b:Nat)=>[DV.int .u8 (b:Int)]) (gy true inner a):=cx (by rw[List.length_map,w];omega);simp[go_sem,nb,e5,e6,w,-List.map_flatten,-List.length_flatten];refine⟨aq,?_⟩
   refine au (fun k:Nat=>⟨[(0,.d (nb (gy true inner a))),(4,.ptr 0 0 0 1),(8,.ptr 1184 0 0 1),(9,.d (nb (a.drop k).flatten))],pH inner x a k,pN k⟩)
    (fun k=>k≤a.length) (fun k=>a.length-k) 0 aq (by
     simp[av,ah,fv,lk,AV.low,AV.low1,pH,pN,nb,-List.map_flatten]
     exact⟨dN _ _ _ _ trivial trivial,dN _ _ _ _ trivial trivial⟩) ?_
   intro k hk;simp only[go_sem,Nat.reduceEqDiff,Nat.reduceAdd,Nat.reduceLT,↓reduceIte];have H:=nf (a.drop k) (fun p c=>n p (List.mem_of_mem_drop c));rw[et]at H;by_cases C:k<a.length
   ·have B:(0:Int)<(((a.drop k).flatten.length:Nat):Int):=aq;have c:=cm C;have y:a.drop k=a[k]::a.drop (k+1):=List.drop_eq_getElem_cons C;have v:a.take (k+1)=a.take k++[a[k]]:=List.take_succ_eq_append_getElem C;generalize a[k]=q at c y v;have hq:q.length=32:=n q (cr c);have J:List.take 32 (List.map (fun(b:Nat)=>[DV.int .u8 (b:Int)]) (a.drop k).flatten)=List.map (fun(b:Nat)=>[DV.int .u8 (b:Int)]) q:=by
     rw[y,List.flatten_cons,List.map_append,List.take_left' (by simp[hq])]
    have F:List.drop 32 (List.map (fun(b:Nat)=>[DV.int .u8 (b:Int)]) (a.drop k).flatten)=List.map (fun(b:Nat)=>[DV.int .u8 (b:Int)]) (a.drop (k+1)).flatten:=by
     rw[y,List.flatten_cons,List.map_append,List.drop_left' (by simp[hq])]
    have U:(List.map (fun(b:Nat)=>[DV.int .u8 (b:Int)]) q).flatten=cd q:=by
     clear c y v hq J F
     induction q with
     |nil=>rfl
     |cons x r ih=>simp only[List.map_cons,List.flatten_cons,ih];rfl
    have g:32≤(a.drop k).flatten.length:=aq;cases k with
    |zero =>
     refine⟨fun _=>?_,fun h=>absurd B (by simpa only[nb,List.length_map]using h)⟩;simp only[List.drop_zero]at J F g;have e:(32:Int)≤(a.flatten.length:Int):=aq;have s:min 32 a.flatten.length=32:=aq;simp only[pH,pN];refine cG [0,1,2,3,4,5] [(6,[]),(7,[8]),(9,[])] 2 (k:=10) ?_;intro G u;simp[go_sem,nb,g,e,s,J,F,U,pu hi,my hi,bT hi,bV,hq,cQ,al hq,aj,-List.map_flatten,-List.length_flatten];refine u _ _ ?_;have Q:a.flatten.length=32*(a.length-0):=(by simpa using H)
     have R:List.take a.flatten.length (List.map (fun(b:Nat)=>[DV.int .u8 (b:Int)]) a.flatten)=List.map (fun(b:Nat)=>[DV.int .u8 (b:Int)]) a.flatten:=cx (by rw[List.length_map];omega);simp[go_sem,nb,g,e,R,F,-List.map_flatten,-List.length_flatten];refine am (0+1) aq aq ?_;have D:(a.take (0+1)).map cb=(a.take 0).map cb++[cb q]:=by rw[v];simp
     simp[av,ah,fv,lk,AV.low,AV.low1,pH,pN,nb,-List.map_flatten,-List.length_flatten,-List.map_take,-List.map_drop];have X:List.take 1 (List.map cb a)=[cb q]:=by rw[←List.map_take];exact D
     rw[X];refine⟨⟨rfl,fun r E=>?_⟩,dN _ _ _ _ (by simp[AV.low1]) trivial,dN _ _ _ _ trivial trivial⟩;simp at E;subst E;exact aE _ _
    | succ k =>
     refine⟨fun _=>?_,fun h=>absurd B (by simpa only[nb,List.length_map]using h)⟩;have e:(32:Int)≤((a.drop (k+1)).flatten.length:Int):=aq;have K:min (k+1) a.length=k+1:=aq;have M:k+1≤a.length:=aq;have A:(k+1+1)*32≤140737488355328:=aq;have z:k<a.length:=aq;have s:min 32 (a.drop (k+1)).flatten.length=32:=aq;simp only[pH,pN];refine cO [0,1,2,3,4,5] [6,7,8,9] [0,1,2,3,4,5] (bt 6 (a_ [7,8,9])) ⟨[(0,.d (nb (gy true inner a))),(4,.ptr 0 0 0 1),(8,.ptr 1184 0 0 1),(9,.d (nb (a.drop (k+1)).flatten))],[(9320,⟨29,32,List.take (k+1) (List.map cb a)++[cb q]⟩),(1184,⟨33,34,[ar inner (.own 9320 0 (k+1+1) (k+1+1)) (.d (nb x))]⟩),(0,⟨33,34,[ar z32 .nil .nil]⟩)],21000⟩ (k:=10) ?h3 ?hq
     case h3 =>
      intro G u;have l:∀(f:Fr)(c:Hp),(fv 0 f=.d (nb (gy true inner a))∧fv 4 f=.ptr 0 0 0 1∧fv 8 f=.ptr 1184 0 0 1∧fv 9 f=.d (nb (a.drop (k+1)).flatten)∧lk 9320 c=some ⟨29,32,List.take (k+1) (List.map cb a)++[cb q]⟩∧lk 1184 c=some ⟨33,34,[ar inner (.own 9320 0 (k+1+1) (k+1+1)) (.d (nb x))]⟩∧lk 0 c=some ⟨33,34,[ar z32 .nil .nil]⟩)→G f c:=by
       rintro f c⟨P,V,T,S,q4,q5,q6⟩;exact u _ _ pD
      simp[go_sem,nb,A,g,e,s,K,M,z,J,F,U,pu hi,my hi,bT hi,bV,hq,cQ,al hq,aj,-List.map_flatten,-List.length_flatten,cZ]
      repeat' first|exact l _ _ ⟨rfl,rfl,rfl,rfl,rfl,rfl,rfl⟩|(refine l _ _ ?_;simp[fv,lk];done)|fail|apply And.intro|simp[go_sem,nb,A,g,e,s,K,M,z,J,F,U,pu hi,my hi,bT hi,bV,hq,cQ,al hq,aj,-List.map_flatten,-List.length_flatten,cZ]
     case hq =>
      have Q:(a.drop (k+1)).flatten.length=32*(a.length-(k+1)):=(by simpa using H);have R:List.take (a.drop (k+1)).flatten.length (List.map (fun(b:Nat)=>[DV.int .u8 (b:Int)]) (a.drop (k+1)).flatten)=List.map (fun(b:Nat)=>[DV.int .u8 (b:Int)]) (a.drop (k+1)).flatten:=cx (by rw[List.length_map];omega);simp[go_sem,nb,g,e,R,F,-List.map_flatten,-List.length_flatten];refine am ((k+1)+1) aq aq ?_;have D:(a.take ((k+1)+1)).map cb=(a.take (k+1)).map cb++[cb q]:=by rw[v];simp
      simp[av,ah,fv,lk,AV.low,AV.low1,pH,pN,nb,-List.map_flatten,-List.length_flatten,-List.map_take,-List.map_drop];refine⟨⟨?_,fun r E=>?_⟩,dN _ _ _ _ (by simp[AV.low1]) trivial,dN _ _ _ _ trivial trivial⟩;rw[←List.map_take,←List.map_take];exact D.symm;exact sw _ a r (List.mem_of_mem_take E)
   ·have t:k=a.length:=aq;have hz:¬((0:Int)<(((a.drop k).flatten.length:Nat):Int)):=aq;refine⟨fun h=>absurd (by simpa only[nb,List.length_map]using h) hz,fun _=>?_⟩;cases k with
    | zero =>
     have I:a=[]:=List.eq_nil_of_length_eq_zero t.symm;subst I;simp only[pH,pN];refine cO [0] [1,2,3,4,5,6,7,8] [0] (.alt (bt 1 (.alt (bt 2 (.alt (bt 3 (.alt (bt 4 (.alt (bt 5 (a_ [6,7,8])) (a_ [6,5,7,8]))) (a_ [6,4,5,7,8]))) (a_ [6,3,4,5,7,8]))) (a_ [6,2,3,4,5,7,8]))) (a_ [6,1,2,3,4,5,7,8])) ⟨[(4,.ptr 0 0 0 1),(5,.d (.bool true)),(6,.d (.int .i64 0))],[(0,⟨33,34,[ar inner .nil (.d (nb x))]⟩)],30000⟩ (k:=9) ?h3 ?hq
     case h3 =>
      intro G u;have l:∀(f:Fr)(c:Hp),(fv 4 f=.ptr 0 0 0 1∧fv 5 f=.d (.bool true)∧fv 6 f=.d (.int .i64 0)∧lk 0 c=some ⟨33,34,[ar inner .nil (.d (nb x))]⟩)→G f c:=by
       rintro f c⟨P,V,T,S⟩;exact u _ _ pD
      simp (config := { maxSteps := 1000000 }) [go_sem,nb,m,O,bT hi,bW hi,i,j,-List.map_flatten,-List.length_flatten,cZ]
      repeat' first|exact l _ _ ⟨rfl,rfl,rfl,rfl⟩|(refine l _ _ ?_;simp[fv,lk];done)|fail|apply And.intro|simp (config := { maxSteps := 1000000 }) [go_sem,nb,m,O,bT hi,bW hi,i,j,-List.map_flatten,-List.length_flatten,cZ]
     case hq =>
      simp[go_sem,bT hi,bW hi,ai];exact pq (.inr ⟨_,rfl,.nil 32⟩) (.inl ⟨rfl,trivial⟩) rfl
    | succ k =>
     have W:a.take (k+1)=a:=cx aq;simp only[pH,pN,W];refine cO [0] [1,2,3,4,5,6,7,8] [0] (.alt (bt 1 (.alt (bt 2 (.alt (bt 3 (.alt (bt 4 (.alt (bt 5 (a_ [6,7,8])) (a_ [6,5,7,8]))) (a_ [6,4,5,7,8]))) (a_ [6,3,4,5,7,8]))) (a_ [6,2,3,4,5,7,8]))) (a_ [6,1,2,3,4,5,7,8])) ⟨[(4,.ptr 0 0 0 1),(5,.d (.bool true)),(6,.d (.int .i64 0))],[(9320,⟨29,32,a.map cb⟩),(0,⟨33,34,[ar inner (.own 9320 0 (k+1) (k+1)) (.d (nb x))]⟩)],30000⟩ (k:=9) ?h3 ?hq
     case h3 =>
      intro G u;have l:∀(f:Fr)(c:Hp),(fv 4 f=.ptr 0 0 0 1∧fv 5 f=.d (.bool true)∧fv 6 f=.d (.int .i64 0)∧lk 9320 c=some ⟨29,32,a.map cb⟩∧lk 0 c=some ⟨33,34,[ar inner (.own 9320 0 (k+1) (k+1)) (.d (nb x))]⟩)→G f c:=by
       rintro f c⟨P,V,T,S,q4⟩;exact u _ _ pD
      simp (config := { maxSteps := 1000000 }) [go_sem,nb,m,O,bT hi,bW hi,i,j,-List.map_flatten,-List.length_flatten,cZ]
      repeat' first|exact l _ _ ⟨rfl,rfl,rfl,rfl,rfl⟩|(refine l _ _ ?_;simp[fv,lk];done)|fail|apply And.intro|simp (config := { maxSteps := 1000000 }) [go_sem,nb,m,O,bT hi,bW hi,i,j,-List.map_flatten,-List.length_flatten,cZ]
     case hq =>
      simp[go_sem,bT hi,bW hi,ai];exact pq (.inr ⟨_,rfl,j5 (rows:=a.map cb) rfl trivial (by simp[t]) (by rw[List.drop_zero,cx (by simp[t]),←Oc a];exact kH _) (by simp[t]) (by intro r E;simp at E;obtain⟨p,c,rfl⟩:=E;rw[bV];exact n p c)⟩) (.inl ⟨rfl,trivial⟩) rfl
theorem Sz{P:Program}{K:AV→Hp→Prop}{hp:Hp}(t:TypeId)(a b:Bool):df P .eql t (.d (.bool a)) (.d (.bool b)) K hp=(P.underlying t=some .bool∧K (.d (.bool (a==b))) hp):=rfl
theorem SA{P:Program}{K:AV→Hp→Prop}{hp:Hp}(t:TypeId)(a b:Bool):df P .neq t (.d (.bool a)) (.d (.bool b)) K hp=(P.underlying t=some .bool∧K (.d (.bool (a != b))) hp):=rfl
theorem Oe:Tryz.prog.underlying 4=some .bool:=by kernel_rfl
attribute [go_sem] Sz SA Oe
theorem SB(a b:DV)(k:List Nat):∀v,v∈[AV.d a,AV.d b,AV.agg (cb k)]→v.deep:=by
 intro v c;simp at c;rcases c with rfl|rfl|rfl;trivial;trivial;exact dc _
theorem iw(inner:List Nat)(a b:DV):(AV.agg (ar inner (.d a) (.d b))).deep:=by
 intro c hc;unfold ar at hc;rcases cD.1 hc with h|h;exact aW _ _ h;simp at h;rcases h with rfl|rfl<;>trivial
theorem If{Q:AV→Prop}{st:St}{inner:List Nat}{a b:DV}{e:Int}(hq:Q (.tup [.agg (ar inner (.d a) (.d b)),.d (.int .i64 e)])):dm Q (.tup [.agg (ar inner (.d a) (.d b)),.d (.int .i64 e)]) st :=
 ae (by
  intro c hc;simp at hc;rcases hc with rfl|rfl;exact .inr ⟨_,rfl,iw _ _ _⟩
  exact .inl trivial) hq
theorem Xy{P:Program}{s t:TypeId}{a:AV→Hp→Prop}{hp:Hp}(l:List Nat)(el:TypeId)(f:bytes l)(c:bU P s=.slice el)(i:bU P t=.str)(h3:P.underlying el=some (.int .u8))(g:a (.d (.str (sb l))) hp):cvS P s t (l.map fun(x:Nat)=>[DV.int .u8 (x:Int)]) a hp:=by
 refine⟨sb l,by simp[sb],fun b h=>?_,?_⟩;simp only[sb,List.mem_map]at h;obtain⟨x,e,rfl⟩:=h;have:=f x e;omega;rw[c,i];exact⟨h3,g⟩
theorem Og{inner x k j:List Nat}{i:List (List Nat)}{o:Bool}(hi:inner.length=32)(l:∀p,p∈i→p.length=32)(n:i.length≤8)(m:x.length≤1000)(g:k.length=32)(e:j.length=32)(f:ap Tryz.prog 92 [cF inner i x] (fun r=>r=.tup [.agg (cb k),.d (.bool o),.d (.int .i64 0)])) :
  ap Tryz.prog 77 [.d (nb (gy o inner i)),.d (nb x),.agg (cb j)] (fun r=>r=if k=j then .tup [.agg (ar inner (.d (bS i)) (.d (nb x))),.d (.int .i64 0)]else .tup [.agg (ar z32 .nil .nil),.d (.int .i64 26)]):=by
 refine bz Tryz.func77 Tryz.ntmps77 (rs:=[.cell 6 33,.tmp 7]) (SB _ _ _) ?_;have s:List.drop 32 (cb z32)=[]:=fg rfl;have a:(ar z32 .nil .nil).length=34:=rfl;have b:List.drop 34 (ar z32 .nil .nil)=[]:=rfl;have u:=Sv o hi l n m;simp[go_sem,aj,e,al e];refine ag u a9 ?_;simp[go_sem,bT hi,bW hi,a,b];refine ag f (c6 _ _ _) ?_;by_cases q:k=j
 ·subst q;cases o
  ·simp[go_sem,aj,g,al g,s,Ad,bT hi,bW hi,a,b,ai];exact If rfl
  ·simp[go_sem,aj,g,al g,s,Ad,bT hi,bW hi,a,b,ai];exact If rfl
 ·have v:¬(List.map (fun(x:Nat)=>(x:Int)) k=List.map (fun(x:Nat)=>(x:Int)) j):=fun h=>q (vM.1 h);have t:List.take 34 (ar z32 .nil .nil)=ar z32 .nil .nil:=rfl;simp[go_sem,aj,g,e,al g,al e,s,Ad,q,v,a,b,t,ai];refine ae ?_ rfl;intro c hc;simp at hc;rcases hc with rfl|rfl
  exact .inr ⟨_,rfl,fun x m=>by
   unfold ar at m;rcases cD.1 m with h|h;exact aW _ _ h
   simp at h;subst h;trivial⟩
  exact .inl trivial
def xX(t:Tn)(b:Int)(a:List Nat)(e:Int):Bool :=
 decide (0≤b)&&match t.outs[b.toNat]? with
  |some o=>decide (e=0)&&decide (o.2=a)
  |none=>false
def fu(coins:List (Nat×List Nat))(n:Int):Nat×List Nat:=(coins[n.toNat]?).getD (0,[])
def Oh(o v:Int):List DV:=[.int .i64 o,.int .u64 v]
def zp(t:Tn)(n:Int)(coins:List (Nat×List Nat))(o0 o1 b:Int)(a:List Nat)(e:Int):AV :=
 if cp t n coins≠0 then .tup [.nil,.d (.int .i64 1)]
 else if xX t o0 a e=false∨b<0∨((fu coins n).1:Int)<b then .tup [.nil,.d (.int .i64 24)]
 else if o1=-1∧b=0 then .tup [.d (.ro 2 [Oh o0 (((fu coins n).1:Int)-b)]),.d (.int .i64 0)]
 else if o1=o0∨xX t o1 (fu coins n).2 0=false then .tup [.nil,.d (.int .i64 24)]
 else .tup [.d (.ro 2 [Oh o0 (((fu coins n).1:Int)-b),Oh o1 b]),.d (.int .i64 0)]
theorem mz{inner:List Nat}(hi:inner.length=32)(a b:AV):(ar inner a b).length=34:=by simp[ar,aj,hi]
theorem nh{inner:List Nat}(hi:inner.length=32)(a b:AV):List.take 34 (ar inner a b)=ar inner a b:=cx (by rw[mz hi];exact cL _)
theorem JB{inner:List Nat}(hi:inner.length=32)(a b c:AV):(ar inner a b).set 33 c=ar inner a c:=by
 have d:(cb inner).length=32:=by rw[aj,hi]
 unfold ar;rw[List.set_append_right _ _ aq,d];rfl
theorem JC(t:Tn)(n:Int)(coins:List (Nat×List Nat))(inner:List Nat)(m:List (List Nat))(x s a:List Nat)(b e:Int)(hi:inner.length=32)(u:bytes a)(h:∀o,o∈t.outs→bytes o.2)
  (g:ap Tryz.prog 46 [cF inner m s] (fun r=>r=.tup [.d (nb a),.d (.int .i64 e)])) :
  ap Tryz.prog 65 [.agg (eS t n coins),cF inner m x,.d (nb s),.d (.int .i64 b)] (fun r=>r=.d (.bool (xX t b a e))):=by
 refine bz Tryz.func65 Tryz.ntmps65 (rs:=[.tmp 8]) (by
  intro v p;simp at p;rcases p with rfl|rfl|rfl|rfl;simp[AV.deep,AV.deep1,eS];exact iw _ _ _;trivial
  trivial) ?_
 have i:(eS t n coins).length=6:=rfl;have l:List.take 6 (eS t n coins)=eS t n coins:=rfl;simp[go_sem,cF,mz hi,nh hi,i,l];by_cases c:b<0∨(t.outs.length:Int)≤b
 ·have j:xX t b a e=false:=by
   unfold xX;rcases c with c|c;simp;omega;rw[List.getElem?_eq_none aq];simp
  refine ag (AB t n coins b c) (by simp[AV.deep,AV.deep1,eS]) ?_;rw[j];simp[go_sem,ai];exact ae a9 rfl
 ·obtain⟨k,rfl⟩:∃k:Nat,b=(k:Int):=⟨b.toNat,aq⟩;have w:k<t.outs.length:=aq;obtain⟨o,f⟩:∃o,t.outs[k]?=some o:=⟨_,cm w⟩;have j:xX t k a e=(decide (e=0)&&decide (o.2=a)):=by
   unfold xX;simp[f]
  rw[j];refine ag (wP t n coins k o f) (by simp[AV.deep,AV.deep1,eS]) ?_;simp[go_sem,mz hi,nh hi,JB hi,nb];refine ag g (c6 _ _ _) ?_;simp[go_sem];by_cases q:e=0
  ·subst q;simp[go_sem];refine ag (kV o.2 a (h o (cr f)) u) a9 ?_;simp[go_sem,ai];exact ae a9 rfl
  ·simp[go_sem,q,ai];exact ae a9 rfl
theorem D2(t:Tn)(m:Nat)(coins:List (Nat×List Nat))(a:Int)(l:m<coins.length)(h:∀o,o∈t.outs→bytes o.2)(f:∀o,o∈coins→bytes o.2) :
  ap Tryz.prog 66 [.agg (eS t m coins),.d (.int .i64 a)] (fun r=>r=.d (.bool (xX t a (fu coins m).2 0))):=by
 refine bz Tryz.func66 Tryz.ntmps66 (rs:=[.tmp 4]) (by simp[AV.deep,AV.deep1,eS]) ?_;obtain⟨c,b⟩:∃o,coins[m]?=some o:=⟨_,cm l⟩;have j:fu coins m=c:=by simp[fu,b]
 simp[go_sem,eS];by_cases e:a<0∨(t.outs.length:Int)≤a
 ·have i:xX t a (fu coins m).2 0=false:=by
   unfold xX;rcases e with e|e;simp;omega;rw[List.getElem?_eq_none aq];simp
  refine ag (AB t m coins a e) (by simp[AV.deep,AV.deep1,eS]) ?_;rw[i];simp[go_sem,ai];exact ae a9 rfl
 ·obtain⟨k,rfl⟩:∃k:Nat,a=(k:Int):=⟨a.toNat,aq⟩;have n:k<t.outs.length:=aq;obtain⟨o,g⟩:∃o,t.outs[k]?=some o:=⟨_,cm n⟩;have i:xX t k (fu coins m).2 0=decide (o.2=c.2):=by
   unfold xX;simp[g,j]
  rw[i];refine ag (wP t m coins k o g) (by simp[AV.deep,AV.deep1,eS]) ?_;simp[go_sem,b,eO];refine ag (kV o.2 c.2 (h o (cr g)) (f c (cr b))) a9 ?_;simp[go_sem,ai];exact ae a9 rfl
theorem Bd{Q:AV→Prop}{st:St}{id n:Nat}{ty:TypeId}{e:Int}(rows:List (List DV))(h:rows.length=n)(f:lk id st.hp=some ⟨ty,2,rows.map (fun r=>r.map AV.d)⟩)(g:∀r,r∈rows→r.length=2)(hq:Q (.tup [.d (.ro 2 rows),.d (.int .i64 e)])):dm Q (.tup [.own id 0 n n,.d (.int .i64 e)]) st:=by
 subst h;refine ew (cs':=[.d (.ro 2 rows),.d (.int .i64 e)]) (fun i c j a b=>?_) rfl a9 hq
 match i,a,b with
 |0,a,b=>simp at a b;subst a b;exact ao (j5 f trivial aw (by rw[List.drop_zero,cx aw];exact kH _) rfl g)
 |1,a,b=>simp at a b;subst a b;exact aM trivial
 |k+2,a,_=>simp at a
theorem JD(t:Tn)(n:Int)(coins:List (Nat×List Nat))(inner:List Nat)(c:List (List Nat))(x s:List Nat)(o0 o1 a:Int):∀v,v∈[AV.agg (eS t n coins),cF inner c x,.d (nb s),.agg [.d (.int .i64 o0),.d (.int .i64 o1)],.d (.int .i64 a)]→v.deep:=by
 intro v b;simp at b;rcases b with rfl|rfl|rfl|rfl|rfl;simp[AV.deep,AV.deep1,eS];exact iw _ _ _;trivial;simp[AV.deep,AV.deep1];trivial
theorem SC(t:Tn)(n:Int)(coins:List (Nat×List Nat))(inner:List Nat)(b:List (List Nat))(x s:List Nat)(o:Int):∀v,v∈[AV.agg (eS t n coins),cF inner b x,.d (nb s),.d (.int .i64 o)]→v.deep:=by
 intro v a;simp at a;rcases a with rfl|rfl|rfl|rfl;simp[AV.deep,AV.deep1,eS];exact iw _ _ _;trivial;trivial
theorem Gt(t:Tn)(n:Int)(coins:List (Nat×List Nat))(inner:List Nat)(B:List (List Nat))(x s a:List Nat)(o0 o1 b e:Int)(K:Sm t)(hc:coins.length≤1000)(hi:inner.length=32)(J:bytes a)(y:∀o,o∈t.outs→bytes o.2)(v:∀o,o∈coins→bytes o.2∧o.1<18446744073709551616)
  (H:b<9223372036854775808) (g:ap Tryz.prog 46 [cF inner B s] (fun r=>r=.tup [.d (nb a),.d (.int .i64 e)])) :
  ap Tryz.prog 27 [.agg (eS t n coins),cF inner B x,.d (nb s),.agg [.d (.int .i64 o0),.d (.int .i64 o1)],.d (.int .i64 b)] (fun r=>r=zp t n coins o0 o1 b a e):=by
 refine bz Tryz.func27 Tryz.ntmps27 (rs:=[.tmp 10,.tmp 11]) (JD _ _ _ _ _ _ _ _ _ _) ?_;have D:(eS t n coins).length=6:=rfl;have E:List.take 6 (eS t n coins)=eS t n coins:=rfl;simp[go_sem,cF,mz hi,nh hi,D,E];refine ag (mj t n coins K hc) (by simp[AV.deep,AV.deep1,eS]) ?_;rcases mS t n coins with w|⟨w,G,O⟩
 ·have N:zp t n coins o0 o1 b a e=.tup [.nil,.d (.int .i64 1)]:=by simp[zp,w]
  rw[w,N];simp[go_sem,ai];exact ae a9 rfl
 ·rw [w];obtain ⟨m,rfl⟩:∃ k:Nat,n=(k:Int):=⟨n.toNat,aq⟩;obtain ⟨c,p⟩:∃ o,coins[m]?=some o:=⟨_,cm (by omega:m<coins.length)⟩;have z:fu coins m=c:=by simp [fu,p]
  have M:=(v c (cr p)).2;simp[go_sem,eS,p,eO,mz hi,nh hi];refine ag (JC t m coins inner B x s a o0 e hi J y g) (SC _ _ _ _ _ _ _ _) ?_;unfold zp;rw[w,z]
  cases L:xX t o0 a e
  ·simp[go_sem,ai];exact ae a9 rfl
  by_cases f:b<0
  ·simp[go_sem,f,ai];exact ae a9 rfl
  have i:IntKind.u64.wrap b=b:=by rw[IntWalk.u64_in _ aq]
  by_cases b2:(c.1:Int)<b
  ·simp[go_sem,f,i,b2,ai];exact ae a9 rfl
  have j:IntKind.u64.wrap ((c.1:Int)-b)=(c.1:Int)-b:=by rw[IntWalk.u64_in _ aq]
  by_cases F:o1=-1∧b=0
  ·obtain⟨rfl,rfl⟩:=F;have I:IntKind.u64.wrap (c.1:Int)=(c.1:Int):=(by rw[IntWalk.u64_in _ aq]);simp[go_sem,f,i,b2,j,I,ai];exact Bd [Oh o0 (c.1:Int)] rfl rfl (by simp[Oh]) rfl
  ·have C:=D2 t m coins o1 aq y (fun o h=>(v o h).1);rw[z]at C;by_cases q:o1=-1
   ·have A:¬b=0:=fun h=>F ⟨q,h⟩;subst q;by_cases l:(-1)=o0
    ·subst l;simp[go_sem,f,i,b2,j,A,ai];exact ae a9 rfl
    ·simp[go_sem,f,i,b2,j,A,l];refine ag C (by simp[AV.deep,AV.deep1,eS]) ?_
     cases u:xX t (-1) c.2 0
     ·simp[go_sem,f,i,b2,j,A,l,ai];exact ae a9 rfl
     ·simp[go_sem,f,i,b2,j,A,l,ai];exact Bd [Oh o0 ((c.1:Int)-b),Oh (-1) b] rfl rfl (by simp[Oh]) rfl
   ·skip;by_cases l:o1=o0
    ·subst l;simp[go_sem,f,i,b2,j,q,ai];exact ae a9 rfl
    ·simp[go_sem,f,i,b2,j,q,l];refine ag C (by simp[AV.deep,AV.deep1,eS]) ?_
     cases u:xX t o1 c.2 0
     ·simp[go_sem,f,i,b2,j,q,l,ai];exact ae a9 rfl
     ·simp[go_sem,f,i,b2,j,q,l,ai];exact Bd [Oh o0 ((c.1:Int)-b),Oh o1 b] rfl rfl (by simp[Oh]) rfl
end Go.Proofs.YtmfnimjnneflnaaGreat
namespace Go.Am
theorem SD{P:Program}{g:FuncId}{args:List AV}{Q i:AV→Prop}(h:ap P g args Q)
  (hq:∀r,Q r→∃f,(∀(w:World)(S:Nat→Prop)(σ:Nat→Option Nat)(hp:Hp)(U:Nat→Prop)(x:Value),AIs w S σ hp U r x→AIs w S σ hp U f x)∧f.deep∧i f):ap P g args i:=by
 obtain⟨m,t⟩:=h;refine⟨m,fun w S j a b c=>(t w S j a b c).mono fun e v s=>?_⟩;obtain⟨x,r,u,q,d,p,n⟩:=s;obtain⟨f,o,k,l⟩:=hq r q;exact⟨x,f,u,l,k,p,o _ _ _ _ _ _ n⟩
theorem qI{w:World}{S:Nat→Prop}{σ:Nat→Option Nat}{hp:Hp}{U:Nat→Prop}{x:Value}{v:AV}(e:Nat)(h:AIs w S σ hp U (.tup [.nil,v]) x):AIs w S σ hp U (.tup [.d (.ro e []),v]) x:=by
 cases h with
 | tup _ xs hl h =>
  refine .tup _ xs hl fun i c y a b=>?_
  match i with
  |0 =>
   simp at a;subst a;exact MR e (h 0 .nil y rfl b)
  |i+1=>exact h (i+1) c y a b
end Go.Am
namespace Go.Proofs.YtmfnimjnneflnaaGreat
open Go.Am Go.Sha Go.Ec
def pS(t:Tn)(n:Int)(coins:List (Nat×List Nat))(o0 o1 b:Int)(a:List Nat)(e:Int):List (Int×Int)×Int :=
 if cp t n coins≠0 then([],1)
 else if xX t o0 a e=false∨b<0∨((fu coins n).1:Int)<b then([],24)
 else if o1=-1∧b=0 then([(o0,((fu coins n).1:Int)-b)],0)
 else if o1=o0∨xX t o1 (fu coins n).2 0=false then([],24)
 else([(o0,((fu coins n).1:Int)-b),(o1,b)],0)
theorem zq(t:Tn)(n:Int)(coins:List (Nat×List Nat))(o0 o1 b:Int)(a:List Nat)(e:Int):(pS t n coins o0 o1 b a e).1.length≤2:=by
 unfold pS
 repeat' split
 all_goals simp
theorem Oi{t:Tn}{n:Int}{coins:List (Nat×List Nat)}{o0 o1 b:Int}{a:List Nat}{e:Int}{g:FuncId}{args:List AV}(h:ap Tryz.prog g args (fun r=>r=zp t n coins o0 o1 b a e)) :
  ap Tryz.prog g args (fun v=>v=.tup [.d (.ro 2 ((pS t n coins o0 o1 b a e).1.map eQ)),.d (.int .i64 (pS t n coins o0 o1 b a e).2)]):=by
 refine SD h ?_;rintro r rfl;refine⟨_,?_,?_,rfl⟩;intro w S σ c U x;unfold zp pS;split;exact qI 2;split;exact qI 2;split;exact id;split;exact qI 2;exact id;simp[AV.deep,AV.deep1]
theorem Xz(inner:List Nat)(b:List (List Nat))(x:List Nat)(hi:inner.length=32)(c:bytes inner)(hp:∀p,p∈b→p.length=32)(l:b.length≤1000)(i:x.length≤100000) :
  ∃p:List Nat×Int,bytes p.1∧ap Tryz.prog 46 [cF inner b x] (fun r=>r=.tup [.d (nb p.1),.d (.int .i64 p.2)]):=by
 obtain⟨k,o,e,g,f,j,h,_⟩:=pn inner b x hi c hp l i;rcases j with rfl|rfl;refine⟨(81::32::k,0),?_,jr hi g h⟩;intro y a;simp only[d_]at a;rcases a with rfl|rfl|a;omega;omega;exact f y a;exact⟨([],1),fun y a=>(by cases a),tw hi g h⟩
structure RnS0(F:RnF):Prop where
 t:Sm F.t
 c:Ul F.coins
 cb:∀o,o∈F.coins→bytes o.2∧o.1<18446744073709551616
 ob:∀o,o∈F.t.outs→bytes o.2
 i:F.inner.length=32
 ib:bytes F.inner
 s:F.script.length≤100000
 p:∀p,p∈F.path→p.length=32
 pl:F.path.length≤1000
 a:F.annex.length≤1000
def XA(a:bL→bL→bL→Bool):Prop:=∀key msg sig,key.length=32→bytes key→bytes sig→msg.length≤1000→sig.length≤1000→ap Tryz.prog 156 [.agg (cb key),.d (nb msg),.d (nb sig)] (fun v=>v=.d (.bool (a key sig msg)))
theorem aaW:∃j,XA j:=by
 have l:∀p:bL×bL×bL,∃o:Bool,p.1.length=32→bytes p.1→bytes p.2.2→p.2.1.length≤1000→p.2.2.length≤1000→ap Tryz.prog 156 [.agg (cb p.1),.d (nb p.2.1),.d (nb p.2.2)] (fun v=>v=.d (.bool o)):=by
  rintro⟨f,h,g⟩;by_cases hc:f.length=32∧bytes f∧bytes g∧h.length≤1000∧g.length≤1000;obtain⟨o,k⟩:=Jz f h g hc.1 hc.2.1 hc.2.2.1 hc.2.2.2.1 hc.2.2.2.2;exact⟨o,fun _ _ _ _ _=>k⟩;exact⟨false,fun a b c d e=>absurd ⟨a,b,c,d,e⟩ hc⟩
 obtain⟨j,i⟩:=Classical.axiomOfChoice l;exact⟨fun f g h=>j (f,h,g),fun f h g a b c d e=>i (f,h,g) a b c d e⟩
def Oj(inner:List Nat)(b:List (List Nat))(a:bL→bL×Int):Prop:=∀s:bL,s.length≤100000→bytes (a s).1∧ap Tryz.prog 46 [cF inner b s] (fun r=>r=.tup [.d (nb (a s).1),.d (.int .i64 (a s).2)])
theorem SE(inner:List Nat)(b:List (List Nat))(hi:inner.length=32)(e:bytes inner)(hp:∀p,p∈b→p.length=32)(h:b.length≤1000):∃a,Oj inner b a:=by
 have g:∀s:bL,∃p:bL×Int,s.length≤100000→bytes p.1∧ap Tryz.prog 46 [cF inner b s] (fun r=>r=.tup [.d (nb p.1),.d (.int .i64 p.2)]):=by
  intro s;by_cases f:s.length≤100000;obtain⟨p,hp⟩:=Xz inner b s hi e hp h f;exact⟨p,fun _=>hp⟩;exact⟨([],0),fun q=>absurd q f⟩
 obtain⟨a,c⟩:=Classical.axiomOfChoice g;exact⟨a,c⟩
end Go.Proofs.YtmfnimjnneflnaaGreat
