/-
 Part 13.
-/
import Derived.Test.YtmfnimjnneflnaaGreatN11
set_option linter.unusedVariables false
set_option linter.unusedSimpArgs false
set_option maxRecDepth 100000
set_option maxHeartbeats 16000000
open Go.Proofs.Tryz
namespace Go.Proofs.YtmfnimjnneflnaaGreat
def WL(coins:List (Nat×List Nat)):Prop:=coins.length≤8∧∀o,o∈coins→o.1<18446744073709551616∧o.2.length≤1100
theorem tK(t:Tn)(n:Int)(coins:List (Nat×List Nat)):∀v,v∈[AV.agg (eS t n coins)]→v.deep:=by simp[AV.deep,AV.deep1,eS]
theorem acP{a b c d e:List Nat}(k:Nat)(r:k<5)(o:a.length=32)(q:b.length=32)(hc:c.length=32)(p:d.length=32)(t:e.length=32) :
  List.take 32 (List.drop (k*32) (cb a++cb b++cb c++cb d++cb e))=cb ([a,b,c,d,e].getD k []):=by
 have h:(cb a).length=32:=by rw[aj,o]
 have g:(cb b).length=32:=by rw[aj,q]
 have i:(cb c).length=32:=by rw[aj,hc]
 have j:(cb d).length=32:=by rw[aj,p]
 have l:(cb e).length=32:=by rw[aj,t]
 have f:∀(A B C:List AV)(m:Nat),A.length=m→B.length=32→List.take 32 (List.drop m (A++(B++C)))=B:=by
  intro A B C m s n;subst s;rw[List.drop_left,←n,List.take_left]
 match k,r with
 |0,_=>simpa using f [] (cb a) (cb b++cb c++cb d++cb e) 0 rfl h
 |1,_=>simpa using f (cb a) (cb b) (cb c++cb d++cb e) 32 aq g
 |2,_=>simpa using f (cb a++cb b) (cb c) (cb d++cb e) 64 (by simp[h,g]) i
 |3,_=>simpa using f (cb a++cb b++cb c) (cb d) (cb e) 96 (by simp[h,g,i]) j
 |4,_=>simpa using f (cb a++cb b++cb c++cb d) (cb e) [] 128 (by simp[h,g,i,j]) l
def acQ(t:Tn)(n:Nat):List Nat:=le t.ver 4++(le t.lock 4++(le t.ins.length 4++(bc (t.ins.map uP).flatten++(le t.outs.length 4++(bc (t.outs.map gQ).flatten++le n 4)))))
def oC(t:Tn)(n:Nat):List Nat:=bc (acQ t n)
theorem ZJ(b:List Nat)(c:b.length≤100000000000) :
  cZ prog 58 1 [(0,⟨167,10,[dP H0++[.nil,.d (.int .u64 0)]]⟩)] [.ptr 0 0 0 1,.d (nb b)] (fun r a=>r=.tup []∧lk 0 a=some ⟨167,10,[Db b]⟩):=by
 have:=TE H0 .nil [] b 0 (.inr ⟨rfl,rfl⟩) (by simp;omega) aq;rw[List.nil_append,Nat.zero_add]at this;exact this
theorem Vo(ρ:Nat→Nat):AV.R ρ (dP H0++[.nil,.d (.int .u64 0)])=dP H0++[.nil,.d (.int .u64 0)]:=rfl
theorem Vp{Q:AV→Prop}{st:St}{b:List Nat}{e:Int}(hq:Q (.tup [.agg (cb b),.d (.int .i64 e)])):dG Q (.tup [.agg (cb b),.d (.int .i64 e)]) st:=by
 refine aa ?_ hq;intro c hc;simp at hc;rcases hc with rfl|rfl;exact .inr ⟨_,rfl,bp _⟩;exact .inl trivial
theorem QT{b:List Nat}(a:b.length=32):(List.range 32).map (fun k=>((cb b).drop k).take 1)=List.map ((fun r=>List.map AV.d r)∘fun(x:Nat)=>[DV.int .u8 (x:Int)]) b:=by
 rw[tC a];rfl
theorem H7(t:Tn)(n:Nat)(f:Sm t)(hc:iZ t=0)(U:n<t.ins.length):fm prog 18 [.agg (eT t),.d (.int .i64 (n:Int))] (.tup [.agg (cb (oC t n)),.d (.int .i64 0)]):=by
 have l:=Aw t f;rw[hc]at l;have D:=J6 t f;have C:=FI t.outs (by have:=f.2.2.1;omega) (fun o I=>⟨f.1.2.2.2 o I,by have:=f.2.2.2.1 o I;omega⟩);have h:=aR (t.ins.map uP).flatten;have j:=aR (t.outs.map gQ).flatten;have S:=f.2.1;have N:=f.2.2.1;have u:=f.1.1;have H:=f.1.2.1;refine bL func18 ntmps18 (rs:=[.cell 4 29,.tmp 5]) (by intro v g;simp at g;rcases g with rfl|rfl;simp[AV.deep,AV.deep1,eT];trivial) ?_;have y:¬(n:Int)<0:=aq;have E:¬(t.ins.length:Int)≤(n:Int):=aq;have L:¬t.ins.length≤n:=aq;have M:IntKind.u32.wrap (t.ins.length:Int)=(t.ins.length:Int):=IntWalk.u32_in _ aq;have P:IntKind.u32.wrap (t.outs.length:Int)=(t.outs.length:Int):=IntWalk.u32_in _ aq;have T:IntKind.u32.wrap (n:Int)=(n:Int):=IntWalk.u32_in _ aq;have e:z32.length=32:=rfl;have m:List.drop 32 (cb z32)=[]:=rfl;unfold oC acQ;generalize R:bc (t.ins.map uP).flatten=A at *;generalize O:bc (t.outs.map gQ).flatten=B at *;simp only[eT]at *;simp[go_sem];have w:∀v,v∈[AV.d (.ro 2 (t.outs.map eO))]→v.deep:=by simp[AV.deep,AV.deep1]
 have F:∀v,v∈[AV.agg [.d (.int .u32 (t.ver:Int)),.d (.ro 35 (t.ins.map eI)),.d (.ro 2 (t.outs.map eO)),.d (.int .u32 (t.lock:Int))]]→v.deep:=by simp[AV.deep,AV.deep1]
 refine ag l (by intro v g;simp at g;subst g;simp[AV.deep,AV.deep1]) ?_;simp[go_sem,y,E];refine dI [0,2,3] [1,4,5,6,7,8] [0,2,3] (.alt (bt 1 (.alt (bx 4 (.alt (a_ [5,6,7,8]) (a_ [6,5,7,8]))) (.alt (bt 5 (.alt (a_ [4,6,7,8]) (bt 6 (a_ [4,7,8])))) (bt 6 (.alt (a_ [4,5,7,8]) (bt 5 (a_ [4,7,8]))))))) (.alt (bt 5 (.alt (bt 1 (.alt (a_ [4,6,7,8]) (bt 6 (a_ [4,7,8])))) (bt 6 (bt 1 (a_ [4,7,8]))))) (bt 6 (.alt (bt 1 (.alt (a_ [4,5,7,8]) (bt 5 (a_ [4,7,8])))) (bt 5 (bt 1 (a_ [4,7,8]))))))) ⟨[(1,.d (.int .i64 (n:Int))),(2,.ptr 0 0 0 1),(4,.ptr 32 0 0 1),(6,.ptr 704 0 0 1),(7,.ptr 736 0 0 1)],[(704,⟨29,32,[cb A]⟩),(736,⟨29,32,[cb B]⟩),(32,⟨29,32,[cb z32]⟩),(0,⟨26,4,[[.d (.int .u32 (t.ver:Int)),.d (.ro 35 (t.ins.map eI)),.d (.ro 2 (t.outs.map eO)),.d (.int .u32 (t.lock:Int))]]⟩)],9000⟩ (k:=9) ?h3 ?hq
 case h3 =>
  intro G Q;have K:∀(i:Fr)(c:Hp),(fv 1 i=.d (.int .i64 (n:Int))∧fv 2 i=.ptr 0 0 0 1∧fv 4 i=.ptr 32 0 0 1∧fv 6 i=.ptr 704 0 0 1∧fv 7 i=.ptr 736 0 0 1∧lk 704 c=some ⟨29,32,[cb A]⟩∧lk 736 c=some ⟨29,32,[cb B]⟩∧lk 32 c=some ⟨29,32,[cb z32]⟩∧lk 0 c=some ⟨26,4,[[.d (.int .u32 (t.ver:Int)),.d (.ro 35 (t.ins.map eI)),.d (.ro 2 (t.outs.map eO)),.d (.int .u32 (t.lock:Int))]]⟩)→G i c:=by
   rintro i c⟨q0,Z,Y,X,V,W,q6,q7,q8⟩;refine Q _ _ (b8 ?_);simp only[aA,ai];refine⟨fun p c=>?_,fun p c=>?_,aw⟩;simp only[d_,List.mem_nil_iff,or_false]at c;rcases c with rfl|rfl|rfl|rfl|rfl<;>exact⟨.inl (Eq.symm (by assumption)),by simp[AV.low,AV.l]⟩
   ·simp only[d_,List.mem_nil_iff,or_false]at c;rcases c with rfl|rfl|rfl|rfl<;>exact⟨.inl (by assumption),aw,by intro r J;simp only[d_,List.mem_nil_iff,or_false]at J;subst J;first|exact cH _ _|exact aI _ _|(intro v g;simp only[d_,List.mem_nil_iff,or_false]at g;rcases g with rfl|rfl|rfl|rfl<;>trivial)⟩
  simp[go_sem,aj,e,dM]
  repeat' first|exact K _ _ ⟨rfl,rfl,rfl,rfl,rfl,rfl,rfl,rfl,rfl⟩|(refine K _ _ ?_;simp[fv];done)|refine ag D F ?_|refine ag C w ?_|apply And.intro|simp[go_sem,aj,h,j,e,m,dM]
 case hq =>
  simp[go_sem];refine aS [] o6 rfl aw aw aw (by simp[AV.R]) ?_;rintro r a⟨rfl,b⟩;refine⟨[(97,0)],rfl,?_⟩;simp[go_sem,cj,bK,b,Blk.r,aQ,iG,AV.r,cn];clear b a;refine bJ [] (jF [] t.ver aw u) rfl (ak (.one (am (.nil 1))) (ak (.deep a9) aF)) ?_;simp[go_sem,aC];refine aS [(0,9000)] (ZJ (le t.ver 4) (by simp[aO])) rfl aw (by simp[lk]) (by simp[lk,Blk.r,aQ,Vo]) (by simp[AV.R,AV.r,cn,iV,lk]) ?_;rintro r a⟨rfl,b⟩;refine⟨[],rfl,?_⟩;simp[-List.append_assoc,go_sem,cj,bK,b,Blk.r,aQ,bH,AV.R,AV.r];clear b a;refine bJ [] (jF [] t.lock aw H) rfl (ak (.one (am (.nil 1))) (ak (.deep a9) aF)) ?_;simp[go_sem,aC];refine aS [(0,9000)] (qW (le t.ver 4) (le t.lock 4) (by simp[aO])) rfl aw (by simp[lk]) (by simp[lk,Blk.r,aQ,bH]) (by simp[AV.R,AV.r,cn,iV,lk]) ?_;rintro r a⟨rfl,b⟩;refine⟨[],rfl,?_⟩;simp[-List.append_assoc,go_sem,cj,bK,b,Blk.r,aQ,bH,AV.R,AV.r,M];clear b a;refine bJ [] (jF [] t.ins.length aw aq) rfl (ak (.one (am (.nil 1))) (ak (.deep a9) aF)) ?_;simp[go_sem,aC];refine aS [(0,9000)] (qW ((le t.ver 4)++le t.lock 4) (le t.ins.length 4) (by simp[aO])) rfl aw (by simp[lk]) (by simp[lk,Blk.r,aQ,bH]) (by simp[AV.R,AV.r,cn,iV,lk]) ?_;rintro r a⟨rfl,b⟩;refine⟨[],rfl,?_⟩;simp[-List.append_assoc,go_sem,cj,bK,b,Blk.r,aQ,bH,AV.R,AV.r];clear b a;refine aS [(0,9000),(1,704)] (H4 29 32 (cb A) (((le t.ver 4)++le t.lock 4)++le t.ins.length 4) A (QT h) (fun n=>aI n _) h (by simp[aO,h])) rfl aw (by simp[lk]) (by simp[lk,Blk.r,aQ,bH,dV]) (by simp[AV.R,AV.r,cn,iV,lk]) ?_;rintro r a⟨rfl,b,s⟩;refine⟨[],rfl,?_⟩;simp[-List.append_assoc,go_sem,cj,bK,b,s,Blk.r,aQ,bH,AV.R,AV.r,dV,P];clear b s a;refine bJ [] (jF [] t.outs.length aw aq) rfl (ak (.one (am (.nil 1))) (ak (.deep a9) aF)) ?_;simp[go_sem,aC];refine aS [(0,9000)] (qW ((((le t.ver 4)++le t.lock 4)++le t.ins.length 4)++A) (le t.outs.length 4) (by simp[aO,h])) rfl aw (by simp[lk]) (by simp[lk,Blk.r,aQ,bH]) (by simp[AV.R,AV.r,cn,iV,lk]) ?_;rintro r a⟨rfl,b⟩;refine⟨[],rfl,?_⟩;simp[-List.append_assoc,go_sem,cj,bK,b,Blk.r,aQ,bH,AV.R,AV.r];clear b a;refine aS [(0,9000),(1,736)] (H4 29 32 (cb B) (((((le t.ver 4)++le t.lock 4)++le t.ins.length 4)++A)++le t.outs.length 4) B (QT j) (fun n=>aI n _) j (by simp[aO,h,j])) rfl aw (by simp[lk]) (by simp[lk,Blk.r,aQ,bH,dV]) (by simp[AV.R,AV.r,cn,iV,lk]) ?_;rintro r a⟨rfl,b,s⟩;refine⟨[],rfl,?_⟩;simp[-List.append_assoc,go_sem,cj,bK,b,s,Blk.r,aQ,bH,AV.R,AV.r,dV,T];clear b s a;refine bJ [] (jF [] n aw aq) rfl (ak (.one (am (.nil 1))) (ak (.deep a9) aF)) ?_;simp[go_sem,aC];refine aS [(0,9000)] (qW ((((((le t.ver 4)++le t.lock 4)++le t.ins.length 4)++A)++le t.outs.length 4)++B) (le n 4) (by simp[aO,h,j])) rfl aw (by simp[lk]) (by simp[lk,Blk.r,aQ,bH]) (by simp[AV.R,AV.r,cn,iV,lk]) ?_;rintro r a⟨rfl,b⟩;refine⟨[],rfl,?_⟩;simp[-List.append_assoc,go_sem,cj,bK,b,Blk.r,aQ,bH,AV.R,AV.r];clear b a;refine aS [(0,9000)] (AK (((((((le t.ver 4)++le t.lock 4)++le t.ins.length 4)++A)++le t.outs.length 4)++B)++le n 4) (by simp[aO,h,j])) rfl aw (by simp[lk]) (by simp[lk,Blk.r,aQ,bH]) (by simp[AV.R,AV.r,cn,iV,lk]) ?_;rintro r a⟨rfl,b⟩;refine⟨[],rfl,?_⟩;have z:=aR (((((((le t.ver 4)++le t.lock 4)++le t.ins.length 4)++A)++le t.outs.length 4)++B)++le n 4);have x:(((((((le t.ver 4)++le t.lock 4)++le t.ins.length 4)++A)++le t.outs.length 4)++B)++le n 4)=le t.ver 4++(le t.lock 4++(le t.ins.length 4++(A++(le t.outs.length 4++(B++le n 4))))):=by simp only[cA]
  rw[x]at z b⊢;generalize bc (le t.ver 4++(le t.lock 4++(le t.ins.length 4++(A++(le t.outs.length 4++(B++le n 4))))))=q at *;simp[go_sem,cj,bK,b,Blk.r,aQ,bH,dV,AV.r,aj,z,al z,e,m,ah];exact Vp rfl
def Vq(a:List Nat):Nat:=if a=[]then 2 else 3
def Vr(a:List Nat):List Nat:=if a=[]then[]else bc (cN a)
def ZK(t:Tn)(n:Nat)(coins:List (Nat×List Nat))(h a:List Nat):List Nat :=
 [0,0]++le t.ver 4++le t.lock 4++bc (t.ins.map tH).flatten++bc (coins.map yL).flatten++bc (coins.map zr).flatten++bc (t.ins.map uP).flatten++bc (t.outs.map gQ).flatten++[Vq a]++le n 4++Vr a++h++[0]++le 4294967295 4
theorem ZL(t:Tn)(n:Int)(coins:List (Nat×List Nat))(h a:List Nat):∀v,v∈[AV.agg (eS t n coins),.d (nb h),.d (nb a)]→v.deep:=by simp[AV.deep,AV.deep1,eS]
theorem Vs (t:Tn) (n:Int) (coins:List (Nat × List Nat)) (h f:List Nat) (ht:Sm t) (hc:WL coins) (W:h.length=32) (aM:f.length≤1000) (c0:bI t n coins=0) :
    ∃q:List Nat,q.length=32∧bytes q∧fm prog 43 [.agg (eS t n coins),.d (nb h),.d (nb f)] (.tup [.agg (cb q),.d (.int .i64 0)]):=by
  refine⟨fQ jZ (ZK t n.toNat coins h f),aR _,eE _,?_⟩;refine bL func43 ntmps43 (rs:=[.cell 6 29,.tmp 7]) (ZL t n coins h f) ?_;have P:=nt t n coins ht (by have:=hc.1;omega);have ae:=tK t n coins
  · rw [c0] at P
    have hn:0≤n∧n<coins.length:=by
      unfold bI at c0;split at c0
      · cases c0
      · rename_i F
        simp only[not_or,Int.not_lt,Int.not_le]at F;exact⟨F.2.2.1,F.2.2.2.1⟩
    obtain⟨m,rfl⟩:∃m:Nat,n=(m:Int):=⟨n.toNat,aq⟩;rw[Int.toNat_natCast];obtain⟨hv,ax,hi,ho⟩:=ht.1;have p1:=QS t ht;have p2:=QR coins hc.1 hc.2;have g:ZK t m coins h f=[0,0]++le t.ver 4++le t.lock 4++bc (t.ins.map tH).flatten++bc (coins.map yL).flatten++bc (coins.map zr).flatten++bc (t.ins.map uP).flatten++bc (t.outs.map gQ).flatten++[Vq f]++le m 4++Vr f++h++[0]++le 4294967295 4:=rfl;generalize ZK t m coins h f=M at *;have s:=aR (t.ins.map tH).flatten;have K:=aR (t.ins.map uP).flatten;have l3:=aR (t.outs.map gQ).flatten;have N:=aR (coins.map yL).flatten;have Z:=aR (coins.map zr).flatten;generalize bc (t.ins.map tH).flatten=a at *;generalize bc (t.ins.map uP).flatten=b at *;generalize bc (t.outs.map gQ).flatten=c at *;generalize bc (coins.map yL).flatten=x at *;generalize bc (coins.map zr).flatten=y at *;have hT:=Dc t;simp only[eT,eS]at hT P ae p1;have hL:(cb a++cb b++cb c).length=96:=(by simp[aj,s,K,l3]);have aN:List.take 96 (cb a++cb b++cb c)=cb a++cb b++cb c:=cx aq;have hE:cb (a++(b++c))=cb a++cb b++cb c:=(by rw[yM,yM,cA]);rw[hE]at p1;simp[go_sem,eS];refine ag P ae ?_;simp[go_sem,W,nb];refine j8 [512] (ig [0,0] t.ver aw hv) rfl (ak (.one (am (bq (L:=[0,0]) rfl rfl aw))) (ak (.deep a9) aF)) (fun ρ=>by simp[AV.R,AV.r]) ?_;rintro r j⟨I,rfl,o⟩;refine⟨[(I,0)],by simp[de,gB],?_⟩;generalize aB:[0,0]++le t.ver 4=A1 at *;have ac:A1.length=6:=by rw[←aB];simp[aO]
    simp[go_sem,cj,bK,o,Blk.r,aQ,dE,AV.r,cn,aC];clear o j;refine j8 [640] (ig A1 t.lock aq ax) rfl (ak (.one (am (bq rfl rfl aw))) (ak (.deep a9) aF)) (fun ρ=>by simp[AV.R,AV.r]) ?_;rintro r j⟨I,rfl,o⟩;refine⟨[(I,0)],by simp[de,gB],?_⟩;generalize an:A1++le t.lock 4=A2 at *;have aH:A2.length=10:=by rw[←an];simp[aO,ac]
    simp[go_sem,cj,bK,o,Blk.r,aQ,dE,AV.r,cn,aC];clear o j;have r0:List.take 32 (cb a++cb b++cb c)=cb a:=(by rw[cA,←s,←aj a,List.take_left])
    have r1:List.take 32 (List.drop 32 (cb a++cb b++cb c))=cb b:=(by rw[cA,show List.drop 32 (cb a++(cb b++cb c))=cb b++cb c by rw[←s,←aj a,List.drop_left],←K,←aj b,List.take_left]);have r2:List.take 32 (List.drop 64 (cb a++cb b++cb c))=cb c:=by
      rw[show List.drop 64 (cb a++cb b++cb c)=cb c by rw[show 64=(cb a++cb b).length by simp[aj,s,K],List.drop_left]];exact al l3
    generalize hR:cb a++cb b++cb c=R at *;refine ag p1 hT ?_;simp[go_sem,hL,FK,aj,uQ];refine ag p2 a9 ?_;simp[go_sem,aj,s,K,l3,N,Z,al N,al Z,cf,hL,r0,r1,r2,AL];rw[H6 (A:=cb a) (n:=32) (m:=64) (by rw[aj,s]) aq,←cA (cb a) (cb x),tJ (A:=cb a++cb x) (n:=64) (m:=96) (by simp[aj,s,N]) aq,tJ (A:=cb a++cb x++cb y) (n:=96) (m:=128) (by simp[aj,s,N,Z]) aq,tJ (A:=cb a++cb x++cb y++cb b) (n:=128) (m:=160) (by simp[aj,s,N,Z,K]) aq,H5,List.append_nil];have hF:=fun k hk=>acP (a:=a) (b:=x) (c:=y) (d:=b) (e:=c) k hk s N Z K l3;have hG:cb a++cb x++cb y++cb b++cb c=cb (a++x++y++b++c):=(by simp[yM])
    have aP:(a++x++y++b++c).length=160:=(by simp[s,N,Z,K,l3]);rw[hG]at hF⊢;have hW:∀k,k<5→([a,x,y,b,c].getD k []).length=32:=by
      intro k hk
      match k,hk with
      |0,_=>exact s
      |1,_=>exact N
      |2,_=>exact Z
      |3,_=>exact K
      |4,_=>exact l3
    have hS:∀k,k<5→([a,x,y,b,c].take (k+1)).flatten=([a,x,y,b,c].take k).flatten++[a,x,y,b,c].getD k []:=by
      intro k hk
      match k,hk with
      |0,_=>simp
      |1,_=>simp
      |2,_=>simp
      |3,_=>simp
      |4,_=>simp
    have J:A2++a++x++y++b++c=A2++([a,x,y,b,c].take 5).flatten:=(by simp);rw[J]at g;clear J;generalize a++x++y++b++c=G at *;generalize[a,x,y,b,c]=HS at *;refine av (fun u:Nat×List Nat=>⟨[(1,.d (nb h)),(2,.d (nb f)),(3,.ptr 0 0 0 1),(6,.ptr 32 0 0 1),(8,.own 832 0 u.2.length u.2.length),(57,.agg (cb G)),(58,.d (.int .i64 (u.1:Int)))],
        [(832,⟨5,1,rb u.2⟩),(32,⟨29,32,[cb z32]⟩),(0,⟨28,6,[eS t m coins]⟩)],3000⟩)
      (fun u=>u.1≤5∧u.2.length=10+32*u.1∧u.2=A2++(HS.take u.1).flatten) (fun u=>5-u.1) (0,A2) ⟨aw,by simp;omega,aw⟩ (by
        simp[aA,ai,fv,lk,AV.low,AV.l,nb,eS]
        exact⟨aI _ _,aZ _ _,aI _ _⟩) ?_
    rintro⟨k,B⟩⟨hk,aE,hB⟩;simp only at hk aE hB;simp only[eS];simp only[go_sem,Nat.reduceEqDiff,Nat.reduceAdd,Nat.reduceLT,↓reduceIte,Nat.reduceMul];refine⟨fun ap=>?_,fun ap=>?_⟩
    · have z:k<5:=aq
      have hw:=hW k z;have hs:=hS k z;have hf:=hF k z;have w3:=ay (k:=k) aq;have g1:32≤G.length-k*32:=aq;generalize HS.getD k []=w at *;have F:=(jz hw).trans (dx w);simp[go_sem]at F;simp[go_sem,hf,g1,aj,hw,cf,F,aJ,lJ,w3];refine⟨aq,aq,?_⟩;refine ao (k+1,B++w) ⟨by simp only;omega,by simp only[b_,hw];omega,by simp only;rw[hs,hB,cA]⟩ (by simp only;omega) ?_;simp[aA,ai,fv,lk,AV.low,AV.l,nb,hw];exact⟨aI _ _,aZ _ _,aI _ _⟩
    · have z:k=5:=aq
      subst z;rw[←hB]at g;have wn:IntKind.u32.wrap (m:Int)=(m:Int):=by rw[Tz];have:=hc.1;omega
      have ab:m<4294967296:=by have:=hc.1;omega
      by_cases E:f=[]
      · subst E
        have Y:Vq []=2:=rfl;have X:Vr []=[]:=rfl;rw[Y,X,List.append_nil]at g;simp[go_sem,W,nb];have T:bits BinOp.or IntKind.u8 0 2=2:=(by decide)
        have l:(B++[2]).length=B.length+1:=(by simp);have ad:(B++[2]++le m 4).length=B.length+5:=(by simp[aO]);generalize U:B++[2]++le m 4=B2 at *;refine dI [0,1] [2,3,4,5,6,7,8] [0,1] (.alt (bt 2 (.alt (a_ [3,4,5,6,7,8]) (bt 4 (.alt (a_ [3,5,6,7,8]) (bt 5 (.alt (a_ [3,6,7,8]) (bt 6 (a_ [3,7,8])))))))) (bt 4 (.alt (bt 2 (.alt (a_ [3,5,6,7,8]) (bt 5 (.alt (a_ [3,6,7,8]) (bt 6 (a_ [3,7,8])))))) (bt 5 (.alt (bt 2 (.alt (a_ [3,6,7,8]) (bt 6 (a_ [3,7,8])))) (bt 6 (bt 2 (a_ [3,7,8])))))))) ⟨[(1,.d (nb h)),(2,.d (nb [])),(3,.ptr 0 0 0 1),(6,.ptr 32 0 0 1),(8,.own 3576 0 B2.length B2.length)],[(3576,⟨5,1,rb B2⟩),(32,⟨29,32,[cb z32]⟩)],6000⟩ (k:=9) ?h3 ?hq
        case h3 =>
          intro G hG;have hW:∀(p:Fr)(i:Hp),(fv 1 p=.d (nb h)∧fv 2 p=.d (nb [])∧fv 3 p=.ptr 0 0 0 1∧fv 6 p=.ptr 32 0 0 1∧fv 8 p=.own 3576 0 B2.length B2.length∧lk 3576 i=some ⟨5,1,rb B2⟩∧lk 32 i=some ⟨29,32,[cb z32]⟩)→G p i:=by
            rintro p i⟨q0,q1,q2,q3,q4,q5,q6⟩;refine hG _ _ (b8 ⟨?_,?_,aw⟩)
            · simp[ai,AV.low,AV.l,q0,q1,q2,q3,q4,nb]
            · simp [q5,q6]
              exact⟨aZ _ _,aI _ _⟩
          have V:rb B++[[AV.d (DV.int IntKind.u8 2)]]=rb (B++[2]):=(by simp[rb]);have i:=ig (B++[2]) m (by rw[l];omega) ab;rw[U]at i;simp[go_sem,wn,T,aJ,V]
          repeat' apply And.intro
          all_goals first
            |omega
            | (refine j8 [832] i rfl (ak (.one (am (bq l rfl aw))) (ak (.deep a9) aF)) (fun ρ=>by simp [AV.R,AV.r]) ?_
               rintro r j⟨I,rfl,o⟩;refine⟨[(I,0)],by simp[de,gB],?_⟩;simp[go_sem,cj,bK,o,Blk.r,aQ,dE,AV.r,cn,aC];refine hW _ _ ?_
               simp[fv,lk,nb])
        case hq =>
          simp[go_sem,W,nb,aJ];have C:rb B2++(List.map ((fun r=>List.map AV.d r)∘fun(b:Nat)=>[DV.int IntKind.u8 (b:Int)]) h++[[AV.d (DV.int IntKind.u8 0)]])=rb (B2++h++[0]):=(by simp[rb])
          have D:(B2++h++[0]).length=B2.length+32+1:=(by simp[W]);rw[C];refine⟨aq,aq,?_⟩;generalize B2++h++[0]=B3 at *;have i:=ig B3 4294967295 aq aq;rw[←g]at i;have aD:M.length≤1000:=by rw[g,b_,aO];omega
          refine j8 [3576] i rfl (ak (.one (am (bq D rfl aw))) (ak (.deep a9) aF)) (fun ρ=>by simp[AV.R,AV.r]) ?_;rintro r j⟨I,rfl,o⟩;refine⟨[(I,0)],by simp[de,gB],?_⟩;simp[go_sem,cj,bK,o,Blk.r,aQ,dE,AV.r,cn,aC];clear o j;refine bJ [6416] (jc jZ _ rfl M (by simp[jZ]) aq) rfl (ak (.deep a9) (ak (.one (am (bq rfl rfl aw))) aF)) ?_;have hR:=aR (bc jZ++(bc jZ++M));have v:(fQ jZ M).length=32:=hR;generalize fQ jZ M=S at *;simp[go_sem,aC,v,aj,al v,cf,ah]
          exact aa (by
            intro c hc;simp only[d_,List.mem_nil_iff,or_false]at hc;rcases hc with rfl|rfl
            · exact .inr ⟨_,rfl,bp _⟩
            · exact .inl trivial) rfl
      · have aK:¬ f.length=0:=fun h=>E (List.length_eq_zero_iff.1 h)
        have aL:(0:Int)<(f.length:Int):=aq;have H:0<f.length:=aq;have Y:Vq f=3:=if_neg E;have X:Vr f=bc (cN f):=if_neg E;have T:bits BinOp.or IntKind.u8 0 2=2:=(by decide);have au:bits BinOp.or IntKind.u8 2 1=3:=(by decide);rw[Y,X]at g;have af:=gG [] f aw aq;have aG:=nf (cN f) (by have:=lT f;omega);have O:=aR (cN f);rw[show[]++(az f.length++f)=cN f from rfl]at af;generalize bc (cN f)=Q at *;generalize cN f=BA at *;simp[go_sem,W,nb,H,T];have l:(B++[3]).length=B.length+1:=(by simp)
        have ad:(B++[3]++le m 4).length=B.length+5:=(by simp[aO]);generalize U:B++[3]++le m 4=B2 at *;refine dI [0,1] [2,3,4,5,6,7,8] [0,1] (.alt (bt 2 (.alt (a_ [3,4,5,6,7,8]) (bt 4 (.alt (a_ [3,5,6,7,8]) (bt 5 (.alt (a_ [3,6,7,8]) (bt 6 (a_ [3,7,8])))))))) (bt 4 (.alt (bt 2 (.alt (a_ [3,5,6,7,8]) (bt 5 (.alt (a_ [3,6,7,8]) (bt 6 (a_ [3,7,8])))))) (bt 5 (.alt (bt 2 (.alt (a_ [3,6,7,8]) (bt 6 (a_ [3,7,8])))) (bt 6 (bt 2 (a_ [3,7,8])))))))) ⟨[(1,.d (nb h)),(2,.d (nb f)),(3,.ptr 0 0 0 1),(6,.ptr 32 0 0 1),(8,.own 3672 0 B2.length B2.length)],[(3672,⟨5,1,rb B2⟩),(32,⟨29,32,[cb z32]⟩)],6000⟩ (k:=9) ?h3 ?hq
        case h3 =>
          intro G hG;have hW:∀(p:Fr)(i:Hp),(fv 1 p=.d (nb h)∧fv 2 p=.d (nb f)∧fv 3 p=.ptr 0 0 0 1∧fv 6 p=.ptr 32 0 0 1∧fv 8 p=.own 3672 0 B2.length B2.length∧lk 3672 i=some ⟨5,1,rb B2⟩∧lk 32 i=some ⟨29,32,[cb z32]⟩)→G p i:=by
            rintro p i⟨q0,q1,q2,q3,q4,q5,q6⟩;refine hG _ _ (b8 ⟨?_,?_,aw⟩)
            · simp[ai,AV.low,AV.l,q0,q1,q2,q3,q4,nb]
            · simp [q5,q6]
              exact⟨aZ _ _,aI _ _⟩
          have V:rb B++[[AV.d (DV.int IntKind.u8 3)]]=rb (B++[3]):=(by simp[rb]);have i:=ig (B++[3]) m (by rw[l];omega) ab;rw[U]at i;simp[go_sem,wn,au,aJ,V]
          repeat' apply And.intro
          all_goals first
            |omega
            | (refine j8 [832] i rfl (ak (.one (am (bq l rfl aw))) (ak (.deep a9) aF)) (fun ρ=>by simp [AV.R,AV.r]) ?_
               rintro r j⟨I,rfl,o⟩;refine⟨[(I,0)],by simp[de,gB],?_⟩;simp[go_sem,cj,bK,o,Blk.r,aQ,dE,AV.r,cn,aC];refine hW _ _ ?_
               simp[fv,lk,nb])
        case hq =>
          simp[go_sem,nb,H];refine bJ [] af rfl (ak (.one (am (.nil 1))) (ak (.deep a9) aF)) ?_;simp[go_sem,aC];refine ag aG a9 ?_;have F:=(jz O).trans (dx Q);simp[go_sem]at F;simp[go_sem,W,nb,O,aj,cf,F,aJ,lJ];have C:rb (B2++Q)++(List.map ((fun r=>List.map AV.d r)∘fun(b:Nat)=>[DV.int IntKind.u8 (b:Int)]) h++[[AV.d (DV.int IntKind.u8 0)]])=rb (B2++Q++h++[0]):=(by simp[rb])
          have D:(B2++Q++h++[0]).length=B2.length+32+32+1:=(by simp[W,O]);rw[C];refine⟨aq,aq,aq,?_⟩;generalize B2++Q++h++[0]=B3 at *;have i:=ig B3 4294967295 aq aq;rw[←g]at i;have aD:M.length≤1000:=by rw[g,b_,aO];omega
          refine j8 [3672] i rfl (ak (.one (am (bq D rfl aw))) (ak (.deep a9) aF)) (fun ρ=>by simp[AV.R,AV.r]) ?_;rintro r j⟨I,rfl,o⟩;refine⟨[(I,0)],by simp[de,gB],?_⟩;simp[go_sem,cj,bK,o,Blk.r,aQ,dE,AV.r,cn,aC];clear o j;refine bJ [6704] (jc jZ _ rfl M (by simp[jZ]) aq) rfl (ak (.deep a9) (ak (.one (am (bq rfl rfl aw))) aF)) ?_;have hR:=aR (bc jZ++(bc jZ++M));have v:(fQ jZ M).length=32:=hR;generalize fQ jZ M=S at *;simp[go_sem,aC,v,aj,al v,cf,ah]
          exact aa (by
            intro c hc;simp only[d_,List.mem_nil_iff,or_false]at hc;rcases hc with rfl|rfl
            · exact .inr ⟨_,rfl,bp _⟩
            · exact .inl trivial) rfl
theorem FM(b:List Nat)(e:b.length≤100000000000):fm prog 52 [.d (nb b)] (.d (nb b)):=by
 refine bL func52 ntmps52 (rs:=[.tmp 2]) a9 ?_;simp only[go_sem,nb,Nat.reduceEqDiff,Nat.reduceAdd,Nat.reduceLT,↓reduceIte];intro t a
 cases t with
 |true =>
  have c:b=[]:=List.eq_nil_of_length_eq_zero (by simpa using a rfl);subst c;simp only[go_sem,Nat.reduceAdd,Nat.reduceLT,↓reduceIte];exact d5 (.inr ⟨_,rfl,.nil 1⟩) a9 rfl
 |false =>
  simp[go_sem,dx,aJ];refine⟨aq,d5 (am (bq (L:=b) rfl rfl trivial)) a9 rfl⟩
theorem dU(n:Nat)(inner:List Nat)(a b:AV)(e:a.l n)(d:b.l n):∀v,v∈au inner a b→v.l n:=by
 intro v c;unfold au at c;rcases cD.1 c with h|h;exact aI _ _ v h;simp at h;rcases h with rfl|rfl;exact e;exact d
theorem oD:∀l:List (List Nat),(∀p,p∈l→p.length=32)→l.flatten.length=32*l.length
 |[],_=>rfl
 |a::r,h=>by rw[List.flatten_cons,b_,oD r (fun p b=>h p (by simp[b])),h a aw,List.length_cons];omega
def pJ:Nat→AV
 |0=>.nil
 |k+1=>.own 9320 0 (k+1) (k+1)
def pH(inner x:List Nat)(ps:List (List Nat)):Nat→Hp
 |0=>[(1184,⟨33,34,[au inner .nil (.d (nb x))]⟩),(0,⟨33,34,[au z32 .nil .nil]⟩)]
 |k+1=>[(9320,⟨29,32,(ps.take (k+1)).map cb⟩),(1184,⟨33,34,[au inner (.own 9320 0 (k+1) (k+1)) (.d (nb x))]⟩),(0,⟨33,34,[au z32 .nil .nil]⟩)]
def pN:Nat→Nat
 |0=>9000
 |_=>20000
theorem nH{inner:List Nat}(hi:inner.length=32)(a b c:AV):(au inner a b).set 32 c=au inner c b:=by
 have d:(cb inner).length=32:=by rw[aj,hi]
 unfold au;rw[List.set_append_right _ _ aq,d];rfl
theorem cv{inner:List Nat}(hi:inner.length=32)(a b:AV):(au inner a b).length=34:=by simp[au,aj,hi]
theorem tL(n:Nat)(l:List (List Nat)):∀r,r∈l.map cb→∀v,v∈r→v.l n:=by
 intro r a v b;obtain⟨p,_,rfl⟩:=List.mem_map.1 a;exact aI _ _ v b
theorem cy{inner:List Nat}(hi:inner.length=32)(a b:AV):List.take 34 (au inner a b)=au inner a b:=cx (by rw[cv hi];exact cL _)
theorem QU(ps:List (List Nat)):(ps.map cd).map (fun r=>r.map AV.d)=ps.map cb:=by
 rw[List.map_map];exact List.map_congr_left fun p _=>dc p
theorem H8{hp:Hp}{I:Nat→Prop}(inner:List Nat){J S b S':AV}(d:fP hp I J b)(f:fP hp I S S'):sA hp I (au inner J S) (au inner b S'):=by
 refine⟨by simp[au],fun i c g hc a=>?_⟩;unfold au at hc a;rcases Nat.lt_or_ge i (cb inner).length with h|h;rw[List.getElem?_append_left h]at hc a;rw[hc]at a;injection a with e;subst e;exact .inl ⟨rfl,bp _ _ (cr hc)⟩
 ·rw[dn h]at hc a;generalize i-(cb inner).length=k at hc a
  match k,hc,a with
  |0,hc,a=>simp at hc a;subst hc a;exact d
  |1,hc,a=>simp at hc a;subst hc a;exact f
  |n+2,hc,_=>simp at hc
theorem qE{Q:AV→Prop}{st:St}{inner:List Nat}{J S:AV}{f S':DV}{b:Bool}{e:Int}(k:fP st.hp (fun _=>True) J (.d f))(j:fP st.hp (fun _=>True) S (.d S'))(hq:Q (.tup [.agg (au inner (.d f) (.d S')),.d (.bool b),.d (.int .i64 e)])):dG Q (.tup [.agg (au inner J S),.d (.bool b),.d (.int .i64 e)]) st:=by
 refine⟨_,.tup (cs':=[.agg (au inner (.d f) (.d S')),.d (.bool b),.d (.int .i64 e)]) rfl fun i c l hc a=>?_,?_,hq⟩
 ·match i,hc,a with
  |0,hc,a=>simp at hc a;subst hc a;exact .inr ⟨_,_,rfl,rfl,H8 inner k j⟩
  |1,hc,a=>simp at hc a;subst hc a;exact .inl (aM trivial)
  |2,hc,a=>simp at hc a;subst hc a;exact .inl (aM trivial)
  |n+3,hc,_=>simp at hc
 ·intro c hc;simp at hc;rcases hc with rfl|rfl|rfl;refine .inr ⟨_,rfl,fun x g=>?_⟩;unfold au at g;rcases cD.1 g with h|h;exact bp _ _ h;simp at h;rcases h with rfl|rfl<;>trivial;exact .inl trivial;exact .inl trivial
theorem tM{inner:List Nat}(hi:inner.length=32)(a b X:AV):List.take 33 (List.take 32 (cb inner)++[a,b])++X::List.drop 34 (List.take 32 (cb inner)++[a,b])=au inner a X:=by
 have c:(cb inner).length=32:=by rw[aj,hi]
 rw[al hi,List.take_append,cx aq,c_ (by simp[c]),c];simp[au]
theorem LQ(n m:Nat)(l:List (List Nat))(q:List Nat):∀r,r∈List.take m (List.map cb l)++[cb q]→∀v,v∈r→v.l n:=by
 intro r a;rcases cD.1 a with h|h;exact tL _ _ r (List.mem_of_mem_take h);simp at h;subst h;exact aI _ _
theorem qF{inner:List Nat}(hi:inner.length=32)(a b:AV):(List.drop 32 (au inner a b)).head?=some a:=by
 have c:(cb inner).length=32:=by rw[aj,hi]
 unfold au;rw[List.drop_append_of_le_length aq,c_ aq];rfl
theorem Vt{inner x:List Nat}{ps:List (List Nat)}(o:Bool)(hi:inner.length=32)(i:∀p,p∈ps→p.length=32)(ac:ps.length≤8)(hx:x.length≤1000) :
  fm prog 119 [.d (nb (iC o inner ps)),.d (nb x)] (.tup [.agg (au inner (.d (cz ps)) (.d (nb x))),.d (.bool o),.d (.int .i64 0)]):=by
 refine bL func119 ntmps119 (rs:=[.cell 4 33,.tmp 5,.tmp 6]) a9 ?_;have aa:=oD ps i;have C:(iC o inner ps).length=33+32*ps.length:=by unfold iC;rw[List.length_cons,b_,hi];omega
 have Z:IntKind.i64.wrap (((iC o inner ps).length:Int)-33)=((32*ps.length:Nat):Int):=by rw[IntWalk.i64_in _ aq];omega
 have i1:¬(((32*ps.length:Nat):Int)<0):=aq;have i2:(((32*ps.length:Nat):Int))%32=0:=aq;have X:(((32*ps.length:Nat):Int)).tmod 32=0:=i2;have i3:¬(256<((32*ps.length:Nat):Int)):=aq;have i4:¬(1000<(x.length:Int)):=aq;generalize hN:32*ps.length=N at *;have e2:(List.map (fun(b:Nat)=>[DV.int .u8 (b:Int)]) inner).flatten=cd inner:=by
  clear aa C hi Z
  induction inner with
  |nil=>rfl
  |cons x r ih=>simp only[List.map_cons,List.flatten_cons,ih];rfl
 have f:(au z32 .nil .nil).length=34:=rfl;have l:List.drop 34 (au z32 .nil .nil)=[]:=rfl;have lz:List.drop 32 (au z32 .nil .nil)=[.nil,.nil]:=rfl;cases o
 ·have g:(iC false inner ps)[0]?=some 192:=rfl;have hm:Go.bits .andNot .u8 192 1=192:=by decide
  have K:Go.bits .and .u8 192 1=0:=by decide
  have e1:List.take 32 (List.drop 1 (List.map (fun(b:Nat)=>[DV.int .u8 (b:Int)]) (iC false inner ps)))=List.map (fun(b:Nat)=>[DV.int .u8 (b:Int)]) inner:=by
   unfold iC;rw[List.map_cons,List.drop_succ_cons,List.drop_zero,List.map_append,List.take_left' (by simp[hi])]
  have P:(List.take 33 (List.map (fun(b:Nat)=>[DV.int .u8 (b:Int)]) (iC false inner ps))).tail=List.map (fun(b:Nat)=>[DV.int .u8 (b:Int)]) inner:=by
   unfold iC;rw[List.map_cons,List.take_succ_cons,List.tail_cons,List.map_append,List.take_left' (by simp[hi])]
  have i5:(33:Int)≤33+(N:Int):=aq;simp[go_sem,nb,Z,i1,X,i3,i4,g,hm];refine dI [0,1,2,3,4] [5,7,8] [0,1,2,3,4,6] (.alt (.step 5 [6] true (bt 7 (a_ [8]))) (bt 7 (.step 5 [6] true (a_ [8])))) ⟨[(0,.d (nb (iC false inner ps))),(4,.ptr 0 0 0 1),(8,.ptr 1184 0 0 1)],[(1184,⟨33,34,[au inner .nil (.d (nb x))]⟩),(0,⟨33,34,[au z32 .nil .nil]⟩)],9000⟩ (k:=9) ?h3 ?hq
  case h3 =>
   intro G m;have j:∀(e:Fr)(c:Hp),(fv 0 e=.d (nb (iC false inner ps))∧fv 4 e=.ptr 0 0 0 1∧fv 8 e=.ptr 1184 0 0 1∧lk 1184 c=some ⟨33,34,[au inner .nil (.d (nb x))]⟩∧lk 0 c=some ⟨33,34,[au z32 .nil .nil]⟩)→G e c:=by
    rintro e c⟨V,L,S,M,Y⟩;exact m _ _ qK
   simp[go_sem,P,i5,e2,hi,C,aj,dc,f,-List.map_flatten,-List.length_flatten,dM]
   repeat' first|exact j _ _ ⟨rfl,rfl,rfl,rfl,rfl⟩|(refine j _ _ ?_;simp[fv,lk];done)|refine ag (FM x aq) a9 ?_|apply And.intro|simp[go_sem,nb,lz,tM hi,cv hi,hi,aj,f,l,-List.map_flatten,-List.length_flatten,dM]
  case hq =>
   have e5:List.drop 33 (List.map (fun(b:Nat)=>[DV.int .u8 (b:Int)]) (iC false inner ps))=List.map (fun(b:Nat)=>[DV.int .u8 (b:Int)]) ps.flatten:=by
    unfold iC;rw[List.map_cons,List.drop_succ_cons,List.map_append,List.drop_left' (by simp[hi])]
   have ab:List.drop 0 ps=ps:=rfl;have e6:List.take (33+(N:Int)).toNat (List.map (fun(b:Nat)=>[DV.int .u8 (b:Int)]) (iC false inner ps))=List.map (fun(b:Nat)=>[DV.int .u8 (b:Int)]) (iC false inner ps):=cx (by rw[List.length_map,C];omega);simp[go_sem,nb,e5,e6,C,-List.map_flatten,-List.length_flatten];refine⟨aq,?_⟩
   refine av (fun k:Nat=>⟨[(0,.d (nb (iC false inner ps))),(4,.ptr 0 0 0 1),(8,.ptr 1184 0 0 1),(9,.d (nb (ps.drop k).flatten))],pH inner x ps k,pN k⟩)
    (fun k=>k≤ps.length) (fun k=>ps.length-k) 0 aq (by
     simp[aA,ai,fv,lk,AV.low,AV.l,pH,pN,nb,-List.map_flatten]
     exact⟨dU _ _ _ _ trivial trivial,dU _ _ _ _ trivial trivial⟩) ?_
   intro k hk;simp only[go_sem,Nat.reduceEqDiff,Nat.reduceLT,↓reduceIte];have B:=oD (ps.drop k) (fun p c=>i p (List.mem_of_mem_drop c));rw[e_]at B;by_cases A:k<ps.length
   ·have w:(0:Int)<(((ps.drop k).flatten.length:Nat):Int):=aq;have c:=cm A;have s:ps.drop k=ps[k]::ps.drop (k+1):=List.drop_eq_getElem_cons A;have t:ps.take (k+1)=ps.take k++[ps[k]]:=List.take_succ_eq_append_getElem A;generalize ps[k]=q at c s t;have hq:q.length=32:=i q (cr c);have I:List.take 32 (List.map (fun(b:Nat)=>[DV.int .u8 (b:Int)]) (ps.drop k).flatten)=List.map (fun(b:Nat)=>[DV.int .u8 (b:Int)]) q:=by
     rw[s,List.flatten_cons,List.map_append,List.take_left' (by simp[hq])]
    have J:List.drop 32 (List.map (fun(b:Nat)=>[DV.int .u8 (b:Int)]) (ps.drop k).flatten)=List.map (fun(b:Nat)=>[DV.int .u8 (b:Int)]) (ps.drop (k+1)).flatten:=by
     rw[s,List.flatten_cons,List.map_append,List.drop_left' (by simp[hq])]
    have R:(List.map (fun(b:Nat)=>[DV.int .u8 (b:Int)]) q).flatten=cd q:=by
     clear c s t hq I J
     induction q with
     |nil=>rfl
     |cons x r ih=>simp only[List.map_cons,List.flatten_cons,ih];rfl
    have u:32≤(ps.drop k).flatten.length:=aq;cases k with
    |zero =>
     refine⟨fun _=>?_,fun h=>absurd w (by simpa only[nb,List.length_map]using h)⟩;simp only[List.drop_zero]at I J u;have a:(32:Int)≤(ps.flatten.length:Int):=aq;have E:min 32 ps.flatten.length=32:=aq;simp only[pH,pN];refine cK [0,1,2,3,4,5] [(6,[]),(7,[8]),(9,[])] 2 (k:=10) ?_;intro G m;simp[go_sem,nb,a,I,R,qF hi,nH hi,cv hi,hq,dc,al hq,aj,-List.map_flatten,-List.length_flatten];refine m _ _ ?_;have Q:ps.flatten.length=32*(ps.length-0):=(by simpa using B)
     have O:List.take ps.flatten.length (List.map (fun(b:Nat)=>[DV.int .u8 (b:Int)]) ps.flatten)=List.map (fun(b:Nat)=>[DV.int .u8 (b:Int)]) ps.flatten:=cx (by rw[List.length_map];omega);simp[go_sem,nb,a,O,J,-List.map_flatten,-List.length_flatten];refine ao (0+1) aq aq ?_;have z:(ps.take (0+1)).map cb=(ps.take 0).map cb++[cb q]:=by rw[t];simp
     simp[aA,ai,fv,lk,AV.low,AV.l,-List.map_flatten,-List.length_flatten,-List.map_take,-List.map_drop];have T:List.take 1 (List.map cb ps)=[cb q]:=by rw[←List.map_take];exact z
     rw[T];refine⟨⟨rfl,fun r y=>?_⟩,dU _ _ _ _ (by simp[AV.l]) trivial,dU _ _ _ _ trivial trivial⟩;simp at y;subst y;exact aI _ _
    | succ k =>
     refine⟨fun _=>?_,fun h=>absurd w (by simpa only[nb,List.length_map]using h)⟩;have a:(32:Int)≤((ps.drop (k+1)).flatten.length:Int):=aq;have F:min (k+1) ps.length=k+1:=aq;have W:k+1≤ps.length:=aq;have v:(k+1+1)*32≤140737488355328:=aq;have D:k<ps.length:=aq;have E:min 32 (ps.drop (k+1)).flatten.length=32:=aq;simp only[pH,pN];refine dI [0,1,2,3,4,5] [6,7,8,9] [0,1,2,3,4,5] (bt 6 (a_ [7,8,9])) ⟨[(0,.d (nb (iC false inner ps))),(4,.ptr 0 0 0 1),(8,.ptr 1184 0 0 1),(9,.d (nb (ps.drop (k+1)).flatten))],[(9320,⟨29,32,List.take (k+1) (List.map cb ps)++[cb q]⟩),(1184,⟨33,34,[au inner (.own 9320 0 (k+1+1) (k+1+1)) (.d (nb x))]⟩),(0,⟨33,34,[au z32 .nil .nil]⟩)],21000⟩ (k:=10) ?h3 ?hq
     case h3 =>
      intro G m;have j:∀(e:Fr)(c:Hp),(fv 0 e=.d (nb (iC false inner ps))∧fv 4 e=.ptr 0 0 0 1∧fv 8 e=.ptr 1184 0 0 1∧fv 9 e=.d (nb (ps.drop (k+1)).flatten)∧lk 9320 c=some ⟨29,32,List.take (k+1) (List.map cb ps)++[cb q]⟩∧lk 1184 c=some ⟨33,34,[au inner (.own 9320 0 (k+1+1) (k+1+1)) (.d (nb x))]⟩∧lk 0 c=some ⟨33,34,[au z32 .nil .nil]⟩)→G e c:=by
       rintro e c⟨V,L,S,M,Y,q5,q6⟩;exact m _ _ qK
      simp[go_sem,nb,v,a,F,I,R,qF hi,nH hi,cv hi,hq,dc,al hq,aj,-List.map_flatten,-List.length_flatten,dM]
      repeat' first|exact j _ _ ⟨rfl,rfl,rfl,rfl,rfl,rfl,rfl⟩|(refine j _ _ ?_;simp[fv,lk];done)|fail|apply And.intro|simp[go_sem,nb,v,u,a,E,F,W,D,I,J,R,qF hi,nH hi,cv hi,b7,hq,dc,al hq,aj,-List.map_flatten,-List.length_flatten,dM]
     case hq =>
      have Q:(ps.drop (k+1)).flatten.length=32*(ps.length-(k+1)):=(by simpa using B);have O:List.take (ps.drop (k+1)).flatten.length (List.map (fun(b:Nat)=>[DV.int .u8 (b:Int)]) (ps.drop (k+1)).flatten)=List.map (fun(b:Nat)=>[DV.int .u8 (b:Int)]) (ps.drop (k+1)).flatten:=cx (by rw[List.length_map];omega);simp[go_sem,nb,a,O,J,-List.map_flatten,-List.length_flatten];refine ao ((k+1)+1) aq aq ?_;have z:(ps.take ((k+1)+1)).map cb=(ps.take (k+1)).map cb++[cb q]:=by rw[t];simp
      simp[aA,ai,fv,lk,AV.low,AV.l,-List.map_flatten,-List.length_flatten,-List.map_take,-List.map_drop];refine⟨⟨?_,fun r y=>?_⟩,dU _ _ _ _ (by simp[AV.l]) trivial,dU _ _ _ _ trivial trivial⟩;rw[←List.map_take,←List.map_take];exact z.symm;exact tL _ ps r (List.mem_of_mem_take y)
   ·have n:k=ps.length:=aq;have hz:¬((0:Int)<(((ps.drop k).flatten.length:Nat):Int)):=aq;refine⟨fun h=>absurd (by simpa only[nb,List.length_map]using h) hz,fun _=>?_⟩;cases k with
    | zero =>
     have H:ps=[]:=List.eq_nil_of_length_eq_zero n.symm;subst H;simp only[pH,pN];refine dI [0] [1,2,3,4,5,6,7,8] [0] (.alt (bt 1 (.alt (bt 2 (.alt (bt 3 (.alt (bt 4 (.alt (bt 5 (a_ [6,7,8])) (a_ [6,5,7,8]))) (a_ [6,4,5,7,8]))) (a_ [6,3,4,5,7,8]))) (a_ [6,2,3,4,5,7,8]))) (a_ [6,1,2,3,4,5,7,8])) ⟨[(4,.ptr 0 0 0 1),(5,.d (.bool false)),(6,.d (.int .i64 0))],[(0,⟨33,34,[au inner .nil (.d (nb x))]⟩)],30000⟩ (k:=9) ?h3 ?hq
     case h3 =>
      intro G m;have j:∀(e:Fr)(c:Hp),(fv 4 e=.ptr 0 0 0 1∧fv 5 e=.d (.bool false)∧fv 6 e=.d (.int .i64 0)∧lk 0 c=some ⟨33,34,[au inner .nil (.d (nb x))]⟩)→G e c:=by
       rintro e c⟨V,L,S,M⟩;exact m _ _ qK
      simp (config := { maxSteps := 1000000 }) [go_sem,nb,g,K,cv hi,cy hi,f,l,-List.map_flatten,-List.length_flatten,dM]
      repeat' first|exact j _ _ ⟨rfl,rfl,rfl,rfl⟩|(refine j _ _ ?_;simp[fv,lk];done)|fail|apply And.intro|simp (config := { maxSteps := 1000000 }) [go_sem,nb,g,K,cv hi,cy hi,f,l,-List.map_flatten,-List.length_flatten,dM]
     case hq =>
      simp[go_sem,cv hi,cy hi,ah];exact qE (.inr ⟨_,rfl,.nil 32⟩) (.inl ⟨rfl,trivial⟩) rfl
    | succ k =>
     have U:ps.take (k+1)=ps:=cx aq;simp only[pH,pN,U];refine dI [0] [1,2,3,4,5,6,7,8] [0] (.alt (bt 1 (.alt (bt 2 (.alt (bt 3 (.alt (bt 4 (.alt (bt 5 (a_ [6,7,8])) (a_ [6,5,7,8]))) (a_ [6,4,5,7,8]))) (a_ [6,3,4,5,7,8]))) (a_ [6,2,3,4,5,7,8]))) (a_ [6,1,2,3,4,5,7,8])) ⟨[(4,.ptr 0 0 0 1),(5,.d (.bool false)),(6,.d (.int .i64 0))],[(9320,⟨29,32,ps.map cb⟩),(0,⟨33,34,[au inner (.own 9320 0 (k+1) (k+1)) (.d (nb x))]⟩)],30000⟩ (k:=9) ?h3 ?hq
     case h3 =>
      intro G m;have j:∀(e:Fr)(c:Hp),(fv 4 e=.ptr 0 0 0 1∧fv 5 e=.d (.bool false)∧fv 6 e=.d (.int .i64 0)∧lk 9320 c=some ⟨29,32,ps.map cb⟩∧lk 0 c=some ⟨33,34,[au inner (.own 9320 0 (k+1) (k+1)) (.d (nb x))]⟩)→G e c:=by
       rintro e c⟨V,L,S,M,Y⟩;exact m _ _ qK
      simp (config := { maxSteps := 1000000 }) [go_sem,nb,g,K,cv hi,cy hi,f,l,-List.map_flatten,-List.length_flatten,dM]
      repeat' first|exact j _ _ ⟨rfl,rfl,rfl,rfl,rfl⟩|(refine j _ _ ?_;simp[fv,lk];done)|fail|apply And.intro|simp (config := { maxSteps := 1000000 }) [go_sem,nb,g,K,cv hi,cy hi,f,l,-List.map_flatten,-List.length_flatten,dM]
     case hq =>
      simp[go_sem,cv hi,cy hi,ah];exact qE (.inr ⟨_,rfl,kJ (rows:=ps.map cb) rfl trivial (by simp[n]) (by rw[List.drop_zero,cx (by simp[n]),←QU ps];exact lG _) (by simp[n]) (by intro r y;simp at y;obtain⟨p,c,rfl⟩:=y;rw[b7];exact i p c)⟩) (.inl ⟨rfl,trivial⟩) rfl
 ·have g:(iC true inner ps)[0]?=some 193:=rfl;have hm:Go.bits .andNot .u8 193 1=192:=by decide
  have K:Go.bits .and .u8 193 1=1:=by decide
  have e1:List.take 32 (List.drop 1 (List.map (fun(b:Nat)=>[DV.int .u8 (b:Int)]) (iC true inner ps)))=List.map (fun(b:Nat)=>[DV.int .u8 (b:Int)]) inner:=by
   unfold iC;rw[List.map_cons,List.drop_succ_cons,List.drop_zero,List.map_append,List.take_left' (by simp[hi])]
  have P:(List.take 33 (List.map (fun(b:Nat)=>[DV.int .u8 (b:Int)]) (iC true inner ps))).tail=List.map (fun(b:Nat)=>[DV.int .u8 (b:Int)]) inner:=by
   unfold iC;rw[List.map_cons,List.take_succ_cons,List.tail_cons,List.map_append,List.take_left' (by simp[hi])]
  have i5:(33:Int)≤33+(N:Int):=aq;simp[go_sem,nb,Z,i1,X,i3,i4,g,hm];refine dI [0,1,2,3,4] [5,7,8] [0,1,2,3,4,6] (.alt (.step 5 [6] true (bt 7 (a_ [8]))) (bt 7 (.step 5 [6] true (a_ [8])))) ⟨[(0,.d (nb (iC true inner ps))),(4,.ptr 0 0 0 1),(8,.ptr 1184 0 0 1)],[(1184,⟨33,34,[au inner .nil (.d (nb x))]⟩),(0,⟨33,34,[au z32 .nil .nil]⟩)],9000⟩ (k:=9) ?h3 ?hq
  case h3 =>
   intro G m;have j:∀(e:Fr)(c:Hp),(fv 0 e=.d (nb (iC true inner ps))∧fv 4 e=.ptr 0 0 0 1∧fv 8 e=.ptr 1184 0 0 1∧lk 1184 c=some ⟨33,34,[au inner .nil (.d (nb x))]⟩∧lk 0 c=some ⟨33,34,[au z32 .nil .nil]⟩)→G e c:=by
    rintro e c⟨V,L,S,M,Y⟩;exact m _ _ qK
   simp[go_sem,P,i5,e2,hi,C,aj,dc,f,-List.map_flatten,-List.length_flatten,dM]
   repeat' first|exact j _ _ ⟨rfl,rfl,rfl,rfl,rfl⟩|(refine j _ _ ?_;simp[fv,lk];done)|refine ag (FM x aq) a9 ?_|apply And.intro|simp[go_sem,nb,lz,tM hi,cv hi,hi,aj,f,l,-List.map_flatten,-List.length_flatten,dM]
  case hq =>
   have e5:List.drop 33 (List.map (fun(b:Nat)=>[DV.int .u8 (b:Int)]) (iC true inner ps))=List.map (fun(b:Nat)=>[DV.int .u8 (b:Int)]) ps.flatten:=by
    unfold iC;rw[List.map_cons,List.drop_succ_cons,List.map_append,List.drop_left' (by simp[hi])]
   have ab:List.drop 0 ps=ps:=rfl;have e6:List.take (33+(N:Int)).toNat (List.map (fun(b:Nat)=>[DV.int .u8 (b:Int)]) (iC true inner ps))=List.map (fun(b:Nat)=>[DV.int .u8 (b:Int)]) (iC true inner ps):=cx (by rw[List.length_map,C];omega);simp[go_sem,nb,e5,e6,C,-List.map_flatten,-List.length_flatten];refine⟨aq,?_⟩
   refine av (fun k:Nat=>⟨[(0,.d (nb (iC true inner ps))),(4,.ptr 0 0 0 1),(8,.ptr 1184 0 0 1),(9,.d (nb (ps.drop k).flatten))],pH inner x ps k,pN k⟩)
    (fun k=>k≤ps.length) (fun k=>ps.length-k) 0 aq (by
     simp[aA,ai,fv,lk,AV.low,AV.l,pH,pN,nb,-List.map_flatten]
     exact⟨dU _ _ _ _ trivial trivial,dU _ _ _ _ trivial trivial⟩) ?_
   intro k hk;simp only[go_sem,Nat.reduceEqDiff,Nat.reduceLT,↓reduceIte];have B:=oD (ps.drop k) (fun p c=>i p (List.mem_of_mem_drop c));rw[e_]at B;by_cases A:k<ps.length
   ·have w:(0:Int)<(((ps.drop k).flatten.length:Nat):Int):=aq;have c:=cm A;have s:ps.drop k=ps[k]::ps.drop (k+1):=List.drop_eq_getElem_cons A;have t:ps.take (k+1)=ps.take k++[ps[k]]:=List.take_succ_eq_append_getElem A;generalize ps[k]=q at c s t;have hq:q.length=32:=i q (cr c);have I:List.take 32 (List.map (fun(b:Nat)=>[DV.int .u8 (b:Int)]) (ps.drop k).flatten)=List.map (fun(b:Nat)=>[DV.int .u8 (b:Int)]) q:=by
     rw[s,List.flatten_cons,List.map_append,List.take_left' (by simp[hq])]
    have J:List.drop 32 (List.map (fun(b:Nat)=>[DV.int .u8 (b:Int)]) (ps.drop k).flatten)=List.map (fun(b:Nat)=>[DV.int .u8 (b:Int)]) (ps.drop (k+1)).flatten:=by
     rw[s,List.flatten_cons,List.map_append,List.drop_left' (by simp[hq])]
    have R:(List.map (fun(b:Nat)=>[DV.int .u8 (b:Int)]) q).flatten=cd q:=by
     clear c s t hq I J
     induction q with
     |nil=>rfl
     |cons x r ih=>simp only[List.map_cons,List.flatten_cons,ih];rfl
    have u:32≤(ps.drop k).flatten.length:=aq;cases k with
    |zero =>
     refine⟨fun _=>?_,fun h=>absurd w (by simpa only[nb,List.length_map]using h)⟩;simp only[List.drop_zero]at I J u;have a:(32:Int)≤(ps.flatten.length:Int):=aq;have E:min 32 ps.flatten.length=32:=aq;simp only[pH,pN];refine cK [0,1,2,3,4,5] [(6,[]),(7,[8]),(9,[])] 2 (k:=10) ?_;intro G m;simp[go_sem,nb,a,I,R,qF hi,nH hi,cv hi,hq,dc,al hq,aj,-List.map_flatten,-List.length_flatten];refine m _ _ ?_;have Q:ps.flatten.length=32*(ps.length-0):=(by simpa using B)
     have O:List.take ps.flatten.length (List.map (fun(b:Nat)=>[DV.int .u8 (b:Int)]) ps.flatten)=List.map (fun(b:Nat)=>[DV.int .u8 (b:Int)]) ps.flatten:=cx (by rw[List.length_map];omega);simp[go_sem,nb,a,O,J,-List.map_flatten,-List.length_flatten];refine ao (0+1) aq aq ?_;have z:(ps.take (0+1)).map cb=(ps.take 0).map cb++[cb q]:=by rw[t];simp
     simp[aA,ai,fv,lk,AV.low,AV.l,-List.map_flatten,-List.length_flatten,-List.map_take,-List.map_drop];have T:List.take 1 (List.map cb ps)=[cb q]:=by rw[←List.map_take];exact z
     rw[T];refine⟨⟨rfl,fun r y=>?_⟩,dU _ _ _ _ (by simp[AV.l]) trivial,dU _ _ _ _ trivial trivial⟩;simp at y;subst y;exact aI _ _
    | succ k =>
     refine⟨fun _=>?_,fun h=>absurd w (by simpa only[nb,List.length_map]using h)⟩;have a:(32:Int)≤((ps.drop (k+1)).flatten.length:Int):=aq;have F:min (k+1) ps.length=k+1:=aq;have W:k+1≤ps.length:=aq;have v:(k+1+1)*32≤140737488355328:=aq;have D:k<ps.length:=aq;have E:min 32 (ps.drop (k+1)).flatten.length=32:=aq;simp only[pH,pN];refine dI [0,1,2,3,4,5] [6,7,8,9] [0,1,2,3,4,5] (bt 6 (a_ [7,8,9])) ⟨[(0,.d (nb (iC true inner ps))),(4,.ptr 0 0 0 1),(8,.ptr 1184 0 0 1),(9,.d (nb (ps.drop (k+1)).flatten))],[(9320,⟨29,32,List.take (k+1) (List.map cb ps)++[cb q]⟩),(1184,⟨33,34,[au inner (.own 9320 0 (k+1+1) (k+1+1)) (.d (nb x))]⟩),(0,⟨33,34,[au z32 .nil .nil]⟩)],21000⟩ (k:=10) ?h3 ?hq
     case h3 =>
      intro G m;have j:∀(e:Fr)(c:Hp),(fv 0 e=.d (nb (iC true inner ps))∧fv 4 e=.ptr 0 0 0 1∧fv 8 e=.ptr 1184 0 0 1∧fv 9 e=.d (nb (ps.drop (k+1)).flatten)∧lk 9320 c=some ⟨29,32,List.take (k+1) (List.map cb ps)++[cb q]⟩∧lk 1184 c=some ⟨33,34,[au inner (.own 9320 0 (k+1+1) (k+1+1)) (.d (nb x))]⟩∧lk 0 c=some ⟨33,34,[au z32 .nil .nil]⟩)→G e c:=by
       rintro e c⟨V,L,S,M,Y,q5,q6⟩;exact m _ _ qK
      simp[go_sem,nb,v,a,F,I,R,qF hi,nH hi,cv hi,hq,dc,al hq,aj,-List.map_flatten,-List.length_flatten,dM]
      repeat' first|exact j _ _ ⟨rfl,rfl,rfl,rfl,rfl,rfl,rfl⟩|(refine j _ _ ?_;simp[fv,lk];done)|fail|apply And.intro|simp[go_sem,nb,v,u,a,E,F,W,D,I,J,R,qF hi,nH hi,cv hi,b7,hq,dc,al hq,aj,-List.map_flatten,-List.length_flatten,dM]
     case hq =>
      have Q:(ps.drop (k+1)).flatten.length=32*(ps.length-(k+1)):=(by simpa using B);have O:List.take (ps.drop (k+1)).flatten.length (List.map (fun(b:Nat)=>[DV.int .u8 (b:Int)]) (ps.drop (k+1)).flatten)=List.map (fun(b:Nat)=>[DV.int .u8 (b:Int)]) (ps.drop (k+1)).flatten:=cx (by rw[List.length_map];omega);simp[go_sem,nb,a,O,J,-List.map_flatten,-List.length_flatten];refine ao ((k+1)+1) aq aq ?_;have z:(ps.take ((k+1)+1)).map cb=(ps.take (k+1)).map cb++[cb q]:=by rw[t];simp
      simp[aA,ai,fv,lk,AV.low,AV.l,-List.map_flatten,-List.length_flatten,-List.map_take,-List.map_drop];refine⟨⟨?_,fun r y=>?_⟩,dU _ _ _ _ (by simp[AV.l]) trivial,dU _ _ _ _ trivial trivial⟩;rw[←List.map_take,←List.map_take];exact z.symm;exact tL _ ps r (List.mem_of_mem_take y)
   ·have n:k=ps.length:=aq;have hz:¬((0:Int)<(((ps.drop k).flatten.length:Nat):Int)):=aq;refine⟨fun h=>absurd (by simpa only[nb,List.length_map]using h) hz,fun _=>?_⟩;cases k with
    | zero =>
     have H:ps=[]:=List.eq_nil_of_length_eq_zero n.symm;subst H;simp only[pH,pN];refine dI [0] [1,2,3,4,5,6,7,8] [0] (.alt (bt 1 (.alt (bt 2 (.alt (bt 3 (.alt (bt 4 (.alt (bt 5 (a_ [6,7,8])) (a_ [6,5,7,8]))) (a_ [6,4,5,7,8]))) (a_ [6,3,4,5,7,8]))) (a_ [6,2,3,4,5,7,8]))) (a_ [6,1,2,3,4,5,7,8])) ⟨[(4,.ptr 0 0 0 1),(5,.d (.bool true)),(6,.d (.int .i64 0))],[(0,⟨33,34,[au inner .nil (.d (nb x))]⟩)],30000⟩ (k:=9) ?h3 ?hq
     case h3 =>
      intro G m;have j:∀(e:Fr)(c:Hp),(fv 4 e=.ptr 0 0 0 1∧fv 5 e=.d (.bool true)∧fv 6 e=.d (.int .i64 0)∧lk 0 c=some ⟨33,34,[au inner .nil (.d (nb x))]⟩)→G e c:=by
       rintro e c⟨V,L,S,M⟩;exact m _ _ qK
      simp (config := { maxSteps := 1000000 }) [go_sem,nb,g,K,cv hi,cy hi,f,l,-List.map_flatten,-List.length_flatten,dM]
      repeat' first|exact j _ _ ⟨rfl,rfl,rfl,rfl⟩|(refine j _ _ ?_;simp[fv,lk];done)|fail|apply And.intro|simp (config := { maxSteps := 1000000 }) [go_sem,nb,g,K,cv hi,cy hi,f,l,-List.map_flatten,-List.length_flatten,dM]
     case hq =>
      simp[go_sem,cv hi,cy hi,ah];exact qE (.inr ⟨_,rfl,.nil 32⟩) (.inl ⟨rfl,trivial⟩) rfl
    | succ k =>
     have U:ps.take (k+1)=ps:=cx aq;simp only[pH,pN,U];refine dI [0] [1,2,3,4,5,6,7,8] [0] (.alt (bt 1 (.alt (bt 2 (.alt (bt 3 (.alt (bt 4 (.alt (bt 5 (a_ [6,7,8])) (a_ [6,5,7,8]))) (a_ [6,4,5,7,8]))) (a_ [6,3,4,5,7,8]))) (a_ [6,2,3,4,5,7,8]))) (a_ [6,1,2,3,4,5,7,8])) ⟨[(4,.ptr 0 0 0 1),(5,.d (.bool true)),(6,.d (.int .i64 0))],[(9320,⟨29,32,ps.map cb⟩),(0,⟨33,34,[au inner (.own 9320 0 (k+1) (k+1)) (.d (nb x))]⟩)],30000⟩ (k:=9) ?h3 ?hq
     case h3 =>
      intro G m;have j:∀(e:Fr)(c:Hp),(fv 4 e=.ptr 0 0 0 1∧fv 5 e=.d (.bool true)∧fv 6 e=.d (.int .i64 0)∧lk 9320 c=some ⟨29,32,ps.map cb⟩∧lk 0 c=some ⟨33,34,[au inner (.own 9320 0 (k+1) (k+1)) (.d (nb x))]⟩)→G e c:=by
       rintro e c⟨V,L,S,M,Y⟩;exact m _ _ qK
      simp (config := { maxSteps := 1000000 }) [go_sem,nb,g,K,cv hi,cy hi,f,l,-List.map_flatten,-List.length_flatten,dM]
      repeat' first|exact j _ _ ⟨rfl,rfl,rfl,rfl,rfl⟩|(refine j _ _ ?_;simp[fv,lk];done)|fail|apply And.intro|simp (config := { maxSteps := 1000000 }) [go_sem,nb,g,K,cv hi,cy hi,f,l,-List.map_flatten,-List.length_flatten,dM]
     case hq =>
      simp[go_sem,cv hi,cy hi,ah];exact qE (.inr ⟨_,rfl,kJ (rows:=ps.map cb) rfl trivial (by simp[n]) (by rw[List.drop_zero,cx (by simp[n]),←QU ps];exact lG _) (by simp[n]) (by intro r y;simp at y;obtain⟨p,c,rfl⟩:=y;rw[b7];exact i p c)⟩) (.inl ⟨rfl,trivial⟩) rfl
theorem Vu{P:Program}{K:AV→Hp→Prop}{hp:Hp}(t:TypeId)(a b:Bool):dr P .eql t (.d (.bool a)) (.d (.bool b)) K hp=(P.underlying t=some .bool∧K (.d (.bool (a==b))) hp):=rfl
theorem Vv{P:Program}{K:AV→Hp→Prop}{hp:Hp}(t:TypeId)(a b:Bool):dr P .neq t (.d (.bool a)) (.d (.bool b)) K hp=(P.underlying t=some .bool∧K (.d (.bool (a != b))) hp):=rfl
theorem QV:prog.underlying 4=some .bool:=by kernel_rfl
attribute [go_sem] Vu Vv QV
theorem Vw(a b:DV)(k:List Nat):∀v,v∈[AV.d a,AV.d b,AV.agg (cb k)]→v.deep:=by
 intro v c;simp at c;rcases c with rfl|rfl|rfl;trivial;trivial;exact d6 _
theorem ja(inner:List Nat)(a b:DV):(AV.agg (au inner (.d a) (.d b))).deep:=by
 intro c hc;unfold au at hc;rcases cD.1 hc with h|h;exact bp _ _ h;simp at h;rcases h with rfl|rfl<;>trivial
theorem J8{Q:AV→Prop}{st:St}{inner:List Nat}{a b:DV}{e:Int}(hq:Q (.tup [.agg (au inner (.d a) (.d b)),.d (.int .i64 e)])):dG Q (.tup [.agg (au inner (.d a) (.d b)),.d (.int .i64 e)]) st :=
 aa (by
  intro c hc;simp at hc;rcases hc with rfl|rfl;exact .inr ⟨_,rfl,ja _ _ _⟩
  exact .inl trivial) hq
theorem ZM{P:Program}{s t:TypeId}{a:AV→Hp→Prop}{hp:Hp}(l:List Nat)(el:TypeId)(e:bytes l)(g:cp P s=.slice el)(f:cp P t=.str)(h3:P.underlying el=some (.int .u8))(c:a (.d (.str (sb l))) hp):cvS P s t (l.map fun(x:Nat)=>[DV.int .u8 (x:Int)]) a hp:=by
 refine⟨sb l,by simp[sb],fun b h=>?_,?_⟩;simp only[sb,List.mem_map]at h;obtain⟨x,i,rfl⟩:=h;have:=e x i;omega;rw[g,f];exact⟨h3,c⟩
theorem QW{inner x k i:List Nat}{ps:List (List Nat)}{o:Bool}(hi:inner.length=32)(j:∀p,p∈ps→p.length=32)(m:ps.length≤8)(l:x.length≤1000)(g:k.length=32)(e:i.length=32)(f:fm prog 92 [cE inner ps x] (.tup [.agg (cb k),.d (.bool o),.d (.int .i64 0)])) :
  fm prog 77 [.d (nb (iC o inner ps)),.d (nb x),.agg (cb i)] (if k=i then .tup [.agg (au inner (.d (cz ps)) (.d (nb x))),.d (.int .i64 0)]else .tup [.agg (au z32 .nil .nil),.d (.int .i64 26)]):=by
 refine bL func77 ntmps77 (rs:=[.cell 6 33,.tmp 7]) (Vw _ _ _) ?_;have n:List.drop 32 (cb z32)=[]:=ia rfl;have b:(au z32 .nil .nil).length=34:=rfl;have a:List.drop 34 (au z32 .nil .nil)=[]:=rfl;have s:=Vt o hi j m l;simp[go_sem,aj,e];refine ag s a9 ?_;simp[go_sem,cv hi,cy hi,b,a];refine ag f (cY _ _ _) ?_;by_cases q:k=i
 ·subst q;cases o
  ·simp[go_sem,aj,g,al g,n,we,cv hi,cy hi,b,a,ah];exact J8 rfl
  ·simp[go_sem,aj,g,al g,n,we,cv hi,cy hi,b,a,ah];exact J8 rfl
 ·have u:¬(List.map (fun(x:Nat)=>(x:Int)) k=List.map (fun(x:Nat)=>(x:Int)) i):=fun h=>q (xE.1 h);have t:List.take 34 (au z32 .nil .nil)=au z32 .nil .nil:=rfl;simp[go_sem,aj,g,e,al g,al e,n,we,q,u,b,a,t,ah];refine aa ?_ rfl;intro c hc;simp at hc;rcases hc with rfl|rfl
  exact .inr ⟨_,rfl,fun x l=>by
   unfold au at l;rcases cD.1 l with h|h;exact bp _ _ h
   simp at h;subst h;trivial⟩
  exact .inl trivial
def FN(t:Tn)(out:Int)(a:List Nat)(e:Int):Bool :=
 decide (0≤out)&&match t.outs[out.toNat]? with
  |some o=>decide (e=0)&&decide (o.2=a)
  |none=>false
def jb(coins:List (Nat×List Nat))(n:Int):Nat×List Nat:=(coins[n.toNat]?).getD (0,[])
def QX(o v:Int):List DV:=[.int .i64 o,.int .u64 v]
def AM(t:Tn)(n:Int)(coins:List (Nat×List Nat))(f c b:Int)(a:List Nat)(e:Int):AV :=
 if bI t n coins≠0 then .tup [.nil,.d (.int .i64 1)]
 else if FN t f a e=false∨b<0∨((jb coins n).1:Int)<b then .tup [.nil,.d (.int .i64 24)]
 else if c=-1∧b=0 then .tup [.d (.ro 2 [QX f (((jb coins n).1:Int)-b)]),.d (.int .i64 0)]
 else if c=f∨FN t c (jb coins n).2 0=false then .tup [.nil,.d (.int .i64 24)]
 else .tup [.d (.ro 2 [QX f (((jb coins n).1:Int)-b),QX c b]),.d (.int .i64 0)]
theorem nI{inner:List Nat}(hi:inner.length=32)(a b:AV):(au inner a b).length=34:=by simp[au,aj,hi]
theorem oG{inner:List Nat}(hi:inner.length=32)(a b:AV):List.take 34 (au inner a b)=au inner a b:=cx (by rw[nI hi];exact cL _)
theorem LR{inner:List Nat}(hi:inner.length=32)(a b c:AV):(au inner a b).set 33 c=au inner a c:=by
 have d:(cb inner).length=32:=by rw[aj,hi]
 unfold au;rw[List.set_append_right _ _ aq,d];rfl
theorem LS(t:Tn)(n:Int)(coins:List (Nat×List Nat))(inner:List Nat)(ps:List (List Nat))(x s a:List Nat)(out e:Int)(hi:inner.length=32)(p:bytes a)(h:∀o,o∈t.outs→bytes o.2)
  (g:fm prog 46 [cE inner ps s] (.tup [.d (nb a),.d (.int .i64 e)])) :
  fm prog 65 [.agg (eS t n coins),cE inner ps x,.d (nb s),.d (.int .i64 out)] (.d (.bool (FN t out a e))):=by
 refine bL func65 ntmps65 (rs:=[.tmp 8]) (by
  intro v l;simp at l;rcases l with rfl|rfl|rfl|rfl;simp[AV.deep,AV.deep1,eS];exact ja _ _ _;trivial
  trivial) ?_
 have j:(eS t n coins).length=6:=rfl;have c:List.take 6 (eS t n coins)=eS t n coins:=rfl;simp[go_sem,cE,nI hi,j,c];by_cases b:out<0∨(t.outs.length:Int)≤out
 ·have i:FN t out a e=false:=by
   unfold FN;rcases b with b|b;simp;omega;rw[List.getElem?_eq_none aq];simp
  refine ag (BX t n coins out b) (by simp[AV.deep,AV.deep1,eS]) ?_;rw[i];simp[go_sem,ah];exact aa a9 rfl
 ·obtain⟨k,rfl⟩:∃k:Nat,out=(k:Int):=⟨out.toNat,aq⟩;have q:k<t.outs.length:=aq;obtain⟨o,f⟩:∃o,t.outs[k]?=some o:=⟨_,cm q⟩;have i:FN t k a e=(decide (e=0)&&decide (o.2=a)):=by
   unfold FN;simp[f]
  rw[i];refine ag (yf t n coins k o f) (by simp[AV.deep,AV.deep1,eS]) ?_;simp[go_sem,nI hi,oG hi,LR hi,nb];refine ag g (cY _ _ _) ?_;simp[go_sem];by_cases m:e=0
  ·subst m;simp[go_sem];refine ag (jG o.2 a (h o (cr f)) p) a9 ?_;simp[go_sem,ah];exact aa a9 rfl
  ·simp[go_sem,m,ah];exact aa a9 rfl
theorem FO(t:Tn)(m:Nat)(coins:List (Nat×List Nat))(out:Int)(j:m<coins.length)(f:∀o,o∈t.outs→bytes o.2)(i:∀o,o∈coins→bytes o.2) :
  fm prog 66 [.agg (eS t m coins),.d (.int .i64 out)] (.d (.bool (FN t out (jb coins m).2 0))):=by
 refine bL func66 ntmps66 (rs:=[.tmp 4]) (by simp[AV.deep,AV.deep1,eS]) ?_;obtain⟨c,a⟩:∃o,coins[m]?=some o:=⟨_,cm j⟩;have g:jb coins m=c:=by simp[jb,a]
 simp[go_sem,eS];by_cases b:out<0∨(t.outs.length:Int)≤out
 ·have h:FN t out (jb coins m).2 0=false:=by
   unfold FN;rcases b with b|b;simp;omega;rw[List.getElem?_eq_none aq];simp
  refine ag (BX t m coins out b) (by simp[AV.deep,AV.deep1]) ?_;rw[h];simp[go_sem,ah];exact aa a9 rfl
 ·obtain⟨k,rfl⟩:∃k:Nat,out=(k:Int):=⟨out.toNat,aq⟩;have l:k<t.outs.length:=aq;obtain⟨o,e⟩:∃o,t.outs[k]?=some o:=⟨_,cm l⟩;have h:FN t k (jb coins m).2 0=decide (o.2=c.2):=by
   unfold FN;simp[e,g]
  rw[h];refine ag (yf t m coins k o e) (by simp[AV.deep,AV.deep1]) ?_;simp[go_sem,a,eO];refine ag (jG o.2 c.2 (f o (cr e)) (i c (cr a))) a9 ?_;simp[go_sem,ah];exact aa a9 rfl
theorem Df{Q:AV→Prop}{st:St}{id n:Nat}{ty:TypeId}{e:Int}(rows:List (List DV))(f:rows.length=n)(g:lk id st.hp=some ⟨ty,2,rows.map (fun r=>r.map AV.d)⟩)(h:∀r,r∈rows→r.length=2)(hq:Q (.tup [.d (.ro 2 rows),.d (.int .i64 e)])):dG Q (.tup [.own id 0 n n,.d (.int .i64 e)]) st:=by
 subst f;refine eC (cs':=[.d (.ro 2 rows),.d (.int .i64 e)]) (fun i c j a b=>?_) rfl a9 hq
 match i,a,b with
 |0,a,b=>simp at a b;subst a b;exact am (kJ g trivial aw (by rw[List.drop_zero,cx aw];exact lG _) rfl h)
 |1,a,b=>simp at a b;subst a b;exact aM trivial
 |k+2,a,_=>simp at a
theorem LU(t:Tn)(n:Int)(coins:List (Nat×List Nat))(inner:List Nat)(ps:List (List Nat))(x s:List Nat)(e c a:Int):∀v,v∈[AV.agg (eS t n coins),cE inner ps x,.d (nb s),.agg [.d (.int .i64 e),.d (.int .i64 c)],.d (.int .i64 a)]→v.deep:=by
 intro v b;simp at b;rcases b with rfl|rfl|rfl|rfl|rfl;simp[AV.deep,AV.deep1,eS];exact ja _ _ _;trivial;simp[AV.deep,AV.deep1];trivial
theorem Vx(t:Tn)(n:Int)(coins:List (Nat×List Nat))(inner:List Nat)(ps:List (List Nat))(x s:List Nat)(o:Int):∀v,v∈[AV.agg (eS t n coins),cE inner ps x,.d (nb s),.d (.int .i64 o)]→v.deep:=by
 intro v a;simp at a;rcases a with rfl|rfl|rfl|rfl;simp[AV.deep,AV.deep1,eS];exact ja _ _ _;trivial;trivial
theorem H9(t:Tn)(n:Int)(coins:List (Nat×List Nat))(inner:List Nat)(ps:List (List Nat))(x s a:List Nat)(f i b e:Int)(N:Sm t)(hc:coins.length≤1000)(hi:inner.length=32)(H:bytes a)(q:∀o,o∈t.outs→bytes o.2)(w:∀o,o∈coins→bytes o.2∧o.1<18446744073709551616)
  (L:b<9223372036854775808) (g:fm prog 46 [cE inner ps s] (.tup [.d (nb a),.d (.int .i64 e)])) :
  fm prog 27 [.agg (eS t n coins),cE inner ps x,.d (nb s),.agg [.d (.int .i64 f),.d (.int .i64 i)],.d (.int .i64 b)] (AM t n coins f i b a e):=by
 refine bL func27 ntmps27 (rs:=[.tmp 10,.tmp 11]) (LU _ _ _ _ _ _ _ _ _ _) ?_;have E:(eS t n coins).length=6:=rfl;have C:List.take 6 (eS t n coins)=eS t n coins:=rfl;simp[go_sem,cE,nI hi,E,C];refine ag (nt t n coins N hc) (by simp[AV.deep,AV.deep1,eS]) ?_;rcases nZ t n coins with y|⟨y,I,M⟩
 ·have K:AM t n coins f i b a e=.tup [.nil,.d (.int .i64 1)]:=by simp[AM,y]
  rw[y,K];simp[go_sem,ah];exact aa a9 rfl
 ·rw [y];obtain ⟨m,rfl⟩:∃ k:Nat,n=(k:Int):=⟨n.toNat,aq⟩;obtain ⟨c,l⟩:∃ o,coins[m]?=some o:=⟨_,cm (by omega:m<coins.length)⟩;have u:jb coins m=c:=by simp [jb,l]
  have P:=(w c (cr l)).2;simp[go_sem,eS,l,eO,nI hi,oG hi];refine ag (LS t m coins inner ps x s a f e hi H q g) (Vx _ _ _ _ _ _ _ _) ?_;unfold AM;rw[y,u]
  cases J:FN t f a e
  ·simp[go_sem,ah];exact aa a9 rfl
  by_cases p:b<0
  ·simp[go_sem,p,ah];exact aa a9 rfl
  have j:IntKind.u64.wrap b=b:=by rw[IntWalk.u64_in _ aq]
  by_cases b2:(c.1:Int)<b
  ·simp[go_sem,p,j,b2,ah];exact aa a9 rfl
  have B:IntKind.u64.wrap ((c.1:Int)-b)=(c.1:Int)-b:=by rw[IntWalk.u64_in _ aq]
  by_cases G:i=-1∧b=0
  ·obtain⟨rfl,rfl⟩:=G;have O:IntKind.u64.wrap (c.1:Int)=(c.1:Int):=(by rw[IntWalk.u64_in _ aq]);simp[go_sem,p,j,b2,O,ah];exact Df [QX f (c.1:Int)] rfl rfl (by simp[QX]) rfl
  ·have D:=FO t m coins i aq q (fun o h=>(w o h).1);rw[u]at D;by_cases A:i=-1
   ·have F:¬b=0:=fun h=>G ⟨A,h⟩;subst A;by_cases v:(-1)=f
    ·subst v;simp[go_sem,p,j,b2,B,F,ah];exact aa a9 rfl
    ·simp[go_sem,p,j,b2,B,F,v];refine ag D (by simp[AV.deep,AV.deep1]) ?_
     cases z:FN t (-1) c.2 0
     ·simp[go_sem,ah];exact aa a9 rfl
     ·simp[go_sem,j,ah];exact Df [QX f ((c.1:Int)-b),QX (-1) b] rfl rfl (by simp[QX]) rfl
   ·skip;by_cases v:i=f
    ·subst v;simp[go_sem,p,j,b2,B,A,ah];exact aa a9 rfl
    ·simp[go_sem,p,j,b2,B,A,v];refine ag D (by simp[AV.deep,AV.deep1]) ?_
     cases z:FN t i c.2 0
     ·simp[go_sem,ah];exact aa a9 rfl
     ·simp[go_sem,j,ah];exact Df [QX f ((c.1:Int)-b),QX i b] rfl rfl (by simp[QX]) rfl
theorem Vy{P:Program}{g:FuncId}{args:List AV}{Q i:AV→Prop}(h:ar P g args Q)
  (hq:∀r,Q r→∃f,(∀(w:World)(S:Nat→Prop)(σ:Nat→Option Nat)(hp:Hp)(U:Nat→Prop)(x:Value),AIs w S σ hp U r x→AIs w S σ hp U f x)∧f.deep∧i f):ar P g args i:=by
 obtain⟨o,n⟩:=h;refine⟨o,fun w S j a b c=>(n w S j a b c).mono fun e v s=>?_⟩;obtain⟨x,r,m,q,d,p,t⟩:=s;obtain⟨f,u,k,l⟩:=hq r q;exact⟨x,f,m,l,k,p,u _ _ _ _ _ _ t⟩
theorem rT{w:World}{S:Nat→Prop}{σ:Nat→Option Nat}{hp:Hp}{U:Nat→Prop}{x:Value}{v:AV}(e:Nat)(h:AIs w S σ hp U (.tup [.nil,v]) x):AIs w S σ hp U (.tup [.d (.ro e []),v]) x:=by
 cases h with
 | tup _ xs hl h =>
  refine .tup _ xs hl fun i c y a b=>?_
  match i with
  |0 =>
   simp at a;subst a;exact OX e (h 0 .nil y rfl b)
  |i+1=>exact h (i+1) c y a b
def yN(t:Tn)(n:Int)(coins:List (Nat×List Nat))(d c b:Int)(a:List Nat)(e:Int):List (Int×Int)×Int :=
 if bI t n coins≠0 then([],1)
 else if FN t d a e=false∨b<0∨((jb coins n).1:Int)<b then([],24)
 else if c=-1∧b=0 then([(d,((jb coins n).1:Int)-b)],0)
 else if c=d∨FN t c (jb coins n).2 0=false then([],24)
 else([(d,((jb coins n).1:Int)-b),(c,b)],0)
theorem AN(t:Tn)(n:Int)(coins:List (Nat×List Nat))(d c b:Int)(a:List Nat)(e:Int):(yN t n coins d c b a e).1.length≤2:=by
 unfold yN
 repeat' split
 all_goals simp
theorem QY{t:Tn}{n:Int}{coins:List (Nat×List Nat)}{f c b:Int}{a:List Nat}{e:Int}{g:FuncId}{args:List AV}(h:ar prog g args (fun r=>r=AM t n coins f c b a e)) :
  ar prog g args (fun v=>v=.tup [.d (.ro 2 ((yN t n coins f c b a e).1.map fi)),.d (.int .i64 (yN t n coins f c b a e).2)]):=by
 refine Vy h ?_;rintro r rfl;refine⟨_,?_,?_,rfl⟩;intro w S σ i U x;unfold AM yN;split;exact rT 2;split;exact rT 2;split;exact id;split;exact rT 2;exact id;simp[AV.deep,AV.deep1]
theorem ZN(inner:List Nat)(ps:List (List Nat))(x:List Nat)(hi:inner.length=32)(b:bytes inner)(hp:∀p,p∈ps→p.length=32)(h:ps.length≤1000)(i:x.length≤100000) :
  ∃p:List Nat×Int,bytes p.1∧fm prog 46 [cE inner ps x] (.tup [.d (nb p.1),.d (.int .i64 p.2)]):=by
 obtain⟨k,o,e,g,c,j,f,_⟩:=qC inner ps x hi b hp h i;rcases j with rfl|rfl;refine⟨(81::32::k,0),?_,nF hi g f⟩;intro y a;simp only[d_]at a;rcases a with rfl|rfl|a;omega;omega;exact c y a;exact⟨([],1),fun y a=>(by cases a),uO hi g f⟩
structure RnS0(F:RnF):Prop where
 t:Sm F.t
 c:WL F.coins
 cb:∀o,o∈F.coins→bytes o.2∧o.1<18446744073709551616
 ob:∀o,o∈F.t.outs→bytes o.2
 i:F.inner.length=32
 ib:bytes F.inner
 s:F.script.length≤100000
 p:∀p,p∈F.path→p.length=32
 pl:F.path.length≤1000
 a:F.annex.length≤1000
def ZO(sg:bm→bm→bm→Bool):Prop:=∀key msg sig,key.length=32→bytes key→bytes sig→msg.length≤1000→sig.length≤1000→fm prog 156 [.agg (cb key),.d (nb msg),.d (nb sig)] (.d (.bool (sg key sig msg)))
theorem acR:∃sg,ZO sg:=by
 have k:∀p:bm×bm×bm,∃o:Bool,p.1.length=32→bytes p.1→bytes p.2.2→p.2.1.length≤1000→p.2.2.length≤1000→fm prog 156 [.agg (cb p.1),.d (nb p.2.1),.d (nb p.2.2)] (.d (.bool o)):=by
  rintro⟨f,h,g⟩;by_cases hc:f.length=32∧bytes f∧bytes g∧h.length≤1000∧g.length≤1000;obtain⟨o,j⟩:=LP f h g hc.1 hc.2.1 hc.2.2.1 hc.2.2.2.1 hc.2.2.2.2;exact⟨o,fun _ _ _ _ _=>j⟩;exact⟨false,fun a b c d e=>absurd ⟨a,b,c,d,e⟩ hc⟩
 obtain⟨sg,i⟩:=Classical.axiomOfChoice k;exact⟨fun f g h=>sg (f,h,g),fun f h g a b c d e=>i (f,h,g) a b c d e⟩
def QZ(inner:List Nat)(ps:List (List Nat))(out:bm→bm×Int):Prop:=∀s:bm,s.length≤100000→bytes (out s).1∧fm prog 46 [cE inner ps s] (.tup [.d (nb (out s).1),.d (.int .i64 (out s).2)])
theorem Vz(inner:List Nat)(ps:List (List Nat))(hi:inner.length=32)(b:bytes inner)(hp:∀p,p∈ps→p.length=32)(f:ps.length≤1000):∃out,QZ inner ps out:=by
 have e:∀s:bm,∃p:bm×Int,s.length≤100000→bytes p.1∧fm prog 46 [cE inner ps s] (.tup [.d (nb p.1),.d (.int .i64 p.2)]):=by
  intro s;by_cases c:s.length≤100000;obtain⟨p,hp⟩:=ZN inner ps s hi b hp f c;exact⟨p,fun _=>hp⟩;exact⟨([],0),fun q=>absurd q c⟩
 obtain⟨out,a⟩:=Classical.axiomOfChoice e;exact⟨out,a⟩
theorem ZP(F:RnF)(h:RnS0 F){sg:bm→bm→bm→Bool}{out:bm→bm×Int}(hsg:ZO sg)(hout:QZ F.inner F.path out):∃msg:bm,bI F.t (F.n:Int) F.coins=0 →
  ∀x:Rx,x=⟨bc,fl,sg,msg,(F.t.lock:Int),(F.t.ver:Int),(((F.t.ins[F.n]?.map Ip.seq).getD 0:Nat):Int),oC F.t F.n,zn F.t (F.n:Int) F.coins,fun s o0 o1 bk=>yN F.t (F.n:Int) F.coins o0 o1 bk (out s).1 (out s).2⟩→RnE F x:=by
 -- the message
 have hm:∃q:bm,bI F.t (F.n:Int) F.coins=0→q.length=32∧bytes q∧fm prog 43 [.agg (eS F.t (F.n:Int) F.coins),.d (nb (eD F.script)),.d (nb F.annex)] (.tup [.agg (cb q),.d (.int .i64 0)]):=by
  by_cases hc:bI F.t (F.n:Int) F.coins=0;obtain⟨q,hq⟩:=Vs F.t (F.n:Int) F.coins (eD F.script) F.annex h.t h.c (nh _) h.a hc;exact⟨q,fun _=>hq⟩;exact⟨[],fun q=>absurd q hc⟩
 obtain⟨msg,hmsg⟩:=hm;refine⟨msg,fun hc x hx=>?_⟩;obtain⟨m1,m2,m3⟩:=hmsg hc;have hcx:iZ F.t=0∧F.coins.length=F.t.ins.length∧(F.n:Int)<(F.coins.length:Int):=by
  unfold bI at hc;split at hc;cases hc;rename_i hq;simp only[not_or,Int.not_lt,Int.not_le,ne_eq,Classical.not_not]at hq;exact⟨hq.1,hq.2.1,hq.2.2.2.1⟩
 have hn:F.n<F.t.ins.length:=by have:=hcx.2.1;have:=hcx.2.2;omega
 have hi:=cm hn;have hio:(F.t.ins[F.n]).ok:=h.t.1.2.2.1 _ (List.getElem_mem hn);subst hx;exact {
  hi:=h.i
  hs:=h.s
  ml:=m1
  mb:=m2
  mg:=⟨0,m3⟩
  vf:=fun key msg sig a b c d e f=>hsg key msg sig a b d e f
  tl:=aR _
  tb:=eE _
  tg:=⟨0,H7 F.t F.n h.t hcx.1 hn⟩
  rc:=fun hh o q1 q2=>Hf F.t (F.n:Int) F.coins hh o h.t (by have:=h.c.1;omega) q1
  tr:=fun s o0 o1 bk q1 q2 q3 q4=>⟨QY (H9 F.t (F.n:Int) F.coins F.inner F.path F.script s (out s).1 o0 o1 bk (out s).2 h.t (by have:=h.c.1;omega) h.i (hout s q2).1 h.ob h.cb q4 (hout s q2).2),AN _ _ _ _ _ _ _ _⟩
  sq:=⟨F.t.ins[F.n],hi,hio,by rw[hi];rfl⟩
  lk:=⟨h.t.1.2.1,rfl⟩
  vr:=⟨h.t.1.1,rfl⟩
  hh:=⟨rfl,rfl⟩ }
end Go.Proofs.YtmfnimjnneflnaaGreat
