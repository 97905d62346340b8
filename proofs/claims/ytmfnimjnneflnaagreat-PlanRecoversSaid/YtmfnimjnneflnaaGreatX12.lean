/-
 Part 13 of what the claim rests on.
-/
import Derived.Test.YtmfnimjnneflnaaGreatX7
import Derived.Test.YtmfnimjnneflnaaGreatX11
set_option linter.unusedVariables false
set_option linter.unusedSimpArgs false
set_option maxRecDepth 100000
set_option maxHeartbeats 16000000
namespace Go.Proofs.YtmfnimjnneflnaaGreat
open Go.Am Go.Sha
def Zg(coins:List (Nat×List Nat)):Prop:=coins.length≤8∧∀o,o∈coins→o.1<18446744073709551616∧o.2.length≤1100
theorem tt(t:Tn)(n:Int)(coins:List (Nat×List Nat)):∀v,v∈[AV.agg (eS t n coins)]→v.deep:=by simp[AV.deep,AV.deep1,eS]
theorem ack{a b c d e:List Nat}(k:Nat)(p:k<5)(s:a.length=32)(o:b.length=32)(hc:c.length=32)(t:d.length=32)(r:e.length=32) :
  List.take 32 (List.drop (k*32) (cb a++cb b++cb c++cb d++cb e))=cb ([a,b,c,d,e].getD k []):=by
 have g:(cb a).length=32:=by rw[ak,s]
 have h:(cb b).length=32:=by rw[ak,o]
 have i:(cb c).length=32:=by rw[ak,hc]
 have j:(cb d).length=32:=by rw[ak,t]
 have l:(cb e).length=32:=by rw[ak,r]
 have f:∀(A B C:List AV)(m:Nat),A.length=m→B.length=32→List.take 32 (List.drop m (A++(B++C)))=B:=by
  intro A B C m q n;subst q;rw[List.drop_left,←n,List.take_left]
 match k,p with
 |0,_=>simpa using f [] (cb a) (cb b++cb c++cb d++cb e) 0 rfl g
 |1,_=>simpa using f (cb a) (cb b) (cb c++cb d++cb e) 32 aq h
 |2,_=>simpa using f (cb a++cb b) (cb c) (cb d++cb e) 64 (by simp[g,h]) i
 |3,_=>simpa using f (cb a++cb b++cb c) (cb d) (cb e) 96 (by simp[g,h,i]) j
 |4,_=>simpa using f (cb a++cb b++cb c++cb d) (cb e) [] 128 (by simp[g,h,i,j]) l
def acl(t:Tn)(n:Nat):List Nat:=le t.ver 4++(le t.lock 4++(le t.ins.length 4++(aW (t.ins.map uD).flatten++(le t.outs.length 4++(aW (t.outs.map gx).flatten++le n 4)))))
def UN(t:Tn)(n:Nat):List Nat:=aW (acl t n)
theorem Zh(b:List Nat)(c:b.length≤100000000000) :
  cX Tryz.prog 58 1 [(0,⟨167,10,[dL H0++[.nil,.d (.int .u64 0)]]⟩)] [.ptr 0 0 0 1,.d (nb b)] (fun r a=>r=.tup []∧lk 0 a=some ⟨167,10,[CO b]⟩):=by
 have:=SN H0 .nil [] b 0 (.inr ⟨rfl,rfl⟩) (by simp;omega) aq;rw[List.nil_append,Nat.zero_add]at this;exact this
theorem UO(ρ:Nat→Nat):AV.renL ρ (dL H0++[.nil,.d (.int .u64 0)])=dL H0++[.nil,.d (.int .u64 0)]:=rfl
theorem UQ{Q:AV→Prop}{st:St}{b:List Nat}{e:Int}(hq:Q (.tup [.agg (cb b),.d (.int .i64 e)])):dC Q (.tup [.agg (cb b),.d (.int .i64 e)]) st:=by
 refine aa ?_ hq;intro c hc;simp at hc;rcases hc with rfl|rfl;exact .inr ⟨_,rfl,bn _⟩;exact .inl trivial
theorem Qq{b:List Nat}(a:b.length=32):(List.range 32).map (fun k=>((cb b).drop k).take 1)=List.map ((fun r=>List.map AV.d r)∘fun(x:Nat)=>[DV.int .u8 (x:Int)]) b:=by
 rw[tm a];rfl
theorem Zi(t:Tn)(n:Nat)(f:Sm t)(hc:nO t=0)(hn:n<t.ins.length):au Tryz.prog 18 [.agg (eT t),.d (.int .i64 (n:Int))] (fun v=>v=.tup [.agg (cb (UN t n)),.d (.int .i64 0)]):=by
 have m:=zY t f;rw[hc]at m;have H:=JA t f;have E:=Fa t.outs (by have:=f.2.2.1;omega) (fun o J=>⟨f.1.2.2.2 o J,by have:=f.2.2.2.1 o J;omega⟩);have h:=bf (t.ins.map uD).flatten;have j:=bf (t.outs.map gx).flatten;have M:=f.2.1;have P:=f.2.2.1;have s:=f.1.1;have y:=f.1.2.1;refine bF Tryz.func18 Tryz.ntmps18 (rs:=[.cell 4 29,.tmp 5]) (by intro v g;simp at g;rcases g with rfl|rfl;simp[AV.deep,AV.deep1,eT];trivial) ?_;have w:¬(n:Int)<0:=aq;have F:¬(t.ins.length:Int)≤(n:Int):=aq;have T:¬t.ins.length≤n:=aq;have Q:IntKind.u32.wrap (t.ins.length:Int)=(t.ins.length:Int):=IntWalk.u32_in _ aq;have R:IntKind.u32.wrap (t.outs.length:Int)=(t.outs.length:Int):=IntWalk.u32_in _ aq;have O:IntKind.u32.wrap (n:Int)=(n:Int):=IntWalk.u32_in _ aq;have e:z32.length=32:=rfl;have l:List.drop 32 (cb z32)=[]:=rfl;unfold UN acl;generalize L:aW (t.ins.map uD).flatten=A at *;generalize S:aW (t.outs.map gx).flatten=B at *;simp only[eT]at *;simp[go_sem];have z:∀v,v∈[AV.d (.ro 2 (t.outs.map eO))]→v.deep:=by simp[AV.deep,AV.deep1]
 have x:∀v,v∈[AV.agg [.d (.int .u32 (t.ver:Int)),.d (.ro 35 (t.ins.map eI)),.d (.ro 2 (t.outs.map eO)),.d (.int .u32 (t.lock:Int))]]→v.deep:=by simp[AV.deep,AV.deep1]
 refine ag m (by intro v g;simp at g;subst g;simp[AV.deep,AV.deep1]) ?_;simp[go_sem,w,F];refine dE [0,2,3] [1,4,5,6,7,8] [0,2,3] (.alt (bt 1 (.alt (bx 4 (.alt (a_ [5,6,7,8]) (a_ [6,5,7,8]))) (.alt (bt 5 (.alt (a_ [4,6,7,8]) (bt 6 (a_ [4,7,8])))) (bt 6 (.alt (a_ [4,5,7,8]) (bt 5 (a_ [4,7,8]))))))) (.alt (bt 5 (.alt (bt 1 (.alt (a_ [4,6,7,8]) (bt 6 (a_ [4,7,8])))) (bt 6 (bt 1 (a_ [4,7,8]))))) (bt 6 (.alt (bt 1 (.alt (a_ [4,5,7,8]) (bt 5 (a_ [4,7,8])))) (bt 5 (bt 1 (a_ [4,7,8]))))))) ⟨[(1,.d (.int .i64 (n:Int))),(2,.ptr 0 0 0 1),(4,.ptr 32 0 0 1),(6,.ptr 704 0 0 1),(7,.ptr 736 0 0 1)],[(704,⟨29,32,[cb A]⟩),(736,⟨29,32,[cb B]⟩),(32,⟨29,32,[cb z32]⟩),(0,⟨26,4,[[.d (.int .u32 (t.ver:Int)),.d (.ro 35 (t.ins.map eI)),.d (.ro 2 (t.outs.map eO)),.d (.int .u32 (t.lock:Int))]]⟩)],9000⟩ (k:=9) ?h3 ?hq
 case h3 =>
  intro G N;have I:∀(i:Fr)(c:Hp),(fv 1 i=.d (.int .i64 (n:Int))∧fv 2 i=.ptr 0 0 0 1∧fv 4 i=.ptr 32 0 0 1∧fv 6 i=.ptr 704 0 0 1∧fv 7 i=.ptr 736 0 0 1∧lk 704 c=some ⟨29,32,[cb A]⟩∧lk 736 c=some ⟨29,32,[cb B]⟩∧lk 32 c=some ⟨29,32,[cb z32]⟩∧lk 0 c=some ⟨26,4,[[.d (.int .u32 (t.ver:Int)),.d (.ro 35 (t.ins.map eI)),.d (.ro 2 (t.outs.map eO)),.d (.int .u32 (t.lock:Int))]]⟩)→G i c:=by
   rintro i c⟨Z,W,X,Y,U,q5,V,q7,q8⟩;refine N _ _ (b7 ?_);simp only[az,ai];refine⟨fun p c=>?_,fun p c=>?_,aw⟩;simp only[et,List.mem_nil_iff,or_false]at c;rcases c with rfl|rfl|rfl|rfl|rfl<;>exact⟨.inl (Eq.symm (by assumption)),by simp[AV.low,AV.low1]⟩
   ·simp only[et,List.mem_nil_iff,or_false]at c;rcases c with rfl|rfl|rfl|rfl<;>exact⟨.inl (by assumption),aw,by intro r K;simp only[et,List.mem_nil_iff,or_false]at K;subst K;first|exact cE _ _|exact aJ _ _|(intro v g;simp only[et,List.mem_nil_iff,or_false]at g;rcases g with rfl|rfl|rfl|rfl<;>trivial)⟩
  simp[go_sem,ak,e,dI]
  repeat' first|exact I _ _ ⟨rfl,rfl,rfl,rfl,rfl,rfl,rfl,rfl,rfl⟩|(refine I _ _ ?_;simp[fv];done)|refine ag H x ?_|refine ag E z ?_|apply And.intro|simp[go_sem,ak,h,j,e,l,dI]
 case hq =>
  simp[go_sem];refine aP [] oS rfl aw aw aw (by simp[AV.renL]) ?_;rintro r a⟨rfl,b⟩;refine⟨[(97,0)],rfl,?_⟩;simp[go_sem,bZ,bB,b,Blk.ren,aO,im,AV.ren,b8];clear b a;refine bA [] (jw [] t.ver aw s) rfl (aj (.one (ao (.nil 1))) (aj (.deep a9) aD)) ?_;simp[go_sem,aE];refine aP [(0,9000)] (Zh (le t.ver 4) (by simp[aM])) rfl aw (by simp[lk]) (by simp[lk,Blk.ren,aO,UO]) (by simp[AV.renL,AV.ren,b8,iJ,lk]) ?_;rintro r a⟨rfl,b⟩;refine⟨[],rfl,?_⟩;simp[-List.append_assoc,go_sem,bZ,bB,b,Blk.ren,aO,bw,AV.renL,AV.ren];clear b a;refine bA [] (jw [] t.lock aw y) rfl (aj (.one (ao (.nil 1))) (aj (.deep a9) aD)) ?_;simp[go_sem,aE];refine aP [(0,9000)] (qO (le t.ver 4) (le t.lock 4) (by simp[aM])) rfl aw (by simp[lk]) (by simp[lk,Blk.ren,aO,bw]) (by simp[AV.renL,AV.ren,b8,iJ,lk]) ?_;rintro r a⟨rfl,b⟩;refine⟨[],rfl,?_⟩;simp[-List.append_assoc,go_sem,bZ,bB,b,Blk.ren,aO,bw,AV.renL,AV.ren,Q];clear b a;refine bA [] (jw [] t.ins.length aw aq) rfl (aj (.one (ao (.nil 1))) (aj (.deep a9) aD)) ?_;simp[go_sem,aE];refine aP [(0,9000)] (qO ((le t.ver 4)++le t.lock 4) (le t.ins.length 4) (by simp[aM])) rfl aw (by simp[lk]) (by simp[lk,Blk.ren,aO,bw]) (by simp[AV.renL,AV.ren,b8,iJ,lk]) ?_;rintro r a⟨rfl,b⟩;refine⟨[],rfl,?_⟩;simp[-List.append_assoc,go_sem,bZ,bB,b,Blk.ren,aO,bw,AV.renL,AV.ren];clear b a;refine aP [(0,9000),(1,704)] (HA 29 32 (cb A) (((le t.ver 4)++le t.lock 4)++le t.ins.length 4) A (Qq h) (fun n=>aJ n _) h (by simp[aM,h])) rfl aw (by simp[lk]) (by simp[lk,Blk.ren,aO,bw,dP]) (by simp[AV.renL,AV.ren,b8,iJ,lk]) ?_;rintro r a⟨rfl,b,u⟩;refine⟨[],rfl,?_⟩;simp[-List.append_assoc,go_sem,bZ,bB,b,u,Blk.ren,aO,bw,AV.renL,AV.ren,dP,R];clear b u a;refine bA [] (jw [] t.outs.length aw aq) rfl (aj (.one (ao (.nil 1))) (aj (.deep a9) aD)) ?_;simp[go_sem,aE];refine aP [(0,9000)] (qO ((((le t.ver 4)++le t.lock 4)++le t.ins.length 4)++A) (le t.outs.length 4) (by simp[aM,h])) rfl aw (by simp[lk]) (by simp[lk,Blk.ren,aO,bw]) (by simp[AV.renL,AV.ren,b8,iJ,lk]) ?_;rintro r a⟨rfl,b⟩;refine⟨[],rfl,?_⟩;simp[-List.append_assoc,go_sem,bZ,bB,b,Blk.ren,aO,bw,AV.renL,AV.ren];clear b a;refine aP [(0,9000),(1,736)] (HA 29 32 (cb B) (((((le t.ver 4)++le t.lock 4)++le t.ins.length 4)++A)++le t.outs.length 4) B (Qq j) (fun n=>aJ n _) j (by simp[aM,h,j])) rfl aw (by simp[lk]) (by simp[lk,Blk.ren,aO,bw,dP]) (by simp[AV.renL,AV.ren,b8,iJ,lk]) ?_;rintro r a⟨rfl,b,u⟩;refine⟨[],rfl,?_⟩;simp[-List.append_assoc,go_sem,bZ,bB,b,u,Blk.ren,aO,bw,AV.renL,AV.ren,dP,O];clear b u a;refine bA [] (jw [] n aw aq) rfl (aj (.one (ao (.nil 1))) (aj (.deep a9) aD)) ?_;simp[go_sem,aE];refine aP [(0,9000)] (qO ((((((le t.ver 4)++le t.lock 4)++le t.ins.length 4)++A)++le t.outs.length 4)++B) (le n 4) (by simp[aM,h,j])) rfl aw (by simp[lk]) (by simp[lk,Blk.ren,aO,bw]) (by simp[AV.renL,AV.ren,b8,iJ,lk]) ?_;rintro r a⟨rfl,b⟩;refine⟨[],rfl,?_⟩;simp[-List.append_assoc,go_sem,bZ,bB,b,Blk.ren,aO,bw,AV.renL,AV.ren];clear b a;refine aP [(0,9000)] (Ak (((((((le t.ver 4)++le t.lock 4)++le t.ins.length 4)++A)++le t.outs.length 4)++B)++le n 4) (by simp[aM,h,j])) rfl aw (by simp[lk]) (by simp[lk,Blk.ren,aO,bw]) (by simp[AV.renL,AV.ren,b8,iJ,lk]) ?_;rintro r a⟨rfl,b⟩;refine⟨[],rfl,?_⟩;have C:=bf (((((((le t.ver 4)++le t.lock 4)++le t.ins.length 4)++A)++le t.outs.length 4)++B)++le n 4);have D:(((((((le t.ver 4)++le t.lock 4)++le t.ins.length 4)++A)++le t.outs.length 4)++B)++le n 4)=le t.ver 4++(le t.lock 4++(le t.ins.length 4++(A++(le t.outs.length 4++(B++le n 4))))):=by simp only[cD]
  rw[D]at C b⊢;generalize aW (le t.ver 4++(le t.lock 4++(le t.ins.length 4++(A++(le t.outs.length 4++(B++le n 4))))))=q at *;simp[go_sem,bZ,bB,b,Blk.ren,aO,bw,dP,AV.ren,ak,C,al C,e,l,ah];exact UQ rfl
def UR(a:List Nat):Nat:=if a=[]then 2 else 3
def US(a:List Nat):List Nat:=if a=[]then[]else aW (cJ a)
def Zj(t:Tn)(n:Nat)(coins:List (Nat×List Nat))(h a:List Nat):List Nat :=
 [0,0]++le t.ver 4++le t.lock 4++aW (t.ins.map tp).flatten++aW (coins.map yq).flatten++aW (coins.map yQ).flatten++aW (t.ins.map uD).flatten++aW (t.outs.map gx).flatten++[UR a]++le n 4++US a++h++[0]++le 4294967295 4
theorem Zk(t:Tn)(n:Int)(coins:List (Nat×List Nat))(h a:List Nat):∀v,v∈[AV.agg (eS t n coins),.d (nb h),.d (nb a)]→v.deep:=by simp[AV.deep,AV.deep1,eS]
theorem UT (t:Tn) (n:Int) (coins:List (Nat × List Nat)) (h f:List Nat) (ht:Sm t) (hc:Zg coins) (Y:h.length=32) (aR:f.length≤1000) (c0:bR t n coins=0) :
    ∃q:List Nat,q.length=32∧bytes q∧au Tryz.prog 43 [.agg (eS t n coins),.d (nb h),.d (nb f)] (fun r=>r=.tup [.agg (cb q),.d (.int .i64 0)]):=by
  refine⟨fJ jP (Zj t n.toNat coins h f),bf _,fA _,?_⟩;refine bF Tryz.func43 Tryz.ntmps43 (rs:=[.cell 6 29,.tmp 7]) (Zk t n coins h f) ?_;have W:=nf t n coins ht (by have:=hc.1;omega);have ad:=tt t n coins
  · rw [c0] at W
    have hn:0≤n∧n<coins.length:=by
      unfold bR at c0;split at c0
      · cases c0
      · rename_i F
        simp only[not_or,Int.not_lt,Int.not_le]at F;exact⟨F.2.2.1,F.2.2.2.1⟩
    obtain⟨m,rfl⟩:∃m:Nat,n=(m:Int):=⟨n.toNat,aq⟩;rw[Int.toNat_natCast];obtain⟨hv,aG,hi,ho⟩:=ht.1;have p1:=Qp t ht;have p2:=Qo coins hc.1 hc.2;have g:Zj t m coins h f=[0,0]++le t.ver 4++le t.lock 4++aW (t.ins.map tp).flatten++aW (coins.map yq).flatten++aW (coins.map yQ).flatten++aW (t.ins.map uD).flatten++aW (t.outs.map gx).flatten++[UR f]++le m 4++US f++h++[0]++le 4294967295 4:=rfl;generalize Zj t m coins h f=M at *;have s:=bf (t.ins.map tp).flatten;have H:=bf (t.ins.map uD).flatten;have l3:=bf (t.outs.map gx).flatten;have N:=bf (coins.map yq).flatten;have Z:=bf (coins.map yQ).flatten;generalize aW (t.ins.map tp).flatten=a at *;generalize aW (t.ins.map uD).flatten=b at *;generalize aW (t.outs.map gx).flatten=c at *;generalize aW (coins.map yq).flatten=x at *;generalize aW (coins.map yQ).flatten=y at *;have hT:=CP t;simp only[eT,eS]at hT W ad p1;have hL:(cb a++cb b++cb c).length=96:=(by simp[ak,s,H,l3]);have aQ:List.take 96 (cb a++cb b++cb c)=cb a++cb b++cb c:=cx aq;have hE:cb (a++(b++c))=cb a++cb b++cb c:=(by rw[yr,yr,cD]);rw[hE]at p1;simp[go_sem,eS];refine ag W ad ?_;simp[go_sem,Y,nb];refine jU [512] (gP [0,0] t.ver aw hv) rfl (aj (.one (ao (bo (L:=[0,0]) rfl rfl aw))) (aj (.deep a9) aD)) (fun ρ=>by simp[AV.renL,AV.ren]) ?_;rintro r j⟨I,rfl,p⟩;refine⟨[(I,0)],by simp[db,gm],?_⟩;generalize ap:[0,0]++le t.ver 4=A1 at *;have an:A1.length=6:=by rw[←ap];simp[aM]
    simp[go_sem,bZ,bB,p,Blk.ren,aO,dA,AV.ren,b8,aE];clear p j;refine jU [640] (gP A1 t.lock aq aG) rfl (aj (.one (ao (bo rfl rfl aw))) (aj (.deep a9) aD)) (fun ρ=>by simp[AV.renL,AV.ren]) ?_;rintro r j⟨I,rfl,p⟩;refine⟨[(I,0)],by simp[db,gm],?_⟩;generalize aC:A1++le t.lock 4=A2 at *;have aK:A2.length=10:=by rw[←aC];simp[aM,an]
    simp[go_sem,bZ,bB,p,Blk.ren,aO,dA,AV.ren,b8,aE];clear p j;have r0:List.take 32 (cb a++cb b++cb c)=cb a:=(by rw[cD,←s,←ak a,List.take_left])
    have r1:List.take 32 (List.drop 32 (cb a++cb b++cb c))=cb b:=(by rw[cD,show List.drop 32 (cb a++(cb b++cb c))=cb b++cb c by rw[←s,←ak a,List.drop_left],←H,←ak b,List.take_left]);have r2:List.take 32 (List.drop 64 (cb a++cb b++cb c))=cb c:=by
      rw[show List.drop 64 (cb a++cb b++cb c)=cb c by rw[show 64=(cb a++cb b).length by simp[ak,s,H],List.drop_left]];exact al l3
    generalize hR:cb a++cb b++cb c=R at *;refine ag p1 hT ?_;simp[go_sem,hL,Fb,ak,uE];refine ag p2 a9 ?_;simp[go_sem,ak,s,H,l3,N,Z,al N,al Z,cp,hL,r0,r1,r2,An];rw[HC (A:=cb a) (n:=32) (m:=64) (by rw[ak,s]) aq,←cD (cb a) (cb x),tq (A:=cb a++cb x) (n:=64) (m:=96) (by simp[ak,s,N]) aq,tq (A:=cb a++cb x++cb y) (n:=96) (m:=128) (by simp[ak,s,N,Z]) aq,tq (A:=cb a++cb x++cb y++cb b) (n:=128) (m:=160) (by simp[ak,s,N,Z,H]) aq,HB,List.append_nil];have hF:=fun k O=>ack (a:=a) (b:=x) (c:=y) (d:=b) (e:=c) k O s N Z H l3;have hG:cb a++cb x++cb y++cb b++cb c=cb (a++x++y++b++c):=(by simp[yr])
    have aP:(a++x++y++b++c).length=160:=(by simp[s,N,Z,H,l3]);rw[hG]at hF⊢;have hW:∀k,k<5→([a,x,y,b,c].getD k []).length=32:=by
      intro k O
      match k,O with
      |0,_=>exact s
      |1,_=>exact N
      |2,_=>exact Z
      |3,_=>exact H
      |4,_=>exact l3
    have hS:∀k,k<5→([a,x,y,b,c].take (k+1)).flatten=([a,x,y,b,c].take k).flatten++[a,x,y,b,c].getD k []:=by
      intro k O
      match k,O with
      |0,_=>simp
      |1,_=>simp
      |2,_=>simp
      |3,_=>simp
      |4,_=>simp
    have K:A2++a++x++y++b++c=A2++([a,x,y,b,c].take 5).flatten:=(by simp);rw[K]at g;clear K;generalize a++x++y++b++c=G at *;generalize[a,x,y,b,c]=HS at *;refine av (fun u:Nat×List Nat=>⟨[(1,.d (nb h)),(2,.d (nb f)),(3,.ptr 0 0 0 1),(6,.ptr 32 0 0 1),(8,.own 832 0 u.2.length u.2.length),(57,.agg (cb G)),(58,.d (.int .i64 (u.1:Int)))],
        [(832,⟨5,1,rb u.2⟩),(32,⟨29,32,[cb z32]⟩),(0,⟨28,6,[eS t m coins]⟩)],3000⟩)
      (fun u=>u.1≤5∧u.2.length=10+32*u.1∧u.2=A2++(HS.take u.1).flatten) (fun u=>5-u.1) (0,A2) ⟨aw,by simp;omega,aw⟩ (by
        simp[az,ai,fv,lk,AV.low,AV.low1,nb,eS]
        exact⟨aJ _ _,aU _ _,aJ _ _⟩) ?_
    rintro⟨k,B⟩⟨O,aB,hB⟩;simp only at O aB hB;simp only[eS];simp only[go_sem,Nat.reduceEqDiff,Nat.reduceAdd,Nat.reduceLT,↓reduceIte,Nat.reduceMul];refine⟨fun ar=>?_,fun ar=>?_⟩
    · have D:k<5:=aq
      have hw:=hW k D;have hs:=hS k D;have hf:=hF k D;have w3:=ay (k:=k) aq;have g1:32≤G.length-k*32:=aq;generalize HS.getD k []=w at *;have F:=(jm hw).trans (dk w);simp[go_sem]at F;simp[go_sem,hf,g1,ak,hw,cp,F,aH,lu,w3];refine⟨aq,aq,?_⟩;refine am (k+1,B++w) ⟨by simp only;omega,by simp only[b_,hw];omega,by simp only;rw[hs,hB,cD]⟩ (by simp only;omega) ?_;simp[az,ai,fv,lk,AV.low,AV.low1,nb,hw];exact⟨aJ _ _,aU _ _,aJ _ _⟩
    · have D:k=5:=aq
      subst D;rw[←hB]at g;have wn:IntKind.u32.wrap (m:Int)=(m:Int):=by rw[SH];have:=hc.1;omega
      have ac:m<4294967296:=by have:=hc.1;omega
      by_cases E:f=[]
      · subst E
        have X:UR []=2:=rfl;have ab:US []=[]:=rfl;rw[X,ab,List.append_nil]at g;simp[go_sem,Y,nb];have V:bits BinOp.or IntKind.u8 0 2=2:=(by decide)
        have l:(B++[2]).length=B.length+1:=(by simp);have af:(B++[2]++le m 4).length=B.length+5:=(by simp[aM]);generalize T:B++[2]++le m 4=B2 at *;refine dE [0,1] [2,3,4,5,6,7,8] [0,1] (.alt (bt 2 (.alt (a_ [3,4,5,6,7,8]) (bt 4 (.alt (a_ [3,5,6,7,8]) (bt 5 (.alt (a_ [3,6,7,8]) (bt 6 (a_ [3,7,8])))))))) (bt 4 (.alt (bt 2 (.alt (a_ [3,5,6,7,8]) (bt 5 (.alt (a_ [3,6,7,8]) (bt 6 (a_ [3,7,8])))))) (bt 5 (.alt (bt 2 (.alt (a_ [3,6,7,8]) (bt 6 (a_ [3,7,8])))) (bt 6 (bt 2 (a_ [3,7,8])))))))) ⟨[(1,.d (nb h)),(2,.d (nb [])),(3,.ptr 0 0 0 1),(6,.ptr 32 0 0 1),(8,.own 3576 0 B2.length B2.length)],[(3576,⟨5,1,rb B2⟩),(32,⟨29,32,[cb z32]⟩)],6000⟩ (k:=9) ?h3 ?hq
        case h3 =>
          intro G hG;have hW:∀(o:Fr)(i:Hp),(fv 1 o=.d (nb h)∧fv 2 o=.d (nb [])∧fv 3 o=.ptr 0 0 0 1∧fv 6 o=.ptr 32 0 0 1∧fv 8 o=.own 3576 0 B2.length B2.length∧lk 3576 i=some ⟨5,1,rb B2⟩∧lk 32 i=some ⟨29,32,[cb z32]⟩)→G o i:=by
            rintro o i⟨q0,q1,q2,q3,q4,q5,q6⟩;refine hG _ _ (b7 ⟨?_,?_,aw⟩)
            · simp[ai,AV.low,AV.low1,q0,q1,q2,q3,q4,nb]
            · simp [q5,q6]
              exact⟨aU _ _,aJ _ _⟩
          have P:rb B++[[AV.d (DV.int IntKind.u8 2)]]=rb (B++[2]):=(by simp[rb]);have i:=gP (B++[2]) m (by rw[l];omega) ac;rw[T]at i;simp[go_sem,wn,V,aH,P]
          repeat' apply And.intro
          all_goals first
            |omega
            | (refine jU [832] i rfl (aj (.one (ao (bo l rfl aw))) (aj (.deep a9) aD)) (fun ρ=>by simp [AV.renL,AV.ren]) ?_
               rintro r j⟨I,rfl,p⟩;refine⟨[(I,0)],by simp[db,gm],?_⟩;simp[go_sem,bZ,bB,p,Blk.ren,aO,dA,AV.ren,b8,aE];refine hW _ _ ?_
               simp[fv,lk,nb])
        case hq =>
          simp[go_sem,Y,nb,aH];have v:rb B2++(List.map ((fun r=>List.map AV.d r)∘fun(b:Nat)=>[DV.int IntKind.u8 (b:Int)]) h++[[AV.d (DV.int IntKind.u8 0)]])=rb (B2++h++[0]):=(by simp[rb])
          have C:(B2++h++[0]).length=B2.length+32+1:=(by simp[Y]);rw[v];refine⟨aq,aq,?_⟩;generalize B2++h++[0]=B3 at *;have i:=gP B3 4294967295 aq aq;rw[←g]at i;have ax:M.length≤1000:=by rw[g,b_,aM];omega
          refine jU [3576] i rfl (aj (.one (ao (bo C rfl aw))) (aj (.deep a9) aD)) (fun ρ=>by simp[AV.renL,AV.ren]) ?_;rintro r j⟨I,rfl,p⟩;refine⟨[(I,0)],by simp[db,gm],?_⟩;simp[go_sem,bZ,bB,p,Blk.ren,aO,dA,AV.ren,b8,aE];clear p j;refine bA [6416] (iR jP _ rfl M (by simp[jP]) aq) rfl (aj (.deep a9) (aj (.one (ao (bo rfl rfl aw))) aD)) ?_;have hR:=bf (aW jP++(aW jP++M));have z:(fJ jP M).length=32:=hR;generalize fJ jP M=S at *;simp[go_sem,aE,z,ak,al z,cp,ah]
          exact aa (by
            intro c hc;simp only[et,List.mem_nil_iff,or_false]at hc;rcases hc with rfl|rfl
            · exact .inr ⟨_,rfl,bn _⟩
            · exact .inl trivial) rfl
      · have aL:¬ f.length=0:=fun h=>E (List.length_eq_zero_iff.1 h)
        have aN:(0:Int)<(f.length:Int):=aq;have J:0<f.length:=aq;have X:UR f=3:=if_neg E;have ab:US f=aW (cJ f):=if_neg E;have V:bits BinOp.or IntKind.u8 0 2=2:=(by decide);have aI:bits BinOp.or IntKind.u8 2 1=3:=(by decide);rw[X,ab]at g;have ae:=gp [] f aw aq;have aF:=mV (cJ f) (by have:=lJ f;omega);have U:=bf (cJ f);rw[show[]++(aA f.length++f)=cJ f from rfl]at ae;generalize aW (cJ f)=Q at *;generalize cJ f=BA at *;simp[go_sem,Y,nb,J,V];have l:(B++[3]).length=B.length+1:=(by simp)
        have af:(B++[3]++le m 4).length=B.length+5:=(by simp[aM]);generalize T:B++[3]++le m 4=B2 at *;refine dE [0,1] [2,3,4,5,6,7,8] [0,1] (.alt (bt 2 (.alt (a_ [3,4,5,6,7,8]) (bt 4 (.alt (a_ [3,5,6,7,8]) (bt 5 (.alt (a_ [3,6,7,8]) (bt 6 (a_ [3,7,8])))))))) (bt 4 (.alt (bt 2 (.alt (a_ [3,5,6,7,8]) (bt 5 (.alt (a_ [3,6,7,8]) (bt 6 (a_ [3,7,8])))))) (bt 5 (.alt (bt 2 (.alt (a_ [3,6,7,8]) (bt 6 (a_ [3,7,8])))) (bt 6 (bt 2 (a_ [3,7,8])))))))) ⟨[(1,.d (nb h)),(2,.d (nb f)),(3,.ptr 0 0 0 1),(6,.ptr 32 0 0 1),(8,.own 3672 0 B2.length B2.length)],[(3672,⟨5,1,rb B2⟩),(32,⟨29,32,[cb z32]⟩)],6000⟩ (k:=9) ?h3 ?hq
        case h3 =>
          intro G hG;have hW:∀(o:Fr)(i:Hp),(fv 1 o=.d (nb h)∧fv 2 o=.d (nb f)∧fv 3 o=.ptr 0 0 0 1∧fv 6 o=.ptr 32 0 0 1∧fv 8 o=.own 3672 0 B2.length B2.length∧lk 3672 i=some ⟨5,1,rb B2⟩∧lk 32 i=some ⟨29,32,[cb z32]⟩)→G o i:=by
            rintro o i⟨q0,q1,q2,q3,q4,q5,q6⟩;refine hG _ _ (b7 ⟨?_,?_,aw⟩)
            · simp[ai,AV.low,AV.low1,q0,q1,q2,q3,q4,nb]
            · simp [q5,q6]
              exact⟨aU _ _,aJ _ _⟩
          have P:rb B++[[AV.d (DV.int IntKind.u8 3)]]=rb (B++[3]):=(by simp[rb]);have i:=gP (B++[3]) m (by rw[l];omega) ac;rw[T]at i;simp[go_sem,wn,aI,aH,P]
          repeat' apply And.intro
          all_goals first
            |omega
            | (refine jU [832] i rfl (aj (.one (ao (bo l rfl aw))) (aj (.deep a9) aD)) (fun ρ=>by simp [AV.renL,AV.ren]) ?_
               rintro r j⟨I,rfl,p⟩;refine⟨[(I,0)],by simp[db,gm],?_⟩;simp[go_sem,bZ,bB,p,Blk.ren,aO,dA,AV.ren,b8,aE];refine hW _ _ ?_
               simp[fv,lk,nb])
        case hq =>
          simp[go_sem,nb,J];refine bA [] ae rfl (aj (.one (ao (.nil 1))) (aj (.deep a9) aD)) ?_;simp[go_sem,aE];refine ag aF a9 ?_;have F:=(jm U).trans (dk Q);simp[go_sem]at F;simp[go_sem,Y,nb,U,ak,cp,F,aH,lu];have v:rb (B2++Q)++(List.map ((fun r=>List.map AV.d r)∘fun(b:Nat)=>[DV.int IntKind.u8 (b:Int)]) h++[[AV.d (DV.int IntKind.u8 0)]])=rb (B2++Q++h++[0]):=(by simp[rb])
          have C:(B2++Q++h++[0]).length=B2.length+32+32+1:=(by simp[Y,U]);rw[v];refine⟨aq,aq,aq,?_⟩;generalize B2++Q++h++[0]=B3 at *;have i:=gP B3 4294967295 aq aq;rw[←g]at i;have ax:M.length≤1000:=by rw[g,b_,aM];omega
          refine jU [3672] i rfl (aj (.one (ao (bo C rfl aw))) (aj (.deep a9) aD)) (fun ρ=>by simp[AV.renL,AV.ren]) ?_;rintro r j⟨I,rfl,p⟩;refine⟨[(I,0)],by simp[db,gm],?_⟩;simp[go_sem,bZ,bB,p,Blk.ren,aO,dA,AV.ren,b8,aE];clear p j;refine bA [6704] (iR jP _ rfl M (by simp[jP]) aq) rfl (aj (.deep a9) (aj (.one (ao (bo rfl rfl aw))) aD)) ?_;have hR:=bf (aW jP++(aW jP++M));have z:(fJ jP M).length=32:=hR;generalize fJ jP M=S at *;simp[go_sem,aE,z,ak,al z,cp,ah]
          exact aa (by
            intro c hc;simp only[et,List.mem_nil_iff,or_false]at hc;rcases hc with rfl|rfl
            · exact .inr ⟨_,rfl,bn _⟩
            · exact .inl trivial) rfl
theorem Fe(b:List Nat)(e:b.length≤100000000000):au Tryz.prog 52 [.d (nb b)] (fun r=>r=.d (nb b)):=by
 refine bF Tryz.func52 Tryz.ntmps52 (rs:=[.tmp 2]) a9 ?_;simp only[go_sem,nb,Nat.reduceEqDiff,Nat.reduceAdd,Nat.reduceLT,↓reduceIte];intro t a
 cases t with
 |true =>
  have c:b=[]:=List.eq_nil_of_length_eq_zero (by simpa using a rfl);subst c;simp only[go_sem,Nat.reduceAdd,Nat.reduceLT,↓reduceIte];exact dU (.inr ⟨_,rfl,.nil 1⟩) a9 rfl
 |false =>
  simp[go_sem,dk,aH];refine⟨aq,dU (ao (bo (L:=b) rfl rfl trivial)) a9 rfl⟩
theorem dO(n:Nat)(inner:List Nat)(a b:AV)(e:a.low1 n)(d:b.low1 n):∀v,v∈ar inner a b→v.low1 n:=by
 intro v c;unfold ar at c;rcases cL.1 c with h|h;exact aJ _ _ v h;simp at h;rcases h with rfl|rfl;exact e;exact d
theorem oe:∀l:List (List Nat),(∀p,p∈l→p.length=32)→l.flatten.length=32*l.length
 |[],_=>rfl
 |a::r,h=>by rw[List.flatten_cons,b_,oe r (fun p b=>h p (by simp[b])),h a aw,List.length_cons];omega
def pJ:Nat→AV
 |0=>.nil
 |k+1=>.own 9320 0 (k+1) (k+1)
def pH(inner x:List Nat)(a:List (List Nat)):Nat→Hp
 |0=>[(1184,⟨33,34,[ar inner .nil (.d (nb x))]⟩),(0,⟨33,34,[ar z32 .nil .nil]⟩)]
 |k+1=>[(9320,⟨29,32,(a.take (k+1)).map cb⟩),(1184,⟨33,34,[ar inner (.own 9320 0 (k+1) (k+1)) (.d (nb x))]⟩),(0,⟨33,34,[ar z32 .nil .nil]⟩)]
def pN:Nat→Nat
 |0=>9000
 |_=>20000
theorem nt{inner:List Nat}(hi:inner.length=32)(a b c:AV):(ar inner a b).set 32 c=ar inner c b:=by
 have d:(cb inner).length=32:=by rw[ak,hi]
 unfold ar;rw[List.set_append_right _ _ aq,d];rfl
theorem cg{inner:List Nat}(hi:inner.length=32)(a b:AV):(ar inner a b).length=34:=by simp[ar,ak,hi]
theorem tw(n:Nat)(l:List (List Nat)):∀r,r∈l.map cb→∀v,v∈r→v.low1 n:=by
 intro r b v a;obtain⟨p,_,rfl⟩:=List.mem_map.1 b;exact aJ _ _ v a
theorem cn{inner:List Nat}(hi:inner.length=32)(a b:AV):List.take 34 (ar inner a b)=ar inner a b:=cx (by rw[cg hi];exact cR _)
theorem Qr(a:List (List Nat)):(a.map cd).map (fun r=>r.map AV.d)=a.map cb:=by
 rw[List.map_map];exact List.map_congr_left fun p _=>da p
theorem HD{hp:Hp}{I:Nat→Prop}(inner:List Nat){J S b S':AV}(d:fH hp I J b)(f:fH hp I S S'):so hp I (ar inner J S) (ar inner b S'):=by
 refine⟨by simp[ar],fun i c g hc a=>?_⟩;unfold ar at hc a;rcases Nat.lt_or_ge i (cb inner).length with h|h;rw[List.getElem?_append_left h]at hc a;rw[hc]at a;injection a with e;subst e;exact .inl ⟨rfl,bn _ _ (cr hc)⟩
 ·rw[dz h]at hc a;generalize i-(cb inner).length=k at hc a
  match k,hc,a with
  |0,hc,a=>simp at hc a;subst hc a;exact d
  |1,hc,a=>simp at hc a;subst hc a;exact f
  |n+2,hc,_=>simp at hc
theorem qq{Q:AV→Prop}{st:St}{inner:List Nat}{J S:AV}{f S':DV}{b:Bool}{e:Int}(k:fH st.hp (fun _=>True) J (.d f))(j:fH st.hp (fun _=>True) S (.d S'))(hq:Q (.tup [.agg (ar inner (.d f) (.d S')),.d (.bool b),.d (.int .i64 e)])):dC Q (.tup [.agg (ar inner J S),.d (.bool b),.d (.int .i64 e)]) st:=by
 refine⟨_,.tup (cs':=[.agg (ar inner (.d f) (.d S')),.d (.bool b),.d (.int .i64 e)]) rfl fun i c l hc a=>?_,?_,hq⟩
 ·match i,hc,a with
  |0,hc,a=>simp at hc a;subst hc a;exact .inr ⟨_,_,rfl,rfl,HD inner k j⟩
  |1,hc,a=>simp at hc a;subst hc a;exact .inl (aL trivial)
  |2,hc,a=>simp at hc a;subst hc a;exact .inl (aL trivial)
  |n+3,hc,_=>simp at hc
 ·intro c hc;simp at hc;rcases hc with rfl|rfl|rfl;refine .inr ⟨_,rfl,fun x g=>?_⟩;unfold ar at g;rcases cL.1 g with h|h;exact bn _ _ h;simp at h;rcases h with rfl|rfl<;>trivial;exact .inl trivial;exact .inl trivial
theorem tA{inner:List Nat}(hi:inner.length=32)(a b X:AV):List.take 33 (List.take 32 (cb inner)++[a,b])++X::List.drop 34 (List.take 32 (cb inner)++[a,b])=ar inner a X:=by
 have c:(cb inner).length=32:=by rw[ak,hi]
 rw[al hi,List.take_append,cx aq,dg (by simp[c]),c];simp[ar]
theorem Lj(n m:Nat)(l:List (List Nat))(q:List Nat):∀r,r∈List.take m (List.map cb l)++[cb q]→∀v,v∈r→v.low1 n:=by
 intro r a;rcases cL.1 a with h|h;exact tw _ _ r (List.mem_of_mem_take h);simp at h;subst h;exact aJ _ _
theorem qu{inner:List Nat}(hi:inner.length=32)(a b:AV):(List.drop 32 (ar inner a b)).head?=some a:=by
 have c:(cb inner).length=32:=by rw[ak,hi]
 unfold ar;rw[List.drop_append_of_le_length aq,dg aq];rfl
theorem UU{inner x:List Nat}{a:List (List Nat)}(o:Bool)(hi:inner.length=32)(l:∀p,p∈a→p.length=32)(ac:a.length≤8)(hx:x.length≤1000) :
  au Tryz.prog 119 [.d (nb (ii o inner a)),.d (nb x)] (fun r=>r=.tup [.agg (ar inner (.d (bW a)) (.d (nb x))),.d (.bool o),.d (.int .i64 0)]):=by
 refine bF Tryz.func119 Tryz.ntmps119 (rs:=[.cell 4 33,.tmp 5,.tmp 6]) a9 ?_;have aa:=oe a l;have C:(ii o inner a).length=33+32*a.length:=by unfold ii;rw[List.length_cons,b_,hi];omega
 have w1:IntKind.i64.wrap (((ii o inner a).length:Int)-33)=((32*a.length:Nat):Int):=by rw[IntWalk.i64_in _ aq];omega
 have i1:¬(((32*a.length:Nat):Int)<0):=aq;have i2:(((32*a.length:Nat):Int))%32=0:=aq;have Z:(((32*a.length:Nat):Int)).tmod 32=0:=i2;have i3:¬(256<((32*a.length:Nat):Int)):=aq;have i4:¬(1000<(x.length:Int)):=aq;generalize hN:32*a.length=N at *;have e2:(List.map (fun(b:Nat)=>[DV.int .u8 (b:Int)]) inner).flatten=cd inner:=by
  clear aa C hi w1
  induction inner with
  |nil=>rfl
  |cons x r ih=>simp only[List.map_cons,List.flatten_cons,ih];rfl
 have g:(ar z32 .nil .nil).length=34:=rfl;have m:List.drop 34 (ar z32 .nil .nil)=[]:=rfl;have lz:List.drop 32 (ar z32 .nil .nil)=[.nil,.nil]:=rfl;cases o
 ·have j:(ii false inner a)[0]?=some 192:=rfl;have hm:Go.bits .andNot .u8 192 1=192:=by decide
  have L:Go.bits .and .u8 192 1=0:=by decide
  have e1:List.take 32 (List.drop 1 (List.map (fun(b:Nat)=>[DV.int .u8 (b:Int)]) (ii false inner a)))=List.map (fun(b:Nat)=>[DV.int .u8 (b:Int)]) inner:=by
   unfold ii;rw[List.map_cons,List.drop_succ_cons,List.drop_zero,List.map_append,List.take_left' (by simp[hi])]
  have Q:(List.take 33 (List.map (fun(b:Nat)=>[DV.int .u8 (b:Int)]) (ii false inner a))).tail=List.map (fun(b:Nat)=>[DV.int .u8 (b:Int)]) inner:=by
   unfold ii;rw[List.map_cons,List.take_succ_cons,List.tail_cons,List.map_append,List.take_left' (by simp[hi])]
  have i5:(33:Int)≤33+(N:Int):=aq;simp[go_sem,nb,w1,i1,Z,i3,i4,j,hm];refine dE [0,1,2,3,4] [5,7,8] [0,1,2,3,4,6] (.alt (.step 5 [6] true (bt 7 (a_ [8]))) (bt 7 (.step 5 [6] true (a_ [8])))) ⟨[(0,.d (nb (ii false inner a))),(4,.ptr 0 0 0 1),(8,.ptr 1184 0 0 1)],[(1184,⟨33,34,[ar inner .nil (.d (nb x))]⟩),(0,⟨33,34,[ar z32 .nil .nil]⟩)],9000⟩ (k:=9) ?h3 ?hq
  case h3 =>
   intro G s;have i:∀(f:Fr)(c:Hp),(fv 0 f=.d (nb (ii false inner a))∧fv 4 f=.ptr 0 0 0 1∧fv 8 f=.ptr 1184 0 0 1∧lk 1184 c=some ⟨33,34,[ar inner .nil (.d (nb x))]⟩∧lk 0 c=some ⟨33,34,[ar z32 .nil .nil]⟩)→G f c:=by
    rintro f c⟨R,P,M,T,Y⟩;exact s _ _ qC
   simp[go_sem,Q,i5,e2,hi,C,ak,da,g,-List.map_flatten,-List.length_flatten,dI]
   repeat' first|exact i _ _ ⟨rfl,rfl,rfl,rfl,rfl⟩|(refine i _ _ ?_;simp[fv,lk];done)|refine ag (Fe x aq) a9 ?_|apply And.intro|simp[go_sem,nb,lz,tA hi,cg hi,hi,ak,g,m,-List.map_flatten,-List.length_flatten,dI]
  case hq =>
   have e5:List.drop 33 (List.map (fun(b:Nat)=>[DV.int .u8 (b:Int)]) (ii false inner a))=List.map (fun(b:Nat)=>[DV.int .u8 (b:Int)]) a.flatten:=by
    unfold ii;rw[List.map_cons,List.drop_succ_cons,List.map_append,List.drop_left' (by simp[hi])]
   have ab:List.drop 0 a=a:=rfl;have e6:List.take (33+(N:Int)).toNat (List.map (fun(b:Nat)=>[DV.int .u8 (b:Int)]) (ii false inner a))=List.map (fun(b:Nat)=>[DV.int .u8 (b:Int)]) (ii false inner a):=cx (by rw[List.length_map,C];omega);simp[go_sem,nb,e5,e6,C,-List.map_flatten,-List.length_flatten];refine⟨aq,?_⟩
   refine av (fun k:Nat=>⟨[(0,.d (nb (ii false inner a))),(4,.ptr 0 0 0 1),(8,.ptr 1184 0 0 1),(9,.d (nb (a.drop k).flatten))],pH inner x a k,pN k⟩)
    (fun k=>k≤a.length) (fun k=>a.length-k) 0 aq (by
     simp[az,ai,fv,lk,AV.low,AV.low1,pH,pN,nb,-List.map_flatten]
     exact⟨dO _ _ _ _ trivial trivial,dO _ _ _ _ trivial trivial⟩) ?_
   intro k hk;simp only[go_sem,Nat.reduceEqDiff,Nat.reduceLT,↓reduceIte];have B:=oe (a.drop k) (fun p c=>l p (List.mem_of_mem_drop c));rw[e_]at B;by_cases z:k<a.length
   ·have v:(0:Int)<(((a.drop k).flatten.length:Nat):Int):=aq;have c:=cm z;have t:a.drop k=a[k]::a.drop (k+1):=List.drop_eq_getElem_cons z;have n:a.take (k+1)=a.take k++[a[k]]:=List.take_succ_eq_append_getElem z;generalize a[k]=q at c t n;have hq:q.length=32:=l q (cr c);have K:List.take 32 (List.map (fun(b:Nat)=>[DV.int .u8 (b:Int)]) (a.drop k).flatten)=List.map (fun(b:Nat)=>[DV.int .u8 (b:Int)]) q:=by
     rw[t,List.flatten_cons,List.map_append,List.take_left' (by simp[hq])]
    have E:List.drop 32 (List.map (fun(b:Nat)=>[DV.int .u8 (b:Int)]) (a.drop k).flatten)=List.map (fun(b:Nat)=>[DV.int .u8 (b:Int)]) (a.drop (k+1)).flatten:=by
     rw[t,List.flatten_cons,List.map_append,List.drop_left' (by simp[hq])]
    have U:(List.map (fun(b:Nat)=>[DV.int .u8 (b:Int)]) q).flatten=cd q:=by
     clear c t n hq K E
     induction q with
     |nil=>rfl
     |cons x r ih=>simp only[List.map_cons,List.flatten_cons,ih];rfl
    have w:32≤(a.drop k).flatten.length:=aq;cases k with
    |zero =>
     refine⟨fun _=>?_,fun h=>absurd v (by simpa only[nb,List.length_map]using h)⟩;simp only[List.drop_zero]at K E w;have e:(32:Int)≤(a.flatten.length:Int):=aq;have F:min 32 a.flatten.length=32:=aq;simp only[pH,pN];refine cz [0,1,2,3,4,5] [(6,[]),(7,[8]),(9,[])] 2 (k:=10) ?_;intro G s;simp[go_sem,nb,e,K,U,qu hi,nt hi,cg hi,hq,da,al hq,ak,-List.map_flatten,-List.length_flatten];refine s _ _ ?_;have S:a.flatten.length=32*(a.length-0):=(by simpa using B)
     have O:List.take a.flatten.length (List.map (fun(b:Nat)=>[DV.int .u8 (b:Int)]) a.flatten)=List.map (fun(b:Nat)=>[DV.int .u8 (b:Int)]) a.flatten:=cx (by rw[List.length_map];omega);simp[go_sem,nb,e,O,E,-List.map_flatten,-List.length_flatten];refine am (0+1) aq aq ?_;have A:(a.take (0+1)).map cb=(a.take 0).map cb++[cb q]:=by rw[n];simp
     simp[az,ai,fv,lk,AV.low,AV.low1,-List.map_flatten,-List.length_flatten,-List.map_take,-List.map_drop];have V:List.take 1 (List.map cb a)=[cb q]:=by rw[←List.map_take];exact A
     rw[V];refine⟨⟨rfl,fun r D=>?_⟩,dO _ _ _ _ (by simp[AV.low1]) trivial,dO _ _ _ _ trivial trivial⟩;simp at D;subst D;exact aJ _ _
    | succ k =>
     refine⟨fun _=>?_,fun h=>absurd v (by simpa only[nb,List.length_map]using h)⟩;have e:(32:Int)≤((a.drop (k+1)).flatten.length:Int):=aq;have J:min (k+1) a.length=k+1:=aq;have X:k+1≤a.length:=aq;have y:(k+1+1)*32≤140737488355328:=aq;have H:k<a.length:=aq;have F:min 32 (a.drop (k+1)).flatten.length=32:=aq;simp only[pH,pN];refine dE [0,1,2,3,4,5] [6,7,8,9] [0,1,2,3,4,5] (bt 6 (a_ [7,8,9])) ⟨[(0,.d (nb (ii false inner a))),(4,.ptr 0 0 0 1),(8,.ptr 1184 0 0 1),(9,.d (nb (a.drop (k+1)).flatten))],[(9320,⟨29,32,List.take (k+1) (List.map cb a)++[cb q]⟩),(1184,⟨33,34,[ar inner (.own 9320 0 (k+1+1) (k+1+1)) (.d (nb x))]⟩),(0,⟨33,34,[ar z32 .nil .nil]⟩)],21000⟩ (k:=10) ?h3 ?hq
     case h3 =>
      intro G s;have i:∀(f:Fr)(c:Hp),(fv 0 f=.d (nb (ii false inner a))∧fv 4 f=.ptr 0 0 0 1∧fv 8 f=.ptr 1184 0 0 1∧fv 9 f=.d (nb (a.drop (k+1)).flatten)∧lk 9320 c=some ⟨29,32,List.take (k+1) (List.map cb a)++[cb q]⟩∧lk 1184 c=some ⟨33,34,[ar inner (.own 9320 0 (k+1+1) (k+1+1)) (.d (nb x))]⟩∧lk 0 c=some ⟨33,34,[ar z32 .nil .nil]⟩)→G f c:=by
       rintro f c⟨R,P,M,T,Y,q5,q6⟩;exact s _ _ qC
      simp[go_sem,nb,y,e,J,K,U,qu hi,nt hi,cg hi,hq,da,al hq,ak,-List.map_flatten,-List.length_flatten,dI]
      repeat' first|exact i _ _ ⟨rfl,rfl,rfl,rfl,rfl,rfl,rfl⟩|(refine i _ _ ?_;simp[fv,lk];done)|fail|apply And.intro|simp[go_sem,nb,y,w,e,F,J,X,H,K,E,U,qu hi,nt hi,cg hi,cj,hq,da,al hq,ak,-List.map_flatten,-List.length_flatten,dI]
     case hq =>
      have S:(a.drop (k+1)).flatten.length=32*(a.length-(k+1)):=(by simpa using B);have O:List.take (a.drop (k+1)).flatten.length (List.map (fun(b:Nat)=>[DV.int .u8 (b:Int)]) (a.drop (k+1)).flatten)=List.map (fun(b:Nat)=>[DV.int .u8 (b:Int)]) (a.drop (k+1)).flatten:=cx (by rw[List.length_map];omega);simp[go_sem,nb,e,O,E,-List.map_flatten,-List.length_flatten];refine am ((k+1)+1) aq aq ?_;have A:(a.take ((k+1)+1)).map cb=(a.take (k+1)).map cb++[cb q]:=by rw[n];simp
      simp[az,ai,fv,lk,AV.low,AV.low1,-List.map_flatten,-List.length_flatten,-List.map_take,-List.map_drop];refine⟨⟨?_,fun r D=>?_⟩,dO _ _ _ _ (by simp[AV.low1]) trivial,dO _ _ _ _ trivial trivial⟩;rw[←List.map_take,←List.map_take];exact A.symm;exact tw _ a r (List.mem_of_mem_take D)
   ·have u:k=a.length:=aq;have hz:¬((0:Int)<(((a.drop k).flatten.length:Nat):Int)):=aq;refine⟨fun h=>absurd (by simpa only[nb,List.length_map]using h) hz,fun _=>?_⟩;cases k with
    | zero =>
     have I:a=[]:=List.eq_nil_of_length_eq_zero u.symm;subst I;simp only[pH,pN];refine dE [0] [1,2,3,4,5,6,7,8] [0] (.alt (bt 1 (.alt (bt 2 (.alt (bt 3 (.alt (bt 4 (.alt (bt 5 (a_ [6,7,8])) (a_ [6,5,7,8]))) (a_ [6,4,5,7,8]))) (a_ [6,3,4,5,7,8]))) (a_ [6,2,3,4,5,7,8]))) (a_ [6,1,2,3,4,5,7,8])) ⟨[(4,.ptr 0 0 0 1),(5,.d (.bool false)),(6,.d (.int .i64 0))],[(0,⟨33,34,[ar inner .nil (.d (nb x))]⟩)],30000⟩ (k:=9) ?h3 ?hq
     case h3 =>
      intro G s;have i:∀(f:Fr)(c:Hp),(fv 4 f=.ptr 0 0 0 1∧fv 5 f=.d (.bool false)∧fv 6 f=.d (.int .i64 0)∧lk 0 c=some ⟨33,34,[ar inner .nil (.d (nb x))]⟩)→G f c:=by
       rintro f c⟨R,P,M,T⟩;exact s _ _ qC
      simp (config := { maxSteps := 1000000 }) [go_sem,nb,j,L,cg hi,cn hi,g,m,-List.map_flatten,-List.length_flatten,dI]
      repeat' first|exact i _ _ ⟨rfl,rfl,rfl,rfl⟩|(refine i _ _ ?_;simp[fv,lk];done)|fail|apply And.intro|simp (config := { maxSteps := 1000000 }) [go_sem,nb,j,L,cg hi,cn hi,g,m,-List.map_flatten,-List.length_flatten,dI]
     case hq =>
      simp[go_sem,cg hi,cn hi,ah];exact qq (.inr ⟨_,rfl,.nil 32⟩) (.inl ⟨rfl,trivial⟩) rfl
    | succ k =>
     have W:a.take (k+1)=a:=cx aq;simp only[pH,pN,W];refine dE [0] [1,2,3,4,5,6,7,8] [0] (.alt (bt 1 (.alt (bt 2 (.alt (bt 3 (.alt (bt 4 (.alt (bt 5 (a_ [6,7,8])) (a_ [6,5,7,8]))) (a_ [6,4,5,7,8]))) (a_ [6,3,4,5,7,8]))) (a_ [6,2,3,4,5,7,8]))) (a_ [6,1,2,3,4,5,7,8])) ⟨[(4,.ptr 0 0 0 1),(5,.d (.bool false)),(6,.d (.int .i64 0))],[(9320,⟨29,32,a.map cb⟩),(0,⟨33,34,[ar inner (.own 9320 0 (k+1) (k+1)) (.d (nb x))]⟩)],30000⟩ (k:=9) ?h3 ?hq
     case h3 =>
      intro G s;have i:∀(f:Fr)(c:Hp),(fv 4 f=.ptr 0 0 0 1∧fv 5 f=.d (.bool false)∧fv 6 f=.d (.int .i64 0)∧lk 9320 c=some ⟨29,32,a.map cb⟩∧lk 0 c=some ⟨33,34,[ar inner (.own 9320 0 (k+1) (k+1)) (.d (nb x))]⟩)→G f c:=by
       rintro f c⟨R,P,M,T,Y⟩;exact s _ _ qC
      simp (config := { maxSteps := 1000000 }) [go_sem,nb,j,L,cg hi,cn hi,g,m,-List.map_flatten,-List.length_flatten,dI]
      repeat' first|exact i _ _ ⟨rfl,rfl,rfl,rfl,rfl⟩|(refine i _ _ ?_;simp[fv,lk];done)|fail|apply And.intro|simp (config := { maxSteps := 1000000 }) [go_sem,nb,j,L,cg hi,cn hi,g,m,-List.map_flatten,-List.length_flatten,dI]
     case hq =>
      simp[go_sem,cg hi,cn hi,ah];exact qq (.inr ⟨_,rfl,kr (rows:=a.map cb) rfl trivial (by simp[u]) (by rw[List.drop_zero,cx (by simp[u]),←Qr a];exact lp _) (by simp[u]) (by intro r D;simp at D;obtain⟨p,c,rfl⟩:=D;rw[cj];exact l p c)⟩) (.inl ⟨rfl,trivial⟩) rfl
 ·have j:(ii true inner a)[0]?=some 193:=rfl;have hm:Go.bits .andNot .u8 193 1=192:=by decide
  have L:Go.bits .and .u8 193 1=1:=by decide
  have e1:List.take 32 (List.drop 1 (List.map (fun(b:Nat)=>[DV.int .u8 (b:Int)]) (ii true inner a)))=List.map (fun(b:Nat)=>[DV.int .u8 (b:Int)]) inner:=by
   unfold ii;rw[List.map_cons,List.drop_succ_cons,List.drop_zero,List.map_append,List.take_left' (by simp[hi])]
  have Q:(List.take 33 (List.map (fun(b:Nat)=>[DV.int .u8 (b:Int)]) (ii true inner a))).tail=List.map (fun(b:Nat)=>[DV.int .u8 (b:Int)]) inner:=by
   unfold ii;rw[List.map_cons,List.take_succ_cons,List.tail_cons,List.map_append,List.take_left' (by simp[hi])]
  have i5:(33:Int)≤33+(N:Int):=aq;simp[go_sem,nb,w1,i1,Z,i3,i4,j,hm];refine dE [0,1,2,3,4] [5,7,8] [0,1,2,3,4,6] (.alt (.step 5 [6] true (bt 7 (a_ [8]))) (bt 7 (.step 5 [6] true (a_ [8])))) ⟨[(0,.d (nb (ii true inner a))),(4,.ptr 0 0 0 1),(8,.ptr 1184 0 0 1)],[(1184,⟨33,34,[ar inner .nil (.d (nb x))]⟩),(0,⟨33,34,[ar z32 .nil .nil]⟩)],9000⟩ (k:=9) ?h3 ?hq
  case h3 =>
   intro G s;have i:∀(f:Fr)(c:Hp),(fv 0 f=.d (nb (ii true inner a))∧fv 4 f=.ptr 0 0 0 1∧fv 8 f=.ptr 1184 0 0 1∧lk 1184 c=some ⟨33,34,[ar inner .nil (.d (nb x))]⟩∧lk 0 c=some ⟨33,34,[ar z32 .nil .nil]⟩)→G f c:=by
    rintro f c⟨R,P,M,T,Y⟩;exact s _ _ qC
   simp[go_sem,Q,i5,e2,hi,C,ak,da,g,-List.map_flatten,-List.length_flatten,dI]
   repeat' first|exact i _ _ ⟨rfl,rfl,rfl,rfl,rfl⟩|(refine i _ _ ?_;simp[fv,lk];done)|refine ag (Fe x aq) a9 ?_|apply And.intro|simp[go_sem,nb,lz,tA hi,cg hi,hi,ak,g,m,-List.map_flatten,-List.length_flatten,dI]
  case hq =>
   have e5:List.drop 33 (List.map (fun(b:Nat)=>[DV.int .u8 (b:Int)]) (ii true inner a))=List.map (fun(b:Nat)=>[DV.int .u8 (b:Int)]) a.flatten:=by
    unfold ii;rw[List.map_cons,List.drop_succ_cons,List.map_append,List.drop_left' (by simp[hi])]
   have ab:List.drop 0 a=a:=rfl;have e6:List.take (33+(N:Int)).toNat (List.map (fun(b:Nat)=>[DV.int .u8 (b:Int)]) (ii true inner a))=List.map (fun(b:Nat)=>[DV.int .u8 (b:Int)]) (ii true inner a):=cx (by rw[List.length_map,C];omega);simp[go_sem,nb,e5,e6,C,-List.map_flatten,-List.length_flatten];refine⟨aq,?_⟩
   refine av (fun k:Nat=>⟨[(0,.d (nb (ii true inner a))),(4,.ptr 0 0 0 1),(8,.ptr 1184 0 0 1),(9,.d (nb (a.drop k).flatten))],pH inner x a k,pN k⟩)
    (fun k=>k≤a.length) (fun k=>a.length-k) 0 aq (by
     simp[az,ai,fv,lk,AV.low,AV.low1,pH,pN,nb,-List.map_flatten]
     exact⟨dO _ _ _ _ trivial trivial,dO _ _ _ _ trivial trivial⟩) ?_
   intro k hk;simp only[go_sem,Nat.reduceEqDiff,Nat.reduceLT,↓reduceIte];have B:=oe (a.drop k) (fun p c=>l p (List.mem_of_mem_drop c));rw[e_]at B;by_cases z:k<a.length
   ·have v:(0:Int)<(((a.drop k).flatten.length:Nat):Int):=aq;have c:=cm z;have t:a.drop k=a[k]::a.drop (k+1):=List.drop_eq_getElem_cons z;have n:a.take (k+1)=a.take k++[a[k]]:=List.take_succ_eq_append_getElem z;generalize a[k]=q at c t n;have hq:q.length=32:=l q (cr c);have K:List.take 32 (List.map (fun(b:Nat)=>[DV.int .u8 (b:Int)]) (a.drop k).flatten)=List.map (fun(b:Nat)=>[DV.int .u8 (b:Int)]) q:=by
     rw[t,List.flatten_cons,List.map_append,List.take_left' (by simp[hq])]
    have E:List.drop 32 (List.map (fun(b:Nat)=>[DV.int .u8 (b:Int)]) (a.drop k).flatten)=List.map (fun(b:Nat)=>[DV.int .u8 (b:Int)]) (a.drop (k+1)).flatten:=by
     rw[t,List.flatten_cons,List.map_append,List.drop_left' (by simp[hq])]
    have U:(List.map (fun(b:Nat)=>[DV.int .u8 (b:Int)]) q).flatten=cd q:=by
     clear c t n hq K E
     induction q with
     |nil=>rfl
     |cons x r ih=>simp only[List.map_cons,List.flatten_cons,ih];rfl
    have w:32≤(a.drop k).flatten.length:=aq;cases k with
    |zero =>
     refine⟨fun _=>?_,fun h=>absurd v (by simpa only[nb,List.length_map]using h)⟩;simp only[List.drop_zero]at K E w;have e:(32:Int)≤(a.flatten.length:Int):=aq;have F:min 32 a.flatten.length=32:=aq;simp only[pH,pN];refine cz [0,1,2,3,4,5] [(6,[]),(7,[8]),(9,[])] 2 (k:=10) ?_;intro G s;simp[go_sem,nb,e,K,U,qu hi,nt hi,cg hi,hq,da,al hq,ak,-List.map_flatten,-List.length_flatten];refine s _ _ ?_;have S:a.flatten.length=32*(a.length-0):=(by simpa using B)
     have O:List.take a.flatten.length (List.map (fun(b:Nat)=>[DV.int .u8 (b:Int)]) a.flatten)=List.map (fun(b:Nat)=>[DV.int .u8 (b:Int)]) a.flatten:=cx (by rw[List.length_map];omega);simp[go_sem,nb,e,O,E,-List.map_flatten,-List.length_flatten];refine am (0+1) aq aq ?_;have A:(a.take (0+1)).map cb=(a.take 0).map cb++[cb q]:=by rw[n];simp
     simp[az,ai,fv,lk,AV.low,AV.low1,-List.map_flatten,-List.length_flatten,-List.map_take,-List.map_drop];have V:List.take 1 (List.map cb a)=[cb q]:=by rw[←List.map_take];exact A
     rw[V];refine⟨⟨rfl,fun r D=>?_⟩,dO _ _ _ _ (by simp[AV.low1]) trivial,dO _ _ _ _ trivial trivial⟩;simp at D;subst D;exact aJ _ _
    | succ k =>
     refine⟨fun _=>?_,fun h=>absurd v (by simpa only[nb,List.length_map]using h)⟩;have e:(32:Int)≤((a.drop (k+1)).flatten.length:Int):=aq;have J:min (k+1) a.length=k+1:=aq;have X:k+1≤a.length:=aq;have y:(k+1+1)*32≤140737488355328:=aq;have H:k<a.length:=aq;have F:min 32 (a.drop (k+1)).flatten.length=32:=aq;simp only[pH,pN];refine dE [0,1,2,3,4,5] [6,7,8,9] [0,1,2,3,4,5] (bt 6 (a_ [7,8,9])) ⟨[(0,.d (nb (ii true inner a))),(4,.ptr 0 0 0 1),(8,.ptr 1184 0 0 1),(9,.d (nb (a.drop (k+1)).flatten))],[(9320,⟨29,32,List.take (k+1) (List.map cb a)++[cb q]⟩),(1184,⟨33,34,[ar inner (.own 9320 0 (k+1+1) (k+1+1)) (.d (nb x))]⟩),(0,⟨33,34,[ar z32 .nil .nil]⟩)],21000⟩ (k:=10) ?h3 ?hq
     case h3 =>
      intro G s;have i:∀(f:Fr)(c:Hp),(fv 0 f=.d (nb (ii true inner a))∧fv 4 f=.ptr 0 0 0 1∧fv 8 f=.ptr 1184 0 0 1∧fv 9 f=.d (nb (a.drop (k+1)).flatten)∧lk 9320 c=some ⟨29,32,List.take (k+1) (List.map cb a)++[cb q]⟩∧lk 1184 c=some ⟨33,34,[ar inner (.own 9320 0 (k+1+1) (k+1+1)) (.d (nb x))]⟩∧lk 0 c=some ⟨33,34,[ar z32 .nil .nil]⟩)→G f c:=by
       rintro f c⟨R,P,M,T,Y,q5,q6⟩;exact s _ _ qC
      simp[go_sem,nb,y,e,J,K,U,qu hi,nt hi,cg hi,hq,da,al hq,ak,-List.map_flatten,-List.length_flatten,dI]
      repeat' first|exact i _ _ ⟨rfl,rfl,rfl,rfl,rfl,rfl,rfl⟩|(refine i _ _ ?_;simp[fv,lk];done)|fail|apply And.intro|simp[go_sem,nb,y,w,e,F,J,X,H,K,E,U,qu hi,nt hi,cg hi,cj,hq,da,al hq,ak,-List.map_flatten,-List.length_flatten,dI]
     case hq =>
      have S:(a.drop (k+1)).flatten.length=32*(a.length-(k+1)):=(by simpa using B);have O:List.take (a.drop (k+1)).flatten.length (List.map (fun(b:Nat)=>[DV.int .u8 (b:Int)]) (a.drop (k+1)).flatten)=List.map (fun(b:Nat)=>[DV.int .u8 (b:Int)]) (a.drop (k+1)).flatten:=cx (by rw[List.length_map];omega);simp[go_sem,nb,e,O,E,-List.map_flatten,-List.length_flatten];refine am ((k+1)+1) aq aq ?_;have A:(a.take ((k+1)+1)).map cb=(a.take (k+1)).map cb++[cb q]:=by rw[n];simp
      simp[az,ai,fv,lk,AV.low,AV.low1,-List.map_flatten,-List.length_flatten,-List.map_take,-List.map_drop];refine⟨⟨?_,fun r D=>?_⟩,dO _ _ _ _ (by simp[AV.low1]) trivial,dO _ _ _ _ trivial trivial⟩;rw[←List.map_take,←List.map_take];exact A.symm;exact tw _ a r (List.mem_of_mem_take D)
   ·have u:k=a.length:=aq;have hz:¬((0:Int)<(((a.drop k).flatten.length:Nat):Int)):=aq;refine⟨fun h=>absurd (by simpa only[nb,List.length_map]using h) hz,fun _=>?_⟩;cases k with
    | zero =>
     have I:a=[]:=List.eq_nil_of_length_eq_zero u.symm;subst I;simp only[pH,pN];refine dE [0] [1,2,3,4,5,6,7,8] [0] (.alt (bt 1 (.alt (bt 2 (.alt (bt 3 (.alt (bt 4 (.alt (bt 5 (a_ [6,7,8])) (a_ [6,5,7,8]))) (a_ [6,4,5,7,8]))) (a_ [6,3,4,5,7,8]))) (a_ [6,2,3,4,5,7,8]))) (a_ [6,1,2,3,4,5,7,8])) ⟨[(4,.ptr 0 0 0 1),(5,.d (.bool true)),(6,.d (.int .i64 0))],[(0,⟨33,34,[ar inner .nil (.d (nb x))]⟩)],30000⟩ (k:=9) ?h3 ?hq
     case h3 =>
      intro G s;have i:∀(f:Fr)(c:Hp),(fv 4 f=.ptr 0 0 0 1∧fv 5 f=.d (.bool true)∧fv 6 f=.d (.int .i64 0)∧lk 0 c=some ⟨33,34,[ar inner .nil (.d (nb x))]⟩)→G f c:=by
       rintro f c⟨R,P,M,T⟩;exact s _ _ qC
      simp (config := { maxSteps := 1000000 }) [go_sem,nb,j,L,cg hi,cn hi,g,m,-List.map_flatten,-List.length_flatten,dI]
      repeat' first|exact i _ _ ⟨rfl,rfl,rfl,rfl⟩|(refine i _ _ ?_;simp[fv,lk];done)|fail|apply And.intro|simp (config := { maxSteps := 1000000 }) [go_sem,nb,j,L,cg hi,cn hi,g,m,-List.map_flatten,-List.length_flatten,dI]
     case hq =>
      simp[go_sem,cg hi,cn hi,ah];exact qq (.inr ⟨_,rfl,.nil 32⟩) (.inl ⟨rfl,trivial⟩) rfl
    | succ k =>
     have W:a.take (k+1)=a:=cx aq;simp only[pH,pN,W];refine dE [0] [1,2,3,4,5,6,7,8] [0] (.alt (bt 1 (.alt (bt 2 (.alt (bt 3 (.alt (bt 4 (.alt (bt 5 (a_ [6,7,8])) (a_ [6,5,7,8]))) (a_ [6,4,5,7,8]))) (a_ [6,3,4,5,7,8]))) (a_ [6,2,3,4,5,7,8]))) (a_ [6,1,2,3,4,5,7,8])) ⟨[(4,.ptr 0 0 0 1),(5,.d (.bool true)),(6,.d (.int .i64 0))],[(9320,⟨29,32,a.map cb⟩),(0,⟨33,34,[ar inner (.own 9320 0 (k+1) (k+1)) (.d (nb x))]⟩)],30000⟩ (k:=9) ?h3 ?hq
     case h3 =>
      intro G s;have i:∀(f:Fr)(c:Hp),(fv 4 f=.ptr 0 0 0 1∧fv 5 f=.d (.bool true)∧fv 6 f=.d (.int .i64 0)∧lk 9320 c=some ⟨29,32,a.map cb⟩∧lk 0 c=some ⟨33,34,[ar inner (.own 9320 0 (k+1) (k+1)) (.d (nb x))]⟩)→G f c:=by
       rintro f c⟨R,P,M,T,Y⟩;exact s _ _ qC
      simp (config := { maxSteps := 1000000 }) [go_sem,nb,j,L,cg hi,cn hi,g,m,-List.map_flatten,-List.length_flatten,dI]
      repeat' first|exact i _ _ ⟨rfl,rfl,rfl,rfl,rfl⟩|(refine i _ _ ?_;simp[fv,lk];done)|fail|apply And.intro|simp (config := { maxSteps := 1000000 }) [go_sem,nb,j,L,cg hi,cn hi,g,m,-List.map_flatten,-List.length_flatten,dI]
     case hq =>
      simp[go_sem,cg hi,cn hi,ah];exact qq (.inr ⟨_,rfl,kr (rows:=a.map cb) rfl trivial (by simp[u]) (by rw[List.drop_zero,cx (by simp[u]),←Qr a];exact lp _) (by simp[u]) (by intro r D;simp at D;obtain⟨p,c,rfl⟩:=D;rw[cj];exact l p c)⟩) (.inl ⟨rfl,trivial⟩) rfl
theorem UV{P:Program}{K:AV→Hp→Prop}{hp:Hp}(t:TypeId)(a b:Bool):dj P .eql t (.d (.bool a)) (.d (.bool b)) K hp=(P.underlying t=some .bool∧K (.d (.bool (a==b))) hp):=rfl
theorem UW{P:Program}{K:AV→Hp→Prop}{hp:Hp}(t:TypeId)(a b:Bool):dj P .neq t (.d (.bool a)) (.d (.bool b)) K hp=(P.underlying t=some .bool∧K (.d (.bool (a != b))) hp):=rfl
theorem Qs:Tryz.prog.underlying 4=some .bool:=by kernel_rfl
attribute [go_sem] UV UW Qs
theorem UX(a b:DV)(k:List Nat):∀v,v∈[AV.d a,AV.d b,AV.agg (cb k)]→v.deep:=by
 intro v c;simp at c;rcases c with rfl|rfl|rfl;trivial;trivial;exact dV _
theorem gC(inner:List Nat)(a b:DV):(AV.agg (ar inner (.d a) (.d b))).deep:=by
 intro c hc;unfold ar at hc;rcases cL.1 hc with h|h;exact bn _ _ h;simp at h;rcases h with rfl|rfl<;>trivial
theorem JC{Q:AV→Prop}{st:St}{inner:List Nat}{a b:DV}{e:Int}(hq:Q (.tup [.agg (ar inner (.d a) (.d b)),.d (.int .i64 e)])):dC Q (.tup [.agg (ar inner (.d a) (.d b)),.d (.int .i64 e)]) st :=
 aa (by
  intro c hc;simp at hc;rcases hc with rfl|rfl;exact .inr ⟨_,rfl,gC _ _ _⟩
  exact .inl trivial) hq
theorem Zl{P:Program}{s t:TypeId}{a:AV→Hp→Prop}{hp:Hp}(l:List Nat)(el:TypeId)(c:bytes l)(f:ca P s=.slice el)(i:ca P t=.str)(h3:P.underlying el=some (.int .u8))(e:a (.d (.str (sb l))) hp):cvS P s t (l.map fun(x:Nat)=>[DV.int .u8 (x:Int)]) a hp:=by
 refine⟨sb l,by simp[sb],fun b h=>?_,?_⟩;simp only[sb,List.mem_map]at h;obtain⟨x,g,rfl⟩:=h;have:=c x g;omega;rw[f,i];exact⟨h3,e⟩
theorem Qu{inner x k i:List Nat}{j:List (List Nat)}{o:Bool}(hi:inner.length=32)(l:∀p,p∈j→p.length=32)(n:j.length≤8)(m:x.length≤1000)(g:k.length=32)(e:i.length=32)(f:au Tryz.prog 92 [bT inner j x] (fun r=>r=.tup [.agg (cb k),.d (.bool o),.d (.int .i64 0)])) :
  au Tryz.prog 77 [.d (nb (ii o inner j)),.d (nb x),.agg (cb i)] (fun r=>r=if k=i then .tup [.agg (ar inner (.d (bW j)) (.d (nb x))),.d (.int .i64 0)]else .tup [.agg (ar z32 .nil .nil),.d (.int .i64 26)]):=by
 refine bF Tryz.func77 Tryz.ntmps77 (rs:=[.cell 6 33,.tmp 7]) (UX _ _ _) ?_;have s:List.drop 32 (cb z32)=[]:=gK rfl;have a:(ar z32 .nil .nil).length=34:=rfl;have b:List.drop 34 (ar z32 .nil .nil)=[]:=rfl;have t:=UU o hi l n m;simp[go_sem,ak,e];refine ag t a9 ?_;simp[go_sem,cg hi,cn hi,a,b];refine ag f (cT _ _ _) ?_;by_cases q:k=i
 ·subst q;cases o
  ·simp[go_sem,ak,g,al g,s,A7,cg hi,cn hi,a,b,ah];exact JC rfl
  ·simp[go_sem,ak,g,al g,s,A7,cg hi,cn hi,a,b,ah];exact JC rfl
 ·have u:¬(List.map (fun(x:Nat)=>(x:Int)) k=List.map (fun(x:Nat)=>(x:Int)) i):=fun h=>q (xg.1 h);have v:List.take 34 (ar z32 .nil .nil)=ar z32 .nil .nil:=rfl;simp[go_sem,ak,g,e,al g,al e,s,A7,q,u,a,b,v,ah];refine aa ?_ rfl;intro c hc;simp at hc;rcases hc with rfl|rfl
  exact .inr ⟨_,rfl,fun x m=>by
   unfold ar at m;rcases cL.1 m with h|h;exact bn _ _ h
   simp at h;subst h;trivial⟩
  exact .inl trivial
def Ff(t:Tn)(b:Int)(a:List Nat)(e:Int):Bool :=
 decide (0≤b)&&match t.outs[b.toNat]? with
  |some o=>decide (e=0)&&decide (o.2=a)
  |none=>false
def iQ(coins:List (Nat×List Nat))(n:Int):Nat×List Nat:=(coins[n.toNat]?).getD (0,[])
def Qv(o v:Int):List DV:=[.int .i64 o,.int .u64 v]
def Ao(t:Tn)(n:Int)(coins:List (Nat×List Nat))(f c b:Int)(a:List Nat)(e:Int):AV :=
 if bR t n coins≠0 then .tup [.nil,.d (.int .i64 1)]
 else if Ff t f a e=false∨b<0∨((iQ coins n).1:Int)<b then .tup [.nil,.d (.int .i64 24)]
 else if c=-1∧b=0 then .tup [.d (.ro 2 [Qv f (((iQ coins n).1:Int)-b)]),.d (.int .i64 0)]
 else if c=f∨Ff t c (iQ coins n).2 0=false then .tup [.nil,.d (.int .i64 24)]
 else .tup [.d (.ro 2 [Qv f (((iQ coins n).1:Int)-b),Qv c b]),.d (.int .i64 0)]
theorem nu{inner:List Nat}(hi:inner.length=32)(a b:AV):(ar inner a b).length=34:=by simp[ar,ak,hi]
theorem og{inner:List Nat}(hi:inner.length=32)(a b:AV):List.take 34 (ar inner a b)=ar inner a b:=cx (by rw[nu hi];exact cR _)
theorem Ll{inner:List Nat}(hi:inner.length=32)(a b c:AV):(ar inner a b).set 33 c=ar inner a c:=by
 have d:(cb inner).length=32:=by rw[ak,hi]
 unfold ar;rw[List.set_append_right _ _ aq,d];rfl
theorem Lm(t:Tn)(n:Int)(coins:List (Nat×List Nat))(inner:List Nat)(q:List (List Nat))(x s a:List Nat)(b e:Int)(hi:inner.length=32)(w:bytes a)(f:∀o,o∈t.outs→bytes o.2)
  (g:au Tryz.prog 46 [bT inner q s] (fun r=>r=.tup [.d (nb a),.d (.int .i64 e)])) :
  au Tryz.prog 65 [.agg (eS t n coins),bT inner q x,.d (nb s),.d (.int .i64 b)] (fun r=>r=.d (.bool (Ff t b a e))):=by
 refine bF Tryz.func65 Tryz.ntmps65 (rs:=[.tmp 8]) (by
  intro v m;simp at m;rcases m with rfl|rfl|rfl|rfl;simp[AV.deep,AV.deep1,eS];exact gC _ _ _;trivial
  trivial) ?_
 have j:(eS t n coins).length=6:=rfl;have h:List.take 6 (eS t n coins)=eS t n coins:=rfl;simp[go_sem,bT,nu hi,j,h];by_cases c:b<0∨(t.outs.length:Int)≤b
 ·have l:Ff t b a e=false:=by
   unfold Ff;rcases c with c|c;simp;omega;rw[List.getElem?_eq_none aq];simp
  refine ag (BC t n coins b c) (by simp[AV.deep,AV.deep1,eS]) ?_;rw[l];simp[go_sem,ah];exact aa a9 rfl
 ·obtain⟨k,rfl⟩:∃k:Nat,b=(k:Int):=⟨b.toNat,aq⟩;have u:k<t.outs.length:=aq;obtain⟨o,i⟩:∃o,t.outs[k]?=some o:=⟨_,cm u⟩;have l:Ff t k a e=(decide (e=0)&&decide (o.2=a)):=by
   unfold Ff;simp[i]
  rw[l];refine ag (xT t n coins k o i) (by simp[AV.deep,AV.deep1,eS]) ?_;simp[go_sem,nu hi,og hi,Ll hi,nb];refine ag g (cT _ _ _) ?_;simp[go_sem];by_cases p:e=0
  ·subst p;simp[go_sem];refine ag (jx o.2 a (f o (cr i)) w) a9 ?_;simp[go_sem,ah];exact aa a9 rfl
  ·simp[go_sem,p,ah];exact aa a9 rfl
theorem Fg(t:Tn)(m:Nat)(coins:List (Nat×List Nat))(a:Int)(n:m<coins.length)(g:∀o,o∈t.outs→bytes o.2)(f:∀o,o∈coins→bytes o.2) :
  au Tryz.prog 66 [.agg (eS t m coins),.d (.int .i64 a)] (fun r=>r=.d (.bool (Ff t a (iQ coins m).2 0))):=by
 refine bF Tryz.func66 Tryz.ntmps66 (rs:=[.tmp 4]) (by simp[AV.deep,AV.deep1,eS]) ?_;obtain⟨c,b⟩:∃o,coins[m]?=some o:=⟨_,cm n⟩;have j:iQ coins m=c:=by simp[iQ,b]
 simp[go_sem,eS];by_cases e:a<0∨(t.outs.length:Int)≤a
 ·have i:Ff t a (iQ coins m).2 0=false:=by
   unfold Ff;rcases e with e|e;simp;omega;rw[List.getElem?_eq_none aq];simp
  refine ag (BC t m coins a e) (by simp[AV.deep,AV.deep1]) ?_;rw[i];simp[go_sem,ah];exact aa a9 rfl
 ·obtain⟨k,rfl⟩:∃k:Nat,a=(k:Int):=⟨a.toNat,aq⟩;have l:k<t.outs.length:=aq;obtain⟨o,h⟩:∃o,t.outs[k]?=some o:=⟨_,cm l⟩;have i:Ff t k (iQ coins m).2 0=decide (o.2=c.2):=by
   unfold Ff;simp[h,j]
  rw[i];refine ag (xT t m coins k o h) (by simp[AV.deep,AV.deep1]) ?_;simp[go_sem,b,eO];refine ag (jx o.2 c.2 (g o (cr h)) (f c (cr b))) a9 ?_;simp[go_sem,ah];exact aa a9 rfl
theorem CQ{Q:AV→Prop}{st:St}{id n:Nat}{ty:TypeId}{e:Int}(rows:List (List DV))(h:rows.length=n)(f:lk id st.hp=some ⟨ty,2,rows.map (fun r=>r.map AV.d)⟩)(g:∀r,r∈rows→r.length=2)(hq:Q (.tup [.d (.ro 2 rows),.d (.int .i64 e)])):dC Q (.tup [.own id 0 n n,.d (.int .i64 e)]) st:=by
 subst h;refine ek (cs':=[.d (.ro 2 rows),.d (.int .i64 e)]) (fun i c j a b=>?_) rfl a9 hq
 match i,a,b with
 |0,a,b=>simp at a b;subst a b;exact ao (kr f trivial aw (by rw[List.drop_zero,cx aw];exact lp _) rfl g)
 |1,a,b=>simp at a b;subst a b;exact aL trivial
 |k+2,a,_=>simp at a
theorem Ln(t:Tn)(n:Int)(coins:List (Nat×List Nat))(inner:List Nat)(c:List (List Nat))(x s:List Nat)(f e a:Int):∀v,v∈[AV.agg (eS t n coins),bT inner c x,.d (nb s),.agg [.d (.int .i64 f),.d (.int .i64 e)],.d (.int .i64 a)]→v.deep:=by
 intro v b;simp at b;rcases b with rfl|rfl|rfl|rfl|rfl;simp[AV.deep,AV.deep1,eS];exact gC _ _ _;trivial;simp[AV.deep,AV.deep1];trivial
theorem UY(t:Tn)(n:Int)(coins:List (Nat×List Nat))(inner:List Nat)(b:List (List Nat))(x s:List Nat)(o:Int):∀v,v∈[AV.agg (eS t n coins),bT inner b x,.d (nb s),.d (.int .i64 o)]→v.deep:=by
 intro v a;simp at a;rcases a with rfl|rfl|rfl|rfl;simp[AV.deep,AV.deep1,eS];exact gC _ _ _;trivial;trivial
theorem HE(t:Tn)(n:Int)(coins:List (Nat×List Nat))(inner:List Nat)(D:List (List Nat))(x s a:List Nat)(f i b e:Int)(K:Sm t)(hc:coins.length≤1000)(hi:inner.length=32)(O:bytes a)(v:∀o,o∈t.outs→bytes o.2)(q:∀o,o∈coins→bytes o.2∧o.1<18446744073709551616)
  (M:b<9223372036854775808) (g:au Tryz.prog 46 [bT inner D s] (fun r=>r=.tup [.d (nb a),.d (.int .i64 e)])) :
  au Tryz.prog 27 [.agg (eS t n coins),bT inner D x,.d (nb s),.agg [.d (.int .i64 f),.d (.int .i64 i)],.d (.int .i64 b)] (fun r=>r=Ao t n coins f i b a e):=by
 refine bF Tryz.func27 Tryz.ntmps27 (rs:=[.tmp 10,.tmp 11]) (Ln _ _ _ _ _ _ _ _ _ _) ?_;have F:(eS t n coins).length=6:=rfl;have E:List.take 6 (eS t n coins)=eS t n coins:=rfl;simp[go_sem,bT,nu hi,F,E];refine ag (nf t n coins K hc) (by simp[AV.deep,AV.deep1,eS]) ?_;rcases nP t n coins with y|⟨y,I,L⟩
 ·have Q:Ao t n coins f i b a e=.tup [.nil,.d (.int .i64 1)]:=by simp[Ao,y]
  rw[y,Q];simp[go_sem,ah];exact aa a9 rfl
 ·rw [y];obtain ⟨m,rfl⟩:∃ k:Nat,n=(k:Int):=⟨n.toNat,aq⟩;obtain ⟨c,l⟩:∃ o,coins[m]?=some o:=⟨_,cm (by omega:m<coins.length)⟩;have z:iQ coins m=c:=by simp [iQ,l]
  have N:=(q c (cr l)).2;simp[go_sem,eS,l,eO,nu hi,og hi];refine ag (Lm t m coins inner D x s a f e hi O v g) (UY _ _ _ _ _ _ _ _) ?_;unfold Ao;rw[y,z]
  cases P:Ff t f a e
  ·simp[go_sem,ah];exact aa a9 rfl
  by_cases p:b<0
  ·simp[go_sem,p,ah];exact aa a9 rfl
  have j:IntKind.u64.wrap b=b:=by rw[IntWalk.u64_in _ aq]
  by_cases b2:(c.1:Int)<b
  ·simp[go_sem,p,j,b2,ah];exact aa a9 rfl
  have A:IntKind.u64.wrap ((c.1:Int)-b)=(c.1:Int)-b:=by rw[IntWalk.u64_in _ aq]
  by_cases G:i=-1∧b=0
  ·obtain⟨rfl,rfl⟩:=G;have J:IntKind.u64.wrap (c.1:Int)=(c.1:Int):=by rw[IntWalk.u64_in _ aq]
   simp[go_sem,p,j,b2,J,ah];exact CQ [Qv f (c.1:Int)] rfl rfl (by simp[Qv]) rfl
  ·have C:=Fg t m coins i aq v (fun o h=>(q o h).1);rw[z]at C;by_cases B:i=-1
   ·have H:¬b=0:=fun h=>G ⟨B,h⟩;subst B;by_cases u:(-1)=f
    ·subst u;simp[go_sem,p,j,b2,A,H,ah];exact aa a9 rfl
    ·simp[go_sem,p,j,b2,A,H,u];refine ag C (by simp[AV.deep,AV.deep1]) ?_
     cases w:Ff t (-1) c.2 0
     ·simp[go_sem,ah];exact aa a9 rfl
     ·simp[go_sem,j,ah];exact CQ [Qv f ((c.1:Int)-b),Qv (-1) b] rfl rfl (by simp[Qv]) rfl
   ·skip;by_cases u:i=f
    ·subst u;simp[go_sem,p,j,b2,A,B,ah];exact aa a9 rfl
    ·simp[go_sem,p,j,b2,A,B,u];refine ag C (by simp[AV.deep,AV.deep1]) ?_
     cases w:Ff t i c.2 0
     ·simp[go_sem,ah];exact aa a9 rfl
     ·simp[go_sem,j,ah];exact CQ [Qv f ((c.1:Int)-b),Qv i b] rfl rfl (by simp[Qv]) rfl
end Go.Proofs.YtmfnimjnneflnaaGreat
namespace Go.Am
theorem UZ{P:Program}{g:FuncId}{args:List AV}{Q i:AV→Prop}(h:au P g args Q)
  (hq:∀r,Q r→∃f,(∀(w:World)(S:Nat→Prop)(σ:Nat→Option Nat)(hp:Hp)(U:Nat→Prop)(x:Value),AIs w S σ hp U r x→AIs w S σ hp U f x)∧f.deep∧i f):au P g args i:=by
 obtain⟨o,j⟩:=h;refine⟨o,fun w S n a b c=>(j w S n a b c).mono fun e v m=>?_⟩;obtain⟨x,r,t,q,d,k,l⟩:=m;obtain⟨f,p,u,s⟩:=hq r q;exact⟨x,f,t,s,u,k,p _ _ _ _ _ _ l⟩
theorem rP{w:World}{S:Nat→Prop}{σ:Nat→Option Nat}{hp:Hp}{U:Nat→Prop}{x:Value}{v:AV}(e:Nat)(h:AIs w S σ hp U (.tup [.nil,v]) x):AIs w S σ hp U (.tup [.d (.ro e []),v]) x:=by
 cases h with
 | tup _ xs hl h =>
  refine .tup _ xs hl fun i c y a b=>?_
  match i with
  |0 =>
   simp at a;subst a;exact Ou e (h 0 .nil y rfl b)
  |i+1=>exact h (i+1) c y a b
end Go.Am
namespace Go.Proofs.YtmfnimjnneflnaaGreat
open Go.Am Go.Sha Go.Ec
def yt(t:Tn)(n:Int)(coins:List (Nat×List Nat))(d c b:Int)(a:List Nat)(e:Int):List (Int×Int)×Int :=
 if bR t n coins≠0 then([],1)
 else if Ff t d a e=false∨b<0∨((iQ coins n).1:Int)<b then([],24)
 else if c=-1∧b=0 then([(d,((iQ coins n).1:Int)-b)],0)
 else if c=d∨Ff t c (iQ coins n).2 0=false then([],24)
 else([(d,((iQ coins n).1:Int)-b),(c,b)],0)
theorem Ap(t:Tn)(n:Int)(coins:List (Nat×List Nat))(d c b:Int)(a:List Nat)(e:Int):(yt t n coins d c b a e).1.length≤2:=by
 unfold yt
 repeat' split
 all_goals simp
theorem Qw{t:Tn}{n:Int}{coins:List (Nat×List Nat)}{f c b:Int}{a:List Nat}{e:Int}{g:FuncId}{args:List AV}(h:au Tryz.prog g args (fun r=>r=Ao t n coins f c b a e)) :
  au Tryz.prog g args (fun v=>v=.tup [.d (.ro 2 ((yt t n coins f c b a e).1.map dW)),.d (.int .i64 (yt t n coins f c b a e).2)]):=by
 refine UZ h ?_;rintro r rfl;refine⟨_,?_,?_,rfl⟩;intro w S σ i U x;unfold Ao yt;split;exact rP 2;split;exact rP 2;split;exact id;split;exact rP 2;exact id;simp[AV.deep,AV.deep1]
theorem Zm(inner:List Nat)(b:List (List Nat))(x:List Nat)(hi:inner.length=32)(c:bytes inner)(hp:∀p,p∈b→p.length=32)(l:b.length≤1000)(j:x.length≤100000) :
  ∃p:List Nat×Int,bytes p.1∧au Tryz.prog 46 [bT inner b x] (fun r=>r=.tup [.d (nb p.1),.d (.int .i64 p.2)]):=by
 obtain⟨k,o,e,h,f,i,g,_⟩:=qo inner b x hi c hp l j;rcases i with rfl|rfl;refine⟨(81::32::k,0),?_,np hi h g⟩;intro y a;simp only[et]at a;rcases a with rfl|rfl|a;omega;omega;exact f y a;exact⟨([],1),fun y a=>(by cases a),uC hi h g⟩
structure RnS0(F:RnF):Prop where
 t:Sm F.t
 c:Zg F.coins
 cb:∀o,o∈F.coins→bytes o.2∧o.1<18446744073709551616
 ob:∀o,o∈F.t.outs→bytes o.2
 i:F.inner.length=32
 ib:bytes F.inner
 s:F.script.length≤100000
 p:∀p,p∈F.path→p.length=32
 pl:F.path.length≤1000
 a:F.annex.length≤1000
def Zn(a:bc→bc→bc→Bool):Prop:=∀key msg sig,key.length=32→bytes key→bytes sig→msg.length≤1000→sig.length≤1000→au Tryz.prog 156 [.agg (cb key),.d (nb msg),.d (nb sig)] (fun v=>v=.d (.bool (a key sig msg)))
theorem acm:∃i,Zn i:=by
 have k:∀p:bc×bc×bc,∃o:Bool,p.1.length=32→bytes p.1→bytes p.2.2→p.2.1.length≤1000→p.2.2.length≤1000→au Tryz.prog 156 [.agg (cb p.1),.d (nb p.2.1),.d (nb p.2.2)] (fun v=>v=.d (.bool o)):=by
  rintro⟨f,h,g⟩;by_cases hc:f.length=32∧bytes f∧bytes g∧h.length≤1000∧g.length≤1000;obtain⟨o,l⟩:=Lh f h g hc.1 hc.2.1 hc.2.2.1 hc.2.2.2.1 hc.2.2.2.2;exact⟨o,fun _ _ _ _ _=>l⟩;exact⟨false,fun a b c d e=>absurd ⟨a,b,c,d,e⟩ hc⟩
 obtain⟨i,j⟩:=Classical.axiomOfChoice k;exact⟨fun f g h=>i (f,h,g),fun f h g a b c d e=>j (f,h,g) a b c d e⟩
def Qx(inner:List Nat)(b:List (List Nat))(a:bc→bc×Int):Prop:=∀s:bc,s.length≤100000→bytes (a s).1∧au Tryz.prog 46 [bT inner b s] (fun r=>r=.tup [.d (nb (a s).1),.d (.int .i64 (a s).2)])
theorem U0(inner:List Nat)(b:List (List Nat))(hi:inner.length=32)(e:bytes inner)(hp:∀p,p∈b→p.length=32)(g:b.length≤1000):∃a,Qx inner b a:=by
 have h:∀s:bc,∃p:bc×Int,s.length≤100000→bytes p.1∧au Tryz.prog 46 [bT inner b s] (fun r=>r=.tup [.d (nb p.1),.d (.int .i64 p.2)]):=by
  intro s;by_cases f:s.length≤100000;obtain⟨p,hp⟩:=Zm inner b s hi e hp g f;exact⟨p,fun _=>hp⟩;exact⟨([],0),fun q=>absurd q f⟩
 obtain⟨a,c⟩:=Classical.axiomOfChoice h;exact⟨a,c⟩
theorem Zo(F:RnF)(h:RnS0 F){sg:bc→bc→bc→Bool}{out:bc→bc×Int}(hsg:Zn sg)(hout:Qx F.inner F.path out):∃msg:bc,bR F.t (F.n:Int) F.coins=0 →
  ∀x:Rx,x=⟨aW,eW,sg,msg,(F.t.lock:Int),(F.t.ver:Int),(((F.t.ins[F.n]?.map Ip.seq).getD 0:Nat):Int),UN F.t F.n,vB F.t (F.n:Int) F.coins,fun s o0 o1 bk=>yt F.t (F.n:Int) F.coins o0 o1 bk (out s).1 (out s).2⟩→RnE F x:=by
 -- the message
 have hm:∃q:bc,bR F.t (F.n:Int) F.coins=0→q.length=32∧bytes q∧au Tryz.prog 43 [.agg (eS F.t (F.n:Int) F.coins),.d (nb (eo F.script)),.d (nb F.annex)] (fun r=>r=.tup [.agg (cb q),.d (.int .i64 0)]):=by
  by_cases hc:bR F.t (F.n:Int) F.coins=0;obtain⟨q,hq⟩:=UT F.t (F.n:Int) F.coins (eo F.script) F.annex h.t h.c (mW _) h.a hc;exact⟨q,fun _=>hq⟩;exact⟨[],fun q=>absurd q hc⟩
 obtain⟨msg,hmsg⟩:=hm;refine⟨msg,fun hc x hx=>?_⟩;obtain⟨m1,m2,m3⟩:=hmsg hc;have hcx:nO F.t=0∧F.coins.length=F.t.ins.length∧(F.n:Int)<(F.coins.length:Int):=by
  unfold bR at hc;split at hc;cases hc;rename_i hq;simp only[not_or,Int.not_lt,Int.not_le,ne_eq,Classical.not_not]at hq;exact⟨hq.1,hq.2.1,hq.2.2.2.1⟩
 have hn:F.n<F.t.ins.length:=by have:=hcx.2.1;have:=hcx.2.2;omega
 have hi:=cm hn;have hio:(F.t.ins[F.n]).ok:=h.t.1.2.2.1 _ (List.getElem_mem hn);subst hx;exact {
  hi:=h.i
  hs:=h.s
  ml:=m1
  mb:=m2
  mg:=⟨0,m3⟩
  vf:=fun key msg sig a b c d e f=>hsg key msg sig a b d e f
  tl:=bf _
  tb:=fA _
  tg:=⟨0,Zi F.t F.n h.t hcx.1 hn⟩
  rc:=fun hh o q1 q2=>GM F.t (F.n:Int) F.coins hh o h.t (by have:=h.c.1;omega) q1
  tr:=fun s o0 o1 bk q1 q2 q3 q4=>⟨Qw (HE F.t (F.n:Int) F.coins F.inner F.path F.script s (out s).1 o0 o1 bk (out s).2 h.t (by have:=h.c.1;omega) h.i (hout s q2).1 h.ob h.cb q4 (hout s q2).2),Ap _ _ _ _ _ _ _ _⟩
  sq:=⟨F.t.ins[F.n],hi,hio,by rw[hi];rfl⟩
  lk:=⟨h.t.1.2.1,rfl⟩
  vr:=⟨h.t.1.1,rfl⟩
  hh:=⟨rfl,rfl⟩ }
end Go.Proofs.YtmfnimjnneflnaaGreat
