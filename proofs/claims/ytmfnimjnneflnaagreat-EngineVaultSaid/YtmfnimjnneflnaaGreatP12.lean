/-
 Part 13 of what the claim rests on.
-/
import Derived.Test.YtmfnimjnneflnaaGreatP7
import Derived.Test.YtmfnimjnneflnaaGreatP11
set_option linter.unusedVariables false
set_option linter.unusedSimpArgs false
set_option maxRecDepth 100000
set_option maxHeartbeats 16000000
namespace Go.Proofs.YtmfnimjnneflnaaGreat
open Go.Am Go.Sha
def Y6(coins:List (Nat×List Nat)):Prop:=coins.length≤8∧∀o,o∈coins→o.1<18446744073709551616∧o.2.length≤1100
theorem AO(t:Tn)(n:Int)(coins:List (Nat×List Nat)):∀v,v∈[AV.agg (eS t n coins)]→v.deep:=by simp[AV.deep,AV.deep1,eS]
theorem W9{a b c d e:List Nat}(k:Nat)(hk:k<5)(ha:a.length=32)(hb:b.length=32)(hc:c.length=32)(hd:d.length=32)(he:e.length=32) :
  List.take 32 (List.drop (k*32) (cb a++cb b++cb c++cb d++cb e))=cb ([a,b,c,d,e].getD k []):=by
 have ha':(cb a).length=32:=by rw[am,ha]
 have hb':(cb b).length=32:=by rw[am,hb]
 have hc':(cb c).length=32:=by rw[am,hc]
 have hd':(cb d).length=32:=by rw[am,hd]
 have he':(cb e).length=32:=by rw[am,he]
 have mid:∀(A B C:List AV)(m:Nat),A.length=m→B.length=32→List.take 32 (List.drop m (A++(B++C)))=B:=by
  intro A B C m hA hB;subst hA;rw[List.drop_left,←hB,List.take_left]
 match k,hk with
 |0,_=>simpa using mid [] (cb a) (cb b++cb c++cb d++cb e) 0 rfl ha'
 |1,_=>simpa using mid (cb a) (cb b) (cb c++cb d++cb e) 32 aq hb'
 |2,_=>simpa using mid (cb a++cb b) (cb c) (cb d++cb e) 64 (by simp[ha',hb']) hc'
 |3,_=>simpa using mid (cb a++cb b++cb c) (cb d) (cb e) 96 (by simp[ha',hb',hc']) hd'
 |4,_=>simpa using mid (cb a++cb b++cb c++cb d) (cb e) [] 128 (by simp[ha',hb',hc',hd']) he'
def Xa(t:Tn)(n:Nat):List Nat:=le t.ver 4++(le t.lock 4++(le t.ins.length 4++(bu (t.ins.map ry).flatten++(le t.outs.length 4++(bu (t.outs.map fy).flatten++le n 4)))))
def OT(t:Tn)(n:Nat):List Nat:=bu (Xa t n)
theorem TX(b:List Nat)(hl:b.length≤100000000000) :
  cj Tryz.prog 58 1 [(0,⟨167,10,[de H0++[.nil,.d (.int .u64 0)]]⟩)] [.ptr 0 0 0 1,.d (nb b)] (fun r hp'=>r=.tup []∧lk 0 hp'=some ⟨167,10,[yF b]⟩):=by
 have:=Nh H0 .nil [] b 0 (.inr ⟨rfl,rfl⟩) (by simp;omega) aq;rw[List.nil_append,Nat.zero_add]at this;exact this
theorem OU(ρ:Nat→Nat):AV.renL ρ (de H0++[.nil,.d (.int .u64 0)])=de H0++[.nil,.d (.int .u64 0)]:=rfl
theorem OV{Q:AV→Prop}{st:St}{b:List Nat}{e:Int}(hq:Q (.tup [.agg (cb b),.d (.int .i64 e)])):dy Q (.tup [.agg (cb b),.d (.int .i64 e)]) st:=by
 refine aa ?_ hq;intro c hc;simp at hc;rcases hc with rfl|rfl
 ·exact .inr ⟨_,rfl,cg _⟩
 ·exact .inl trivial
theorem K4{b:List Nat}(hb:b.length=32):(List.range 32).map (fun k=>((cb b).drop k).take 1)=List.map ((fun r=>List.map AV.d r)∘fun(x:Nat)=>[DV.int .u8 (x:Int)]) b:=by
 rw[E7 hb];rfl
theorem TY(t:Tn)(n:Nat)(ht:Sm t)(hc:kH t=0)(hn:n<t.ins.length):ay Tryz.prog 18 [.agg (eT t),.d (.int .i64 (n:Int))] (fun v=>v=.tup [.agg (cb (OT t n)),.d (.int .i64 0)]):=by
 have hck:=wj t ht;rw[hc]at hck;have hsq:=E9 t ht;have hod:=AM t.outs (by have:=ht.2.2.1;omega) (fun o ho=>⟨ht.1.2.2.2 o ho,by have:=ht.2.2.2.1 o ho;omega⟩);have hA:=bc (t.ins.map ry).flatten;have hB:=bc (t.outs.map fy).flatten;have hil:=ht.2.1;have hol:=ht.2.2.1;have hver:=ht.1.1;have hlk:=ht.1.2.1;refine bL Tryz.func18 Tryz.ntmps18 (rs:=[.cell 4 29,.tmp 5]) (by intro v hv;simp at hv;rcases hv with rfl|rfl;simp[AV.deep,AV.deep1,eT];trivial) ?_;have hn0:¬(n:Int)<0:=aq;have hni:¬(t.ins.length:Int)≤(n:Int):=aq;have hnn:¬t.ins.length≤n:=aq;have w1:IntKind.u32.wrap (t.ins.length:Int)=(t.ins.length:Int):=IntWalk.u32_in _ aq;have w2:IntKind.u32.wrap (t.outs.length:Int)=(t.outs.length:Int):=IntWalk.u32_in _ aq;have w3:IntKind.u32.wrap (n:Int)=(n:Int):=IntWalk.u32_in _ aq;have hz32:z32.length=32:=rfl;have hzd:List.drop 32 (cb z32)=[]:=rfl;unfold OT Xa;generalize hAe:bu (t.ins.map ry).flatten=A at *;generalize hBe:bu (t.outs.map fy).flatten=B at *;simp only[eT]at *;simp[go_sem];have hdO:∀v,v∈[AV.d (.ro 2 (t.outs.map eO))]→v.deep:=by simp[AV.deep,AV.deep1]
 have hdS:∀v,v∈[AV.agg [.d (.int .u32 (t.ver:Int)),.d (.ro 35 (t.ins.map eI)),.d (.ro 2 (t.outs.map eO)),.d (.int .u32 (t.lock:Int))]]→v.deep:=by simp[AV.deep,AV.deep1]
 refine ag hck (by intro v hv;simp at hv;subst hv;simp[AV.deep,AV.deep1]) ?_;simp[go_sem,hn0,hni,hnn];refine ep [0,2,3] [1,4,5,6,7,8] [0,2,3] (.alt (bt 1 (.alt (bx 4 (.alt (a_ [5,6,7,8]) (a_ [6,5,7,8]))) (.alt (bt 5 (.alt (a_ [4,6,7,8]) (bt 6 (a_ [4,7,8])))) (bt 6 (.alt (a_ [4,5,7,8]) (bt 5 (a_ [4,7,8]))))))) (.alt (bt 5 (.alt (bt 1 (.alt (a_ [4,6,7,8]) (bt 6 (a_ [4,7,8])))) (bt 6 (bt 1 (a_ [4,7,8]))))) (bt 6 (.alt (bt 1 (.alt (a_ [4,5,7,8]) (bt 5 (a_ [4,7,8])))) (bt 5 (bt 1 (a_ [4,7,8]))))))) ⟨[(1,.d (.int .i64 (n:Int))),(2,.ptr 0 0 0 1),(4,.ptr 32 0 0 1),(6,.ptr 704 0 0 1),(7,.ptr 736 0 0 1)],[(704,⟨29,32,[cb A]⟩),(736,⟨29,32,[cb B]⟩),(32,⟨29,32,[cb z32]⟩),(0,⟨26,4,[[.d (.int .u32 (t.ver:Int)),.d (.ro 35 (t.ins.map eI)),.d (.ro 2 (t.outs.map eO)),.d (.int .u32 (t.lock:Int))]]⟩)],9000⟩ (k:=9) ?h3 ?hq
 case h3 =>
  intro G hG
  have hW:∀(fr:Fr)(hp:Hp),(fv 1 fr=.d (.int .i64 (n:Int))∧fv 2 fr=.ptr 0 0 0 1∧fv 4 fr=.ptr 32 0 0 1∧fv 6 fr=.ptr 704 0 0 1∧fv 7 fr=.ptr 736 0 0 1∧lk 704 hp=some ⟨29,32,[cb A]⟩∧lk 736 hp=some ⟨29,32,[cb B]⟩∧lk 32 hp=some ⟨29,32,[cb z32]⟩∧lk 0 hp=some ⟨26,4,[[.d (.int .u32 (t.ver:Int)),.d (.ro 35 (t.ins.map eI)),.d (.ro 2 (t.outs.map eO)),.d (.int .u32 (t.lock:Int))]]⟩)→G fr hp:=by
   rintro fr hp⟨q0,q1,q2,q3,q4,q5,q6,q7,q8⟩;refine hG _ _ (cB ?_);simp only[aA,ai];refine⟨fun p hp=>?_,fun p hp=>?_,aw⟩
   ·simp only[et,List.mem_nil_iff,or_false]at hp;rcases hp with rfl|rfl|rfl|rfl|rfl<;>exact⟨.inl (Eq.symm (by assumption)),by simp[AV.low,AV.low1]⟩
   ·simp only[et,List.mem_nil_iff,or_false]at hp;rcases hp with rfl|rfl|rfl|rfl<;>exact⟨.inl (by assumption),aw,by intro r hr;simp only[et,List.mem_nil_iff,or_false]at hr;subst hr;first|exact bU _ _|exact aO _ _|(intro v hv;simp only[et,List.mem_nil_iff,or_false]at hv;rcases hv with rfl|rfl|rfl|rfl<;>trivial)⟩
  simp[go_sem,am,hA,hB,hz32,hzd,av hA,av hB,dM]
  repeat' first|exact hW _ _ ⟨rfl,rfl,rfl,rfl,rfl,rfl,rfl,rfl,rfl⟩|(refine hW _ _ ?_;simp[fv,lk];done)|refine ag hsq hdS ?_|refine ag hod hdO ?_|apply And.intro|simp[go_sem,am,hA,hB,hz32,hzd,av hA,av hB,dM]
 case hq =>
  simp[go_sem];refine aP [] mF rfl aw aw aw (by simp[AV.renL]) ?_;rintro r hp'⟨rfl,h0⟩;refine⟨[(97,0)],rfl,?_⟩;simp[go_sem,bO,bB,h0,Blk.ren,aM,fY,AV.ren,bQ];clear h0 hp';refine bN [] (ig [] t.ver aw hver) rfl (aj (.one (ak (.nil 1))) (aj (.deep a9) aD)) ?_;simp[go_sem,aE];refine aP [(0,9000)] (TX (le t.ver 4) (by simp[aJ])) rfl aw (by simp[lk]) (by simp[lk,Blk.ren,aM,OU]) (by simp[AV.renL,AV.ren,bQ,gu,lk,eC]) ?_;rintro r hp'⟨rfl,h0⟩;refine⟨[],rfl,?_⟩;simp[-List.append_assoc,go_sem,bO,bB,h0,Blk.ren,aM,bw,AV.renL,AV.ren,bQ,dh,w1,w2,w3];clear h0 hp';refine bN [] (ig [] t.lock aw hlk) rfl (aj (.one (ak (.nil 1))) (aj (.deep a9) aD)) ?_;simp[go_sem,aE];refine aP [(0,9000)] (oc (le t.ver 4) (le t.lock 4) (by simp[aJ,hA,hB])) rfl aw (by simp[lk]) (by simp[lk,Blk.ren,aM,bw]) (by simp[AV.renL,AV.ren,bQ,gu,lk,eC]) ?_;rintro r hp'⟨rfl,h0⟩;refine⟨[],rfl,?_⟩;simp[-List.append_assoc,go_sem,bO,bB,h0,Blk.ren,aM,bw,AV.renL,AV.ren,bQ,dh,w1,w2,w3];clear h0 hp';refine bN [] (ig [] t.ins.length aw aq) rfl (aj (.one (ak (.nil 1))) (aj (.deep a9) aD)) ?_;simp[go_sem,aE];refine aP [(0,9000)] (oc ((le t.ver 4)++le t.lock 4) (le t.ins.length 4) (by simp[aJ,hA,hB])) rfl aw (by simp[lk]) (by simp[lk,Blk.ren,aM,bw]) (by simp[AV.renL,AV.ren,bQ,gu,lk,eC]) ?_;rintro r hp'⟨rfl,h0⟩;refine⟨[],rfl,?_⟩;simp[-List.append_assoc,go_sem,bO,bB,h0,Blk.ren,aM,bw,AV.renL,AV.ren,bQ,dh,w1,w2,w3];clear h0 hp';refine aP [(0,9000),(1,704)] (Df 29 32 (cb A) (((le t.ver 4)++le t.lock 4)++le t.ins.length 4) A (K4 hA) (fun n=>aO n _) hA (by simp[aJ,hA,hB])) rfl aw (by simp[lk]) (by simp[lk,Blk.ren,aM,bw,dh]) (by simp[AV.renL,AV.ren,bQ,gu,lk]) ?_;rintro r hp'⟨rfl,h0,h1⟩;refine⟨[],rfl,?_⟩;simp[-List.append_assoc,go_sem,bO,bB,h0,h1,Blk.ren,aM,bw,AV.renL,AV.ren,bQ,dh,w1,w2,w3];clear h0 h1 hp';refine bN [] (ig [] t.outs.length aw aq) rfl (aj (.one (ak (.nil 1))) (aj (.deep a9) aD)) ?_;simp[go_sem,aE];refine aP [(0,9000)] (oc ((((le t.ver 4)++le t.lock 4)++le t.ins.length 4)++A) (le t.outs.length 4) (by simp[aJ,hA,hB])) rfl aw (by simp[lk]) (by simp[lk,Blk.ren,aM,bw]) (by simp[AV.renL,AV.ren,bQ,gu,lk,eC]) ?_;rintro r hp'⟨rfl,h0⟩;refine⟨[],rfl,?_⟩;simp[-List.append_assoc,go_sem,bO,bB,h0,Blk.ren,aM,bw,AV.renL,AV.ren,bQ,dh,w1,w2,w3];clear h0 hp';refine aP [(0,9000),(1,736)] (Df 29 32 (cb B) (((((le t.ver 4)++le t.lock 4)++le t.ins.length 4)++A)++le t.outs.length 4) B (K4 hB) (fun n=>aO n _) hB (by simp[aJ,hA,hB])) rfl aw (by simp[lk]) (by simp[lk,Blk.ren,aM,bw,dh]) (by simp[AV.renL,AV.ren,bQ,gu,lk]) ?_;rintro r hp'⟨rfl,h0,h1⟩;refine⟨[],rfl,?_⟩;simp[-List.append_assoc,go_sem,bO,bB,h0,h1,Blk.ren,aM,bw,AV.renL,AV.ren,bQ,dh,w1,w2,w3];clear h0 h1 hp';refine bN [] (ig [] n aw aq) rfl (aj (.one (ak (.nil 1))) (aj (.deep a9) aD)) ?_;simp[go_sem,aE];refine aP [(0,9000)] (oc ((((((le t.ver 4)++le t.lock 4)++le t.ins.length 4)++A)++le t.outs.length 4)++B) (le n 4) (by simp[aJ,hA,hB])) rfl aw (by simp[lk]) (by simp[lk,Blk.ren,aM,bw]) (by simp[AV.renL,AV.ren,bQ,gu,lk,eC]) ?_;rintro r hp'⟨rfl,h0⟩;refine⟨[],rfl,?_⟩;simp[-List.append_assoc,go_sem,bO,bB,h0,Blk.ren,aM,bw,AV.renL,AV.ren,bQ,dh,w1,w2,w3];clear h0 hp';refine aP [(0,9000)] (wK (((((((le t.ver 4)++le t.lock 4)++le t.ins.length 4)++A)++le t.outs.length 4)++B)++le n 4) (by simp[aJ,hA,hB])) rfl aw (by simp[lk]) (by simp[lk,Blk.ren,aM,bw]) (by simp[AV.renL,AV.ren,bQ,gu,lk]) ?_;rintro r hp'⟨rfl,h0⟩;refine⟨[],rfl,?_⟩;have hL:=bc (((((((le t.ver 4)++le t.lock 4)++le t.ins.length 4)++A)++le t.outs.length 4)++B)++le n 4);have hLe:(((((((le t.ver 4)++le t.lock 4)++le t.ins.length 4)++A)++le t.outs.length 4)++B)++le n 4)=le t.ver 4++(le t.lock 4++(le t.ins.length 4++(A++(le t.outs.length 4++(B++le n 4))))):=by simp only[cD]
  rw[hLe]at hL h0⊢;generalize bu (le t.ver 4++(le t.lock 4++(le t.ins.length 4++(A++(le t.outs.length 4++(B++le n 4))))))=q at *;simp[go_sem,bO,bB,h0,Blk.ren,aM,bw,dh,AV.ren,bQ,am,hL,av hL,hz32,hzd,ah];exact OV rfl
def OW(ann:List Nat):Nat:=if ann=[]then 2 else 3
def OX(ann:List Nat):List Nat:=if ann=[]then[]else bu (bX ann)
def TZ(t:Tn)(n:Nat)(coins:List (Nat×List Nat))(h ann:List Nat):List Nat :=
 [0,0]++le t.ver 4++le t.lock 4++bu (t.ins.map qi).flatten++bu (coins.map uC).flatten++bu (coins.map uX).flatten++bu (t.ins.map ry).flatten++bu (t.outs.map fy).flatten++[OW ann]++le n 4++OX ann++h++[0]++le 4294967295 4
theorem T0(t:Tn)(n:Int)(coins:List (Nat×List Nat))(h ann:List Nat):∀v,v∈[AV.agg (eS t n coins),.d (nb h),.d (nb ann)]→v.deep:=by simp[AV.deep,AV.deep1,eS]
theorem OY (t:Tn) (n:Int) (coins:List (Nat × List Nat)) (h ann:List Nat) (ht:Sm t) (hc:Y6 coins) (hl:h.length=32) (hal:ann.length≤1000) (c0:bM t n coins=0) :
    ∃q:List Nat,q.length=32∧bytes q∧ay Tryz.prog 43 [.agg (eS t n coins),.d (nb h),.d (nb ann)] (fun r=>r=.tup [.agg (cb q),.d (.int .i64 0)]):=by
  refine⟨fi iP (TZ t n.toNat coins h ann),bc _,iL _,?_⟩;refine bL Tryz.func43 Tryz.ntmps43 (rs:=[.cell 6 29,.tmp 7]) (T0 t n coins h ann) ?_;have hck:=kX t n coins ht (by have:=hc.1;omega);have hd1:=AO t n coins
  · rw [c0] at hck
    have hn:0≤n∧n<coins.length:=by
      unfold bM at c0
      split at c0
      · cases c0
      · rename_i hx
        simp only[not_or,Int.not_lt,Int.not_le]at hx;exact⟨hx.2.2.1,hx.2.2.2.1⟩
    obtain⟨m,rfl⟩:∃m:Nat,n=(m:Int):=⟨n.toNat,aq⟩;rw[Int.toNat_natCast];obtain⟨hv,hlk,hi,ho⟩:=ht.1;have p1:=K3 t ht;have p2:=K2 coins hc.1 hc.2;have hmsg:TZ t m coins h ann=[0,0]++le t.ver 4++le t.lock 4++bu (t.ins.map qi).flatten++bu (coins.map uC).flatten++bu (coins.map uX).flatten++bu (t.ins.map ry).flatten++bu (t.outs.map fy).flatten++[OW ann]++le m 4++OX ann++h++[0]++le 4294967295 4:=rfl;generalize TZ t m coins h ann=M at *;have l1:=bc (t.ins.map qi).flatten;have l2:=bc (t.ins.map ry).flatten;have l3:=bc (t.outs.map fy).flatten;have l4:=bc (coins.map uC).flatten;have l5:=bc (coins.map uX).flatten;generalize bu (t.ins.map qi).flatten=a at *;generalize bu (t.ins.map ry).flatten=b at *;generalize bu (t.outs.map fy).flatten=c at *;generalize bu (coins.map uC).flatten=x at *;generalize bu (coins.map uX).flatten=y at *;have hT:=yG t;simp only[eT,eS]at hT hck hd1 p1;have hL:(cb a++cb b++cb c).length=96:=by simp[am,l1,l2,l3]
    have hT2:List.take 96 (cb a++cb b++cb c)=cb a++cb b++cb c:=cA aq;have hE:cb (a++(b++c))=cb a++cb b++cb c:=by rw[uD,uD,cD]
    rw[hE]at p1;simp[go_sem,eS];refine ag hck hd1 ?_;simp[go_sem,hl,nb];refine gP [512] (fH [0,0] t.ver aw hv) rfl (aj (.one (ak (aN (L:=[0,0]) rfl rfl aw))) (aj (.deep a9) aD)) (fun ρ=>by simp[AV.renL,AV.ren]) ?_;rintro r hp'⟨I,rfl,h0⟩;refine⟨[(I,0)],by simp[cy,fg],?_⟩;generalize hA1:[0,0]++le t.ver 4=A1 at *;have hA1l:A1.length=6:=by rw[←hA1];simp[aJ]
    simp[go_sem,bO,bB,h0,Blk.ren,aM,cG,AV.renL,AV.ren,bQ,aE];clear h0 hp';refine gP [640] (fH A1 t.lock aq hlk) rfl (aj (.one (ak (aN rfl rfl aw))) (aj (.deep a9) aD)) (fun ρ=>by simp[AV.renL,AV.ren]) ?_;rintro r hp'⟨I,rfl,h0⟩;refine⟨[(I,0)],by simp[cy,fg],?_⟩;generalize hA2:A1++le t.lock 4=A2 at *;have hA2l:A2.length=10:=by rw[←hA2];simp[aJ,hA1l]
    simp[go_sem,bO,bB,h0,Blk.ren,aM,cG,AV.renL,AV.ren,bQ,aE];clear h0 hp';have r0:List.take 32 (cb a++cb b++cb c)=cb a:=by rw[cD,←l1,←am a,List.take_left]
    have r1:List.take 32 (List.drop 32 (cb a++cb b++cb c))=cb b:=by rw[cD,show List.drop 32 (cb a++(cb b++cb c))=cb b++cb c by rw[←l1,←am a,List.drop_left],←l2,←am b,List.take_left]
    have r2:List.take 32 (List.drop 64 (cb a++cb b++cb c))=cb c:=by
      rw[show List.drop 64 (cb a++cb b++cb c)=cb c by rw[show 64=(cb a++cb b).length by simp[am,l1,l2],List.drop_left]];exact av l3
    generalize hR:cb a++cb b++cb c=R at *;refine ag p1 hT ?_;simp[go_sem,hL,hT2,AN,am,rA];refine ag p2 a9 ?_;simp[go_sem,am,l1,l2,l3,l4,l5,av l4,av l5,cz,hL,r0,r1,r2,wL];rw[Di (A:=cb a) (n:=32) (m:=64) (by rw[am,l1]) aq,←cD (cb a) (cb x),qj (A:=cb a++cb x) (n:=64) (m:=96) (by simp[am,l1,l4]) aq,qj (A:=cb a++cb x++cb y) (n:=96) (m:=128) (by simp[am,l1,l4,l5]) aq,qj (A:=cb a++cb x++cb y++cb b) (n:=128) (m:=160) (by simp[am,l1,l4,l5,l2]) aq,Dh,List.append_nil];have hF:=fun k hk=>W9 (a:=a) (b:=x) (c:=y) (d:=b) (e:=c) k hk l1 l4 l5 l2 l3;have hG:cb a++cb x++cb y++cb b++cb c=cb (a++x++y++b++c):=by simp[uD]
    have hGl:(a++x++y++b++c).length=160:=by simp[l1,l4,l5,l2,l3]
    rw[hG]at hF⊢
    have hW:∀k,k<5→([a,x,y,b,c].getD k []).length=32:=by
      intro k hk
      match k,hk with
      |0,_=>exact l1
      |1,_=>exact l4
      |2,_=>exact l5
      |3,_=>exact l2
      |4,_=>exact l3
    have hS:∀k,k<5→([a,x,y,b,c].take (k+1)).flatten=([a,x,y,b,c].take k).flatten++[a,x,y,b,c].getD k []:=by
      intro k hk
      match k,hk with
      |0,_=>simp
      |1,_=>simp
      |2,_=>simp
      |3,_=>simp
      |4,_=>simp
    have hfin:A2++a++x++y++b++c=A2++([a,x,y,b,c].take 5).flatten:=by simp
    rw[hfin]at hmsg;clear hfin;generalize a++x++y++b++c=G at *;generalize[a,x,y,b,c]=HS at *
    refine ar (fun u:Nat×List Nat=>⟨[(1,.d (nb h)),(2,.d (nb ann)),(3,.ptr 0 0 0 1),(6,.ptr 32 0 0 1),(8,.own 832 0 u.2.length u.2.length),(57,.agg (cb G)),(58,.d (.int .i64 (u.1:Int)))],
        [(832,⟨5,1,rb u.2⟩),(32,⟨29,32,[cb z32]⟩),(0,⟨28,6,[eS t m coins]⟩)],3000⟩)
      (fun u=>u.1≤5∧u.2.length=10+32*u.1∧u.2=A2++(HS.take u.1).flatten) (fun u=>5-u.1) (0,A2) ⟨aw,by simp;omega,aw⟩ (by
        simp[aA,ai,fv,lk,AV.low,AV.low1,nb,eS]
        exact⟨aO _ _,bm _ _,aO _ _⟩) ?_
    rintro⟨k,B⟩⟨hk,hBl,hB⟩;simp only at hk hBl hB;simp only[eS];simp only[go_sem,Nat.reduceEqDiff,Nat.reduceAdd,Nat.reduceLT,↓reduceIte,Nat.reduceMul];refine⟨fun hlt=>?_,fun hlt=>?_⟩
    · have hk5:k<5:=aq
      have hw:=hW k hk5;have hs:=hS k hk5;have hf:=hF k hk5;have w3:=ax (k:=k) aq;have g1:32≤G.length-k*32:=aq;generalize HS.getD k []=w at *;have hx:=(gV hw).trans (cF w);simp[go_sem]at hx;simp[go_sem,hk5,hf,g1,am,hw,cz,hx,aG,iJ,w3];refine⟨aq,aq,?_⟩;refine ao (k+1,B++w) ⟨by simp only;omega,by simp only[b_,hw];omega,by simp only;rw[hs,hB,cD]⟩ (by simp only;omega) ?_;simp[aA,ai,fv,lk,AV.low,AV.low1,nb,eS,hw];exact⟨aO _ _,bm _ _,aO _ _⟩
    · have hk5:k=5:=aq
      subst hk5;rw[←hB]at hmsg;have wn:IntKind.u32.wrap (m:Int)=(m:Int):=by rw[M8];have:=hc.1;omega
      have hn8:m<4294967296:=by have:=hc.1;omega
      by_cases han:ann=[]
      · subst han
        have ha1:OW []=2:=rfl;have ha2:OX []=[]:=rfl;rw[ha1,ha2,List.append_nil]at hmsg;simp[go_sem,hl,nb];have hb2:bits BinOp.or IntKind.u8 0 2=2:=by decide
        have hB1l:(B++[2]).length=B.length+1:=by simp
        have hB2l:(B++[2]++le m 4).length=B.length+5:=by simp[aJ]
        generalize hB2:B++[2]++le m 4=B2 at *;refine ep [0,1] [2,3,4,5,6,7,8] [0,1] (.alt (bt 2 (.alt (a_ [3,4,5,6,7,8]) (bt 4 (.alt (a_ [3,5,6,7,8]) (bt 5 (.alt (a_ [3,6,7,8]) (bt 6 (a_ [3,7,8])))))))) (bt 4 (.alt (bt 2 (.alt (a_ [3,5,6,7,8]) (bt 5 (.alt (a_ [3,6,7,8]) (bt 6 (a_ [3,7,8])))))) (bt 5 (.alt (bt 2 (.alt (a_ [3,6,7,8]) (bt 6 (a_ [3,7,8])))) (bt 6 (bt 2 (a_ [3,7,8])))))))) ⟨[(1,.d (nb h)),(2,.d (nb [])),(3,.ptr 0 0 0 1),(6,.ptr 32 0 0 1),(8,.own 3576 0 B2.length B2.length)],[(3576,⟨5,1,rb B2⟩),(32,⟨29,32,[cb z32]⟩)],6000⟩ (k:=9) ?h3 ?hq
        case h3 =>
          intro G hG
          have hW:∀(fr:Fr)(hp:Hp),(fv 1 fr=.d (nb h)∧fv 2 fr=.d (nb [])∧fv 3 fr=.ptr 0 0 0 1∧fv 6 fr=.ptr 32 0 0 1∧fv 8 fr=.own 3576 0 B2.length B2.length∧lk 3576 hp=some ⟨5,1,rb B2⟩∧lk 32 hp=some ⟨29,32,[cb z32]⟩)→G fr hp:=by
            rintro fr hp⟨q0,q1,q2,q3,q4,q5,q6⟩;refine hG _ _ (cB ⟨?_,?_,aw⟩)
            · simp[ai,AV.low,AV.low1,q0,q1,q2,q3,q4,nb]
            · simp [q5,q6]
              exact⟨bm _ _,aO _ _⟩
          have hrb:rb B++[[AV.d (DV.int IntKind.u8 2)]]=rb (B++[2]):=by simp[rb]
          have hp:=fH (B++[2]) m (by rw[hB1l];omega) hn8;rw[hB2]at hp;simp[go_sem,wn,hb2,aG,hrb]
          repeat' apply And.intro
          all_goals first
            |omega
            | (refine gP [832] hp rfl (aj (.one (ak (aN hB1l rfl aw))) (aj (.deep a9) aD)) (fun ρ=>by simp [AV.renL,AV.ren]) ?_
               rintro r hp'⟨I,rfl,h0⟩;refine⟨[(I,0)],by simp[cy,fg],?_⟩;simp[go_sem,bO,bB,h0,Blk.ren,aM,cG,AV.renL,AV.ren,bQ,aE];refine hW _ _ ?_
               simp[fv,lk,nb])
        case hq =>
          simp[go_sem,hl,nb,aG];have hrb3:rb B2++(List.map ((fun r=>List.map AV.d r)∘fun(b:Nat)=>[DV.int IntKind.u8 (b:Int)]) h++[[AV.d (DV.int IntKind.u8 0)]])=rb (B2++h++[0]):=by simp[rb]
          have hB3l:(B2++h++[0]).length=B2.length+32+1:=by simp[hl]
          rw[hrb3];refine⟨aq,aq,?_⟩;generalize B2++h++[0]=B3 at *;have hp:=fH B3 4294967295 aq aq;rw[←hmsg]at hp;have hMl:M.length≤1000:=by rw[hmsg,b_,aJ];omega
          refine gP [3576] hp rfl (aj (.one (ak (aN hB3l rfl aw))) (aj (.deep a9) aD)) (fun ρ=>by simp[AV.renL,AV.ren]) ?_;rintro r hp'⟨I,rfl,h0⟩;refine⟨[(I,0)],by simp[cy,fg],?_⟩;simp[go_sem,bO,bB,h0,Blk.ren,aM,cG,AV.renL,AV.ren,bQ,aE];clear h0 hp';refine bN [6416] (gv iP _ rfl M (by simp[iP]) aq) rfl (aj (.deep a9) (aj (.one (ak (aN rfl rfl aw))) aD)) ?_;have hR:=bc (bu iP++(bu iP++M));have hR':(fi iP M).length=32:=hR;generalize fi iP M=S at *;simp[go_sem,aE,hR',am,av hR',cz,ah]
          exact aa (by
            intro c hc;simp only[et,List.mem_nil_iff,or_false]at hc;rcases hc with rfl|rfl
            · exact .inr ⟨_,rfl,cg _⟩
            · exact .inl trivial) rfl
      · have hal0:¬ ann.length=0:=fun h=>han (List.length_eq_zero_iff.1 h)
        have hali:(0:Int)<(ann.length:Int):=aq;have halp:0<ann.length:=aq;have ha1:OW ann=3:=if_neg han;have ha2:OX ann=bu (bX ann):=if_neg han;have hb2:bits BinOp.or IntKind.u8 0 2=2:=by decide
        have hb3:bits BinOp.or IntKind.u8 2 1=3:=by decide
        rw[ha1,ha2]at hmsg;have hpb:=fj [] ann aw aq;have hsm:=kR (bX ann) (by have:=jY ann;omega);have hql:=bc (bX ann);rw[show[]++(au ann.length++ann)=bX ann from rfl]at hpb;generalize bu (bX ann)=Q at *;generalize bX ann=BA at *;simp[go_sem,hl,nb,hali,halp,hb2];have hB1l:(B++[3]).length=B.length+1:=by simp
        have hB2l:(B++[3]++le m 4).length=B.length+5:=by simp[aJ]
        generalize hB2:B++[3]++le m 4=B2 at *;refine ep [0,1] [2,3,4,5,6,7,8] [0,1] (.alt (bt 2 (.alt (a_ [3,4,5,6,7,8]) (bt 4 (.alt (a_ [3,5,6,7,8]) (bt 5 (.alt (a_ [3,6,7,8]) (bt 6 (a_ [3,7,8])))))))) (bt 4 (.alt (bt 2 (.alt (a_ [3,5,6,7,8]) (bt 5 (.alt (a_ [3,6,7,8]) (bt 6 (a_ [3,7,8])))))) (bt 5 (.alt (bt 2 (.alt (a_ [3,6,7,8]) (bt 6 (a_ [3,7,8])))) (bt 6 (bt 2 (a_ [3,7,8])))))))) ⟨[(1,.d (nb h)),(2,.d (nb ann)),(3,.ptr 0 0 0 1),(6,.ptr 32 0 0 1),(8,.own 3672 0 B2.length B2.length)],[(3672,⟨5,1,rb B2⟩),(32,⟨29,32,[cb z32]⟩)],6000⟩ (k:=9) ?h3 ?hq
        case h3 =>
          intro G hG
          have hW:∀(fr:Fr)(hp:Hp),(fv 1 fr=.d (nb h)∧fv 2 fr=.d (nb ann)∧fv 3 fr=.ptr 0 0 0 1∧fv 6 fr=.ptr 32 0 0 1∧fv 8 fr=.own 3672 0 B2.length B2.length∧lk 3672 hp=some ⟨5,1,rb B2⟩∧lk 32 hp=some ⟨29,32,[cb z32]⟩)→G fr hp:=by
            rintro fr hp⟨q0,q1,q2,q3,q4,q5,q6⟩;refine hG _ _ (cB ⟨?_,?_,aw⟩)
            · simp[ai,AV.low,AV.low1,q0,q1,q2,q3,q4,nb]
            · simp [q5,q6]
              exact⟨bm _ _,aO _ _⟩
          have hrb:rb B++[[AV.d (DV.int IntKind.u8 3)]]=rb (B++[3]):=by simp[rb]
          have hp:=fH (B++[3]) m (by rw[hB1l];omega) hn8;rw[hB2]at hp;simp[go_sem,wn,hb2,hb3,aG,hrb]
          repeat' apply And.intro
          all_goals first
            |omega
            | (refine gP [832] hp rfl (aj (.one (ak (aN hB1l rfl aw))) (aj (.deep a9) aD)) (fun ρ=>by simp [AV.renL,AV.ren]) ?_
               rintro r hp'⟨I,rfl,h0⟩;refine⟨[(I,0)],by simp[cy,fg],?_⟩;simp[go_sem,bO,bB,h0,Blk.ren,aM,cG,AV.renL,AV.ren,bQ,aE];refine hW _ _ ?_
               simp[fv,lk,nb])
        case hq =>
          simp[go_sem,nb,hali,halp];refine bN [] hpb rfl (aj (.one (ak (.nil 1))) (aj (.deep a9) aD)) ?_;simp[go_sem,aE];refine ag hsm a9 ?_;have hx:=(gV hql).trans (cF Q);simp[go_sem]at hx;simp[go_sem,hl,nb,hql,am,av hql,cz,hx,aG,iJ];have hrb3:rb (B2++Q)++(List.map ((fun r=>List.map AV.d r)∘fun(b:Nat)=>[DV.int IntKind.u8 (b:Int)]) h++[[AV.d (DV.int IntKind.u8 0)]])=rb (B2++Q++h++[0]):=by simp[rb]
          have hB3l:(B2++Q++h++[0]).length=B2.length+32+32+1:=by simp[hl,hql]
          rw[hrb3];refine⟨aq,aq,aq,?_⟩;generalize B2++Q++h++[0]=B3 at *;have hp:=fH B3 4294967295 aq aq;rw[←hmsg]at hp;have hMl:M.length≤1000:=by rw[hmsg,b_,aJ];omega
          refine gP [3672] hp rfl (aj (.one (ak (aN hB3l rfl aw))) (aj (.deep a9) aD)) (fun ρ=>by simp[AV.renL,AV.ren]) ?_;rintro r hp'⟨I,rfl,h0⟩;refine⟨[(I,0)],by simp[cy,fg],?_⟩;simp[go_sem,bO,bB,h0,Blk.ren,aM,cG,AV.renL,AV.ren,bQ,aE];clear h0 hp';refine bN [6704] (gv iP _ rfl M (by simp[iP]) aq) rfl (aj (.deep a9) (aj (.one (ak (aN rfl rfl aw))) aD)) ?_;have hR:=bc (bu iP++(bu iP++M));have hR':(fi iP M).length=32:=hR;generalize fi iP M=S at *;simp[go_sem,aE,hR',am,av hR',cz,ah]
          exact aa (by
            intro c hc;simp only[et,List.mem_nil_iff,or_false]at hc;rcases hc with rfl|rfl
            · exact .inr ⟨_,rfl,cg _⟩
            · exact .inl trivial) rfl
theorem rB(n:Nat)(inner:List Nat)(a b:AV)(ha:a.low1 n)(hb:b.low1 n):∀v,v∈aL inner a b→v.low1 n:=by
 intro v hv;unfold aL at hv;rcases cL.1 hv with h|h
 ·exact aO _ _ v h
 ·simp at h;rcases h with rfl|rfl
  ·exact ha
  ·exact hb
theorem OZ{P:Program}{K:AV→Hp→Prop}{hp:Hp}(t:TypeId)(a b:Bool):cO P .eql t (.d (.bool a)) (.d (.bool b)) K hp=(P.underlying t=some .bool∧K (.d (.bool (a==b))) hp):=rfl
theorem O0{P:Program}{K:AV→Hp→Prop}{hp:Hp}(t:TypeId)(a b:Bool):cO P .neq t (.d (.bool a)) (.d (.bool b)) K hp=(P.underlying t=some .bool∧K (.d (.bool (a != b))) hp):=rfl
theorem K5:Tryz.prog.underlying 4=some .bool:=by kernel_rfl
attribute [go_sem] OZ O0 K5
theorem oY(inner:List Nat)(a b:DV):(AV.agg (aL inner (.d a) (.d b))).deep:=by
 intro c hc;unfold aL at hc;rcases cL.1 hc with h|h
 ·exact cg _ _ h
 ·simp at h;rcases h with rfl|rfl<;>trivial
def uE(t:Tn)(out:Int)(a:List Nat)(e:Int):Bool :=
 decide (0≤out)&&match t.outs[out.toNat]? with
  |some o=>decide (e=0)&&decide (o.2=a)
  |none=>false
def db(coins:List (Nat×List Nat))(n:Int):Nat×List Nat:=(coins[n.toNat]?).getD (0,[])
def Ha(o v:Int):List DV:=[.int .i64 o,.int .u64 v]
def rV(t:Tn)(n:Int)(coins:List (Nat×List Nat))(o0 o1 back:Int)(a:List Nat)(e:Int):AV :=
 if bM t n coins≠0 then .tup [.nil,.d (.int .i64 1)]
 else if uE t o0 a e=false∨back<0∨((db coins n).1:Int)<back then .tup [.nil,.d (.int .i64 24)]
 else if o1=-1∧back=0 then .tup [.d (.ro 2 [Ha o0 (((db coins n).1:Int)-back)]),.d (.int .i64 0)]
 else if o1=o0∨uE t o1 (db coins n).2 0=false then .tup [.nil,.d (.int .i64 24)]
 else .tup [.d (.ro 2 [Ha o0 (((db coins n).1:Int)-back),Ha o1 back]),.d (.int .i64 0)]
theorem lj{inner:List Nat}(hi:inner.length=32)(a b:AV):(aL inner a b).length=34:=by simp[aL,am,hi]
theorem lR{inner:List Nat}(hi:inner.length=32)(a b:AV):List.take 34 (aL inner a b)=aL inner a b:=cA (by rw[lj hi];exact cR _)
theorem GQ{inner:List Nat}(hi:inner.length=32)(a b c:AV):(aL inner a b).set 33 c=aL inner a c:=by
 have hl:(cb inner).length=32:=by rw[am,hi]
 unfold aL;rw[List.set_append_right _ _ aq,hl];rfl
theorem GR(t:Tn)(n:Int)(coins:List (Nat×List Nat))(inner:List Nat)(ps:List (List Nat))(x s a:List Nat)(out e:Int)(hi:inner.length=32)(ha:bytes a)(hob:∀o,o∈t.outs→bytes o.2)
  (g:ay Tryz.prog 46 [cM inner ps s] (fun r=>r=.tup [.d (nb a),.d (.int .i64 e)])) :
  ay Tryz.prog 65 [.agg (eS t n coins),cM inner ps x,.d (nb s),.d (.int .i64 out)] (fun r=>r=.d (.bool (uE t out a e))):=by
 refine bL Tryz.func65 Tryz.ntmps65 (rs:=[.tmp 8]) (by
  intro v hv;simp at hv;rcases hv with rfl|rfl|rfl|rfl
  ·simp[AV.deep,AV.deep1,eS]
  ·exact oY _ _ _
  ·trivial
  ·trivial) ?_
 have hes:(eS t n coins).length=6:=rfl;have het:List.take 6 (eS t n coins)=eS t n coins:=rfl;simp[go_sem,cM,lj hi,lR hi,hes,het];by_cases h2:out<0∨(t.outs.length:Int)≤out
 ·have hV:uE t out a e=false:=by
   unfold uE;rcases h2 with h2|h2
   ·simp;omega
   ·rw[List.getElem?_eq_none aq];simp
  refine ag (xM t n coins out h2) (by simp[AV.deep,AV.deep1,eS]) ?_;rw[hV];simp[go_sem,ah];exact aa a9 rfl
 ·obtain⟨k,rfl⟩:∃k:Nat,out=(k:Int):=⟨out.toNat,aq⟩;have hk:k<t.outs.length:=aq;obtain⟨o,ho⟩:∃o,t.outs[k]?=some o:=⟨_,cm hk⟩
  have hV:uE t k a e=(decide (e=0)&&decide (o.2=a)):=by
   unfold uE;simp[ho]
  rw[hV];refine ag (tV t n coins k o ho) (by simp[AV.deep,AV.deep1,eS]) ?_;simp[go_sem,lj hi,lR hi,GQ hi,nb];refine ag g (cN _ _ _) ?_;simp[go_sem];by_cases he:e=0
  ·subst he;simp[go_sem];refine ag (ii o.2 a (hob o (cr ho)) ha) a9 ?_;simp[go_sem,ah];exact aa a9 rfl
  ·simp[go_sem,he,ah];exact aa a9 rfl
theorem AP(t:Tn)(m:Nat)(coins:List (Nat×List Nat))(out:Int)(hm:m<coins.length)(hob:∀o,o∈t.outs→bytes o.2)(hcb:∀o,o∈coins→bytes o.2) :
  ay Tryz.prog 66 [.agg (eS t m coins),.d (.int .i64 out)] (fun r=>r=.d (.bool (uE t out (db coins m).2 0))):=by
 refine bL Tryz.func66 Tryz.ntmps66 (rs:=[.tmp 4]) (by simp[AV.deep,AV.deep1,eS]) ?_;obtain⟨c,hcm⟩:∃o,coins[m]?=some o:=⟨_,cm hm⟩;have hca:db coins m=c:=by simp[db,hcm]
 simp[go_sem,eS];by_cases h2:out<0∨(t.outs.length:Int)≤out
 ·have hV:uE t out (db coins m).2 0=false:=by
   unfold uE;rcases h2 with h2|h2
   ·simp;omega
   ·rw[List.getElem?_eq_none aq];simp
  refine ag (xM t m coins out h2) (by simp[AV.deep,AV.deep1,eS]) ?_;rw[hV];simp[go_sem,ah];exact aa a9 rfl
 ·obtain⟨k,rfl⟩:∃k:Nat,out=(k:Int):=⟨out.toNat,aq⟩;have hk:k<t.outs.length:=aq;obtain⟨o,ho⟩:∃o,t.outs[k]?=some o:=⟨_,cm hk⟩
  have hV:uE t k (db coins m).2 0=decide (o.2=c.2):=by
   unfold uE;simp[ho,hca]
  rw[hV];refine ag (tV t m coins k o ho) (by simp[AV.deep,AV.deep1,eS]) ?_;simp[go_sem,hcm,eO];refine ag (ii o.2 c.2 (hob o (cr ho)) (hcb c (cr hcm))) a9 ?_;simp[go_sem,ah];exact aa a9 rfl
theorem yH{Q:AV→Prop}{st:St}{id n:Nat}{ty:TypeId}{e:Int}(rows:List (List DV))(hn:rows.length=n)(hb:lk id st.hp=some ⟨ty,2,rows.map (fun r=>r.map AV.d)⟩)(hr:∀r,r∈rows→r.length=2)(hq:Q (.tup [.d (.ro 2 rows),.d (.int .i64 e)])):dy Q (.tup [.own id 0 n n,.d (.int .i64 e)]) st:=by
 subst hn;refine dE (cs':=[.d (.ro 2 rows),.d (.int .i64 e)]) (fun i c c' h1 h2=>?_) rfl a9 hq
 match i,h1,h2 with
 |0,h1,h2=>simp at h1 h2;subst h1 h2;exact ak (iG hb trivial aw (by rw[List.drop_zero,cA aw];exact mC _) rfl hr)
 |1,h1,h2=>simp at h1 h2;subst h1 h2;exact be trivial
 |k+2,h1,_=>simp at h1
theorem GU(t:Tn)(n:Int)(coins:List (Nat×List Nat))(inner:List Nat)(ps:List (List Nat))(x s:List Nat)(o0 o1 back:Int):∀v,v∈[AV.agg (eS t n coins),cM inner ps x,.d (nb s),.agg [.d (.int .i64 o0),.d (.int .i64 o1)],.d (.int .i64 back)]→v.deep:=by
 intro v hv;simp at hv;rcases hv with rfl|rfl|rfl|rfl|rfl
 ·simp[AV.deep,AV.deep1,eS]
 ·exact oY _ _ _
 ·trivial
 ·simp[AV.deep,AV.deep1]
 ·trivial
theorem O1(t:Tn)(n:Int)(coins:List (Nat×List Nat))(inner:List Nat)(ps:List (List Nat))(x s:List Nat)(o:Int):∀v,v∈[AV.agg (eS t n coins),cM inner ps x,.d (nb s),.d (.int .i64 o)]→v.deep:=by
 intro v hv;simp at hv;rcases hv with rfl|rfl|rfl|rfl
 ·simp[AV.deep,AV.deep1,eS]
 ·exact oY _ _ _
 ·trivial
 ·trivial
theorem uF(t:Tn)(n:Int)(coins:List (Nat×List Nat))(inner:List Nat)(ps:List (List Nat))(x s a:List Nat)(o0 o1 back e:Int)(ht:Sm t)(hc:coins.length≤1000)(hi:inner.length=32)(ha:bytes a)(hob:∀o,o∈t.outs→bytes o.2)(hcb:∀o,o∈coins→bytes o.2∧o.1<18446744073709551616)
  (hbk:back<9223372036854775808) (g:ay Tryz.prog 46 [cM inner ps s] (fun r=>r=.tup [.d (nb a),.d (.int .i64 e)])) :
  ay Tryz.prog 27 [.agg (eS t n coins),cM inner ps x,.d (nb s),.agg [.d (.int .i64 o0),.d (.int .i64 o1)],.d (.int .i64 back)] (fun r=>r=rV t n coins o0 o1 back a e):=by
 refine bL Tryz.func27 Tryz.ntmps27 (rs:=[.tmp 10,.tmp 11]) (GU _ _ _ _ _ _ _ _ _ _) ?_;have hes:(eS t n coins).length=6:=rfl;have het:List.take 6 (eS t n coins)=eS t n coins:=rfl;simp[go_sem,cM,lj hi,lR hi,hes,het];refine ag (kX t n coins ht hc) (by simp[AV.deep,AV.deep1,eS]) ?_;rcases lF t n coins with h1|⟨h1,hn1,hn2⟩
 ·have hV:rV t n coins o0 o1 back a e=.tup [.nil,.d (.int .i64 1)]:=by simp[rV,h1]
  rw[h1,hV];simp[go_sem,ah];exact aa a9 rfl
 ·rw [h1];obtain ⟨m,rfl⟩:∃ k:Nat,n=(k:Int):=⟨n.toNat,aq⟩;obtain ⟨c,hcm⟩:∃ o,coins[m]?=some o:=⟨_,cm (by omega:m<coins.length)⟩;have hca:db coins m=c:=by simp [db,hcm]
  have hcl:=(hcb c (cr hcm)).2;simp[go_sem,eS,hcm,eO,lj hi,lR hi];refine ag (GR t m coins inner ps x s a o0 e hi ha hob g) (O1 _ _ _ _ _ _ _ _) ?_;unfold rV;rw[h1,hca]
  cases hon:uE t o0 a e
  ·simp[go_sem,ah];exact aa a9 rfl
  by_cases b1:back<0
  ·simp[go_sem,b1,ah];exact aa a9 rfl
  have wb:IntKind.u64.wrap back=back:=by rw[IntWalk.u64_in _ aq]
  by_cases b2:(c.1:Int)<back
  ·simp[go_sem,b1,wb,b2,ah];exact aa a9 rfl
  have ws:IntKind.u64.wrap ((c.1:Int)-back)=(c.1:Int)-back:=by rw[IntWalk.u64_in _ aq]
  by_cases q1:o1=-1∧back=0
  ·obtain⟨rfl,rfl⟩:=q1;have wc:IntKind.u64.wrap (c.1:Int)=(c.1:Int):=by rw[IntWalk.u64_in _ aq]
   simp[go_sem,b1,wb,b2,ws,wc,ah];exact yH [Ha o0 (c.1:Int)] rfl rfl (by simp[Ha]) rfl
  ·have gb:=AP t m coins o1 aq hob (fun o h=>(hcb o h).1);rw[hca]at gb;by_cases p1:o1=-1
   ·have p2:¬back=0:=fun h=>q1 ⟨p1,h⟩;subst p1;by_cases q2:(-1)=o0
    ·subst q2;simp[go_sem,b1,wb,b2,ws,p2,ah];exact aa a9 rfl
    ·simp[go_sem,b1,wb,b2,ws,p2,q2];refine ag gb (by simp[AV.deep,AV.deep1,eS]) ?_
     cases hob1:uE t (-1) c.2 0
     ·simp[go_sem,b1,wb,b2,ws,p2,q2,ah];exact aa a9 rfl
     ·simp[go_sem,b1,wb,b2,ws,p2,q2,ah];exact yH [Ha o0 ((c.1:Int)-back),Ha (-1) back] rfl rfl (by simp[Ha]) rfl
   ·skip;by_cases q2:o1=o0
    ·subst q2;simp[go_sem,b1,wb,b2,ws,p1,ah];exact aa a9 rfl
    ·simp[go_sem,b1,wb,b2,ws,p1,q2];refine ag gb (by simp[AV.deep,AV.deep1,eS]) ?_
     cases hob1:uE t o1 c.2 0
     ·simp[go_sem,b1,wb,b2,ws,p1,q2,ah];exact aa a9 rfl
     ·simp[go_sem,b1,wb,b2,ws,p1,q2,ah];exact yH [Ha o0 ((c.1:Int)-back),Ha o1 back] rfl rfl (by simp[Ha]) rfl
end Go.Proofs.YtmfnimjnneflnaaGreat
namespace Go.Am
theorem O2{P:Program}{g:FuncId}{args:List AV}{Q Q':AV→Prop}(h:ay P g args Q)
  (hq:∀r,Q r→∃r',(∀(w:World)(S:Nat→Prop)(σ:Nat→Option Nat)(hp:Hp)(U:Nat→Prop)(x:Value),AIs w S σ hp U r x→AIs w S σ hp U r' x)∧r'.deep∧Q' r'):ay P g args Q':=by
 obtain⟨h1,h2⟩:=h;refine⟨h1,fun w S vs a b c=>(h2 w S vs a b c).mono fun e w' he=>?_⟩;obtain⟨x,r,e1,q,d,r1,r3⟩:=he;obtain⟨r',g1,g2,g3⟩:=hq r q;exact⟨x,r',e1,g3,g2,r1,g1 _ _ _ _ _ _ r3⟩
theorem oZ{w:World}{S:Nat→Prop}{σ:Nat→Option Nat}{hp:Hp}{U:Nat→Prop}{x:Value}{v:AV}(e:Nat)(h:AIs w S σ hp U (.tup [.nil,v]) x):AIs w S σ hp U (.tup [.d (.ro e []),v]) x:=by
 cases h with
 | tup _ xs hl h =>
  refine .tup _ xs hl fun i c y h1 h2=>?_
  match i with
  |0 =>
   simp at h1;subst h1;exact I4 e (h 0 .nil y rfl h2)
  |i+1=>exact h (i+1) c y h1 h2
end Go.Am
namespace Go.Proofs.YtmfnimjnneflnaaGreat
open Go.Am Go.Sha Go.Ec
def lW(t:Tn)(n:Int)(coins:List (Nat×List Nat))(o0 o1 back:Int)(a:List Nat)(e:Int):List (Int×Int)×Int :=
 if bM t n coins≠0 then([],1)
 else if uE t o0 a e=false∨back<0∨((db coins n).1:Int)<back then([],24)
 else if o1=-1∧back=0 then([(o0,((db coins n).1:Int)-back)],0)
 else if o1=o0∨uE t o1 (db coins n).2 0=false then([],24)
 else([(o0,((db coins n).1:Int)-back),(o1,back)],0)
theorem wM(t:Tn)(n:Int)(coins:List (Nat×List Nat))(o0 o1 back:Int)(a:List Nat)(e:Int):(lW t n coins o0 o1 back a e).1.length≤2:=by
 unfold lW
 repeat' split
 all_goals simp
theorem K6{t:Tn}{n:Int}{coins:List (Nat×List Nat)}{o0 o1 back:Int}{a:List Nat}{e:Int}{g:FuncId}{args:List AV}(h:ay Tryz.prog g args (fun r=>r=rV t n coins o0 o1 back a e)) :
  ay Tryz.prog g args (fun v=>v=.tup [.d (.ro 2 ((lW t n coins o0 o1 back a e).1.map cJ)),.d (.int .i64 (lW t n coins o0 o1 back a e).2)]):=by
 refine O2 h ?_;rintro r rfl;refine⟨_,?_,?_,rfl⟩
 ·intro w S σ hp U x;unfold rV lW
  split
  ·exact oZ 2
  ·split
   ·exact oZ 2
   ·split
    ·exact id
    ·split
     ·exact oZ 2
     ·exact id
 ·simp[AV.deep,AV.deep1]
theorem T8(inner:List Nat)(ps:List (List Nat))(x:List Nat)(hi:inner.length=32)(hib:bytes inner)(hp:∀p,p∈ps→p.length=32)(hl:ps.length≤1000)(hx:x.length≤100000) :
  ∃p:List Nat×Int,bytes p.1∧ay Tryz.prog 46 [cM inner ps x] (fun r=>r=.tup [.d (nb p.1),.d (.int .i64 p.2)]):=by
 obtain⟨k,o,e,hk,hkb,he,f1,_⟩:=GH inner ps x hi hib hp hl hx;rcases he with rfl|rfl
 ·refine⟨(81::32::k,0),?_,GO hi hk f1⟩;intro y hy;simp only[et]at hy;rcases hy with rfl|rfl|hy
  ·omega
  ·omega
  ·exact hkb y hy
 ·exact⟨([],1),fun y hy=>(by cases hy),GN hi hk f1⟩
structure RnS0(F:RnF):Prop where
 t:Sm F.t
 c:Y6 F.coins
 cb:∀o,o∈F.coins→bytes o.2∧o.1<18446744073709551616
 ob:∀o,o∈F.t.outs→bytes o.2
 i:F.inner.length=32
 ib:bytes F.inner
 s:F.script.length≤100000
 p:∀p,p∈F.path→p.length=32
 pl:F.path.length≤1000
 a:F.annex.length≤1000
def O3(sg:a8→a8→a8→Bool):Prop:=∀key msg sig,key.length=32→bytes key→bytes sig→msg.length≤1000→sig.length≤1000→ay Tryz.prog 156 [.agg (cb key),.d (nb msg),.d (nb sig)] (fun v=>v=.d (.bool (sg key sig msg)))
theorem Qa:∃sg,O3 sg:=by
 have hv:∀p:a8×a8×a8,∃o:Bool,p.1.length=32→bytes p.1→bytes p.2.2→p.2.1.length≤1000→p.2.2.length≤1000→ay Tryz.prog 156 [.agg (cb p.1),.d (nb p.2.1),.d (nb p.2.2)] (fun v=>v=.d (.bool o)):=by
  rintro⟨key,msg,sig⟩;by_cases hc:key.length=32∧bytes key∧bytes sig∧msg.length≤1000∧sig.length≤1000
  ·obtain⟨o,ho⟩:=GP key msg sig hc.1 hc.2.1 hc.2.2.1 hc.2.2.2.1 hc.2.2.2.2;exact⟨o,fun _ _ _ _ _=>ho⟩
  ·exact⟨false,fun a b c d e=>absurd ⟨a,b,c,d,e⟩ hc⟩
 obtain⟨sg,hsg⟩:=Classical.axiomOfChoice hv;exact⟨fun key sig msg=>sg (key,msg,sig),fun key msg sig a b c d e=>hsg (key,msg,sig) a b c d e⟩
def AQ(inner:List Nat)(ps:List (List Nat))(out:a8→a8×Int):Prop:=∀s:a8,s.length≤100000→bytes (out s).1∧ay Tryz.prog 46 [cM inner ps s] (fun r=>r=.tup [.d (nb (out s).1),.d (.int .i64 (out s).2)])
theorem Fb(inner:List Nat)(ps:List (List Nat))(hi:inner.length=32)(hib:bytes inner)(hp:∀p,p∈ps→p.length=32)(hl:ps.length≤1000):∃out,AQ inner ps out:=by
 have ho:∀s:a8,∃p:a8×Int,s.length≤100000→bytes p.1∧ay Tryz.prog 46 [cM inner ps s] (fun r=>r=.tup [.d (nb p.1),.d (.int .i64 p.2)]):=by
  intro s;by_cases hs:s.length≤100000
  ·obtain⟨p,hp⟩:=T8 inner ps s hi hib hp hl hs;exact⟨p,fun _=>hp⟩
  ·exact⟨([],0),fun q=>absurd q hs⟩
 obtain⟨out,hout⟩:=Classical.axiomOfChoice ho;exact⟨out,hout⟩
theorem T9(F:RnF)(h:RnS0 F){sg:a8→a8→a8→Bool}{out:a8→a8×Int}(hsg:O3 sg)(hout:AQ F.inner F.path out):∃msg:a8,bM F.t (F.n:Int) F.coins=0 →
  ∀x:Rx,x=⟨bu,dY,sg,msg,(F.t.lock:Int),(F.t.ver:Int),(((F.t.ins[F.n]?.map Ip.seq).getD 0:Nat):Int),OT F.t F.n,uU F.t (F.n:Int) F.coins,fun s o0 o1 bk=>lW F.t (F.n:Int) F.coins o0 o1 bk (out s).1 (out s).2⟩→RnE F x:=by
 -- the message
 have hm:∃q:a8,bM F.t (F.n:Int) F.coins=0→q.length=32∧bytes q∧ay Tryz.prog 43 [.agg (eS F.t (F.n:Int) F.coins),.d (nb (jU F.script)),.d (nb F.annex)] (fun r=>r=.tup [.agg (cb q),.d (.int .i64 0)]):=by
  by_cases hc:bM F.t (F.n:Int) F.coins=0
  ·obtain⟨q,hq⟩:=OY F.t (F.n:Int) F.coins (jU F.script) F.annex h.t h.c (qL _) h.a hc;exact⟨q,fun _=>hq⟩
  ·exact⟨[],fun q=>absurd q hc⟩
 obtain⟨msg,hmsg⟩:=hm;refine⟨msg,fun hc x hx=>?_⟩;obtain⟨m1,m2,m3⟩:=hmsg hc
 have hcx:kH F.t=0∧F.coins.length=F.t.ins.length∧(F.n:Int)<(F.coins.length:Int):=by
  unfold bM at hc
  split at hc
  ·cases hc
  ·rename_i hq;simp only[not_or,Int.not_lt,Int.not_le,ne_eq,Classical.not_not]at hq;exact⟨hq.1,hq.2.1,hq.2.2.2.1⟩
 have hn:F.n<F.t.ins.length:=by have:=hcx.2.1;have:=hcx.2.2;omega
 have hi:=cm hn;have hio:(F.t.ins[F.n]).ok:=h.t.1.2.2.1 _ (List.getElem_mem hn);subst hx
 exact {
  hi:=h.i
  hs:=h.s
  ml:=m1
  mb:=m2
  mg:=⟨0,m3⟩
  vf:=fun key msg sig a b c d e f=>hsg key msg sig a b d e f
  tl:=bc _
  tb:=iL _
  tg:=⟨0,TY F.t F.n h.t hcx.1 hn⟩
  rc:=fun hh o q1 q2=>B9 F.t (F.n:Int) F.coins hh o h.t (by have:=h.c.1;omega) q1
  tr:=fun s o0 o1 bk q1 q2 q3 q4=>⟨K6 (uF F.t (F.n:Int) F.coins F.inner F.path F.script s (out s).1 o0 o1 bk (out s).2 h.t (by have:=h.c.1;omega) h.i (hout s q2).1 h.ob h.cb q4 (hout s q2).2),wM _ _ _ _ _ _ _ _⟩
  sq:=⟨F.t.ins[F.n],hi,hio,by rw[hi];rfl⟩
  lk:=⟨h.t.1.2.1,rfl⟩
  vr:=⟨h.t.1.1,rfl⟩
  hh:=⟨rfl,rfl⟩ }
end Go.Proofs.YtmfnimjnneflnaaGreat
