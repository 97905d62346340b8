/-
 Part 13 of what the claim rests on.
-/
import Derived.Test.YtmfnimjnneflnaaGreatW7
import Derived.Test.YtmfnimjnneflnaaGreatW11
set_option linter.unusedVariables false
set_option linter.unusedSimpArgs false
set_option maxRecDepth 100000
set_option maxHeartbeats 16000000
namespace Go.Proofs.YtmfnimjnneflnaaGreat
open Go.Am Go.Sha
def Qw(coins:List (Nat×List Nat)):Prop:=coins.length≤8∧∀o,o∈coins→o.1<18446744073709551616∧o.2.length≤1100
theorem mq(t:Tn)(n:Int)(coins:List (Nat×List Nat)):∀v,v∈[AV.agg (eS t n coins)]→v.deep:=by simp[AV.deep,AV.deep1,eS]
theorem Qx{a b c d e:List Nat}(k:Nat)(hk:k<5)(ha:a.length=32)(hb:b.length=32)(hc:c.length=32)(hd:d.length=32)(he:e.length=32) :
  List.take 32 (List.drop (k*32) (cb a++cb b++cb c++cb d++cb e))=cb ([a,b,c,d,e].getD k []):=by
 have ha':(cb a).length=32:=by rw[ak,ha]
 have hb':(cb b).length=32:=by rw[ak,hb]
 have hc':(cb c).length=32:=by rw[ak,hc]
 have hd':(cb d).length=32:=by rw[ak,hd]
 have he':(cb e).length=32:=by rw[ak,he]
 have mid:∀(A B C:List AV)(m:Nat),A.length=m→B.length=32→List.take 32 (List.drop m (A++(B++C)))=B:=by
  intro A B C m hA hB;subst hA;rw[List.drop_left,←hB,List.take_left]
 match k,hk with
 |0,_=>simpa using mid [] (cb a) (cb b++cb c++cb d++cb e) 0 rfl ha'
 |1,_=>simpa using mid (cb a) (cb b) (cb c++cb d++cb e) 32 aq hb'
 |2,_=>simpa using mid (cb a++cb b) (cb c) (cb d++cb e) 64 (by simp[ha',hb']) hc'
 |3,_=>simpa using mid (cb a++cb b++cb c) (cb d) (cb e) 96 (by simp[ha',hb',hc']) hd'
 |4,_=>simpa using mid (cb a++cb b++cb c++cb d) (cb e) [] 128 (by simp[ha',hb',hc',hd']) he'
def Xr(t:Tn)(n:Nat):List Nat:=le t.ver 4++(le t.lock 4++(le t.ins.length 4++(aO (t.ins.map nl).flatten++(le t.outs.length 4++(aO (t.outs.map fY).flatten++le n 4)))))
def Pj(t:Tn)(n:Nat):List Nat:=aO (Xr t n)
theorem Um(b:List Nat)(hl:b.length≤100000000000) :
  cT Tryz.prog 58 1 [(0,⟨167,10,[dk H0++[.nil,.d (.int .u64 0)]]⟩)] [.ptr 0 0 0 1,.d (nb b)] (fun r hp'=>r=.tup []∧lk 0 hp'=some ⟨167,10,[yJ b]⟩):=by
 have:=ND H0 .nil [] b 0 (.inr ⟨rfl,rfl⟩) (by simp;omega) aq;rw[List.nil_append,Nat.zero_add]at this;exact this
theorem Pl(ρ:Nat→Nat):AV.renL ρ (dk H0++[.nil,.d (.int .u64 0)])=dk H0++[.nil,.d (.int .u64 0)]:=rfl
theorem Pm{Q:AV→Prop}{st:St}{b:List Nat}{e:Int}(hq:Q (.tup [.agg (cb b),.d (.int .i64 e)])):dc Q (.tup [.agg (cb b),.d (.int .i64 e)]) st:=by
 refine aa ?_ hq;intro c hc;simp at hc;rcases hc with rfl|rfl
 ·exact .inr ⟨_,rfl,bD _⟩
 ·exact .inl trivial
theorem Lm{b:List Nat}(hb:b.length=32):(List.range 32).map (fun k=>((cb b).drop k).take 1)=List.map ((fun r=>List.map AV.d r)∘fun(x:Nat)=>[DV.int .u8 (x:Int)]) b:=by
 rw[Fj hb];rfl
theorem Un(t:Tn)(n:Nat)(ht:Sm t)(hc:rD t=0)(hn:n<t.ins.length):au Tryz.prog 18 [.agg (eT t),.d (.int .i64 (n:Int))] (fun v=>v=.tup [.agg (cb (Pj t n)),.d (.int .i64 0)]):=by
 have hck:=wC t ht;rw[hc]at hck;have hsq:=Fp t ht;have hod:=A0 t.outs (by have:=ht.2.2.1;omega) (fun o ho=>⟨ht.1.2.2.2 o ho,by have:=ht.2.2.2.1 o ho;omega⟩);have hA:=aJ (t.ins.map nl).flatten;have hB:=aJ (t.outs.map fY).flatten;have hil:=ht.2.1;have hol:=ht.2.2.1;have hver:=ht.1.1;have hlk:=ht.1.2.1;refine bC Tryz.func18 Tryz.ntmps18 (rs:=[.cell 4 29,.tmp 5]) (by intro v hv;simp at hv;rcases hv with rfl|rfl;simp[AV.deep,AV.deep1,eT];trivial) ?_;have hn0:¬(n:Int)<0:=aq;have hni:¬(t.ins.length:Int)≤(n:Int):=aq;have hnn:¬t.ins.length≤n:=aq;have w1:IntKind.u32.wrap (t.ins.length:Int)=(t.ins.length:Int):=IntWalk.u32_in _ aq;have w2:IntKind.u32.wrap (t.outs.length:Int)=(t.outs.length:Int):=IntWalk.u32_in _ aq;have w3:IntKind.u32.wrap (n:Int)=(n:Int):=IntWalk.u32_in _ aq;have hz32:z32.length=32:=rfl;have hzd:List.drop 32 (cb z32)=[]:=rfl;unfold Pj Xr;generalize hAe:aO (t.ins.map nl).flatten=A at *;generalize hBe:aO (t.outs.map fY).flatten=B at *;simp only[eT]at *;simp[go_sem];have hdO:∀v,v∈[AV.d (.ro 2 (t.outs.map eO))]→v.deep:=by simp[AV.deep,AV.deep1]
 have hdS:∀v,v∈[AV.agg [.d (.int .u32 (t.ver:Int)),.d (.ro 35 (t.ins.map eI)),.d (.ro 2 (t.outs.map eO)),.d (.int .u32 (t.lock:Int))]]→v.deep:=by simp[AV.deep,AV.deep1]
 refine ag hck (by intro v hv;simp at hv;subst hv;simp[AV.deep,AV.deep1]) ?_;simp[go_sem,hn0,hni,hnn];refine dh [0,2,3] [1,4,5,6,7,8] [0,2,3] (.alt (bt 1 (.alt (bx 4 (.alt (a_ [5,6,7,8]) (a_ [6,5,7,8]))) (.alt (bt 5 (.alt (a_ [4,6,7,8]) (bt 6 (a_ [4,7,8])))) (bt 6 (.alt (a_ [4,5,7,8]) (bt 5 (a_ [4,7,8]))))))) (.alt (bt 5 (.alt (bt 1 (.alt (a_ [4,6,7,8]) (bt 6 (a_ [4,7,8])))) (bt 6 (bt 1 (a_ [4,7,8]))))) (bt 6 (.alt (bt 1 (.alt (a_ [4,5,7,8]) (bt 5 (a_ [4,7,8])))) (bt 5 (bt 1 (a_ [4,7,8]))))))) ⟨[(1,.d (.int .i64 (n:Int))),(2,.ptr 0 0 0 1),(4,.ptr 32 0 0 1),(6,.ptr 704 0 0 1),(7,.ptr 736 0 0 1)],[(704,⟨29,32,[cb A]⟩),(736,⟨29,32,[cb B]⟩),(32,⟨29,32,[cb z32]⟩),(0,⟨26,4,[[.d (.int .u32 (t.ver:Int)),.d (.ro 35 (t.ins.map eI)),.d (.ro 2 (t.outs.map eO)),.d (.int .u32 (t.lock:Int))]]⟩)],9000⟩ (k:=9) ?h3 ?hq
 case h3 =>
  intro G hG
  have hW:∀(fr:Fr)(hp:Hp),(fv 1 fr=.d (.int .i64 (n:Int))∧fv 2 fr=.ptr 0 0 0 1∧fv 4 fr=.ptr 32 0 0 1∧fv 6 fr=.ptr 704 0 0 1∧fv 7 fr=.ptr 736 0 0 1∧lk 704 hp=some ⟨29,32,[cb A]⟩∧lk 736 hp=some ⟨29,32,[cb B]⟩∧lk 32 hp=some ⟨29,32,[cb z32]⟩∧lk 0 hp=some ⟨26,4,[[.d (.int .u32 (t.ver:Int)),.d (.ro 35 (t.ins.map eI)),.d (.ro 2 (t.outs.map eO)),.d (.int .u32 (t.lock:Int))]]⟩)→G fr hp:=by
   rintro fr hp⟨q0,q1,q2,q3,q4,q5,q6,q7,q8⟩;refine hG _ _ (cf ?_);simp only[az,ai];refine⟨fun p hp=>?_,fun p hp=>?_,aw⟩
   ·simp only[d_,List.mem_nil_iff,or_false]at hp;rcases hp with rfl|rfl|rfl|rfl|rfl<;>exact⟨.inl (Eq.symm (by assumption)),by simp[AV.low,AV.low1]⟩
   ·simp only[d_,List.mem_nil_iff,or_false]at hp;rcases hp with rfl|rfl|rfl|rfl<;>exact⟨.inl (by assumption),aw,by intro r hr;simp only[d_,List.mem_nil_iff,or_false]at hr;subst hr;first|exact bZ _ _|exact aI _ _|(intro v hv;simp only[d_,List.mem_nil_iff,or_false]at hv;rcases hv with rfl|rfl|rfl|rfl<;>trivial)⟩
  simp[go_sem,ak,hA,hB,hz32,hzd,am hA,am hB,db]
  repeat' first|exact hW _ _ ⟨rfl,rfl,rfl,rfl,rfl,rfl,rfl,rfl,rfl⟩|(refine hW _ _ ?_;simp[fv,lk];done)|refine ag hsq hdS ?_|refine ag hod hdO ?_|apply And.intro|simp[go_sem,ak,hA,hB,hz32,hzd,am hA,am hB,db]
 case hq =>
  simp[go_sem];refine bn [] mN rfl aw aw aw (by simp[AV.renL]) ?_;rintro r hp'⟨rfl,h0⟩;refine⟨[(97,0)],rfl,?_⟩;simp[go_sem,bU,bM,h0,Blk.ren,aV,fV,AV.ren,bT];clear h0 hp';refine bV [] (ii [] t.ver aw hver) rfl (aj (.one (al (.nil 1))) (aj (.deep a9) aC)) ?_;simp[go_sem,aE];refine bn [(0,9000)] (Um (le t.ver 4) (by simp[aQ])) rfl aw (by simp[lk]) (by simp[lk,Blk.ren,aV,Pl]) (by simp[AV.renL,AV.ren,bT,gv,lk,eD]) ?_;rintro r hp'⟨rfl,h0⟩;refine⟨[],rfl,?_⟩;simp[-List.append_assoc,go_sem,bU,bM,h0,Blk.ren,aV,bB,AV.renL,AV.ren,bT,dr,w1,w2,w3];clear h0 hp';refine bV [] (ii [] t.lock aw hlk) rfl (aj (.one (al (.nil 1))) (aj (.deep a9) aC)) ?_;simp[go_sem,aE];refine bn [(0,9000)] (oI (le t.ver 4) (le t.lock 4) (by simp[aQ,hA,hB])) rfl aw (by simp[lk]) (by simp[lk,Blk.ren,aV,bB]) (by simp[AV.renL,AV.ren,bT,gv,lk,eD]) ?_;rintro r hp'⟨rfl,h0⟩;refine⟨[],rfl,?_⟩;simp[-List.append_assoc,go_sem,bU,bM,h0,Blk.ren,aV,bB,AV.renL,AV.ren,bT,dr,w1,w2,w3];clear h0 hp';refine bV [] (ii [] t.ins.length aw aq) rfl (aj (.one (al (.nil 1))) (aj (.deep a9) aC)) ?_;simp[go_sem,aE];refine bn [(0,9000)] (oI ((le t.ver 4)++le t.lock 4) (le t.ins.length 4) (by simp[aQ,hA,hB])) rfl aw (by simp[lk]) (by simp[lk,Blk.ren,aV,bB]) (by simp[AV.renL,AV.ren,bT,gv,lk,eD]) ?_;rintro r hp'⟨rfl,h0⟩;refine⟨[],rfl,?_⟩;simp[-List.append_assoc,go_sem,bU,bM,h0,Blk.ren,aV,bB,AV.renL,AV.ren,bT,dr,w1,w2,w3];clear h0 hp';refine bn [(0,9000),(1,704)] (Dl 29 32 (cb A) (((le t.ver 4)++le t.lock 4)++le t.ins.length 4) A (Lm hA) (fun n=>aI n _) hA (by simp[aQ,hA,hB])) rfl aw (by simp[lk]) (by simp[lk,Blk.ren,aV,bB,dr]) (by simp[AV.renL,AV.ren,bT,gv,lk]) ?_;rintro r hp'⟨rfl,h0,h1⟩;refine⟨[],rfl,?_⟩;simp[-List.append_assoc,go_sem,bU,bM,h0,h1,Blk.ren,aV,bB,AV.renL,AV.ren,bT,dr,w1,w2,w3];clear h0 h1 hp';refine bV [] (ii [] t.outs.length aw aq) rfl (aj (.one (al (.nil 1))) (aj (.deep a9) aC)) ?_;simp[go_sem,aE];refine bn [(0,9000)] (oI ((((le t.ver 4)++le t.lock 4)++le t.ins.length 4)++A) (le t.outs.length 4) (by simp[aQ,hA,hB])) rfl aw (by simp[lk]) (by simp[lk,Blk.ren,aV,bB]) (by simp[AV.renL,AV.ren,bT,gv,lk,eD]) ?_;rintro r hp'⟨rfl,h0⟩;refine⟨[],rfl,?_⟩;simp[-List.append_assoc,go_sem,bU,bM,h0,Blk.ren,aV,bB,AV.renL,AV.ren,bT,dr,w1,w2,w3];clear h0 hp';refine bn [(0,9000),(1,736)] (Dl 29 32 (cb B) (((((le t.ver 4)++le t.lock 4)++le t.ins.length 4)++A)++le t.outs.length 4) B (Lm hB) (fun n=>aI n _) hB (by simp[aQ,hA,hB])) rfl aw (by simp[lk]) (by simp[lk,Blk.ren,aV,bB,dr]) (by simp[AV.renL,AV.ren,bT,gv,lk]) ?_;rintro r hp'⟨rfl,h0,h1⟩;refine⟨[],rfl,?_⟩;simp[-List.append_assoc,go_sem,bU,bM,h0,h1,Blk.ren,aV,bB,AV.renL,AV.ren,bT,dr,w1,w2,w3];clear h0 h1 hp';refine bV [] (ii [] n aw aq) rfl (aj (.one (al (.nil 1))) (aj (.deep a9) aC)) ?_;simp[go_sem,aE];refine bn [(0,9000)] (oI ((((((le t.ver 4)++le t.lock 4)++le t.ins.length 4)++A)++le t.outs.length 4)++B) (le n 4) (by simp[aQ,hA,hB])) rfl aw (by simp[lk]) (by simp[lk,Blk.ren,aV,bB]) (by simp[AV.renL,AV.ren,bT,gv,lk,eD]) ?_;rintro r hp'⟨rfl,h0⟩;refine⟨[],rfl,?_⟩;simp[-List.append_assoc,go_sem,bU,bM,h0,Blk.ren,aV,bB,AV.renL,AV.ren,bT,dr,w1,w2,w3];clear h0 hp';refine bn [(0,9000)] (wR (((((((le t.ver 4)++le t.lock 4)++le t.ins.length 4)++A)++le t.outs.length 4)++B)++le n 4) (by simp[aQ,hA,hB])) rfl aw (by simp[lk]) (by simp[lk,Blk.ren,aV,bB]) (by simp[AV.renL,AV.ren,bT,gv,lk]) ?_;rintro r hp'⟨rfl,h0⟩;refine⟨[],rfl,?_⟩;have hL:=aJ (((((((le t.ver 4)++le t.lock 4)++le t.ins.length 4)++A)++le t.outs.length 4)++B)++le n 4);have hLe:(((((((le t.ver 4)++le t.lock 4)++le t.ins.length 4)++A)++le t.outs.length 4)++B)++le n 4)=le t.ver 4++(le t.lock 4++(le t.ins.length 4++(A++(le t.outs.length 4++(B++le n 4))))):=by simp only[cA]
  rw[hLe]at hL h0⊢;generalize aO (le t.ver 4++(le t.lock 4++(le t.ins.length 4++(A++(le t.outs.length 4++(B++le n 4))))))=q at *;simp[go_sem,bU,bM,h0,Blk.ren,aV,bB,dr,AV.ren,bT,ak,hL,am hL,hz32,hzd,ah];exact Pm rfl
def Pn(ann:List Nat):Nat:=if ann=[]then 2 else 3
def A5(ann:List Nat):List Nat:=if ann=[]then[]else aO (bY ann)
def Uo(t:Tn)(n:Nat)(coins:List (Nat×List Nat))(h ann:List Nat):List Nat :=
 [0,0]++le t.ver 4++le t.lock 4++aO (t.ins.map mD).flatten++aO (coins.map pq).flatten++aO (coins.map qG).flatten++aO (t.ins.map nl).flatten++aO (t.outs.map fY).flatten++[Pn ann]++le n 4++A5 ann++h++[0]++le 4294967295 4
theorem Ln(t:Tn)(n:Int)(coins:List (Nat×List Nat))(h ann:List Nat):∀v,v∈[AV.agg (eS t n coins),.d (nb h),.d (nb ann)]→v.deep:=by simp[AV.deep,AV.deep1,eS]
theorem Po (t:Tn) (n:Int) (coins:List (Nat × List Nat)) (h ann:List Nat) (ht:Sm t) (hc:Qw coins) (hl:h.length=32) (hal:ann.length≤1000) (c0:bJ t n coins=0) :
    ∃q:List Nat,q.length=32∧bytes q∧au Tryz.prog 43 [.agg (eS t n coins),.d (nb h),.d (nb ann)] (fun r=>r=.tup [.agg (cb q),.d (.int .i64 0)]):=by
  refine⟨eu df (Uo t n.toNat coins h ann),aJ _,gn _,?_⟩;refine bC Tryz.func43 Tryz.ntmps43 (rs:=[.cell 6 29,.tmp 7]) (Ln t n coins h ann) ?_;have hck:=gA t n coins ht (by have:=hc.1;omega);have hd1:=mq t n coins
  · rw [c0] at hck
    have hn:0≤n∧n<coins.length:=by
      unfold bJ at c0
      split at c0
      · cases c0
      · rename_i hx
        simp only[not_or,Int.not_lt,Int.not_le]at hx;exact⟨hx.2.2.1,hx.2.2.2.1⟩
    obtain⟨m,rfl⟩:∃m:Nat,n=(m:Int):=⟨n.toNat,aq⟩;rw[Int.toNat_natCast];obtain⟨hv,hlk,hi,ho⟩:=ht.1;have p1:=A4 t ht;have p2:=A3 coins hc.1 hc.2;have hmsg:Uo t m coins h ann=[0,0]++le t.ver 4++le t.lock 4++aO (t.ins.map mD).flatten++aO (coins.map pq).flatten++aO (coins.map qG).flatten++aO (t.ins.map nl).flatten++aO (t.outs.map fY).flatten++[Pn ann]++le m 4++A5 ann++h++[0]++le 4294967295 4:=rfl;generalize Uo t m coins h ann=M at *;have l1:=aJ (t.ins.map mD).flatten;have l2:=aJ (t.ins.map nl).flatten;have l3:=aJ (t.outs.map fY).flatten;have l4:=aJ (coins.map pq).flatten;have l5:=aJ (coins.map qG).flatten;generalize aO (t.ins.map mD).flatten=a at *;generalize aO (t.ins.map nl).flatten=b at *;generalize aO (t.outs.map fY).flatten=c at *;generalize aO (coins.map pq).flatten=x at *;generalize aO (coins.map qG).flatten=y at *;have hT:=s6 t;simp only[eT,eS]at hT hck hd1 p1;have hL:(cb a++cb b++cb c).length=96:=by simp[ak,l1,l2,l3]
    have hT2:List.take 96 (cb a++cb b++cb c)=cb a++cb b++cb c:=cx aq;have hE:cb (a++(b++c))=cb a++cb b++cb c:=by rw[nn,nn,cA]
    rw[hE]at p1;simp[go_sem,eS];refine ag hck hd1 ?_;simp[go_sem,hl,nb];refine gj [512] (dH [0,0] t.ver aw hv) rfl (aj (.one (al (aM (L:=[0,0]) rfl rfl aw))) (aj (.deep a9) aC)) (fun ρ=>by simp[AV.renL,AV.ren]) ?_;rintro r hp'⟨I,rfl,h0⟩;refine⟨[(I,0)],by simp[cv,fi],?_⟩;generalize hA1:[0,0]++le t.ver 4=A1 at *;have hA1l:A1.length=6:=by rw[←hA1];simp[aQ]
    simp[go_sem,bU,bM,h0,Blk.ren,aV,dI,AV.renL,AV.ren,bT,aE];clear h0 hp';refine gj [640] (dH A1 t.lock aq hlk) rfl (aj (.one (al (aM rfl rfl aw))) (aj (.deep a9) aC)) (fun ρ=>by simp[AV.renL,AV.ren]) ?_;rintro r hp'⟨I,rfl,h0⟩;refine⟨[(I,0)],by simp[cv,fi],?_⟩;generalize hA2:A1++le t.lock 4=A2 at *;have hA2l:A2.length=10:=by rw[←hA2];simp[aQ,hA1l]
    simp[go_sem,bU,bM,h0,Blk.ren,aV,dI,AV.renL,AV.ren,bT,aE];clear h0 hp';have r0:List.take 32 (cb a++cb b++cb c)=cb a:=by rw[cA,←l1,←ak a,List.take_left]
    have r1:List.take 32 (List.drop 32 (cb a++cb b++cb c))=cb b:=by rw[cA,show List.drop 32 (cb a++(cb b++cb c))=cb b++cb c by rw[←l1,←ak a,List.drop_left],←l2,←ak b,List.take_left]
    have r2:List.take 32 (List.drop 64 (cb a++cb b++cb c))=cb c:=by
      rw[show List.drop 64 (cb a++cb b++cb c)=cb c by rw[show 64=(cb a++cb b).length by simp[ak,l1,l2],List.drop_left]];exact am l3
    generalize hR:cb a++cb b++cb c=R at *;refine ag p1 hT ?_;simp[go_sem,hL,hT2,uL,ak,oe];refine ag p2 a9 ?_;simp[go_sem,ak,l1,l2,l3,l4,l5,am l4,am l5,bA,hL,r0,r1,r2,rP];rw[yK (A:=cb a) (n:=32) (m:=64) (by rw[ak,l1]) aq,←cA (cb a) (cb x),kq (A:=cb a++cb x) (n:=64) (m:=96) (by simp[ak,l1,l4]) aq,kq (A:=cb a++cb x++cb y) (n:=96) (m:=128) (by simp[ak,l1,l4,l5]) aq,kq (A:=cb a++cb x++cb y++cb b) (n:=128) (m:=160) (by simp[ak,l1,l4,l5,l2]) aq,uM,List.append_nil];have hF:=fun k hk=>Qx (a:=a) (b:=x) (c:=y) (d:=b) (e:=c) k hk l1 l4 l5 l2 l3;have hG:cb a++cb x++cb y++cb b++cb c=cb (a++x++y++b++c):=by simp[nn]
    have hGl:(a++x++y++b++c).length=160:=by simp[l1,l4,l5,l2,l3]
    rw[hG]at hF⊢
    have hW:∀k,k<5→([a,x,y,b,c].getD k []).length=32:=by
      intro k hk
      match k,hk with
      |0,_=>exact l1
      |1,_=>exact l4
      |2,_=>exact l5
      |3,_=>exact l2
      |4,_=>exact l3
    have hS:∀k,k<5→([a,x,y,b,c].take (k+1)).flatten=([a,x,y,b,c].take k).flatten++[a,x,y,b,c].getD k []:=by
      intro k hk
      match k,hk with
      |0,_=>simp
      |1,_=>simp
      |2,_=>simp
      |3,_=>simp
      |4,_=>simp
    have hfin:A2++a++x++y++b++c=A2++([a,x,y,b,c].take 5).flatten:=by simp
    rw[hfin]at hmsg;clear hfin;generalize a++x++y++b++c=G at *;generalize[a,x,y,b,c]=HS at *
    refine av (fun u:Nat×List Nat=>⟨[(1,.d (nb h)),(2,.d (nb ann)),(3,.ptr 0 0 0 1),(6,.ptr 32 0 0 1),(8,.own 832 0 u.2.length u.2.length),(57,.agg (cb G)),(58,.d (.int .i64 (u.1:Int)))],
        [(832,⟨5,1,rb u.2⟩),(32,⟨29,32,[cb z32]⟩),(0,⟨28,6,[eS t m coins]⟩)],3000⟩)
      (fun u=>u.1≤5∧u.2.length=10+32*u.1∧u.2=A2++(HS.take u.1).flatten) (fun u=>5-u.1) (0,A2) ⟨aw,by simp;omega,aw⟩ (by
        simp[az,ai,fv,lk,AV.low,AV.low1,nb,eS]
        exact⟨aI _ _,bq _ _,aI _ _⟩) ?_
    rintro⟨k,B⟩⟨hk,hBl,hB⟩;simp only at hk hBl hB;simp only[eS];simp only[go_sem,Nat.reduceEqDiff,Nat.reduceAdd,Nat.reduceLT,↓reduceIte,Nat.reduceMul];refine⟨fun hlt=>?_,fun hlt=>?_⟩
    · have hk5:k<5:=aq
      have hw:=hW k hk5;have hs:=hS k hk5;have hf:=hF k hk5;have w3:=ax (k:=k) aq;have g1:32≤G.length-k*32:=aq;generalize HS.getD k []=w at *;have hx:=(eN hw).trans (cC w);simp[go_sem]at hx;simp[go_sem,hk5,hf,g1,ak,hw,bA,hx,aG,jZ,w3];refine⟨aq,aq,?_⟩;refine ao (k+1,B++w) ⟨by simp only;omega,by simp only[b_,hw];omega,by simp only;rw[hs,hB,cA]⟩ (by simp only;omega) ?_;simp[az,ai,fv,lk,AV.low,AV.low1,nb,eS,hw];exact⟨aI _ _,bq _ _,aI _ _⟩
    · have hk5:k=5:=aq
      subst hk5;rw[←hB]at hmsg;have wn:IntKind.u32.wrap (m:Int)=(m:Int):=by rw[IM];have:=hc.1;omega
      have hn8:m<4294967296:=by have:=hc.1;omega
      by_cases han:ann=[]
      · subst han
        have ha1:Pn []=2:=rfl;have ha2:A5 []=[]:=rfl;rw[ha1,ha2,List.append_nil]at hmsg;simp[go_sem,hl,nb];have hb2:bits BinOp.or IntKind.u8 0 2=2:=by decide
        have hB1l:(B++[2]).length=B.length+1:=by simp
        have hB2l:(B++[2]++le m 4).length=B.length+5:=by simp[aQ]
        generalize hB2:B++[2]++le m 4=B2 at *;refine dh [0,1] [2,3,4,5,6,7,8] [0,1] (.alt (bt 2 (.alt (a_ [3,4,5,6,7,8]) (bt 4 (.alt (a_ [3,5,6,7,8]) (bt 5 (.alt (a_ [3,6,7,8]) (bt 6 (a_ [3,7,8])))))))) (bt 4 (.alt (bt 2 (.alt (a_ [3,5,6,7,8]) (bt 5 (.alt (a_ [3,6,7,8]) (bt 6 (a_ [3,7,8])))))) (bt 5 (.alt (bt 2 (.alt (a_ [3,6,7,8]) (bt 6 (a_ [3,7,8])))) (bt 6 (bt 2 (a_ [3,7,8])))))))) ⟨[(1,.d (nb h)),(2,.d (nb [])),(3,.ptr 0 0 0 1),(6,.ptr 32 0 0 1),(8,.own 3576 0 B2.length B2.length)],[(3576,⟨5,1,rb B2⟩),(32,⟨29,32,[cb z32]⟩)],6000⟩ (k:=9) ?h3 ?hq
        case h3 =>
          intro G hG
          have hW:∀(fr:Fr)(hp:Hp),(fv 1 fr=.d (nb h)∧fv 2 fr=.d (nb [])∧fv 3 fr=.ptr 0 0 0 1∧fv 6 fr=.ptr 32 0 0 1∧fv 8 fr=.own 3576 0 B2.length B2.length∧lk 3576 hp=some ⟨5,1,rb B2⟩∧lk 32 hp=some ⟨29,32,[cb z32]⟩)→G fr hp:=by
            rintro fr hp⟨q0,q1,q2,q3,q4,q5,q6⟩;refine hG _ _ (cf ⟨?_,?_,aw⟩)
            · simp[ai,AV.low,AV.low1,q0,q1,q2,q3,q4,nb]
            · simp [q5,q6]
              exact⟨bq _ _,aI _ _⟩
          have hrb:rb B++[[AV.d (DV.int IntKind.u8 2)]]=rb (B++[2]):=by simp[rb]
          have hp:=dH (B++[2]) m (by rw[hB1l];omega) hn8;rw[hB2]at hp;simp[go_sem,wn,hb2,aG,hrb]
          repeat' apply And.intro
          all_goals first
            |omega
            | (refine gj [832] hp rfl (aj (.one (al (aM hB1l rfl aw))) (aj (.deep a9) aC)) (fun ρ=>by simp [AV.renL,AV.ren]) ?_
               rintro r hp'⟨I,rfl,h0⟩;refine⟨[(I,0)],by simp[cv,fi],?_⟩;simp[go_sem,bU,bM,h0,Blk.ren,aV,dI,AV.renL,AV.ren,bT,aE];refine hW _ _ ?_
               simp[fv,lk,nb])
        case hq =>
          simp[go_sem,hl,nb,aG];have hrb3:rb B2++(List.map ((fun r=>List.map AV.d r)∘fun(b:Nat)=>[DV.int IntKind.u8 (b:Int)]) h++[[AV.d (DV.int IntKind.u8 0)]])=rb (B2++h++[0]):=by simp[rb]
          have hB3l:(B2++h++[0]).length=B2.length+32+1:=by simp[hl]
          rw[hrb3];refine⟨aq,aq,?_⟩;generalize B2++h++[0]=B3 at *;have hp:=dH B3 4294967295 aq aq;rw[←hmsg]at hp;have hMl:M.length≤1000:=by rw[hmsg,b_,aQ];omega
          refine gj [3576] hp rfl (aj (.one (al (aM hB3l rfl aw))) (aj (.deep a9) aC)) (fun ρ=>by simp[AV.renL,AV.ren]) ?_;rintro r hp'⟨I,rfl,h0⟩;refine⟨[(I,0)],by simp[cv,fi],?_⟩;simp[go_sem,bU,bM,h0,Blk.ren,aV,dI,AV.renL,AV.ren,bT,aE];clear h0 hp';refine bV [6416] (eV df _ rfl M (by simp[df]) aq) rfl (aj (.deep a9) (aj (.one (al (aM rfl rfl aw))) aC)) ?_;have hR:=aJ (aO df++(aO df++M));have hR':(eu df M).length=32:=hR;generalize eu df M=S at *;simp[go_sem,aE,hR',ak,am hR',bA,ah]
          exact aa (by
            intro c hc;simp only[d_,List.mem_nil_iff,or_false]at hc;rcases hc with rfl|rfl
            · exact .inr ⟨_,rfl,bD _⟩
            · exact .inl trivial) rfl
      · have hal0:¬ ann.length=0:=fun h=>han (List.length_eq_zero_iff.1 h)
        have hali:(0:Int)<(ann.length:Int):=aq;have halp:0<ann.length:=aq;have ha1:Pn ann=3:=if_neg han;have ha2:A5 ann=aO (bY ann):=if_neg han;have hb2:bits BinOp.or IntKind.u8 0 2=2:=by decide
        have hb3:bits BinOp.or IntKind.u8 2 1=3:=by decide
        rw[ha1,ha2]at hmsg;have hpb:=ew [] ann aw aq;have hsm:=jM (bY ann) (by have:=ke ann;omega);have hql:=aJ (bY ann);rw[show[]++(aL ann.length++ann)=bY ann from rfl]at hpb;generalize aO (bY ann)=Q at *;generalize bY ann=BA at *;simp[go_sem,hl,nb,hali,halp,hb2];have hB1l:(B++[3]).length=B.length+1:=by simp
        have hB2l:(B++[3]++le m 4).length=B.length+5:=by simp[aQ]
        generalize hB2:B++[3]++le m 4=B2 at *;refine dh [0,1] [2,3,4,5,6,7,8] [0,1] (.alt (bt 2 (.alt (a_ [3,4,5,6,7,8]) (bt 4 (.alt (a_ [3,5,6,7,8]) (bt 5 (.alt (a_ [3,6,7,8]) (bt 6 (a_ [3,7,8])))))))) (bt 4 (.alt (bt 2 (.alt (a_ [3,5,6,7,8]) (bt 5 (.alt (a_ [3,6,7,8]) (bt 6 (a_ [3,7,8])))))) (bt 5 (.alt (bt 2 (.alt (a_ [3,6,7,8]) (bt 6 (a_ [3,7,8])))) (bt 6 (bt 2 (a_ [3,7,8])))))))) ⟨[(1,.d (nb h)),(2,.d (nb ann)),(3,.ptr 0 0 0 1),(6,.ptr 32 0 0 1),(8,.own 3672 0 B2.length B2.length)],[(3672,⟨5,1,rb B2⟩),(32,⟨29,32,[cb z32]⟩)],6000⟩ (k:=9) ?h3 ?hq
        case h3 =>
          intro G hG
          have hW:∀(fr:Fr)(hp:Hp),(fv 1 fr=.d (nb h)∧fv 2 fr=.d (nb ann)∧fv 3 fr=.ptr 0 0 0 1∧fv 6 fr=.ptr 32 0 0 1∧fv 8 fr=.own 3672 0 B2.length B2.length∧lk 3672 hp=some ⟨5,1,rb B2⟩∧lk 32 hp=some ⟨29,32,[cb z32]⟩)→G fr hp:=by
            rintro fr hp⟨q0,q1,q2,q3,q4,q5,q6⟩;refine hG _ _ (cf ⟨?_,?_,aw⟩)
            · simp[ai,AV.low,AV.low1,q0,q1,q2,q3,q4,nb]
            · simp [q5,q6]
              exact⟨bq _ _,aI _ _⟩
          have hrb:rb B++[[AV.d (DV.int IntKind.u8 3)]]=rb (B++[3]):=by simp[rb]
          have hp:=dH (B++[3]) m (by rw[hB1l];omega) hn8;rw[hB2]at hp;simp[go_sem,wn,hb2,hb3,aG,hrb]
          repeat' apply And.intro
          all_goals first
            |omega
            | (refine gj [832] hp rfl (aj (.one (al (aM hB1l rfl aw))) (aj (.deep a9) aC)) (fun ρ=>by simp [AV.renL,AV.ren]) ?_
               rintro r hp'⟨I,rfl,h0⟩;refine⟨[(I,0)],by simp[cv,fi],?_⟩;simp[go_sem,bU,bM,h0,Blk.ren,aV,dI,AV.renL,AV.ren,bT,aE];refine hW _ _ ?_
               simp[fv,lk,nb])
        case hq =>
          simp[go_sem,nb,hali,halp];refine bV [] hpb rfl (aj (.one (al (.nil 1))) (aj (.deep a9) aC)) ?_;simp[go_sem,aE];refine ag hsm a9 ?_;have hx:=(eN hql).trans (cC Q);simp[go_sem]at hx;simp[go_sem,hl,nb,hql,ak,am hql,bA,hx,aG,jZ];have hrb3:rb (B2++Q)++(List.map ((fun r=>List.map AV.d r)∘fun(b:Nat)=>[DV.int IntKind.u8 (b:Int)]) h++[[AV.d (DV.int IntKind.u8 0)]])=rb (B2++Q++h++[0]):=by simp[rb]
          have hB3l:(B2++Q++h++[0]).length=B2.length+32+32+1:=by simp[hl,hql]
          rw[hrb3];refine⟨aq,aq,aq,?_⟩;generalize B2++Q++h++[0]=B3 at *;have hp:=dH B3 4294967295 aq aq;rw[←hmsg]at hp;have hMl:M.length≤1000:=by rw[hmsg,b_,aQ];omega
          refine gj [3672] hp rfl (aj (.one (al (aM hB3l rfl aw))) (aj (.deep a9) aC)) (fun ρ=>by simp[AV.renL,AV.ren]) ?_;rintro r hp'⟨I,rfl,h0⟩;refine⟨[(I,0)],by simp[cv,fi],?_⟩;simp[go_sem,bU,bM,h0,Blk.ren,aV,dI,AV.renL,AV.ren,bT,aE];clear h0 hp';refine bV [6704] (eV df _ rfl M (by simp[df]) aq) rfl (aj (.deep a9) (aj (.one (al (aM rfl rfl aw))) aC)) ?_;have hR:=aJ (aO df++(aO df++M));have hR':(eu df M).length=32:=hR;generalize eu df M=S at *;simp[go_sem,aE,hR',ak,am hR',bA,ah]
          exact aa (by
            intro c hc;simp only[d_,List.mem_nil_iff,or_false]at hc;rcases hc with rfl|rfl
            · exact .inr ⟨_,rfl,bD _⟩
            · exact .inl trivial) rfl
theorem A6(b:List Nat)(hl:b.length≤100000000000):au Tryz.prog 52 [.d (nb b)] (fun r=>r=.d (nb b)):=by
 refine bC Tryz.func52 Tryz.ntmps52 (rs:=[.tmp 2]) a9 ?_;simp only[go_sem,nb,Nat.reduceEqDiff,Nat.reduceAdd,Nat.reduceLT,↓reduceIte];intro t hb
 cases t with
 |true =>
  have h0:b=[]:=List.eq_nil_of_length_eq_zero (by simpa using hb rfl);subst h0;simp only[go_sem,Nat.reduceEqDiff,Nat.reduceAdd,Nat.reduceLT,↓reduceIte];exact cQ (.inr ⟨_,rfl,.nil 1⟩) a9 rfl
 |false =>
  simp[go_sem,cC,aG];refine⟨aq,cQ (al (aM (L:=b) rfl rfl trivial)) a9 rfl⟩
theorem cY(n:Nat)(inner:List Nat)(a b:AV)(ha:a.low1 n)(hb:b.low1 n):∀v,v∈ay inner a b→v.low1 n:=by
 intro v hv;unfold ay at hv;rcases cD.1 hv with h|h
 ·exact aI _ _ v h
 ·simp at h;rcases h with rfl|rfl
  ·exact ha
  ·exact hb
theorem ma:∀l:List (List Nat),(∀p,p∈l→p.length=32)→l.flatten.length=32*l.length
 |[],_=>rfl
 |a::r,h=>by rw[List.flatten_cons,b_,ma r (fun p hp=>h p (by simp[hp])),h a aw,List.length_cons];omega
def pJ:Nat→AV
 |0=>.nil
 |k+1=>.own 9320 0 (k+1) (k+1)
def pH(inner x:List Nat)(ps:List (List Nat)):Nat→Hp
 |0=>[(1184,⟨33,34,[ay inner .nil (.d (nb x))]⟩),(0,⟨33,34,[ay z32 .nil .nil]⟩)]
 |k+1=>[(9320,⟨29,32,(ps.take (k+1)).map cb⟩),(1184,⟨33,34,[ay inner (.own 9320 0 (k+1) (k+1)) (.d (nb x))]⟩),(0,⟨33,34,[ay z32 .nil .nil]⟩)]
def pN:Nat→Nat
 |0=>9000
 |_=>20000
theorem lw{inner:List Nat}(hi:inner.length=32)(a b c:AV):(ay inner a b).set 32 c=ay inner c b:=by
 have hl:(cb inner).length=32:=by rw[ak,hi]
 unfold ay;rw[List.set_append_right _ _ aq,hl];rfl
theorem bQ{inner:List Nat}(hi:inner.length=32)(a b:AV):(ay inner a b).length=34:=by simp[ay,ak,hi]
theorem qH(n:Nat)(l:List (List Nat)):∀r,r∈l.map cb→∀v,v∈r→v.low1 n:=by
 intro r hr v hv;obtain⟨p,_,rfl⟩:=List.mem_map.1 hr;exact aI _ _ v hv
theorem bP{inner:List Nat}(hi:inner.length=32)(a b:AV):List.take 34 (ay inner a b)=ay inner a b:=cx (by rw[bQ hi];exact cL _)
theorem Lo(ps:List (List Nat)):(ps.map cd).map (fun r=>r.map AV.d)=ps.map cb:=by
 rw[List.map_map];exact List.map_congr_left fun p _=>eg p
theorem Dm{hp:Hp}{I:Nat→Prop}(inner:List Nat){J S J' S':AV}(h1:iE hp I J J')(h2:iE hp I S S'):rU hp I (ay inner J S) (ay inner J' S'):=by
 refine⟨by simp[ay],fun i c c' hc hc'=>?_⟩;unfold ay at hc hc';rcases Nat.lt_or_ge i (cb inner).length with h|h
 ·rw[List.getElem?_append_left h]at hc hc';rw[hc]at hc';injection hc' with e;subst e;exact .inl ⟨rfl,bD _ _ (cr hc)⟩
 ·rw[dn h]at hc hc';generalize i-(cb inner).length=k at hc hc'
  match k,hc,hc' with
  |0,hc,hc'=>simp at hc hc';subst hc hc';exact h1
  |1,hc,hc'=>simp at hc hc';subst hc hc';exact h2
  |n+2,hc,_=>simp at hc
theorem og{Q:AV→Prop}{st:St}{inner:List Nat}{J S:AV}{J' S':DV}{b:Bool}{e:Int}(h1:iE st.hp (fun _=>True) J (.d J'))(h2:iE st.hp (fun _=>True) S (.d S'))(hq:Q (.tup [.agg (ay inner (.d J') (.d S')),.d (.bool b),.d (.int .i64 e)])):dc Q (.tup [.agg (ay inner J S),.d (.bool b),.d (.int .i64 e)]) st:=by
 refine⟨_,.tup (cs':=[.agg (ay inner (.d J') (.d S')),.d (.bool b),.d (.int .i64 e)]) rfl fun i c c' hc hc'=>?_,?_,hq⟩
 ·match i,hc,hc' with
  |0,hc,hc'=>simp at hc hc';subst hc hc';exact .inr ⟨_,_,rfl,rfl,Dm inner h1 h2⟩
  |1,hc,hc'=>simp at hc hc';subst hc hc';exact .inl (aR trivial)
  |2,hc,hc'=>simp at hc hc';subst hc hc';exact .inl (aR trivial)
  |n+3,hc,_=>simp at hc
 ·intro c hc;simp at hc;rcases hc with rfl|rfl|rfl
  ·refine .inr ⟨_,rfl,fun x hx=>?_⟩;unfold ay at hx;rcases cD.1 hx with h|h
   ·exact bD _ _ h
   ·simp at h;rcases h with rfl|rfl<;>trivial
  ·exact .inl trivial
  ·exact .inl trivial
theorem qI{inner:List Nat}(hi:inner.length=32)(a b X:AV):List.take 33 (List.take 32 (cb inner)++[a,b])++X::List.drop 34 (List.take 32 (cb inner)++[a,b])=ay inner a X:=by
 have hl:(cb inner).length=32:=by rw[ak,hi]
 rw[am hi,List.take_append,cx aq,c_ (by simp[hl]),hl];simp[ay]
theorem He(n m:Nat)(l:List (List Nat))(q:List Nat):∀r,r∈List.take m (List.map cb l)++[cb q]→∀v,v∈r→v.low1 n:=by
 intro r hr;rcases cD.1 hr with h|h
 ·exact qH _ _ r (List.mem_of_mem_take h)
 ·simp at h;subst h;exact aI _ _
theorem oh{inner:List Nat}(hi:inner.length=32)(a b:AV):(List.drop 32 (ay inner a b)).head?=some a:=by
 have hl:(cb inner).length=32:=by rw[ak,hi]
 unfold ay;rw[List.drop_append_of_le_length aq,c_ aq];rfl
theorem Pq{inner x:List Nat}{ps:List (List Nat)}(o:Bool)(hi:inner.length=32)(hp32:∀p,p∈ps→p.length=32)(hps:ps.length≤8)(hx:x.length≤1000) :
  au Tryz.prog 119 [.d (nb (mC o inner ps)),.d (nb x)] (fun r=>r=.tup [.agg (ay inner (.d (dX ps)) (.d (nb x))),.d (.bool o),.d (.int .i64 0)]):=by
 refine bC Tryz.func119 Tryz.ntmps119 (rs:=[.cell 4 33,.tmp 5,.tmp 6]) a9 ?_;have hfl:=ma ps hp32;have hcl:(mC o inner ps).length=33+32*ps.length:=by unfold mC;rw[List.length_cons,b_,hi];omega
 have w1:IntKind.i64.wrap (((mC o inner ps).length:Int)-33)=((32*ps.length:Nat):Int):=by rw[IntWalk.i64_in _ aq];omega
 have i1:¬(((32*ps.length:Nat):Int)<0):=aq;have i2:(((32*ps.length:Nat):Int))%32=0:=aq;have i2b:(((32*ps.length:Nat):Int)).tmod 32=0:=i2;have i3:¬(256<((32*ps.length:Nat):Int)):=aq;have i4:¬(1000<(x.length:Int)):=aq;generalize hN:32*ps.length=N at *
 have e2:(List.map (fun(b:Nat)=>[DV.int .u8 (b:Int)]) inner).flatten=cd inner:=by
  clear hfl hcl hi w1
  induction inner with
  |nil=>rfl
  |cons x r ih=>simp only[List.map_cons,List.flatten_cons,ih];rfl
 have zlf:(ay z32 .nil .nil).length=34:=rfl;have lft:List.drop 34 (ay z32 .nil .nil)=[]:=rfl;have lz:List.drop 32 (ay z32 .nil .nil)=[.nil,.nil]:=rfl
 cases o
 ·have hc0:(mC false inner ps)[0]?=some 192:=rfl;have hm:Go.bits .andNot .u8 192 1=192:=by decide
  have hb:Go.bits .and .u8 192 1=0:=by decide
  have e1:List.take 32 (List.drop 1 (List.map (fun(b:Nat)=>[DV.int .u8 (b:Int)]) (mC false inner ps)))=List.map (fun(b:Nat)=>[DV.int .u8 (b:Int)]) inner:=by
   unfold mC;rw[List.map_cons,List.drop_succ_cons,List.drop_zero,List.map_append,List.take_left' (by simp[hi])]
  have e1b:(List.take 33 (List.map (fun(b:Nat)=>[DV.int .u8 (b:Int)]) (mC false inner ps))).tail=List.map (fun(b:Nat)=>[DV.int .u8 (b:Int)]) inner:=by
   unfold mC;rw[List.map_cons,List.take_succ_cons,List.tail_cons,List.map_append,List.take_left' (by simp[hi])]
  have i5:(33:Int)≤33+(N:Int):=aq;simp[go_sem,nb,w1,i1,i2,i2b,i3,i4,hc0,hm];refine dh [0,1,2,3,4] [5,7,8] [0,1,2,3,4,6] (.alt (.step 5 [6] true (bt 7 (a_ [8]))) (bt 7 (.step 5 [6] true (a_ [8])))) ⟨[(0,.d (nb (mC false inner ps))),(4,.ptr 0 0 0 1),(8,.ptr 1184 0 0 1)],[(1184,⟨33,34,[ay inner .nil (.d (nb x))]⟩),(0,⟨33,34,[ay z32 .nil .nil]⟩)],9000⟩ (k:=9) ?h3 ?hq
  case h3 =>
   intro G hG
   have hW:∀(fr:Fr)(hp:Hp),(fv 0 fr=.d (nb (mC false inner ps))∧fv 4 fr=.ptr 0 0 0 1∧fv 8 fr=.ptr 1184 0 0 1∧lk 1184 hp=some ⟨33,34,[ay inner .nil (.d (nb x))]⟩∧lk 0 hp=some ⟨33,34,[ay z32 .nil .nil]⟩)→G fr hp:=by
    rintro fr hp⟨q0,q1,q2,q3,q4⟩;exact hG _ _ ou
   simp[go_sem,nb,e1,e1b,i5,e2,lz,qI hi,bQ hi,bP hi,hi,hcl,ak,cE,eg,zlf,lft,-List.map_flatten,-List.length_flatten,db]
   repeat' first|exact hW _ _ ⟨rfl,rfl,rfl,rfl,rfl⟩|(refine hW _ _ ?_;simp[fv,lk];done)|refine ag (A6 x aq) a9 ?_|apply And.intro|simp[go_sem,nb,e1,e1b,i5,e2,lz,qI hi,bQ hi,bP hi,hi,hcl,ak,cE,eg,zlf,lft,-List.map_flatten,-List.length_flatten,db]
  case hq =>
   have e5:List.drop 33 (List.map (fun(b:Nat)=>[DV.int .u8 (b:Int)]) (mC false inner ps))=List.map (fun(b:Nat)=>[DV.int .u8 (b:Int)]) ps.flatten:=by
    unfold mC;rw[List.map_cons,List.drop_succ_cons,List.map_append,List.drop_left' (by simp[hi])]
   have hd0:List.drop 0 ps=ps:=rfl;have e6:List.take (33+(N:Int)).toNat (List.map (fun(b:Nat)=>[DV.int .u8 (b:Int)]) (mC false inner ps))=List.map (fun(b:Nat)=>[DV.int .u8 (b:Int)]) (mC false inner ps):=cx (by rw[List.length_map,hcl];omega);simp[go_sem,nb,e5,e6,hcl,-List.map_flatten,-List.length_flatten];refine⟨aq,?_⟩
   refine av (fun k:Nat=>⟨[(0,.d (nb (mC false inner ps))),(4,.ptr 0 0 0 1),(8,.ptr 1184 0 0 1),(9,.d (nb (ps.drop k).flatten))],pH inner x ps k,pN k⟩)
    (fun k=>k≤ps.length) (fun k=>ps.length-k) 0 aq (by
     simp[az,ai,fv,lk,AV.low,AV.low1,pH,pN,nb,-List.map_flatten]
     exact⟨cY _ _ _ _ trivial trivial,cY _ _ _ _ trivial trivial⟩) ?_
   intro k hk;simp only[go_sem,Nat.reduceEqDiff,Nat.reduceAdd,Nat.reduceLT,↓reduceIte];have hfk:=ma (ps.drop k) (fun p hp=>hp32 p (List.mem_of_mem_drop hp));rw[et]at hfk;by_cases hlt:k<ps.length
   ·have hpos:(0:Int)<(((ps.drop k).flatten.length:Nat):Int):=aq;have hp:=cm hlt;have hdk:ps.drop k=ps[k]::ps.drop (k+1):=List.drop_eq_getElem_cons hlt;have htk:ps.take (k+1)=ps.take k++[ps[k]]:=List.take_succ_eq_append_getElem hlt;generalize ps[k]=q at hp hdk htk;have hq:q.length=32:=hp32 q (cr hp)
    have g1:List.take 32 (List.map (fun(b:Nat)=>[DV.int .u8 (b:Int)]) (ps.drop k).flatten)=List.map (fun(b:Nat)=>[DV.int .u8 (b:Int)]) q:=by
     rw[hdk,List.flatten_cons,List.map_append,List.take_left' (by simp[hq])]
    have g2:List.drop 32 (List.map (fun(b:Nat)=>[DV.int .u8 (b:Int)]) (ps.drop k).flatten)=List.map (fun(b:Nat)=>[DV.int .u8 (b:Int)]) (ps.drop (k+1)).flatten:=by
     rw[hdk,List.flatten_cons,List.map_append,List.drop_left' (by simp[hq])]
    have g3:(List.map (fun(b:Nat)=>[DV.int .u8 (b:Int)]) q).flatten=cd q:=by
     clear hp hdk htk hq g1 g2
     induction q with
     |nil=>rfl
     |cons x r ih=>simp only[List.map_cons,List.flatten_cons,ih];rfl
    have hf32:32≤(ps.drop k).flatten.length:=aq
    cases k with
    |zero =>
     refine⟨fun _=>?_,fun h=>absurd hpos (by simpa only[nb,List.length_map]using h)⟩;simp only[List.drop_zero]at g1 g2 hf32;have hf32i:(32:Int)≤(ps.flatten.length:Int):=aq;have hmn:min 32 ps.flatten.length=32:=aq;simp only[pH,pN];refine ca [0,1,2,3,4,5] [(6,[]),(7,[8]),(9,[])] 2 (k:=10) ?_;intro G hG;simp[go_sem,nb,hf32,hf32i,hmn,g1,g2,g3,oh hi,lw hi,bQ hi,cE,hq,eg,am hq,ak,-List.map_flatten,-List.length_flatten];refine hG _ _ ?_;have hN':ps.flatten.length=32*(ps.length-0):=by simpa using hfk
     have e7:List.take ps.flatten.length (List.map (fun(b:Nat)=>[DV.int .u8 (b:Int)]) ps.flatten)=List.map (fun(b:Nat)=>[DV.int .u8 (b:Int)]) ps.flatten:=cx (by rw[List.length_map];omega);simp[go_sem,nb,hf32,hf32i,e7,g2,-List.map_flatten,-List.length_flatten];refine ao (0+1) aq aq ?_;have hc1:(ps.take (0+1)).map cb=(ps.take 0).map cb++[cb q]:=by rw[htk];simp
     simp[az,ai,fv,lk,AV.low,AV.low1,pH,pN,nb,-List.map_flatten,-List.length_flatten,-List.map_take,-List.map_drop];have hc2:List.take 1 (List.map cb ps)=[cb q]:=by rw[←List.map_take];exact hc1
     rw[hc2];refine⟨⟨rfl,fun r hr=>?_⟩,cY _ _ _ _ (by simp[AV.low1]) trivial,cY _ _ _ _ trivial trivial⟩;simp at hr;subst hr;exact aI _ _
    | succ k =>
     refine⟨fun _=>?_,fun h=>absurd hpos (by simpa only[nb,List.length_map]using h)⟩;have hf32i:(32:Int)≤((ps.drop (k+1)).flatten.length:Int):=aq;have hlk:min (k+1) ps.length=k+1:=aq;have hle:k+1≤ps.length:=aq;have hbig:(k+1+1)*32≤140737488355328:=aq;have hlt2:k<ps.length:=aq;have hmn:min 32 (ps.drop (k+1)).flatten.length=32:=aq;simp only[pH,pN];refine dh [0,1,2,3,4,5] [6,7,8,9] [0,1,2,3,4,5] (bt 6 (a_ [7,8,9])) ⟨[(0,.d (nb (mC false inner ps))),(4,.ptr 0 0 0 1),(8,.ptr 1184 0 0 1),(9,.d (nb (ps.drop (k+1)).flatten))],[(9320,⟨29,32,List.take (k+1) (List.map cb ps)++[cb q]⟩),(1184,⟨33,34,[ay inner (.own 9320 0 (k+1+1) (k+1+1)) (.d (nb x))]⟩),(0,⟨33,34,[ay z32 .nil .nil]⟩)],21000⟩ (k:=10) ?h3 ?hq
     case h3 =>
      intro G hG
      have hW:∀(fr:Fr)(hp:Hp),(fv 0 fr=.d (nb (mC false inner ps))∧fv 4 fr=.ptr 0 0 0 1∧fv 8 fr=.ptr 1184 0 0 1∧fv 9 fr=.d (nb (ps.drop (k+1)).flatten)∧lk 9320 hp=some ⟨29,32,List.take (k+1) (List.map cb ps)++[cb q]⟩∧lk 1184 hp=some ⟨33,34,[ay inner (.own 9320 0 (k+1+1) (k+1+1)) (.d (nb x))]⟩∧lk 0 hp=some ⟨33,34,[ay z32 .nil .nil]⟩)→G fr hp:=by
       rintro fr hp⟨q0,q1,q2,q3,q4,q5,q6⟩;exact hG _ _ ou
      simp[go_sem,nb,hbig,hf32,hf32i,hmn,hlk,hle,hlt2,g1,g2,g3,oh hi,lw hi,bQ hi,cE,hq,eg,am hq,ak,-List.map_flatten,-List.length_flatten,db]
      repeat' first|exact hW _ _ ⟨rfl,rfl,rfl,rfl,rfl,rfl,rfl⟩|(refine hW _ _ ?_;simp[fv,lk];done)|fail|apply And.intro|simp[go_sem,nb,hbig,hf32,hf32i,hmn,hlk,hle,hlt2,g1,g2,g3,oh hi,lw hi,bQ hi,cE,hq,eg,am hq,ak,-List.map_flatten,-List.length_flatten,db]
     case hq =>
      have hN':(ps.drop (k+1)).flatten.length=32*(ps.length-(k+1)):=by simpa using hfk
      have e7:List.take (ps.drop (k+1)).flatten.length (List.map (fun(b:Nat)=>[DV.int .u8 (b:Int)]) (ps.drop (k+1)).flatten)=List.map (fun(b:Nat)=>[DV.int .u8 (b:Int)]) (ps.drop (k+1)).flatten:=cx (by rw[List.length_map];omega);simp[go_sem,nb,hf32,hf32i,e7,g2,-List.map_flatten,-List.length_flatten];refine ao ((k+1)+1) aq aq ?_;have hc1:(ps.take ((k+1)+1)).map cb=(ps.take (k+1)).map cb++[cb q]:=by rw[htk];simp
      simp[az,ai,fv,lk,AV.low,AV.low1,pH,pN,nb,-List.map_flatten,-List.length_flatten,-List.map_take,-List.map_drop];refine⟨⟨?_,fun r hr=>?_⟩,cY _ _ _ _ (by simp[AV.low1]) trivial,cY _ _ _ _ trivial trivial⟩
      ·rw[←List.map_take,←List.map_take];exact hc1.symm
      ·exact qH _ ps r (List.mem_of_mem_take hr)
   ·have hkn:k=ps.length:=aq;have hz:¬((0:Int)<(((ps.drop k).flatten.length:Nat):Int)):=aq;refine⟨fun h=>absurd (by simpa only[nb,List.length_map]using h) hz,fun _=>?_⟩
    cases k with
    | zero =>
     have hps0:ps=[]:=List.eq_nil_of_length_eq_zero hkn.symm;subst hps0;simp only[pH,pN];refine dh [0] [1,2,3,4,5,6,7,8] [0] (.alt (bt 1 (.alt (bt 2 (.alt (bt 3 (.alt (bt 4 (.alt (bt 5 (a_ [6,7,8])) (a_ [6,5,7,8]))) (a_ [6,4,5,7,8]))) (a_ [6,3,4,5,7,8]))) (a_ [6,2,3,4,5,7,8]))) (a_ [6,1,2,3,4,5,7,8])) ⟨[(4,.ptr 0 0 0 1),(5,.d (.bool false)),(6,.d (.int .i64 0))],[(0,⟨33,34,[ay inner .nil (.d (nb x))]⟩)],30000⟩ (k:=9) ?h3 ?hq
     case h3 =>
      intro G hG
      have hW:∀(fr:Fr)(hp:Hp),(fv 4 fr=.ptr 0 0 0 1∧fv 5 fr=.d (.bool false)∧fv 6 fr=.d (.int .i64 0)∧lk 0 hp=some ⟨33,34,[ay inner .nil (.d (nb x))]⟩)→G fr hp:=by
       rintro fr hp⟨q0,q1,q2,q3⟩;exact hG _ _ ou
      simp (config := { maxSteps := 1000000 }) [go_sem,nb,hc0,hb,bQ hi,bP hi,zlf,lft,-List.map_flatten,-List.length_flatten,db]
      repeat' first|exact hW _ _ ⟨rfl,rfl,rfl,rfl⟩|(refine hW _ _ ?_;simp[fv,lk];done)|fail|apply And.intro|simp (config := { maxSteps := 1000000 }) [go_sem,nb,hc0,hb,bQ hi,bP hi,zlf,lft,-List.map_flatten,-List.length_flatten,db]
     case hq =>
      simp[go_sem,bQ hi,bP hi,ah];exact og (.inr ⟨_,rfl,.nil 32⟩) (.inl ⟨rfl,trivial⟩) rfl
    | succ k =>
     have htl:ps.take (k+1)=ps:=cx aq;simp only[pH,pN,htl];refine dh [0] [1,2,3,4,5,6,7,8] [0] (.alt (bt 1 (.alt (bt 2 (.alt (bt 3 (.alt (bt 4 (.alt (bt 5 (a_ [6,7,8])) (a_ [6,5,7,8]))) (a_ [6,4,5,7,8]))) (a_ [6,3,4,5,7,8]))) (a_ [6,2,3,4,5,7,8]))) (a_ [6,1,2,3,4,5,7,8])) ⟨[(4,.ptr 0 0 0 1),(5,.d (.bool false)),(6,.d (.int .i64 0))],[(9320,⟨29,32,ps.map cb⟩),(0,⟨33,34,[ay inner (.own 9320 0 (k+1) (k+1)) (.d (nb x))]⟩)],30000⟩ (k:=9) ?h3 ?hq
     case h3 =>
      intro G hG
      have hW:∀(fr:Fr)(hp:Hp),(fv 4 fr=.ptr 0 0 0 1∧fv 5 fr=.d (.bool false)∧fv 6 fr=.d (.int .i64 0)∧lk 9320 hp=some ⟨29,32,ps.map cb⟩∧lk 0 hp=some ⟨33,34,[ay inner (.own 9320 0 (k+1) (k+1)) (.d (nb x))]⟩)→G fr hp:=by
       rintro fr hp⟨q0,q1,q2,q3,q4⟩;exact hG _ _ ou
      simp (config := { maxSteps := 1000000 }) [go_sem,nb,hc0,hb,bQ hi,bP hi,zlf,lft,-List.map_flatten,-List.length_flatten,db]
      repeat' first|exact hW _ _ ⟨rfl,rfl,rfl,rfl,rfl⟩|(refine hW _ _ ?_;simp[fv,lk];done)|fail|apply And.intro|simp (config := { maxSteps := 1000000 }) [go_sem,nb,hc0,hb,bQ hi,bP hi,zlf,lft,-List.map_flatten,-List.length_flatten,db]
     case hq =>
      simp[go_sem,bQ hi,bP hi,ah];exact og (.inr ⟨_,rfl,fh (rows:=ps.map cb) rfl trivial (by simp[hkn]) (by rw[List.drop_zero,cx (by simp[hkn]),←Lo ps];exact jV _) (by simp[hkn]) (by intro r hr;simp at hr;obtain⟨p,hp,rfl⟩:=hr;rw[cE];exact hp32 p hp)⟩) (.inl ⟨rfl,trivial⟩) rfl
 ·have hc0:(mC true inner ps)[0]?=some 193:=rfl;have hm:Go.bits .andNot .u8 193 1=192:=by decide
  have hb:Go.bits .and .u8 193 1=1:=by decide
  have e1:List.take 32 (List.drop 1 (List.map (fun(b:Nat)=>[DV.int .u8 (b:Int)]) (mC true inner ps)))=List.map (fun(b:Nat)=>[DV.int .u8 (b:Int)]) inner:=by
   unfold mC;rw[List.map_cons,List.drop_succ_cons,List.drop_zero,List.map_append,List.take_left' (by simp[hi])]
  have e1b:(List.take 33 (List.map (fun(b:Nat)=>[DV.int .u8 (b:Int)]) (mC true inner ps))).tail=List.map (fun(b:Nat)=>[DV.int .u8 (b:Int)]) inner:=by
   unfold mC;rw[List.map_cons,List.take_succ_cons,List.tail_cons,List.map_append,List.take_left' (by simp[hi])]
  have i5:(33:Int)≤33+(N:Int):=aq;simp[go_sem,nb,w1,i1,i2,i2b,i3,i4,hc0,hm];refine dh [0,1,2,3,4] [5,7,8] [0,1,2,3,4,6] (.alt (.step 5 [6] true (bt 7 (a_ [8]))) (bt 7 (.step 5 [6] true (a_ [8])))) ⟨[(0,.d (nb (mC true inner ps))),(4,.ptr 0 0 0 1),(8,.ptr 1184 0 0 1)],[(1184,⟨33,34,[ay inner .nil (.d (nb x))]⟩),(0,⟨33,34,[ay z32 .nil .nil]⟩)],9000⟩ (k:=9) ?h3 ?hq
  case h3 =>
   intro G hG
   have hW:∀(fr:Fr)(hp:Hp),(fv 0 fr=.d (nb (mC true inner ps))∧fv 4 fr=.ptr 0 0 0 1∧fv 8 fr=.ptr 1184 0 0 1∧lk 1184 hp=some ⟨33,34,[ay inner .nil (.d (nb x))]⟩∧lk 0 hp=some ⟨33,34,[ay z32 .nil .nil]⟩)→G fr hp:=by
    rintro fr hp⟨q0,q1,q2,q3,q4⟩;exact hG _ _ ou
   simp[go_sem,nb,e1,e1b,i5,e2,lz,qI hi,bQ hi,bP hi,hi,hcl,ak,cE,eg,zlf,lft,-List.map_flatten,-List.length_flatten,db]
   repeat' first|exact hW _ _ ⟨rfl,rfl,rfl,rfl,rfl⟩|(refine hW _ _ ?_;simp[fv,lk];done)|refine ag (A6 x aq) a9 ?_|apply And.intro|simp[go_sem,nb,e1,e1b,i5,e2,lz,qI hi,bQ hi,bP hi,hi,hcl,ak,cE,eg,zlf,lft,-List.map_flatten,-List.length_flatten,db]
  case hq =>
   have e5:List.drop 33 (List.map (fun(b:Nat)=>[DV.int .u8 (b:Int)]) (mC true inner ps))=List.map (fun(b:Nat)=>[DV.int .u8 (b:Int)]) ps.flatten:=by
    unfold mC;rw[List.map_cons,List.drop_succ_cons,List.map_append,List.drop_left' (by simp[hi])]
   have hd0:List.drop 0 ps=ps:=rfl;have e6:List.take (33+(N:Int)).toNat (List.map (fun(b:Nat)=>[DV.int .u8 (b:Int)]) (mC true inner ps))=List.map (fun(b:Nat)=>[DV.int .u8 (b:Int)]) (mC true inner ps):=cx (by rw[List.length_map,hcl];omega);simp[go_sem,nb,e5,e6,hcl,-List.map_flatten,-List.length_flatten];refine⟨aq,?_⟩
   refine av (fun k:Nat=>⟨[(0,.d (nb (mC true inner ps))),(4,.ptr 0 0 0 1),(8,.ptr 1184 0 0 1),(9,.d (nb (ps.drop k).flatten))],pH inner x ps k,pN k⟩)
    (fun k=>k≤ps.length) (fun k=>ps.length-k) 0 aq (by
     simp[az,ai,fv,lk,AV.low,AV.low1,pH,pN,nb,-List.map_flatten]
     exact⟨cY _ _ _ _ trivial trivial,cY _ _ _ _ trivial trivial⟩) ?_
   intro k hk;simp only[go_sem,Nat.reduceEqDiff,Nat.reduceAdd,Nat.reduceLT,↓reduceIte];have hfk:=ma (ps.drop k) (fun p hp=>hp32 p (List.mem_of_mem_drop hp));rw[et]at hfk;by_cases hlt:k<ps.length
   ·have hpos:(0:Int)<(((ps.drop k).flatten.length:Nat):Int):=aq;have hp:=cm hlt;have hdk:ps.drop k=ps[k]::ps.drop (k+1):=List.drop_eq_getElem_cons hlt;have htk:ps.take (k+1)=ps.take k++[ps[k]]:=List.take_succ_eq_append_getElem hlt;generalize ps[k]=q at hp hdk htk;have hq:q.length=32:=hp32 q (cr hp)
    have g1:List.take 32 (List.map (fun(b:Nat)=>[DV.int .u8 (b:Int)]) (ps.drop k).flatten)=List.map (fun(b:Nat)=>[DV.int .u8 (b:Int)]) q:=by
     rw[hdk,List.flatten_cons,List.map_append,List.take_left' (by simp[hq])]
    have g2:List.drop 32 (List.map (fun(b:Nat)=>[DV.int .u8 (b:Int)]) (ps.drop k).flatten)=List.map (fun(b:Nat)=>[DV.int .u8 (b:Int)]) (ps.drop (k+1)).flatten:=by
     rw[hdk,List.flatten_cons,List.map_append,List.drop_left' (by simp[hq])]
    have g3:(List.map (fun(b:Nat)=>[DV.int .u8 (b:Int)]) q).flatten=cd q:=by
     clear hp hdk htk hq g1 g2
     induction q with
     |nil=>rfl
     |cons x r ih=>simp only[List.map_cons,List.flatten_cons,ih];rfl
    have hf32:32≤(ps.drop k).flatten.length:=aq
    cases k with
    |zero =>
     refine⟨fun _=>?_,fun h=>absurd hpos (by simpa only[nb,List.length_map]using h)⟩;simp only[List.drop_zero]at g1 g2 hf32;have hf32i:(32:Int)≤(ps.flatten.length:Int):=aq;have hmn:min 32 ps.flatten.length=32:=aq;simp only[pH,pN];refine ca [0,1,2,3,4,5] [(6,[]),(7,[8]),(9,[])] 2 (k:=10) ?_;intro G hG;simp[go_sem,nb,hf32,hf32i,hmn,g1,g2,g3,oh hi,lw hi,bQ hi,cE,hq,eg,am hq,ak,-List.map_flatten,-List.length_flatten];refine hG _ _ ?_;have hN':ps.flatten.length=32*(ps.length-0):=by simpa using hfk
     have e7:List.take ps.flatten.length (List.map (fun(b:Nat)=>[DV.int .u8 (b:Int)]) ps.flatten)=List.map (fun(b:Nat)=>[DV.int .u8 (b:Int)]) ps.flatten:=cx (by rw[List.length_map];omega);simp[go_sem,nb,hf32,hf32i,e7,g2,-List.map_flatten,-List.length_flatten];refine ao (0+1) aq aq ?_;have hc1:(ps.take (0+1)).map cb=(ps.take 0).map cb++[cb q]:=by rw[htk];simp
     simp[az,ai,fv,lk,AV.low,AV.low1,pH,pN,nb,-List.map_flatten,-List.length_flatten,-List.map_take,-List.map_drop];have hc2:List.take 1 (List.map cb ps)=[cb q]:=by rw[←List.map_take];exact hc1
     rw[hc2];refine⟨⟨rfl,fun r hr=>?_⟩,cY _ _ _ _ (by simp[AV.low1]) trivial,cY _ _ _ _ trivial trivial⟩;simp at hr;subst hr;exact aI _ _
    | succ k =>
     refine⟨fun _=>?_,fun h=>absurd hpos (by simpa only[nb,List.length_map]using h)⟩;have hf32i:(32:Int)≤((ps.drop (k+1)).flatten.length:Int):=aq;have hlk:min (k+1) ps.length=k+1:=aq;have hle:k+1≤ps.length:=aq;have hbig:(k+1+1)*32≤140737488355328:=aq;have hlt2:k<ps.length:=aq;have hmn:min 32 (ps.drop (k+1)).flatten.length=32:=aq;simp only[pH,pN];refine dh [0,1,2,3,4,5] [6,7,8,9] [0,1,2,3,4,5] (bt 6 (a_ [7,8,9])) ⟨[(0,.d (nb (mC true inner ps))),(4,.ptr 0 0 0 1),(8,.ptr 1184 0 0 1),(9,.d (nb (ps.drop (k+1)).flatten))],[(9320,⟨29,32,List.take (k+1) (List.map cb ps)++[cb q]⟩),(1184,⟨33,34,[ay inner (.own 9320 0 (k+1+1) (k+1+1)) (.d (nb x))]⟩),(0,⟨33,34,[ay z32 .nil .nil]⟩)],21000⟩ (k:=10) ?h3 ?hq
     case h3 =>
      intro G hG
      have hW:∀(fr:Fr)(hp:Hp),(fv 0 fr=.d (nb (mC true inner ps))∧fv 4 fr=.ptr 0 0 0 1∧fv 8 fr=.ptr 1184 0 0 1∧fv 9 fr=.d (nb (ps.drop (k+1)).flatten)∧lk 9320 hp=some ⟨29,32,List.take (k+1) (List.map cb ps)++[cb q]⟩∧lk 1184 hp=some ⟨33,34,[ay inner (.own 9320 0 (k+1+1) (k+1+1)) (.d (nb x))]⟩∧lk 0 hp=some ⟨33,34,[ay z32 .nil .nil]⟩)→G fr hp:=by
       rintro fr hp⟨q0,q1,q2,q3,q4,q5,q6⟩;exact hG _ _ ou
      simp[go_sem,nb,hbig,hf32,hf32i,hmn,hlk,hle,hlt2,g1,g2,g3,oh hi,lw hi,bQ hi,cE,hq,eg,am hq,ak,-List.map_flatten,-List.length_flatten,db]
      repeat' first|exact hW _ _ ⟨rfl,rfl,rfl,rfl,rfl,rfl,rfl⟩|(refine hW _ _ ?_;simp[fv,lk];done)|fail|apply And.intro|simp[go_sem,nb,hbig,hf32,hf32i,hmn,hlk,hle,hlt2,g1,g2,g3,oh hi,lw hi,bQ hi,cE,hq,eg,am hq,ak,-List.map_flatten,-List.length_flatten,db]
     case hq =>
      have hN':(ps.drop (k+1)).flatten.length=32*(ps.length-(k+1)):=by simpa using hfk
      have e7:List.take (ps.drop (k+1)).flatten.length (List.map (fun(b:Nat)=>[DV.int .u8 (b:Int)]) (ps.drop (k+1)).flatten)=List.map (fun(b:Nat)=>[DV.int .u8 (b:Int)]) (ps.drop (k+1)).flatten:=cx (by rw[List.length_map];omega);simp[go_sem,nb,hf32,hf32i,e7,g2,-List.map_flatten,-List.length_flatten];refine ao ((k+1)+1) aq aq ?_;have hc1:(ps.take ((k+1)+1)).map cb=(ps.take (k+1)).map cb++[cb q]:=by rw[htk];simp
      simp[az,ai,fv,lk,AV.low,AV.low1,pH,pN,nb,-List.map_flatten,-List.length_flatten,-List.map_take,-List.map_drop];refine⟨⟨?_,fun r hr=>?_⟩,cY _ _ _ _ (by simp[AV.low1]) trivial,cY _ _ _ _ trivial trivial⟩
      ·rw[←List.map_take,←List.map_take];exact hc1.symm
      ·exact qH _ ps r (List.mem_of_mem_take hr)
   ·have hkn:k=ps.length:=aq;have hz:¬((0:Int)<(((ps.drop k).flatten.length:Nat):Int)):=aq;refine⟨fun h=>absurd (by simpa only[nb,List.length_map]using h) hz,fun _=>?_⟩
    cases k with
    | zero =>
     have hps0:ps=[]:=List.eq_nil_of_length_eq_zero hkn.symm;subst hps0;simp only[pH,pN];refine dh [0] [1,2,3,4,5,6,7,8] [0] (.alt (bt 1 (.alt (bt 2 (.alt (bt 3 (.alt (bt 4 (.alt (bt 5 (a_ [6,7,8])) (a_ [6,5,7,8]))) (a_ [6,4,5,7,8]))) (a_ [6,3,4,5,7,8]))) (a_ [6,2,3,4,5,7,8]))) (a_ [6,1,2,3,4,5,7,8])) ⟨[(4,.ptr 0 0 0 1),(5,.d (.bool true)),(6,.d (.int .i64 0))],[(0,⟨33,34,[ay inner .nil (.d (nb x))]⟩)],30000⟩ (k:=9) ?h3 ?hq
     case h3 =>
      intro G hG
      have hW:∀(fr:Fr)(hp:Hp),(fv 4 fr=.ptr 0 0 0 1∧fv 5 fr=.d (.bool true)∧fv 6 fr=.d (.int .i64 0)∧lk 0 hp=some ⟨33,34,[ay inner .nil (.d (nb x))]⟩)→G fr hp:=by
       rintro fr hp⟨q0,q1,q2,q3⟩;exact hG _ _ ou
      simp (config := { maxSteps := 1000000 }) [go_sem,nb,hc0,hb,bQ hi,bP hi,zlf,lft,-List.map_flatten,-List.length_flatten,db]
      repeat' first|exact hW _ _ ⟨rfl,rfl,rfl,rfl⟩|(refine hW _ _ ?_;simp[fv,lk];done)|fail|apply And.intro|simp (config := { maxSteps := 1000000 }) [go_sem,nb,hc0,hb,bQ hi,bP hi,zlf,lft,-List.map_flatten,-List.length_flatten,db]
     case hq =>
      simp[go_sem,bQ hi,bP hi,ah];exact og (.inr ⟨_,rfl,.nil 32⟩) (.inl ⟨rfl,trivial⟩) rfl
    | succ k =>
     have htl:ps.take (k+1)=ps:=cx aq;simp only[pH,pN,htl];refine dh [0] [1,2,3,4,5,6,7,8] [0] (.alt (bt 1 (.alt (bt 2 (.alt (bt 3 (.alt (bt 4 (.alt (bt 5 (a_ [6,7,8])) (a_ [6,5,7,8]))) (a_ [6,4,5,7,8]))) (a_ [6,3,4,5,7,8]))) (a_ [6,2,3,4,5,7,8]))) (a_ [6,1,2,3,4,5,7,8])) ⟨[(4,.ptr 0 0 0 1),(5,.d (.bool true)),(6,.d (.int .i64 0))],[(9320,⟨29,32,ps.map cb⟩),(0,⟨33,34,[ay inner (.own 9320 0 (k+1) (k+1)) (.d (nb x))]⟩)],30000⟩ (k:=9) ?h3 ?hq
     case h3 =>
      intro G hG
      have hW:∀(fr:Fr)(hp:Hp),(fv 4 fr=.ptr 0 0 0 1∧fv 5 fr=.d (.bool true)∧fv 6 fr=.d (.int .i64 0)∧lk 9320 hp=some ⟨29,32,ps.map cb⟩∧lk 0 hp=some ⟨33,34,[ay inner (.own 9320 0 (k+1) (k+1)) (.d (nb x))]⟩)→G fr hp:=by
       rintro fr hp⟨q0,q1,q2,q3,q4⟩;exact hG _ _ ou
      simp (config := { maxSteps := 1000000 }) [go_sem,nb,hc0,hb,bQ hi,bP hi,zlf,lft,-List.map_flatten,-List.length_flatten,db]
      repeat' first|exact hW _ _ ⟨rfl,rfl,rfl,rfl,rfl⟩|(refine hW _ _ ?_;simp[fv,lk];done)|fail|apply And.intro|simp (config := { maxSteps := 1000000 }) [go_sem,nb,hc0,hb,bQ hi,bP hi,zlf,lft,-List.map_flatten,-List.length_flatten,db]
     case hq =>
      simp[go_sem,bQ hi,bP hi,ah];exact og (.inr ⟨_,rfl,fh (rows:=ps.map cb) rfl trivial (by simp[hkn]) (by rw[List.drop_zero,cx (by simp[hkn]),←Lo ps];exact jV _) (by simp[hkn]) (by intro r hr;simp at hr;obtain⟨p,hp,rfl⟩:=hr;rw[cE];exact hp32 p hp)⟩) (.inl ⟨rfl,trivial⟩) rfl
theorem Px{P:Program}{K:AV→Hp→Prop}{hp:Hp}(t:TypeId)(a b:Bool):cJ P .eql t (.d (.bool a)) (.d (.bool b)) K hp=(P.underlying t=some .bool∧K (.d (.bool (a==b))) hp):=rfl
theorem Py{P:Program}{K:AV→Hp→Prop}{hp:Hp}(t:TypeId)(a b:Bool):cJ P .neq t (.d (.bool a)) (.d (.bool b)) K hp=(P.underlying t=some .bool∧K (.d (.bool (a != b))) hp):=rfl
theorem Lp:Tryz.prog.underlying 4=some .bool:=by kernel_rfl
attribute [go_sem] Px Py Lp
theorem Ft(a b:DV)(k:List Nat):∀v,v∈[AV.d a,AV.d b,AV.agg (cb k)]→v.deep:=by
 intro v hv;simp at hv;rcases hv with rfl|rfl|rfl
 ·trivial
 ·trivial
 ·exact dB _
theorem mf(inner:List Nat)(a b:DV):(AV.agg (ay inner (.d a) (.d b))).deep:=by
 intro c hc;unfold ay at hc;rcases cD.1 hc with h|h
 ·exact bD _ _ h
 ·simp at h;rcases h with rfl|rfl<;>trivial
theorem Fv{Q:AV→Prop}{st:St}{inner:List Nat}{a b:DV}{e:Int}(hq:Q (.tup [.agg (ay inner (.d a) (.d b)),.d (.int .i64 e)])):dc Q (.tup [.agg (ay inner (.d a) (.d b)),.d (.int .i64 e)]) st :=
 aa (by
  intro c hc;simp at hc;rcases hc with rfl|rfl
  ·exact .inr ⟨_,rfl,mf _ _ _⟩
  ·exact .inl trivial) hq
def yL(t:Tn)(out:Int)(a:List Nat)(e:Int):Bool :=
 decide (0≤out)&&match t.outs[out.toNat]? with
  |some o=>decide (e=0)&&decide (o.2=a)
  |none=>false
def fA(coins:List (Nat×List Nat))(n:Int):Nat×List Nat:=(coins[n.toNat]?).getD (0,[])
def Lq(o v:Int):List DV:=[.int .i64 o,.int .u64 v]
def wS(t:Tn)(n:Int)(coins:List (Nat×List Nat))(o0 o1 back:Int)(a:List Nat)(e:Int):AV :=
 if bJ t n coins≠0 then .tup [.nil,.d (.int .i64 1)]
 else if yL t o0 a e=false∨back<0∨((fA coins n).1:Int)<back then .tup [.nil,.d (.int .i64 24)]
 else if o1=-1∧back=0 then .tup [.d (.ro 2 [Lq o0 (((fA coins n).1:Int)-back)]),.d (.int .i64 0)]
 else if o1=o0∨yL t o1 (fA coins n).2 0=false then .tup [.nil,.d (.int .i64 24)]
 else .tup [.d (.ro 2 [Lq o0 (((fA coins n).1:Int)-back),Lq o1 back]),.d (.int .i64 0)]
theorem lA{inner:List Nat}(hi:inner.length=32)(a b:AV):(ay inner a b).length=34:=by simp[ay,ak,hi]
theorem mh{inner:List Nat}(hi:inner.length=32)(a b:AV):List.take 34 (ay inner a b)=ay inner a b:=cx (by rw[lA hi];exact cL _)
theorem Hf{inner:List Nat}(hi:inner.length=32)(a b c:AV):(ay inner a b).set 33 c=ay inner a c:=by
 have hl:(cb inner).length=32:=by rw[ak,hi]
 unfold ay;rw[List.set_append_right _ _ aq,hl];rfl
theorem Hg(t:Tn)(n:Int)(coins:List (Nat×List Nat))(inner:List Nat)(ps:List (List Nat))(x s a:List Nat)(out e:Int)(hi:inner.length=32)(ha:bytes a)(hob:∀o,o∈t.outs→bytes o.2)
  (g:au Tryz.prog 46 [de inner ps s] (fun r=>r=.tup [.d (nb a),.d (.int .i64 e)])) :
  au Tryz.prog 65 [.agg (eS t n coins),de inner ps x,.d (nb s),.d (.int .i64 out)] (fun r=>r=.d (.bool (yL t out a e))):=by
 refine bC Tryz.func65 Tryz.ntmps65 (rs:=[.tmp 8]) (by
  intro v hv;simp at hv;rcases hv with rfl|rfl|rfl|rfl
  ·simp[AV.deep,AV.deep1,eS]
  ·exact mf _ _ _
  ·trivial
  ·trivial) ?_
 have hes:(eS t n coins).length=6:=rfl;have het:List.take 6 (eS t n coins)=eS t n coins:=rfl;simp[go_sem,de,lA hi,mh hi,hes,het];by_cases h2:out<0∨(t.outs.length:Int)≤out
 ·have hV:yL t out a e=false:=by
   unfold yL;rcases h2 with h2|h2
   ·simp;omega
   ·rw[List.getElem?_eq_none aq];simp
  refine ag (xR t n coins out h2) (by simp[AV.deep,AV.deep1,eS]) ?_;rw[hV];simp[go_sem,ah];exact aa a9 rfl
 ·obtain⟨k,rfl⟩:∃k:Nat,out=(k:Int):=⟨out.toNat,aq⟩;have hk:k<t.outs.length:=aq;obtain⟨o,ho⟩:∃o,t.outs[k]?=some o:=⟨_,cm hk⟩
  have hV:yL t k a e=(decide (e=0)&&decide (o.2=a)):=by
   unfold yL;simp[ho]
  rw[hV];refine ag (uc t n coins k o ho) (by simp[AV.deep,AV.deep1,eS]) ?_;simp[go_sem,lA hi,mh hi,Hf hi,nb];refine ag g (cH _ _ _) ?_;simp[go_sem];by_cases he:e=0
  ·subst he;simp[go_sem];refine ag (fZ o.2 a (hob o (cr ho)) ha) a9 ?_;simp[go_sem,ah];exact aa a9 rfl
  ·simp[go_sem,he,ah];exact aa a9 rfl
theorem A7(t:Tn)(m:Nat)(coins:List (Nat×List Nat))(out:Int)(hm:m<coins.length)(hob:∀o,o∈t.outs→bytes o.2)(hcb:∀o,o∈coins→bytes o.2) :
  au Tryz.prog 66 [.agg (eS t m coins),.d (.int .i64 out)] (fun r=>r=.d (.bool (yL t out (fA coins m).2 0))):=by
 refine bC Tryz.func66 Tryz.ntmps66 (rs:=[.tmp 4]) (by simp[AV.deep,AV.deep1,eS]) ?_;obtain⟨c,hcm⟩:∃o,coins[m]?=some o:=⟨_,cm hm⟩;have hca:fA coins m=c:=by simp[fA,hcm]
 simp[go_sem,eS];by_cases h2:out<0∨(t.outs.length:Int)≤out
 ·have hV:yL t out (fA coins m).2 0=false:=by
   unfold yL;rcases h2 with h2|h2
   ·simp;omega
   ·rw[List.getElem?_eq_none aq];simp
  refine ag (xR t m coins out h2) (by simp[AV.deep,AV.deep1,eS]) ?_;rw[hV];simp[go_sem,ah];exact aa a9 rfl
 ·obtain⟨k,rfl⟩:∃k:Nat,out=(k:Int):=⟨out.toNat,aq⟩;have hk:k<t.outs.length:=aq;obtain⟨o,ho⟩:∃o,t.outs[k]?=some o:=⟨_,cm hk⟩
  have hV:yL t k (fA coins m).2 0=decide (o.2=c.2):=by
   unfold yL;simp[ho,hca]
  rw[hV];refine ag (uc t m coins k o ho) (by simp[AV.deep,AV.deep1,eS]) ?_;simp[go_sem,hcm,eO];refine ag (fZ o.2 c.2 (hob o (cr ho)) (hcb c (cr hcm))) a9 ?_;simp[go_sem,ah];exact aa a9 rfl
theorem yM{Q:AV→Prop}{st:St}{id n:Nat}{ty:TypeId}{e:Int}(rows:List (List DV))(hn:rows.length=n)(hb:lk id st.hp=some ⟨ty,2,rows.map (fun r=>r.map AV.d)⟩)(hr:∀r,r∈rows→r.length=2)(hq:Q (.tup [.d (.ro 2 rows),.d (.int .i64 e)])):dc Q (.tup [.own id 0 n n,.d (.int .i64 e)]) st:=by
 subst hn;refine cB (cs':=[.d (.ro 2 rows),.d (.int .i64 e)]) (fun i c c' h1 h2=>?_) rfl a9 hq
 match i,h1,h2 with
 |0,h1,h2=>simp at h1 h2;subst h1 h2;exact al (fh hb trivial aw (by rw[List.drop_zero,cx aw];exact jV _) rfl hr)
 |1,h1,h2=>simp at h1 h2;subst h1 h2;exact aR trivial
 |k+2,h1,_=>simp at h1
theorem Hh(t:Tn)(n:Int)(coins:List (Nat×List Nat))(inner:List Nat)(ps:List (List Nat))(x s:List Nat)(o0 o1 back:Int):∀v,v∈[AV.agg (eS t n coins),de inner ps x,.d (nb s),.agg [.d (.int .i64 o0),.d (.int .i64 o1)],.d (.int .i64 back)]→v.deep:=by
 intro v hv;simp at hv;rcases hv with rfl|rfl|rfl|rfl|rfl
 ·simp[AV.deep,AV.deep1,eS]
 ·exact mf _ _ _
 ·trivial
 ·simp[AV.deep,AV.deep1]
 ·trivial
theorem Pz(t:Tn)(n:Int)(coins:List (Nat×List Nat))(inner:List Nat)(ps:List (List Nat))(x s:List Nat)(o:Int):∀v,v∈[AV.agg (eS t n coins),de inner ps x,.d (nb s),.d (.int .i64 o)]→v.deep:=by
 intro v hv;simp at hv;rcases hv with rfl|rfl|rfl|rfl
 ·simp[AV.deep,AV.deep1,eS]
 ·exact mf _ _ _
 ·trivial
 ·trivial
theorem Dn(t:Tn)(n:Int)(coins:List (Nat×List Nat))(inner:List Nat)(ps:List (List Nat))(x s a:List Nat)(o0 o1 back e:Int)(ht:Sm t)(hc:coins.length≤1000)(hi:inner.length=32)(ha:bytes a)(hob:∀o,o∈t.outs→bytes o.2)(hcb:∀o,o∈coins→bytes o.2∧o.1<18446744073709551616)
  (hbk:back<9223372036854775808) (g:au Tryz.prog 46 [de inner ps s] (fun r=>r=.tup [.d (nb a),.d (.int .i64 e)])) :
  au Tryz.prog 27 [.agg (eS t n coins),de inner ps x,.d (nb s),.agg [.d (.int .i64 o0),.d (.int .i64 o1)],.d (.int .i64 back)] (fun r=>r=wS t n coins o0 o1 back a e):=by
 refine bC Tryz.func27 Tryz.ntmps27 (rs:=[.tmp 10,.tmp 11]) (Hh _ _ _ _ _ _ _ _ _ _) ?_;have hes:(eS t n coins).length=6:=rfl;have het:List.take 6 (eS t n coins)=eS t n coins:=rfl;simp[go_sem,de,lA hi,mh hi,hes,het];refine ag (gA t n coins ht hc) (by simp[AV.deep,AV.deep1,eS]) ?_;rcases lQ t n coins with h1|⟨h1,hn1,hn2⟩
 ·have hV:wS t n coins o0 o1 back a e=.tup [.nil,.d (.int .i64 1)]:=by simp[wS,h1]
  rw[h1,hV];simp[go_sem,ah];exact aa a9 rfl
 ·rw [h1];obtain ⟨m,rfl⟩:∃ k:Nat,n=(k:Int):=⟨n.toNat,aq⟩;obtain ⟨c,hcm⟩:∃ o,coins[m]?=some o:=⟨_,cm (by omega:m<coins.length)⟩;have hca:fA coins m=c:=by simp [fA,hcm]
  have hcl:=(hcb c (cr hcm)).2;simp[go_sem,eS,hcm,eO,lA hi,mh hi];refine ag (Hg t m coins inner ps x s a o0 e hi ha hob g) (Pz _ _ _ _ _ _ _ _) ?_;unfold wS;rw[h1,hca]
  cases hon:yL t o0 a e
  ·simp[go_sem,ah];exact aa a9 rfl
  by_cases b1:back<0
  ·simp[go_sem,b1,ah];exact aa a9 rfl
  have wb:IntKind.u64.wrap back=back:=by rw[IntWalk.u64_in _ aq]
  by_cases b2:(c.1:Int)<back
  ·simp[go_sem,b1,wb,b2,ah];exact aa a9 rfl
  have ws:IntKind.u64.wrap ((c.1:Int)-back)=(c.1:Int)-back:=by rw[IntWalk.u64_in _ aq]
  by_cases q1:o1=-1∧back=0
  ·obtain⟨rfl,rfl⟩:=q1;have wc:IntKind.u64.wrap (c.1:Int)=(c.1:Int):=by rw[IntWalk.u64_in _ aq]
   simp[go_sem,b1,wb,b2,ws,wc,ah];exact yM [Lq o0 (c.1:Int)] rfl rfl (by simp[Lq]) rfl
  ·have gb:=A7 t m coins o1 aq hob (fun o h=>(hcb o h).1);rw[hca]at gb;by_cases p1:o1=-1
   ·have p2:¬back=0:=fun h=>q1 ⟨p1,h⟩;subst p1;by_cases q2:(-1)=o0
    ·subst q2;simp[go_sem,b1,wb,b2,ws,p2,ah];exact aa a9 rfl
    ·simp[go_sem,b1,wb,b2,ws,p2,q2];refine ag gb (by simp[AV.deep,AV.deep1,eS]) ?_
     cases hob1:yL t (-1) c.2 0
     ·simp[go_sem,b1,wb,b2,ws,p2,q2,ah];exact aa a9 rfl
     ·simp[go_sem,b1,wb,b2,ws,p2,q2,ah];exact yM [Lq o0 ((c.1:Int)-back),Lq (-1) back] rfl rfl (by simp[Lq]) rfl
   ·skip;by_cases q2:o1=o0
    ·subst q2;simp[go_sem,b1,wb,b2,ws,p1,ah];exact aa a9 rfl
    ·simp[go_sem,b1,wb,b2,ws,p1,q2];refine ag gb (by simp[AV.deep,AV.deep1,eS]) ?_
     cases hob1:yL t o1 c.2 0
     ·simp[go_sem,b1,wb,b2,ws,p1,q2,ah];exact aa a9 rfl
     ·simp[go_sem,b1,wb,b2,ws,p1,q2,ah];exact yM [Lq o0 ((c.1:Int)-back),Lq o1 back] rfl rfl (by simp[Lq]) rfl
end Go.Proofs.YtmfnimjnneflnaaGreat
namespace Go.Am
theorem PC{P:Program}{g:FuncId}{args:List AV}{Q Q':AV→Prop}(h:au P g args Q)
  (hq:∀r,Q r→∃r',(∀(w:World)(S:Nat→Prop)(σ:Nat→Option Nat)(hp:Hp)(U:Nat→Prop)(x:Value),AIs w S σ hp U r x→AIs w S σ hp U r' x)∧r'.deep∧Q' r'):au P g args Q':=by
 obtain⟨h1,h2⟩:=h;refine⟨h1,fun w S vs a b c=>(h2 w S vs a b c).mono fun e w' he=>?_⟩;obtain⟨x,r,e1,q,d,r1,r3⟩:=he;obtain⟨r',g1,g2,g3⟩:=hq r q;exact⟨x,r',e1,g3,g2,r1,g1 _ _ _ _ _ _ r3⟩
theorem pu{w:World}{S:Nat→Prop}{σ:Nat→Option Nat}{hp:Hp}{U:Nat→Prop}{x:Value}{v:AV}(e:Nat)(h:AIs w S σ hp U (.tup [.nil,v]) x):AIs w S σ hp U (.tup [.d (.ro e []),v]) x:=by
 cases h with
 | tup _ xs hl h =>
  refine .tup _ xs hl fun i c y h1 h2=>?_
  match i with
  |0 =>
   simp at h1;subst h1;exact Jh e (h 0 .nil y rfl h2)
  |i+1=>exact h (i+1) c y h1 h2
end Go.Am
namespace Go.Proofs.YtmfnimjnneflnaaGreat
open Go.Am Go.Sha Go.Ec
def qJ(t:Tn)(n:Int)(coins:List (Nat×List Nat))(o0 o1 back:Int)(a:List Nat)(e:Int):List (Int×Int)×Int :=
 if bJ t n coins≠0 then([],1)
 else if yL t o0 a e=false∨back<0∨((fA coins n).1:Int)<back then([],24)
 else if o1=-1∧back=0 then([(o0,((fA coins n).1:Int)-back)],0)
 else if o1=o0∨yL t o1 (fA coins n).2 0=false then([],24)
 else([(o0,((fA coins n).1:Int)-back),(o1,back)],0)
theorem rQ(t:Tn)(n:Int)(coins:List (Nat×List Nat))(o0 o1 back:Int)(a:List Nat)(e:Int):(qJ t n coins o0 o1 back a e).1.length≤2:=by
 unfold qJ
 repeat' split
 all_goals simp
theorem Lr{t:Tn}{n:Int}{coins:List (Nat×List Nat)}{o0 o1 back:Int}{a:List Nat}{e:Int}{g:FuncId}{args:List AV}(h:au Tryz.prog g args (fun r=>r=wS t n coins o0 o1 back a e)) :
  au Tryz.prog g args (fun v=>v=.tup [.d (.ro 2 ((qJ t n coins o0 o1 back a e).1.map a8)),.d (.int .i64 (qJ t n coins o0 o1 back a e).2)]):=by
 refine PC h ?_;rintro r rfl;refine⟨_,?_,?_,rfl⟩
 ·intro w S σ hp U x;unfold wS qJ
  split
  ·exact pu 2
  ·split
   ·exact pu 2
   ·split
    ·exact id
    ·split
     ·exact pu 2
     ·exact id
 ·simp[AV.deep,AV.deep1]
theorem Up(inner:List Nat)(ps:List (List Nat))(x:List Nat)(hi:inner.length=32)(hib:bytes inner)(hp:∀p,p∈ps→p.length=32)(hl:ps.length≤1000)(hx:x.length≤100000) :
  ∃p:List Nat×Int,bytes p.1∧au Tryz.prog 46 [de inner ps x] (fun r=>r=.tup [.d (nb p.1),.d (.int .i64 p.2)]):=by
 obtain⟨k,o,e,hk,hkb,he,f1,_⟩:=wO inner ps x hi hib hp hl hx;rcases he with rfl|rfl
 ·refine⟨(81::32::k,0),?_,Ha hi hk f1⟩;intro y hy;simp only[d_]at hy;rcases hy with rfl|rfl|hy
  ·omega
  ·omega
  ·exact hkb y hy
 ·exact⟨([],1),fun y hy=>(by cases hy),G9 hi hk f1⟩
structure RnS0(F:RnF):Prop where
 t:Sm F.t
 c:Qw F.coins
 cb:∀o,o∈F.coins→bytes o.2∧o.1<18446744073709551616
 ob:∀o,o∈F.t.outs→bytes o.2
 i:F.inner.length=32
 ib:bytes F.inner
 s:F.script.length≤100000
 p:∀p,p∈F.path→p.length=32
 pl:F.path.length≤1000
 a:F.annex.length≤1000
def Ur(sg:bg→bg→bg→Bool):Prop:=∀key msg sig,key.length=32→bytes key→bytes sig→msg.length≤1000→sig.length≤1000→au Tryz.prog 156 [.agg (cb key),.d (nb msg),.d (nb sig)] (fun v=>v=.d (.bool (sg key sig msg)))
theorem Xs:∃sg,Ur sg:=by
 have hv:∀p:bg×bg×bg,∃o:Bool,p.1.length=32→bytes p.1→bytes p.2.2→p.2.1.length≤1000→p.2.2.length≤1000→au Tryz.prog 156 [.agg (cb p.1),.d (nb p.2.1),.d (nb p.2.2)] (fun v=>v=.d (.bool o)):=by
  rintro⟨key,msg,sig⟩;by_cases hc:key.length=32∧bytes key∧bytes sig∧msg.length≤1000∧sig.length≤1000
  ·obtain⟨o,ho⟩:=wQ key msg sig hc.1 hc.2.1 hc.2.2.1 hc.2.2.2.1 hc.2.2.2.2;exact⟨o,fun _ _ _ _ _=>ho⟩
  ·exact⟨false,fun a b c d e=>absurd ⟨a,b,c,d,e⟩ hc⟩
 obtain⟨sg,hsg⟩:=Classical.axiomOfChoice hv;exact⟨fun key sig msg=>sg (key,msg,sig),fun key msg sig a b c d e=>hsg (key,msg,sig) a b c d e⟩
def Ls(inner:List Nat)(ps:List (List Nat))(out:bg→bg×Int):Prop:=∀s:bg,s.length≤100000→bytes (out s).1∧au Tryz.prog 46 [de inner ps s] (fun r=>r=.tup [.d (nb (out s).1),.d (.int .i64 (out s).2)])
theorem PD(inner:List Nat)(ps:List (List Nat))(hi:inner.length=32)(hib:bytes inner)(hp:∀p,p∈ps→p.length=32)(hl:ps.length≤1000):∃out,Ls inner ps out:=by
 have ho:∀s:bg,∃p:bg×Int,s.length≤100000→bytes p.1∧au Tryz.prog 46 [de inner ps s] (fun r=>r=.tup [.d (nb p.1),.d (.int .i64 p.2)]):=by
  intro s;by_cases hs:s.length≤100000
  ·obtain⟨p,hp⟩:=Up inner ps s hi hib hp hl hs;exact⟨p,fun _=>hp⟩
  ·exact⟨([],0),fun q=>absurd q hs⟩
 obtain⟨out,hout⟩:=Classical.axiomOfChoice ho;exact⟨out,hout⟩
theorem Us(F:RnF)(h:RnS0 F){sg:bg→bg→bg→Bool}{out:bg→bg×Int}(hsg:Ur sg)(hout:Ls F.inner F.path out):∃msg:bg,bJ F.t (F.n:Int) F.coins=0 →
  ∀x:Rx,x=⟨aO,dR,sg,msg,(F.t.lock:Int),(F.t.ver:Int),(((F.t.ins[F.n]?.map Ip.seq).getD 0:Nat):Int),Pj F.t F.n,rE F.t (F.n:Int) F.coins,fun s o0 o1 bk=>qJ F.t (F.n:Int) F.coins o0 o1 bk (out s).1 (out s).2⟩→RnE F x:=by
 -- the message
 have hm:∃q:bg,bJ F.t (F.n:Int) F.coins=0→q.length=32∧bytes q∧au Tryz.prog 43 [.agg (eS F.t (F.n:Int) F.coins),.d (nb (j5 F.script)),.d (nb F.annex)] (fun r=>r=.tup [.agg (cb q),.d (.int .i64 0)]):=by
  by_cases hc:bJ F.t (F.n:Int) F.coins=0
  ·obtain⟨q,hq⟩:=Po F.t (F.n:Int) F.coins (j5 F.script) F.annex h.t h.c (rk _) h.a hc;exact⟨q,fun _=>hq⟩
  ·exact⟨[],fun q=>absurd q hc⟩
 obtain⟨msg,hmsg⟩:=hm;refine⟨msg,fun hc x hx=>?_⟩;obtain⟨m1,m2,m3⟩:=hmsg hc
 have hcx:rD F.t=0∧F.coins.length=F.t.ins.length∧(F.n:Int)<(F.coins.length:Int):=by
  unfold bJ at hc
  split at hc
  ·cases hc
  ·rename_i hq;simp only[not_or,Int.not_lt,Int.not_le,ne_eq,Classical.not_not]at hq;exact⟨hq.1,hq.2.1,hq.2.2.2.1⟩
 have hn:F.n<F.t.ins.length:=by have:=hcx.2.1;have:=hcx.2.2;omega
 have hi:=cm hn;have hio:(F.t.ins[F.n]).ok:=h.t.1.2.2.1 _ (List.getElem_mem hn);subst hx
 exact {
  hi:=h.i
  hs:=h.s
  ml:=m1
  mb:=m2
  mg:=⟨0,m3⟩
  vf:=fun key msg sig a b c d e f=>hsg key msg sig a b d e f
  tl:=aJ _
  tb:=gn _
  tg:=⟨0,Un F.t F.n h.t hcx.1 hn⟩
  rc:=fun hh o q1 q2=>Cd F.t (F.n:Int) F.coins hh o h.t (by have:=h.c.1;omega) q1
  tr:=fun s o0 o1 bk q1 q2 q3 q4=>⟨Lr (Dn F.t (F.n:Int) F.coins F.inner F.path F.script s (out s).1 o0 o1 bk (out s).2 h.t (by have:=h.c.1;omega) h.i (hout s q2).1 h.ob h.cb q4 (hout s q2).2),rQ _ _ _ _ _ _ _ _⟩
  sq:=⟨F.t.ins[F.n],hi,hio,by rw[hi];rfl⟩
  lk:=⟨h.t.1.2.1,rfl⟩
  vr:=⟨h.t.1.1,rfl⟩
  hh:=⟨rfl,rfl⟩ }
end Go.Proofs.YtmfnimjnneflnaaGreat
