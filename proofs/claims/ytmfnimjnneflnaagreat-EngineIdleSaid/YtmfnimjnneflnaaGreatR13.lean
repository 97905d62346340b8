/-
 Part 14 of what the claim rests on.
-/
import Derived.Test.YtmfnimjnneflnaaGreatR8
import Derived.Test.YtmfnimjnneflnaaGreatR12
set_option linter.unusedVariables false
set_option linter.unusedSimpArgs false
set_option maxRecDepth 100000
set_option maxHeartbeats 16000000
namespace Go.Proofs.YtmfnimjnneflnaaGreat
open Go.Am Go.Sha
def Y8 (coins:List (Nat × List Nat)):Prop:=coins.length≤8∧∀ o,o ∈ coins→o.1<18446744073709551616∧o.2.length≤1100
theorem E3 (t:Tn) (n:Int) (coins:List (Nat × List Nat)):∀ v,v ∈ [AV.agg (eS t n coins)]→v.deep:=by simp [AV.deep,AV.deep1,eS]
theorem Xa {a b c d e:List Nat} (k:Nat) (hk:k<5) (ha:a.length=32) (hb:b.length=32) (hc:c.length=32) (hd:d.length=32) (he:e.length=32) :
  List.take 32 (List.drop (k*32) (cb a ++ cb b ++ cb c ++ cb d ++ cb e))=cb ([a,b,c,d,e].getD k []):=by
 have ha':(cb a).length=32:=by rw [ao,ha]
 have hb':(cb b).length=32:=by rw [ao,hb]
 have hc':(cb c).length=32:=by rw [ao,hc]
 have hd':(cb d).length=32:=by rw [ao,hd]
 have he':(cb e).length=32:=by rw [ao,he]
 have mid:∀ (A B C:List AV) (m:Nat),A.length=m→B.length=32→List.take 32 (List.drop m (A ++ (B ++ C)))=B:=by
  intro A B C m hA hB;subst hA;rw [List.drop_left,← hB,List.take_left]
 match k,hk with
 | 0,_=>simpa using mid [] (cb a) (cb b ++ cb c ++ cb d ++ cb e) 0 rfl ha'
 | 1,_=>simpa using mid (cb a) (cb b) (cb c ++ cb d ++ cb e) 32 aq hb'
 | 2,_=>simpa using mid (cb a ++ cb b) (cb c) (cb d ++ cb e) 64 (by simp [ha',hb']) hc'
 | 3,_=>simpa using mid (cb a ++ cb b ++ cb c) (cb d) (cb e) 96 (by simp [ha',hb',hc']) hd'
 | 4,_=>simpa using mid (cb a ++ cb b ++ cb c ++ cb d) (cb e) [] 128 (by simp [ha',hb',hc',hd']) he'
def Xb (t:Tn) (n:Nat):List Nat:=le t.ver 4 ++ (le t.lock 4 ++ (le t.ins.length 4 ++ (bo (t.ins.map rC).flatten ++ (le t.outs.length 4 ++ (bo (t.outs.map io).flatten ++ le n 4)))))
def O6 (t:Tn) (n:Nat):List Nat:=bo (Xb t n)
theorem Uc (b:List Nat) (hl:b.length≤100000000000) :
  cB Tryz.prog 58 1 [(0,⟨167,10,[da H0 ++ [.nil,.d (.int .u64 0)]]⟩)] [.ptr 0 0 0 1,.d (nb b)] (fun r hp'=>r=.tup []∧lk 0 hp'=some ⟨167,10,[yu b]⟩):=by
 have:=Nv H0 .nil [] b 0 (.inr ⟨rfl,rfl⟩) (by simp;omega) aq;rw [List.nil_append,Nat.zero_add] at this;exact this
theorem O7 (ρ:Nat→Nat):AV.renL ρ (da H0 ++ [.nil,.d (.int .u64 0)])=da H0 ++ [.nil,.d (.int .u64 0)]:=rfl
theorem O8 {Q:AV→Prop} {st:St} {b:List Nat} {e:Int} (hq:Q (.tup [.agg (cb b),.d (.int .i64 e)])):dy Q (.tup [.agg (cb b),.d (.int .i64 e)]) st:=by
 refine aa ?_ hq;intro c hc;simp at hc;rcases hc with rfl | rfl
 ·exact .inr ⟨_,rfl,bZ _⟩
 ·exact .inl trivial
theorem Ld {b:List Nat} (hb:b.length=32):(List.range 32).map (fun k=>((cb b).drop k).take 1)=List.map ((fun r=>List.map AV.d r) ∘ fun (x:Nat)=>[DV.int .u8 (x:Int)]) b:=by
 rw [EY hb];rfl
theorem Ud (t:Tn) (n:Nat) (ht:Sm t) (hc:qY t=0) (hn:n<t.ins.length):av Tryz.prog 18 [.agg (eT t),.d (.int .i64 (n:Int))] (fun v=>v=.tup [.agg (cb (O6 t n)),.d (.int .i64 0)]):=by
 have hck:=vX t ht;rw [hc] at hck;have hsq:=E0 t ht;have hod:=AA t.outs (by have:=ht.2.2.1;omega) (fun o ho=>⟨ht.1.2.2.2 o ho,by have:=ht.2.2.2.1 o ho;omega⟩);have hA:=aZ (t.ins.map rC).flatten;have hB:=aZ (t.outs.map io).flatten;have hil:=ht.2.1;have hol:=ht.2.2.1;have hver:=ht.1.1;have hlk:=ht.1.2.1;refine bK Tryz.func18 Tryz.ntmps18 (rs:=[.cell 4 29,.tmp 5]) (by intro v hv;simp at hv;rcases hv with rfl | rfl;simp [AV.deep,AV.deep1,eT];trivial) ?_;have hn0:¬ (n:Int)<0:=aq;have hni:¬ (t.ins.length:Int)≤(n:Int):=aq;have hnn:¬ t.ins.length≤n:=aq;have w1:IntKind.u32.wrap (t.ins.length:Int)=(t.ins.length:Int):=IntWalk.u32_in _ aq;have w2:IntKind.u32.wrap (t.outs.length:Int)=(t.outs.length:Int):=IntWalk.u32_in _ aq;have w3:IntKind.u32.wrap (n:Int)=(n:Int):=IntWalk.u32_in _ aq;have hz32:z32.length=32:=rfl;have hzd:List.drop 32 (cb z32)=[]:=rfl;unfold O6 Xb;generalize hAe:bo (t.ins.map rC).flatten=A at *;generalize hBe:bo (t.outs.map io).flatten=B at *;simp only [eT] at *;simp [go_sem];have hdO:∀ v,v ∈ [AV.d (.ro 2 (t.outs.map eO))]→v.deep:=by simp [AV.deep,AV.deep1]
 have hdS:∀ v,v ∈ [AV.agg [.d (.int .u32 (t.ver:Int)),.d (.ro 35 (t.ins.map eI)),.d (.ro 2 (t.outs.map eO)),.d (.int .u32 (t.lock:Int))]]→v.deep:=by simp [AV.deep,AV.deep1]
 refine ag hck (by intro v hv;simp at hv;subst hv;simp [AV.deep,AV.deep1]) ?_;simp [go_sem,hn0,hni,hnn];refine ed [0,2,3] [1,4,5,6,7,8] [0,2,3] (.alt (bt 1 (.alt (bx 4 (.alt (a_ [5,6,7,8]) (a_ [6,5,7,8]))) (.alt (bt 5 (.alt (a_ [4,6,7,8]) (bt 6 (a_ [4,7,8])))) (bt 6 (.alt (a_ [4,5,7,8]) (bt 5 (a_ [4,7,8]))))))) (.alt (bt 5 (.alt (bt 1 (.alt (a_ [4,6,7,8]) (bt 6 (a_ [4,7,8])))) (bt 6 (bt 1 (a_ [4,7,8]))))) (bt 6 (.alt (bt 1 (.alt (a_ [4,5,7,8]) (bt 5 (a_ [4,7,8])))) (bt 5 (bt 1 (a_ [4,7,8]))))))) ⟨[(1,.d (.int .i64 (n:Int))),(2,.ptr 0 0 0 1),(4,.ptr 32 0 0 1),(6,.ptr 704 0 0 1),(7,.ptr 736 0 0 1)],[(704,⟨29,32,[cb A]⟩),(736,⟨29,32,[cb B]⟩),(32,⟨29,32,[cb z32]⟩),(0,⟨26,4,[[.d (.int .u32 (t.ver:Int)),.d (.ro 35 (t.ins.map eI)),.d (.ro 2 (t.outs.map eO)),.d (.int .u32 (t.lock:Int))]]⟩)],9000⟩ (k:=9) ?h3 ?hq
 case h3 =>
  intro G hG
  have hW:∀ (fr:Fr) (hp:Hp),(fv 1 fr=.d (.int .i64 (n:Int))∧fv 2 fr=.ptr 0 0 0 1∧fv 4 fr=.ptr 32 0 0 1∧fv 6 fr=.ptr 704 0 0 1∧fv 7 fr=.ptr 736 0 0 1∧lk 704 hp=some ⟨29,32,[cb A]⟩∧lk 736 hp=some ⟨29,32,[cb B]⟩∧lk 32 hp=some ⟨29,32,[cb z32]⟩∧lk 0 hp=some ⟨26,4,[[.d (.int .u32 (t.ver:Int)),.d (.ro 35 (t.ins.map eI)),.d (.ro 2 (t.outs.map eO)),.d (.int .u32 (t.lock:Int))]]⟩)→G fr hp:=by
   rintro fr hp ⟨q0,q1,q2,q3,q4,q5,q6,q7,q8⟩;refine hG _ _ (cj ?_);simp only [ay,ai];refine ⟨fun p hp=>?_,fun p hp=>?_,aw⟩
   ·simp only [et,List.mem_nil_iff,or_false] at hp;rcases hp with rfl | rfl | rfl | rfl | rfl <;> exact ⟨.inl (Eq.symm (by assumption)),by simp [AV.low,AV.low1]⟩
   ·simp only [et,List.mem_nil_iff,or_false] at hp;rcases hp with rfl | rfl | rfl | rfl <;> exact ⟨.inl (by assumption),aw,by intro r hr;simp only [et,List.mem_nil_iff,or_false] at hr;subst hr;first | exact bR _ _ | exact aL _ _ | (intro v hv;simp only [et,List.mem_nil_iff,or_false] at hv;rcases hv with rfl | rfl | rfl | rfl <;> trivial)⟩
  simp [go_sem,ao,hA,hB,hz32,hzd,ar hA,ar hB,dK]
  repeat' first | exact hW _ _ ⟨rfl,rfl,rfl,rfl,rfl,rfl,rfl,rfl,rfl⟩ | (refine hW _ _ ?_;simp [fv,lk];done) | refine ag hsq hdS ?_ | refine ag hod hdO ?_ | apply And.intro | simp [go_sem,ao,hA,hB,hz32,hzd,ar hA,ar hB,dK]
 case hq =>
  simp [go_sem];refine bf [] mC rfl aw aw aw (by simp [AV.renL]) ?_;rintro r hp' ⟨rfl,h0⟩;refine ⟨[(97,0)],rfl,?_⟩;simp [go_sem,bQ,bI,h0,Blk.ren,aR,fN,AV.ren,bO];clear h0 hp';refine bL [] (gW [] t.ver aw hver) rfl (aj (.one (ak (.nil 1))) (aj (.deep a9) aD)) ?_;simp [go_sem,aC];refine bf [(0,9000)] (Uc (le t.ver 4) (by simp [a8])) rfl aw (by simp [lk]) (by simp [lk,Blk.ren,aR,O7]) (by simp [AV.renL,AV.ren,bO,gk,lk,ek]) ?_;rintro r hp' ⟨rfl,h0⟩;refine ⟨[],rfl,?_⟩;simp [-List.append_assoc,go_sem,bQ,bI,h0,Blk.ren,aR,bq,AV.renL,AV.ren,bO,dc,w1,w2,w3];clear h0 hp';refine bL [] (gW [] t.lock aw hlk) rfl (aj (.one (ak (.nil 1))) (aj (.deep a9) aD)) ?_;simp [go_sem,aC];refine bf [(0,9000)] (nZ (le t.ver 4) (le t.lock 4) (by simp [a8,hA,hB])) rfl aw (by simp [lk]) (by simp [lk,Blk.ren,aR,bq]) (by simp [AV.renL,AV.ren,bO,gk,lk,ek]) ?_;rintro r hp' ⟨rfl,h0⟩;refine ⟨[],rfl,?_⟩;simp [-List.append_assoc,go_sem,bQ,bI,h0,Blk.ren,aR,bq,AV.renL,AV.ren,bO,dc,w1,w2,w3];clear h0 hp';refine bL [] (gW [] t.ins.length aw aq) rfl (aj (.one (ak (.nil 1))) (aj (.deep a9) aD)) ?_;simp [go_sem,aC];refine bf [(0,9000)] (nZ ((le t.ver 4) ++ le t.lock 4) (le t.ins.length 4) (by simp [a8,hA,hB])) rfl aw (by simp [lk]) (by simp [lk,Blk.ren,aR,bq]) (by simp [AV.renL,AV.ren,bO,gk,lk,ek]) ?_;rintro r hp' ⟨rfl,h0⟩;refine ⟨[],rfl,?_⟩;simp [-List.append_assoc,go_sem,bQ,bI,h0,Blk.ren,aR,bq,AV.renL,AV.ren,bO,dc,w1,w2,w3];clear h0 hp';refine bf [(0,9000),(1,704)] (C2 29 32 (cb A) (((le t.ver 4) ++ le t.lock 4) ++ le t.ins.length 4) A (Ld hA) (fun n=>aL n _) hA (by simp [a8,hA,hB])) rfl aw (by simp [lk]) (by simp [lk,Blk.ren,aR,bq,dc]) (by simp [AV.renL,AV.ren,bO,gk,lk]) ?_;rintro r hp' ⟨rfl,h0,h1⟩;refine ⟨[],rfl,?_⟩;simp [-List.append_assoc,go_sem,bQ,bI,h0,h1,Blk.ren,aR,bq,AV.renL,AV.ren,bO,dc,w1,w2,w3];clear h0 h1 hp';refine bL [] (gW [] t.outs.length aw aq) rfl (aj (.one (ak (.nil 1))) (aj (.deep a9) aD)) ?_;simp [go_sem,aC];refine bf [(0,9000)] (nZ ((((le t.ver 4) ++ le t.lock 4) ++ le t.ins.length 4) ++ A) (le t.outs.length 4) (by simp [a8,hA,hB])) rfl aw (by simp [lk]) (by simp [lk,Blk.ren,aR,bq]) (by simp [AV.renL,AV.ren,bO,gk,lk,ek]) ?_;rintro r hp' ⟨rfl,h0⟩;refine ⟨[],rfl,?_⟩;simp [-List.append_assoc,go_sem,bQ,bI,h0,Blk.ren,aR,bq,AV.renL,AV.ren,bO,dc,w1,w2,w3];clear h0 hp';refine bf [(0,9000),(1,736)] (C2 29 32 (cb B) (((((le t.ver 4) ++ le t.lock 4) ++ le t.ins.length 4) ++ A) ++ le t.outs.length 4) B (Ld hB) (fun n=>aL n _) hB (by simp [a8,hA,hB])) rfl aw (by simp [lk]) (by simp [lk,Blk.ren,aR,bq,dc]) (by simp [AV.renL,AV.ren,bO,gk,lk]) ?_;rintro r hp' ⟨rfl,h0,h1⟩;refine ⟨[],rfl,?_⟩;simp [-List.append_assoc,go_sem,bQ,bI,h0,h1,Blk.ren,aR,bq,AV.renL,AV.ren,bO,dc,w1,w2,w3];clear h0 h1 hp';refine bL [] (gW [] n aw aq) rfl (aj (.one (ak (.nil 1))) (aj (.deep a9) aD)) ?_;simp [go_sem,aC];refine bf [(0,9000)] (nZ ((((((le t.ver 4) ++ le t.lock 4) ++ le t.ins.length 4) ++ A) ++ le t.outs.length 4) ++ B) (le n 4) (by simp [a8,hA,hB])) rfl aw (by simp [lk]) (by simp [lk,Blk.ren,aR,bq]) (by simp [AV.renL,AV.ren,bO,gk,lk,ek]) ?_;rintro r hp' ⟨rfl,h0⟩;refine ⟨[],rfl,?_⟩;simp [-List.append_assoc,go_sem,bQ,bI,h0,Blk.ren,aR,bq,AV.renL,AV.ren,bO,dc,w1,w2,w3];clear h0 hp';refine bf [(0,9000)] (wC (((((((le t.ver 4) ++ le t.lock 4) ++ le t.ins.length 4) ++ A) ++ le t.outs.length 4) ++ B) ++ le n 4) (by simp [a8,hA,hB])) rfl aw (by simp [lk]) (by simp [lk,Blk.ren,aR,bq]) (by simp [AV.renL,AV.ren,bO,gk,lk]) ?_;rintro r hp' ⟨rfl,h0⟩;refine ⟨[],rfl,?_⟩;have hL:=aZ (((((((le t.ver 4) ++ le t.lock 4) ++ le t.ins.length 4) ++ A) ++ le t.outs.length 4) ++ B) ++ le n 4);have hLe:(((((((le t.ver 4) ++ le t.lock 4) ++ le t.ins.length 4) ++ A) ++ le t.outs.length 4) ++ B) ++ le n 4)=le t.ver 4 ++ (le t.lock 4 ++ (le t.ins.length 4 ++ (A ++ (le t.outs.length 4 ++ (B ++ le n 4))))):=by simp only [cD]
  rw [hLe] at hL h0 ⊢;generalize bo (le t.ver 4 ++ (le t.lock 4 ++ (le t.ins.length 4 ++ (A ++ (le t.outs.length 4 ++ (B ++ le n 4))))))=q at *;simp [go_sem,bQ,bI,h0,Blk.ren,aR,bq,dc,AV.ren,bO,ao,hL,ar hL,hz32,hzd,ah];exact O8 rfl
def O9 (ann:List Nat):Nat:=if ann=[] then 2 else 3
def Pe (ann:List Nat):List Nat:=if ann=[] then [] else bo (cq ann)
def Ue (t:Tn) (n:Nat) (coins:List (Nat × List Nat)) (h ann:List Nat):List Nat :=
 [0,0] ++ le t.ver 4 ++ le t.lock 4 ++ bo (t.ins.map qm).flatten ++ bo (coins.map uD).flatten ++ bo (coins.map uU).flatten ++ bo (t.ins.map rC).flatten ++ bo (t.outs.map io).flatten ++ [O9 ann] ++ le n 4 ++ Pe ann ++ h ++ [0] ++ le 4294967295 4
theorem Uf (t:Tn) (n:Int) (coins:List (Nat × List Nat)) (h ann:List Nat):∀ v,v ∈ [AV.agg (eS t n coins),.d (nb h),.d (nb ann)]→v.deep:=by simp [AV.deep,AV.deep1,eS]
theorem Pg (t:Tn) (n:Int) (coins:List (Nat × List Nat)) (h ann:List Nat) (ht:Sm t) (hc:Y8 coins) (hl:h.length=32) (hal:ann.length≤1000) (c0:cf t n coins=0) :
    ∃ q:List Nat,q.length=32∧bytes q∧av Tryz.prog 43 [.agg (eS t n coins),.d (nb h),.d (nb ann)] (fun r=>r=.tup [.agg (cb q),.d (.int .i64 0)]):=by
  refine ⟨eV iK (Ue t n.toNat coins h ann),aZ _,iG _,?_⟩;refine bK Tryz.func43 Tryz.ntmps43 (rs:=[.cell 6 29,.tmp 7]) (Uf t n coins h ann) ?_;have hck:=kV t n coins ht (by have:=hc.1;omega);have hd1:=E3 t n coins
  · rw [c0] at hck
    have hn:0≤n∧n<coins.length:=by
      unfold cf at c0
      split at c0
      · cases c0
      · rename_i hx
        simp only [not_or,Int.not_lt,Int.not_le] at hx;exact ⟨hx.2.2.1,hx.2.2.2.1⟩
    obtain ⟨m,rfl⟩:∃ m:Nat,n=(m:Int):=⟨n.toNat,aq⟩;rw [Int.toNat_natCast];obtain ⟨hv,hlk,hi,ho⟩:=ht.1;have p1:=Lc t ht;have p2:=K9 coins hc.1 hc.2;have hmsg:Ue t m coins h ann=[0,0] ++ le t.ver 4 ++ le t.lock 4 ++ bo (t.ins.map qm).flatten ++ bo (coins.map uD).flatten ++ bo (coins.map uU).flatten ++ bo (t.ins.map rC).flatten ++ bo (t.outs.map io).flatten ++ [O9 ann] ++ le m 4 ++ Pe ann ++ h ++ [0] ++ le 4294967295 4:=rfl;generalize Ue t m coins h ann=M at *;have l1:=aZ (t.ins.map qm).flatten;have l2:=aZ (t.ins.map rC).flatten;have l3:=aZ (t.outs.map io).flatten;have l4:=aZ (coins.map uD).flatten;have l5:=aZ (coins.map uU).flatten;generalize bo (t.ins.map qm).flatten=a at *;generalize bo (t.ins.map rC).flatten=b at *;generalize bo (t.outs.map io).flatten=c at *;generalize bo (coins.map uD).flatten=x at *;generalize bo (coins.map uU).flatten=y at *;have hT:=yv t;simp only [eT,eS] at hT hck hd1 p1;have hL:(cb a ++ cb b ++ cb c).length=96:=by simp [ao,l1,l2,l3]
    have hT2:List.take 96 (cb a ++ cb b ++ cb c)=cb a ++ cb b ++ cb c:=cA aq;have hE:cb (a ++ (b ++ c))=cb a ++ cb b ++ cb c:=by rw [uE,uE,cD]
    rw [hE] at p1;simp [go_sem,eS];refine ag hck hd1 ?_;simp [go_sem,hl,nb];refine jy [512] (fq [0,0] t.ver aw hv) rfl (aj (.one (ak (aU (L:=[0,0]) rfl rfl aw))) (aj (.deep a9) aD)) (fun ρ=>by simp [AV.renL,AV.ren]) ?_;rintro r hp' ⟨I,rfl,h0⟩;refine ⟨[(I,0)],by simp [cK,fZ],?_⟩;generalize hA1:[0,0] ++ le t.ver 4=A1 at *;have hA1l:A1.length=6:=by rw [← hA1];simp [a8]
    simp [go_sem,bQ,bI,h0,Blk.ren,aR,dU,AV.renL,AV.ren,bO,aC];clear h0 hp';refine jy [640] (fq A1 t.lock aq hlk) rfl (aj (.one (ak (aU rfl rfl aw))) (aj (.deep a9) aD)) (fun ρ=>by simp [AV.renL,AV.ren]) ?_;rintro r hp' ⟨I,rfl,h0⟩;refine ⟨[(I,0)],by simp [cK,fZ],?_⟩;generalize hA2:A1 ++ le t.lock 4=A2 at *;have hA2l:A2.length=10:=by rw [← hA2];simp [a8,hA1l]
    simp [go_sem,bQ,bI,h0,Blk.ren,aR,dU,AV.renL,AV.ren,bO,aC];clear h0 hp';have r0:List.take 32 (cb a ++ cb b ++ cb c)=cb a:=by rw [cD,← l1,← ao a,List.take_left]
    have r1:List.take 32 (List.drop 32 (cb a ++ cb b ++ cb c))=cb b:=by rw [cD,show List.drop 32 (cb a ++ (cb b ++ cb c))=cb b ++ cb c by rw [← l1,← ao a,List.drop_left],← l2,← ao b,List.take_left]
    have r2:List.take 32 (List.drop 64 (cb a ++ cb b ++ cb c))=cb c:=by
      rw [show List.drop 64 (cb a ++ cb b ++ cb c)=cb c by rw [show 64=(cb a ++ cb b).length by simp [ao,l1,l2],List.drop_left]];exact ar l3
    generalize hR:cb a ++ cb b ++ cb c=R at *;refine ag p1 hT ?_;simp [go_sem,hL,hT2,AB,ao,rD];refine ag p2 a9 ?_;simp [go_sem,ao,l1,l2,l3,l4,l5,ar l4,ar l5,cg,hL,r0,r1,r2,wE];rw [C4 (A:=cb a) (n:=32) (m:=64) (by rw [ao,l1]) aq,← cD (cb a) (cb x),qn (A:=cb a ++ cb x) (n:=64) (m:=96) (by simp [ao,l1,l4]) aq,qn (A:=cb a ++ cb x ++ cb y) (n:=96) (m:=128) (by simp [ao,l1,l4,l5]) aq,qn (A:=cb a ++ cb x ++ cb y ++ cb b) (n:=128) (m:=160) (by simp [ao,l1,l4,l5,l2]) aq,C3,List.append_nil];have hF:=fun k hk=>Xa (a:=a) (b:=x) (c:=y) (d:=b) (e:=c) k hk l1 l4 l5 l2 l3;have hG:cb a ++ cb x ++ cb y ++ cb b ++ cb c=cb (a ++ x ++ y ++ b ++ c):=by simp [uE]
    have hGl:(a ++ x ++ y ++ b ++ c).length=160:=by simp [l1,l4,l5,l2,l3]
    rw [hG] at hF ⊢
    have hW:∀ k,k<5→([a,x,y,b,c].getD k []).length=32:=by
      intro k hk
      match k,hk with
      | 0,_=>exact l1
      | 1,_=>exact l4
      | 2,_=>exact l5
      | 3,_=>exact l2
      | 4,_=>exact l3
    have hS:∀ k,k<5→([a,x,y,b,c].take (k+1)).flatten=([a,x,y,b,c].take k).flatten ++ [a,x,y,b,c].getD k []:=by
      intro k hk
      match k,hk with
      | 0,_=>simp
      | 1,_=>simp
      | 2,_=>simp
      | 3,_=>simp
      | 4,_=>simp
    have hfin:A2 ++ a ++ x ++ y ++ b ++ c=A2 ++ ([a,x,y,b,c].take 5).flatten:=by simp
    rw [hfin] at hmsg;clear hfin;generalize a ++ x ++ y ++ b ++ c=G at *;generalize [a,x,y,b,c]=HS at *
    refine ax (fun u:Nat × List Nat=>⟨[(1,.d (nb h)),(2,.d (nb ann)),(3,.ptr 0 0 0 1),(6,.ptr 32 0 0 1),(8,.own 832 0 u.2.length u.2.length),(57,.agg (cb G)),(58,.d (.int .i64 (u.1:Int)))],
        [(832,⟨5,1,rb u.2⟩),(32,⟨29,32,[cb z32]⟩),(0,⟨28,6,[eS t m coins]⟩)],3000⟩)
      (fun u=>u.1≤5∧u.2.length=10+32*u.1∧u.2=A2 ++ (HS.take u.1).flatten) (fun u=>5 - u.1) (0,A2) ⟨aw,by simp;omega,aw⟩ (by
        simp [ay,ai,fv,lk,AV.low,AV.low1,nb,eS]
        exact ⟨aL _ _,bp _ _,aL _ _⟩) ?_
    rintro ⟨k,B⟩ ⟨hk,hBl,hB⟩;simp only at hk hBl hB;simp only [eS];simp only [go_sem,Nat.reduceEqDiff,Nat.reduceAdd,Nat.reduceLT,↓reduceIte,Nat.reduceMul];refine ⟨fun hlt=>?_,fun hlt=>?_⟩
    · have hk5:k<5:=aq
      have hw:=hW k hk5;have hs:=hS k hk5;have hf:=hF k hk5;have w3:=aA (k:=k) aq;have g1:32≤G.length - k*32:=aq;generalize HS.getD k []=w at *;have hx:=(gK hw).trans (cC w);simp [go_sem] at hx;simp [go_sem,hk5,hf,g1,ao,hw,cg,hx,aH,jS,w3];refine ⟨aq,aq,?_⟩;refine al (k+1,B ++ w) ⟨by simp only;omega,by simp only [b_,hw];omega,by simp only;rw [hs,hB,cD]⟩ (by simp only;omega) ?_;simp [ay,ai,fv,lk,AV.low,AV.low1,nb,eS,hw];exact ⟨aL _ _,bp _ _,aL _ _⟩
    · have hk5:k=5:=aq
      subst hk5;rw [← hB] at hmsg;have wn:IntKind.u32.wrap (m:Int)=(m:Int):=by rw [Np];have:=hc.1;omega
      have hn8:m<4294967296:=by have:=hc.1;omega
      by_cases han:ann=[]
      · subst han
        have ha1:O9 []=2:=rfl;have ha2:Pe []=[]:=rfl;rw [ha1,ha2,List.append_nil] at hmsg;simp [go_sem,hl,nb];have hb2:bits BinOp.or IntKind.u8 0 2=2:=by decide
        have hB1l:(B ++ [2]).length=B.length+1:=by simp
        have hB2l:(B ++ [2] ++ le m 4).length=B.length+5:=by simp [a8]
        generalize hB2:B ++ [2] ++ le m 4=B2 at *;refine ed [0,1] [2,3,4,5,6,7,8] [0,1] (.alt (bt 2 (.alt (a_ [3,4,5,6,7,8]) (bt 4 (.alt (a_ [3,5,6,7,8]) (bt 5 (.alt (a_ [3,6,7,8]) (bt 6 (a_ [3,7,8])))))))) (bt 4 (.alt (bt 2 (.alt (a_ [3,5,6,7,8]) (bt 5 (.alt (a_ [3,6,7,8]) (bt 6 (a_ [3,7,8])))))) (bt 5 (.alt (bt 2 (.alt (a_ [3,6,7,8]) (bt 6 (a_ [3,7,8])))) (bt 6 (bt 2 (a_ [3,7,8])))))))) ⟨[(1,.d (nb h)),(2,.d (nb [])),(3,.ptr 0 0 0 1),(6,.ptr 32 0 0 1),(8,.own 3576 0 B2.length B2.length)],[(3576,⟨5,1,rb B2⟩),(32,⟨29,32,[cb z32]⟩)],6000⟩ (k:=9) ?h3 ?hq
        case h3 =>
          intro G hG
          have hW:∀ (fr:Fr) (hp:Hp),(fv 1 fr=.d (nb h)∧fv 2 fr=.d (nb [])∧fv 3 fr=.ptr 0 0 0 1∧fv 6 fr=.ptr 32 0 0 1∧fv 8 fr=.own 3576 0 B2.length B2.length∧lk 3576 hp=some ⟨5,1,rb B2⟩∧lk 32 hp=some ⟨29,32,[cb z32]⟩)→G fr hp:=by
            rintro fr hp ⟨q0,q1,q2,q3,q4,q5,q6⟩;refine hG _ _ (cj ⟨?_,?_,aw⟩)
            · simp [ai,AV.low,AV.low1,q0,q1,q2,q3,q4,nb]
            · simp [q5,q6]
              exact ⟨bp _ _,aL _ _⟩
          have hrb:rb B ++ [[AV.d (DV.int IntKind.u8 2)]]=rb (B ++ [2]):=by simp [rb]
          have hp:=fq (B ++ [2]) m (by rw [hB1l];omega) hn8;rw [hB2] at hp;simp [go_sem,wn,hb2,aH,hrb]
          repeat' apply And.intro
          all_goals first
            | omega
            | (refine jy [832] hp rfl (aj (.one (ak (aU hB1l rfl aw))) (aj (.deep a9) aD)) (fun ρ=>by simp [AV.renL,AV.ren]) ?_
               rintro r hp' ⟨I,rfl,h0⟩;refine ⟨[(I,0)],by simp [cK,fZ],?_⟩;simp [go_sem,bQ,bI,h0,Blk.ren,aR,dU,AV.renL,AV.ren,bO,aC];refine hW _ _ ?_
               simp [fv,lk,nb])
        case hq =>
          simp [go_sem,hl,nb,aH];have hrb3:rb B2 ++ (List.map ((fun r=>List.map AV.d r) ∘ fun (b:Nat)=>[DV.int IntKind.u8 (b:Int)]) h ++ [[AV.d (DV.int IntKind.u8 0)]])=rb (B2 ++ h ++ [0]):=by simp [rb]
          have hB3l:(B2 ++ h ++ [0]).length=B2.length+32+1:=by simp [hl]
          rw [hrb3];refine ⟨aq,aq,?_⟩;generalize B2 ++ h ++ [0]=B3 at *;have hp:=fq B3 4294967295 aq aq;rw [← hmsg] at hp;have hMl:M.length≤1000:=by rw [hmsg,b_,a8];omega
          refine jy [3576] hp rfl (aj (.one (ak (aU hB3l rfl aw))) (aj (.deep a9) aD)) (fun ρ=>by simp [AV.renL,AV.ren]) ?_;rintro r hp' ⟨I,rfl,h0⟩;refine ⟨[(I,0)],by simp [cK,fZ],?_⟩;simp [go_sem,bQ,bI,h0,Blk.ren,aR,dU,AV.renL,AV.ren,bO,aC];clear h0 hp';refine bL [6416] (gl iK _ rfl M (by simp [iK]) aq) rfl (aj (.deep a9) (aj (.one (ak (aU rfl rfl aw))) aD)) ?_;have hR:=aZ (bo iK ++ (bo iK ++ M));have hR':(eV iK M).length=32:=hR;generalize eV iK M=S at *;simp [go_sem,aC,hR',ao,ar hR',cg,ah]
          exact aa (by
            intro c hc;simp only [et,List.mem_nil_iff,or_false] at hc;rcases hc with rfl | rfl
            · exact .inr ⟨_,rfl,bZ _⟩
            · exact .inl trivial) rfl
      · have hal0:¬ ann.length=0:=fun h=>han (List.length_eq_zero_iff.1 h)
        have hali:(0:Int)<(ann.length:Int):=aq;have halp:0<ann.length:=aq;have ha1:O9 ann=3:=if_neg han;have ha2:Pe ann=bo (cq ann):=if_neg han;have hb2:bits BinOp.or IntKind.u8 0 2=2:=by decide
        have hb3:bits BinOp.or IntKind.u8 2 1=3:=by decide
        rw [ha1,ha2] at hmsg;have hpb:=eW [] ann aw aq;have hsm:=kT (cq ann) (by have:=lD ann;omega);have hql:=aZ (cq ann);rw [show [] ++ (aI ann.length ++ ann)=cq ann from rfl] at hpb;generalize bo (cq ann)=Q at *;generalize cq ann=BA at *;simp [go_sem,hl,nb,hali,halp,hb2];have hB1l:(B ++ [3]).length=B.length+1:=by simp
        have hB2l:(B ++ [3] ++ le m 4).length=B.length+5:=by simp [a8]
        generalize hB2:B ++ [3] ++ le m 4=B2 at *;refine ed [0,1] [2,3,4,5,6,7,8] [0,1] (.alt (bt 2 (.alt (a_ [3,4,5,6,7,8]) (bt 4 (.alt (a_ [3,5,6,7,8]) (bt 5 (.alt (a_ [3,6,7,8]) (bt 6 (a_ [3,7,8])))))))) (bt 4 (.alt (bt 2 (.alt (a_ [3,5,6,7,8]) (bt 5 (.alt (a_ [3,6,7,8]) (bt 6 (a_ [3,7,8])))))) (bt 5 (.alt (bt 2 (.alt (a_ [3,6,7,8]) (bt 6 (a_ [3,7,8])))) (bt 6 (bt 2 (a_ [3,7,8])))))))) ⟨[(1,.d (nb h)),(2,.d (nb ann)),(3,.ptr 0 0 0 1),(6,.ptr 32 0 0 1),(8,.own 3672 0 B2.length B2.length)],[(3672,⟨5,1,rb B2⟩),(32,⟨29,32,[cb z32]⟩)],6000⟩ (k:=9) ?h3 ?hq
        case h3 =>
          intro G hG
          have hW:∀ (fr:Fr) (hp:Hp),(fv 1 fr=.d (nb h)∧fv 2 fr=.d (nb ann)∧fv 3 fr=.ptr 0 0 0 1∧fv 6 fr=.ptr 32 0 0 1∧fv 8 fr=.own 3672 0 B2.length B2.length∧lk 3672 hp=some ⟨5,1,rb B2⟩∧lk 32 hp=some ⟨29,32,[cb z32]⟩)→G fr hp:=by
            rintro fr hp ⟨q0,q1,q2,q3,q4,q5,q6⟩;refine hG _ _ (cj ⟨?_,?_,aw⟩)
            · simp [ai,AV.low,AV.low1,q0,q1,q2,q3,q4,nb]
            · simp [q5,q6]
              exact ⟨bp _ _,aL _ _⟩
          have hrb:rb B ++ [[AV.d (DV.int IntKind.u8 3)]]=rb (B ++ [3]):=by simp [rb]
          have hp:=fq (B ++ [3]) m (by rw [hB1l];omega) hn8;rw [hB2] at hp;simp [go_sem,wn,hb2,hb3,aH,hrb]
          repeat' apply And.intro
          all_goals first
            | omega
            | (refine jy [832] hp rfl (aj (.one (ak (aU hB1l rfl aw))) (aj (.deep a9) aD)) (fun ρ=>by simp [AV.renL,AV.ren]) ?_
               rintro r hp' ⟨I,rfl,h0⟩;refine ⟨[(I,0)],by simp [cK,fZ],?_⟩;simp [go_sem,bQ,bI,h0,Blk.ren,aR,dU,AV.renL,AV.ren,bO,aC];refine hW _ _ ?_
               simp [fv,lk,nb])
        case hq =>
          simp [go_sem,nb,hali,halp];refine bL [] hpb rfl (aj (.one (ak (.nil 1))) (aj (.deep a9) aD)) ?_;simp [go_sem,aC];refine ag hsm a9 ?_;have hx:=(gK hql).trans (cC Q);simp [go_sem] at hx;simp [go_sem,hl,nb,hql,ao,ar hql,cg,hx,aH,jS];have hrb3:rb (B2 ++ Q) ++ (List.map ((fun r=>List.map AV.d r) ∘ fun (b:Nat)=>[DV.int IntKind.u8 (b:Int)]) h ++ [[AV.d (DV.int IntKind.u8 0)]])=rb (B2 ++ Q ++ h ++ [0]):=by simp [rb]
          have hB3l:(B2 ++ Q ++ h ++ [0]).length=B2.length+32+32+1:=by simp [hl,hql]
          rw [hrb3];refine ⟨aq,aq,aq,?_⟩;generalize B2 ++ Q ++ h ++ [0]=B3 at *;have hp:=fq B3 4294967295 aq aq;rw [← hmsg] at hp;have hMl:M.length≤1000:=by rw [hmsg,b_,a8];omega
          refine jy [3672] hp rfl (aj (.one (ak (aU hB3l rfl aw))) (aj (.deep a9) aD)) (fun ρ=>by simp [AV.renL,AV.ren]) ?_;rintro r hp' ⟨I,rfl,h0⟩;refine ⟨[(I,0)],by simp [cK,fZ],?_⟩;simp [go_sem,bQ,bI,h0,Blk.ren,aR,dU,AV.renL,AV.ren,bO,aC];clear h0 hp';refine bL [6704] (gl iK _ rfl M (by simp [iK]) aq) rfl (aj (.deep a9) (aj (.one (ak (aU rfl rfl aw))) aD)) ?_;have hR:=aZ (bo iK ++ (bo iK ++ M));have hR':(eV iK M).length=32:=hR;generalize eV iK M=S at *;simp [go_sem,aC,hR',ao,ar hR',cg,ah]
          exact aa (by
            intro c hc;simp only [et,List.mem_nil_iff,or_false] at hc;rcases hc with rfl | rfl
            · exact .inr ⟨_,rfl,bZ _⟩
            · exact .inl trivial) rfl
theorem Ph {P:Program} {K:AV→Hp→Prop} {hp:Hp} (t:TypeId) (a b:Bool):cz P .eql t (.d (.bool a)) (.d (.bool b)) K hp=(P.underlying t=some .bool∧K (.d (.bool (a == b))) hp):=rfl
theorem Pi {P:Program} {K:AV→Hp→Prop} {hp:Hp} (t:TypeId) (a b:Bool):cz P .neq t (.d (.bool a)) (.d (.bool b)) K hp=(P.underlying t=some .bool∧K (.d (.bool (a != b))) hp):=rfl
theorem Le:Tryz.prog.underlying 4=some .bool:=by kernel_rfl
attribute [go_sem] Ph Pi Le
theorem oY (inner:List Nat) (a b:DV):(AV.agg (aP inner (.d a) (.d b))).deep:=by
 intro c hc;unfold aP at hc;rcases cL.1 hc with h | h
 ·exact bZ _ _ h
 ·simp at h;rcases h with rfl | rfl <;> trivial
def AC (t:Tn) (out:Int) (a:List Nat) (e:Int):Bool :=
 decide (0≤out) && match t.outs[out.toNat]? with
  | some o=>decide (e=0) && decide (o.2=a)
  | none=>false
def gi (coins:List (Nat × List Nat)) (n:Int):Nat × List Nat:=(coins[n.toNat]?).getD (0,[])
def Lh (o v:Int):List DV:=[.int .i64 o,.int .u64 v]
def wF (t:Tn) (n:Int) (coins:List (Nat × List Nat)) (o0 o1 back:Int) (a:List Nat) (e:Int):AV :=
 if cf t n coins ≠ 0 then .tup [.nil,.d (.int .i64 1)]
 else if AC t o0 a e=false ∨ back<0 ∨ ((gi coins n).1:Int)<back then .tup [.nil,.d (.int .i64 24)]
 else if o1=-1∧back=0 then .tup [.d (.ro 2 [Lh o0 (((gi coins n).1:Int) - back)]),.d (.int .i64 0)]
 else if o1=o0 ∨ AC t o1 (gi coins n).2 0=false then .tup [.nil,.d (.int .i64 24)]
 else .tup [.d (.ro 2 [Lh o0 (((gi coins n).1:Int) - back),Lh o1 back]),.d (.int .i64 0)]
theorem lh {inner:List Nat} (hi:inner.length=32) (a b:AV):(aP inner a b).length=34:=by simp [aP,ao,hi]
theorem lS {inner:List Nat} (hi:inner.length=32) (a b:AV):List.take 34 (aP inner a b)=aP inner a b:=cA (by rw [lh hi];exact cR _)
theorem GW {inner:List Nat} (hi:inner.length=32) (a b c:AV):(aP inner a b).set 33 c=aP inner a c:=by
 have hl:(cb inner).length=32:=by rw [ao,hi]
 unfold aP;rw [List.set_append_right _ _ aq,hl];rfl
theorem GX (t:Tn) (n:Int) (coins:List (Nat × List Nat)) (inner:List Nat) (ps:List (List Nat)) (x s a:List Nat) (out e:Int) (hi:inner.length=32) (ha:bytes a) (hob:∀ o,o ∈ t.outs→bytes o.2)
  (g:av Tryz.prog 46 [cN inner ps s] (fun r=>r=.tup [.d (nb a),.d (.int .i64 e)])) :
  av Tryz.prog 65 [.agg (eS t n coins),cN inner ps x,.d (nb s),.d (.int .i64 out)] (fun r=>r=.d (.bool (AC t out a e))):=by
 refine bK Tryz.func65 Tryz.ntmps65 (rs:=[.tmp 8]) (by
  intro v hv;simp at hv;rcases hv with rfl | rfl | rfl | rfl
  ·simp [AV.deep,AV.deep1,eS]
  ·exact oY _ _ _
  ·trivial
  ·trivial) ?_
 have hes:(eS t n coins).length=6:=rfl;have het:List.take 6 (eS t n coins)=eS t n coins:=rfl;simp [go_sem,cN,lh hi,lS hi,hes,het];by_cases h2:out<0 ∨ (t.outs.length:Int)≤out
 ·have hV:AC t out a e=false:=by
   unfold AC;rcases h2 with h2 | h2
   ·simp;omega
   ·rw [List.getElem?_eq_none aq];simp
  refine ag (xE t n coins out h2) (by simp [AV.deep,AV.deep1,eS]) ?_;rw [hV];simp [go_sem,ah];exact aa a9 rfl
 ·obtain ⟨k,rfl⟩:∃ k:Nat,out=(k:Int):=⟨out.toNat,aq⟩;have hk:k<t.outs.length:=aq;obtain ⟨o,ho⟩:∃ o,t.outs[k]?=some o:=⟨_,cm hk⟩
  have hV:AC t k a e=(decide (e=0) && decide (o.2=a)):=by
   unfold AC;simp [ho]
  rw [hV];refine ag (tX t n coins k o ho) (by simp [AV.deep,AV.deep1,eS]) ?_;simp [go_sem,lh hi,lS hi,GW hi,nb];refine ag g (cQ _ _ _) ?_;simp [go_sem];by_cases he:e=0
  ·subst he;simp [go_sem];refine ag (gZ o.2 a (hob o (cr ho)) ha) a9 ?_;simp [go_sem,ah];exact aa a9 rfl
  ·simp [go_sem,he,ah];exact aa a9 rfl
theorem AD (t:Tn) (m:Nat) (coins:List (Nat × List Nat)) (out:Int) (hm:m<coins.length) (hob:∀ o,o ∈ t.outs→bytes o.2) (hcb:∀ o,o ∈ coins→bytes o.2) :
  av Tryz.prog 66 [.agg (eS t m coins),.d (.int .i64 out)] (fun r=>r=.d (.bool (AC t out (gi coins m).2 0))):=by
 refine bK Tryz.func66 Tryz.ntmps66 (rs:=[.tmp 4]) (by simp [AV.deep,AV.deep1,eS]) ?_;obtain ⟨c,hcm⟩:∃ o,coins[m]?=some o:=⟨_,cm hm⟩;have hca:gi coins m=c:=by simp [gi,hcm]
 simp [go_sem,eS];by_cases h2:out<0 ∨ (t.outs.length:Int)≤out
 ·have hV:AC t out (gi coins m).2 0=false:=by
   unfold AC;rcases h2 with h2 | h2
   ·simp;omega
   ·rw [List.getElem?_eq_none aq];simp
  refine ag (xE t m coins out h2) (by simp [AV.deep,AV.deep1,eS]) ?_;rw [hV];simp [go_sem,ah];exact aa a9 rfl
 ·obtain ⟨k,rfl⟩:∃ k:Nat,out=(k:Int):=⟨out.toNat,aq⟩;have hk:k<t.outs.length:=aq;obtain ⟨o,ho⟩:∃ o,t.outs[k]?=some o:=⟨_,cm hk⟩
  have hV:AC t k (gi coins m).2 0=decide (o.2=c.2):=by
   unfold AC;simp [ho,hca]
  rw [hV];refine ag (tX t m coins k o ho) (by simp [AV.deep,AV.deep1,eS]) ?_;simp [go_sem,hcm,eO];refine ag (gZ o.2 c.2 (hob o (cr ho)) (hcb c (cr hcm))) a9 ?_;simp [go_sem,ah];exact aa a9 rfl
theorem yw {Q:AV→Prop} {st:St} {id n:Nat} {ty:TypeId} {e:Int} (rows:List (List DV)) (hn:rows.length=n) (hb:lk id st.hp=some ⟨ty,2,rows.map (fun r=>r.map AV.d)⟩) (hr:∀ r,r ∈ rows→r.length=2) (hq:Q (.tup [.d (.ro 2 rows),.d (.int .i64 e)])):dy Q (.tup [.own id 0 n n,.d (.int .i64 e)]) st:=by
 subst hn;refine dB (cs':=[.d (.ro 2 rows),.d (.int .i64 e)]) (fun i c c' h1 h2=>?_) rfl a9 hq
 match i,h1,h2 with
 | 0,h1,h2=>simp at h1 h2;subst h1 h2;exact ak (gA hb trivial aw (by rw [List.drop_zero,cA aw];exact my _) rfl hr)
 | 1,h1,h2=>simp at h1 h2;subst h1 h2;exact bc trivial
 | k+2,h1,_=>simp at h1
theorem GY (t:Tn) (n:Int) (coins:List (Nat × List Nat)) (inner:List Nat) (ps:List (List Nat)) (x s:List Nat) (o0 o1 back:Int):∀ v,v ∈ [AV.agg (eS t n coins),cN inner ps x,.d (nb s),.agg [.d (.int .i64 o0),.d (.int .i64 o1)],.d (.int .i64 back)]→v.deep:=by
 intro v hv;simp at hv;rcases hv with rfl | rfl | rfl | rfl | rfl
 ·simp [AV.deep,AV.deep1,eS]
 ·exact oY _ _ _
 ·trivial
 ·simp [AV.deep,AV.deep1]
 ·trivial
theorem Pj (t:Tn) (n:Int) (coins:List (Nat × List Nat)) (inner:List Nat) (ps:List (List Nat)) (x s:List Nat) (o:Int):∀ v,v ∈ [AV.agg (eS t n coins),cN inner ps x,.d (nb s),.d (.int .i64 o)]→v.deep:=by
 intro v hv;simp at hv;rcases hv with rfl | rfl | rfl | rfl
 ·simp [AV.deep,AV.deep1,eS]
 ·exact oY _ _ _
 ·trivial
 ·trivial
theorem C5 (t:Tn) (n:Int) (coins:List (Nat × List Nat)) (inner:List Nat) (ps:List (List Nat)) (x s a:List Nat) (o0 o1 back e:Int) (ht:Sm t) (hc:coins.length≤1000) (hi:inner.length=32) (ha:bytes a) (hob:∀ o,o ∈ t.outs→bytes o.2) (hcb:∀ o,o ∈ coins→bytes o.2∧o.1<18446744073709551616)
  (hbk:back<9223372036854775808) (g:av Tryz.prog 46 [cN inner ps s] (fun r=>r=.tup [.d (nb a),.d (.int .i64 e)])) :
  av Tryz.prog 27 [.agg (eS t n coins),cN inner ps x,.d (nb s),.agg [.d (.int .i64 o0),.d (.int .i64 o1)],.d (.int .i64 back)] (fun r=>r=wF t n coins o0 o1 back a e):=by
 refine bK Tryz.func27 Tryz.ntmps27 (rs:=[.tmp 10,.tmp 11]) (GY _ _ _ _ _ _ _ _ _ _) ?_;have hes:(eS t n coins).length=6:=rfl;have het:List.take 6 (eS t n coins)=eS t n coins:=rfl;simp [go_sem,cN,lh hi,lS hi,hes,het];refine ag (kV t n coins ht hc) (by simp [AV.deep,AV.deep1,eS]) ?_;rcases lF t n coins with h1 | ⟨h1,hn1,hn2⟩
 ·have hV:wF t n coins o0 o1 back a e=.tup [.nil,.d (.int .i64 1)]:=by simp [wF,h1]
  rw [h1,hV];simp [go_sem,ah];exact aa a9 rfl
 ·rw [h1];obtain ⟨m,rfl⟩:∃ k:Nat,n=(k:Int):=⟨n.toNat,aq⟩;obtain ⟨c,hcm⟩:∃ o,coins[m]?=some o:=⟨_,cm (by omega:m<coins.length)⟩;have hca:gi coins m=c:=by simp [gi,hcm]
  have hcl:=(hcb c (cr hcm)).2;simp [go_sem,eS,hcm,eO,lh hi,lS hi];refine ag (GX t m coins inner ps x s a o0 e hi ha hob g) (Pj _ _ _ _ _ _ _ _) ?_;unfold wF;rw [h1,hca]
  cases hon:AC t o0 a e
  ·simp [go_sem,ah];exact aa a9 rfl
  by_cases b1:back<0
  ·simp [go_sem,b1,ah];exact aa a9 rfl
  have wb:IntKind.u64.wrap back=back:=by rw [IntWalk.u64_in _ aq]
  by_cases b2:(c.1:Int)<back
  ·simp [go_sem,b1,wb,b2,ah];exact aa a9 rfl
  have ws:IntKind.u64.wrap ((c.1:Int) - back)=(c.1:Int) - back:=by rw [IntWalk.u64_in _ aq]
  by_cases q1:o1=-1∧back=0
  ·obtain ⟨rfl,rfl⟩:=q1;have wc:IntKind.u64.wrap (c.1:Int)=(c.1:Int):=by rw [IntWalk.u64_in _ aq]
   simp [go_sem,b1,wb,b2,ws,wc,ah];exact yw [Lh o0 (c.1:Int)] rfl rfl (by simp [Lh]) rfl
  ·have gb:=AD t m coins o1 aq hob (fun o h=>(hcb o h).1);rw [hca] at gb;by_cases p1:o1=-1
   ·have p2:¬ back=0:=fun h=>q1 ⟨p1,h⟩;subst p1;by_cases q2:(-1)=o0
    ·subst q2;simp [go_sem,b1,wb,b2,ws,p2,ah];exact aa a9 rfl
    ·simp [go_sem,b1,wb,b2,ws,p2,q2];refine ag gb (by simp [AV.deep,AV.deep1,eS]) ?_
     cases hob1:AC t (-1) c.2 0
     ·simp [go_sem,b1,wb,b2,ws,p2,q2,ah];exact aa a9 rfl
     ·simp [go_sem,b1,wb,b2,ws,p2,q2,ah];exact yw [Lh o0 ((c.1:Int) - back),Lh (-1) back] rfl rfl (by simp [Lh]) rfl
   ·skip;by_cases q2:o1=o0
    ·subst q2;simp [go_sem,b1,wb,b2,ws,p1,ah];exact aa a9 rfl
    ·simp [go_sem,b1,wb,b2,ws,p1,q2];refine ag gb (by simp [AV.deep,AV.deep1,eS]) ?_
     cases hob1:AC t o1 c.2 0
     ·simp [go_sem,b1,wb,b2,ws,p1,q2,ah];exact aa a9 rfl
     ·simp [go_sem,b1,wb,b2,ws,p1,q2,ah];exact yw [Lh o0 ((c.1:Int) - back),Lh o1 back] rfl rfl (by simp [Lh]) rfl
end Go.Proofs.YtmfnimjnneflnaaGreat
namespace Go.Am
theorem Pl {P:Program} {g:FuncId} {args:List AV} {Q Q':AV→Prop} (h:av P g args Q)
  (hq:∀ r,Q r→∃ r',(∀ (w:World) (S:Nat→Prop) (σ:Nat→Option Nat) (hp:Hp) (U:Nat→Prop) (x:Value),AIs w S σ hp U r x→AIs w S σ hp U r' x)∧r'.deep∧Q' r'):av P g args Q':=by
 obtain ⟨h1,h2⟩:=h;refine ⟨h1,fun w S vs a b c=>(h2 w S vs a b c).mono fun e w' he=>?_⟩;obtain ⟨x,r,e1,q,d,r1,r3⟩:=he;obtain ⟨r',g1,g2,g3⟩:=hq r q;exact ⟨x,r',e1,g3,g2,r1,g1 _ _ _ _ _ _ r3⟩
theorem oZ {w:World} {S:Nat→Prop} {σ:Nat→Option Nat} {hp:Hp} {U:Nat→Prop} {x:Value} {v:AV} (e:Nat) (h:AIs w S σ hp U (.tup [.nil,v]) x):AIs w S σ hp U (.tup [.d (.ro e []),v]) x:=by
 cases h with
 | tup _ xs hl h =>
  refine .tup _ xs hl fun i c y h1 h2=>?_
  match i with
  | 0 =>
   simp at h1;subst h1;exact Jd e (h 0 .nil y rfl h2)
  | i+1=>exact h (i+1) c y h1 h2
end Go.Am
namespace Go.Proofs.YtmfnimjnneflnaaGreat
open Go.Am Go.Sha Go.Ec
def uF (t:Tn) (n:Int) (coins:List (Nat × List Nat)) (o0 o1 back:Int) (a:List Nat) (e:Int):List (Int × Int) × Int :=
 if cf t n coins ≠ 0 then ([],1)
 else if AC t o0 a e=false ∨ back<0 ∨ ((gi coins n).1:Int)<back then ([],24)
 else if o1=-1∧back=0 then ([(o0,((gi coins n).1:Int) - back)],0)
 else if o1=o0 ∨ AC t o1 (gi coins n).2 0=false then ([],24)
 else ([(o0,((gi coins n).1:Int) - back),(o1,back)],0)
theorem rE (t:Tn) (n:Int) (coins:List (Nat × List Nat)) (o0 o1 back:Int) (a:List Nat) (e:Int):(uF t n coins o0 o1 back a e).1.length≤2:=by
 unfold uF
 repeat' split
 all_goals simp
theorem Lj {t:Tn} {n:Int} {coins:List (Nat × List Nat)} {o0 o1 back:Int} {a:List Nat} {e:Int} {g:FuncId} {args:List AV} (h:av Tryz.prog g args (fun r=>r=wF t n coins o0 o1 back a e)) :
  av Tryz.prog g args (fun v=>v=.tup [.d (.ro 2 ((uF t n coins o0 o1 back a e).1.map dm)),.d (.int .i64 (uF t n coins o0 o1 back a e).2)]):=by
 refine Pl h ?_;rintro r rfl;refine ⟨_,?_,?_,rfl⟩
 ·intro w S σ hp U x;unfold wF uF
  split
  ·exact oZ 2
  ·split
   ·exact oZ 2
   ·split
    ·exact id
    ·split
     ·exact oZ 2
     ·exact id
 ·simp [AV.deep,AV.deep1]
theorem Ug (inner:List Nat) (ps:List (List Nat)) (x:List Nat) (hi:inner.length=32) (hib:bytes inner) (hp:∀ p,p ∈ ps→p.length=32) (hl:ps.length≤1000) (hx:x.length≤100000) :
  ∃ p:List Nat × Int,bytes p.1∧av Tryz.prog 46 [cN inner ps x] (fun r=>r=.tup [.d (nb p.1),.d (.int .i64 p.2)]):=by
 obtain ⟨k,o,e,hk,hkb,he,f1,_⟩:=GM inner ps x hi hib hp hl hx;rcases he with rfl | rfl
 ·refine ⟨(81 :: 32 :: k,0),?_,GU hi hk f1⟩;intro y hy;simp only [et] at hy;rcases hy with rfl | rfl | hy
  ·omega
  ·omega
  ·exact hkb y hy
 ·exact ⟨([],1),fun y hy=>(by cases hy),GR hi hk f1⟩
structure RnS0 (F:RnF):Prop where
 t:Sm F.t
 c:Y8 F.coins
 cb:∀ o,o ∈ F.coins→bytes o.2∧o.1<18446744073709551616
 ob:∀ o,o ∈ F.t.outs→bytes o.2
 i:F.inner.length=32
 ib:bytes F.inner
 s:F.script.length≤100000
 p:∀ p,p ∈ F.path→p.length=32
 pl:F.path.length≤1000
 a:F.annex.length≤1000
def Pm (sg:aS→aS→aS→Bool):Prop:=∀ key msg sig,key.length=32→bytes key→bytes sig→msg.length≤1000→sig.length≤1000→av Tryz.prog 156 [.agg (cb key),.d (nb msg),.d (nb sig)] (fun v=>v=.d (.bool (sg key sig msg)))
theorem Qm:∃ sg,Pm sg:=by
 have hv:∀ p:aS × aS × aS,∃ o:Bool,p.1.length=32→bytes p.1→bytes p.2.2→p.2.1.length≤1000→p.2.2.length≤1000→av Tryz.prog 156 [.agg (cb p.1),.d (nb p.2.1),.d (nb p.2.2)] (fun v=>v=.d (.bool o)):=by
  rintro ⟨key,msg,sig⟩;by_cases hc:key.length=32∧bytes key∧bytes sig∧msg.length≤1000∧sig.length≤1000
  ·obtain ⟨o,ho⟩:=GV key msg sig hc.1 hc.2.1 hc.2.2.1 hc.2.2.2.1 hc.2.2.2.2;exact ⟨o,fun _ _ _ _ _=>ho⟩
  ·exact ⟨false,fun a b c d e=>absurd ⟨a,b,c,d,e⟩ hc⟩
 obtain ⟨sg,hsg⟩:=Classical.axiomOfChoice hv;exact ⟨fun key sig msg=>sg (key,msg,sig),fun key msg sig a b c d e=>hsg (key,msg,sig) a b c d e⟩
def E4 (inner:List Nat) (ps:List (List Nat)) (out:aS→aS × Int):Prop:=∀ s:aS,s.length≤100000→bytes (out s).1∧av Tryz.prog 46 [cN inner ps s] (fun r=>r=.tup [.d (nb (out s).1),.d (.int .i64 (out s).2)])
theorem E5 (inner:List Nat) (ps:List (List Nat)) (hi:inner.length=32) (hib:bytes inner) (hp:∀ p,p ∈ ps→p.length=32) (hl:ps.length≤1000):∃ out,E4 inner ps out:=by
 have ho:∀ s:aS,∃ p:aS × Int,s.length≤100000→bytes p.1∧av Tryz.prog 46 [cN inner ps s] (fun r=>r=.tup [.d (nb p.1),.d (.int .i64 p.2)]):=by
  intro s;by_cases hs:s.length≤100000
  ·obtain ⟨p,hp⟩:=Ug inner ps s hi hib hp hl hs;exact ⟨p,fun _=>hp⟩
  ·exact ⟨([],0),fun q=>absurd q hs⟩
 obtain ⟨out,hout⟩:=Classical.axiomOfChoice ho;exact ⟨out,hout⟩
theorem Uh (F:RnF) (h:RnS0 F) {sg:aS→aS→aS→Bool} {out:aS→aS × Int} (hsg:Pm sg) (hout:E4 F.inner F.path out):∃ msg:aS,cf F.t (F.n:Int) F.coins=0 →
  ∀ x:Rx,x=⟨bo,dN,sg,msg,(F.t.lock:Int),(F.t.ver:Int),(((F.t.ins[F.n]?.map Ip.seq).getD 0:Nat):Int),O6 F.t F.n,uS F.t (F.n:Int) F.coins,fun s o0 o1 bk=>uF F.t (F.n:Int) F.coins o0 o1 bk (out s).1 (out s).2⟩→RnE F x:=by
 -- the message
 have hm:∃ q:aS,cf F.t (F.n:Int) F.coins=0→q.length=32∧bytes q∧av Tryz.prog 43 [.agg (eS F.t (F.n:Int) F.coins),.d (nb (jT F.script)),.d (nb F.annex)] (fun r=>r=.tup [.agg (cb q),.d (.int .i64 0)]):=by
  by_cases hc:cf F.t (F.n:Int) F.coins=0
  ·obtain ⟨q,hq⟩:=Pg F.t (F.n:Int) F.coins (jT F.script) F.annex h.t h.c (qP _) h.a hc;exact ⟨q,fun _=>hq⟩
  ·exact ⟨[],fun q=>absurd q hc⟩
 obtain ⟨msg,hmsg⟩:=hm;refine ⟨msg,fun hc x hx=>?_⟩;obtain ⟨m1,m2,m3⟩:=hmsg hc
 have hcx:qY F.t=0∧F.coins.length=F.t.ins.length∧(F.n:Int)<(F.coins.length:Int):=by
  unfold cf at hc
  split at hc
  ·cases hc
  ·rename_i hq;simp only [not_or,Int.not_lt,Int.not_le,ne_eq,Classical.not_not] at hq;exact ⟨hq.1,hq.2.1,hq.2.2.2.1⟩
 have hn:F.n<F.t.ins.length:=by have:=hcx.2.1;have:=hcx.2.2;omega
 have hi:=cm hn;have hio:(F.t.ins[F.n]).ok:=h.t.1.2.2.1 _ (List.getElem_mem hn);subst hx
 exact {
  hi:=h.i
  hs:=h.s
  ml:=m1
  mb:=m2
  mg:=⟨0,m3⟩
  vf:=fun key msg sig a b c d e f=>hsg key msg sig a b d e f
  tl:=aZ _
  tb:=iG _
  tg:=⟨0,Ud F.t F.n h.t hcx.1 hn⟩
  rc:=fun hh o q1 q2=>BP F.t (F.n:Int) F.coins hh o h.t (by have:=h.c.1;omega) q1
  tr:=fun s o0 o1 bk q1 q2 q3 q4=>⟨Lj (C5 F.t (F.n:Int) F.coins F.inner F.path F.script s (out s).1 o0 o1 bk (out s).2 h.t (by have:=h.c.1;omega) h.i (hout s q2).1 h.ob h.cb q4 (hout s q2).2),rE _ _ _ _ _ _ _ _⟩
  sq:=⟨F.t.ins[F.n],hi,hio,by rw [hi];rfl⟩
  lk:=⟨h.t.1.2.1,rfl⟩
  vr:=⟨h.t.1.1,rfl⟩
  hh:=⟨rfl,rfl⟩ }
end Go.Proofs.YtmfnimjnneflnaaGreat
