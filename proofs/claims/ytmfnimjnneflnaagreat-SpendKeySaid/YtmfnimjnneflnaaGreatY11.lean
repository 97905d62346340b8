/-
 Part 12 of what the claim rests on.
-/
import Derived.Test.YtmfnimjnneflnaaGreatY5
import Derived.Test.YtmfnimjnneflnaaGreatY6
import Derived.Test.YtmfnimjnneflnaaGreatY7
import Derived.Test.YtmfnimjnneflnaaGreatY10
set_option linter.unusedVariables false
set_option linter.unusedSimpArgs false
set_option maxRecDepth 100000
set_option maxHeartbeats 16000000
namespace Go.Proofs.YtmfnimjnneflnaaGreat
open Go.Am Go.Sha
def Og(sg:mh→mh→mh→Bool):Prop:=∀key msg sig:mh,key.length=32→bytes key→bytes msg→bytes sig→msg.length≤1000→sig.length≤1000→au Tryz.prog 156 [.agg (cb key),.d (nb msg),.d (nb sig)] (fun v=>v=.d (.bool (sg key sig msg)))
structure RnL(r r':Rn):Prop where
 br:r'.br=r.br
 cl:r'.cl=r.cl
 bud:r'.bud=r.bud
theorem RnL.trans{a b c:Rn}(h:RnL a b)(h2:RnL b c):RnL a c:=⟨h2.br.trans h.br,h2.cl.trans h.cl,h2.bud.trans h.bud⟩
def Ii(b:Int):Prop:=-9223372036854775808≤b∧b<9223372036854775808
structure RnE(F:RnF)(x:Rx):Prop where
 hi:F.inner.length=32
 hs:F.script.length≤100000
 ml:x.msg.length=32
 mb:bytes x.msg
 mg:∃me:Int,au Tryz.prog 43 [.agg (eS F.t (F.n:Int) F.coins),.d (nb (J1 F.script)),.d (nb F.annex)] (fun v=>v=.tup [.agg (cb x.msg),.d (.int .i64 me)])
 vf:Og x.sg
 tl:x.tpl.length=32
 tb:bytes x.tpl
 tg:∃te:Int,au Tryz.prog 18 [.agg (eT F.t),.d (.int .i64 (F.n:Int))] (fun v=>v=.tup [.agg (cb x.tpl),.d (.int .i64 te)])
 rc:∀(h:mh)(o:Int),bytes h→h.length≤1000→au Tryz.prog 234 [.agg (eS F.t (F.n:Int) F.coins),.d (nb h),.d (.int .i64 o)] (fun v=>v=Nz (x.rcv h o))
 tr:∀(s:mh)(o0 o1 back:Int),bytes s→s.length≤100000→-9223372036854775808≤back→back<9223372036854775808→au Tryz.prog 27 [.agg (eS F.t (F.n:Int) F.coins),LA F.inner F.path F.script,.d (nb s),.agg [.d (.int .i64 o0),.d (.int .i64 o1)],.d (.int .i64 back)]
  (fun v=>v=.tup [.d (.ro 2 ((x.trg s o0 o1 back).1.map bT)),.d (.int .i64 (x.trg s o0 o1 back).2)])∧(x.trg s o0 o1 back).1.length≤2
 sq:∃i:Ip,F.t.ins[F.n]?=some i∧i.ok∧x.seq=(i.seq:Int)
 lk:F.t.lock<4294967296∧x.lock=(F.t.lock:Int)
 vr:F.t.ver<4294967296∧x.ver=(F.t.ver:Int)
 hh:x.h1=bO∧x.h2=NA
theorem eW{main alt:List mh}(h:J7 main alt=0):(∀x,x∈main→x.length≤520)∧(∀x,x∈alt→x.length≤520)∧main.length+alt.length≤100:=by
 unfold J7 at h
 split at h
 ·rename_i hc;simp only[Bool.and_eq_true,d7,decide_eq_true_eq]at hc
  split at h
  ·exact⟨hc.1,hc.2,‹_›⟩
  ·simp at h
 ·simp at h
structure RnG(r r':Rn):Prop where
 st:StOk r'.main r'.alt
 bd:Ii r'.bud
 br:r'.br=r.br
 cl:r'.cl=r.cl
theorem RnG.trans{a b c:Rn}(h:RnG a b)(h2:RnG b c):RnG a c:=⟨h2.st,h2.bd,h2.br.trans h.br,h2.cl.trans h.cl⟩
structure RnOk(r:Rn)(k:Nat):Prop where
 st:StOk r.main r.alt
 bd:Ii r.bud
 br:r.br.length≤k
 cl:r.cl.length≤2*k
theorem yl(t:Tn)(n:Int)(coins:List (Nat×List Nat)):aU t n coins=0∨aU t n coins=1:=by
 rcases qk t n coins with h|h
 ·exact .inr h
 ·exact .inl h.1
theorem EC{b:List Nat}(hb:b.length=32):(List.range 32).map (fun k=>((cb b).drop k).take 1)=rb b:=by
 rw[io hb,dk]
open Go.Am Go.Sha Go.Ec
def Ij(a b d:List Nat):Nat→AV
 |0=>.nil
 |1=>.own 1192 0 a.length a.length
 |2=>.own 1192 0 (a++b).length (a++b).length
 |_=>.own 1192 0 d.length d.length
def Ik(a b d:List Nat):Nat→Hp
 |0=>[]
 |1=>[(1192,⟨5,1,rb a⟩)]
 |2=>[(1192,⟨5,1,rb (a++b)⟩)]
 |_=>[(1192,⟨5,1,rb d⟩)]
theorem uI(a b c d:List Nat)(hd:a++b++c=d)(ha:a.length=32)(hb:b.length=32)(hc:c.length≤1000000):au Tryz.prog 89 [.d (.ro 1 [[nb a],[nb b],[nb c]])] (fun r=>r=.d (nb d)):=by
 refine bu Tryz.func89 Tryz.ntmps89 (rs:=[.tmp 2]) a9 ?_;simp[go_sem]
 refine am (fun k:Nat=>⟨[(3,Ij a b d k),(6,.d (.ro 1 [[nb a],[nb b],[nb c]])),(7,.d (.int .i64 3)),(8,.d (.int .i64 (k:Int)))],Ik a b d k,Ez k⟩)
  (fun k=>k≤3) (fun k=>3-k) 0 aq (by simp[ak,ah,fv,lk,AV.low,AV.low1,Ij,Ik,Ez]) ?_
 intro k hk;simp only[go_sem,Nat.reduceEqDiff,Nat.reduceAdd,Nat.reduceLT,↓reduceIte]
 match k,hk with
 |0,_ =>
  refine⟨fun _=>?_,fun h=>absurd (by decide) h⟩;simp[go_sem,Ij,Ik,Ez,nb,dk];refine⟨by rw[aN];omega,?_⟩;have w1:IntKind.i64.wrap 1=1:=by decide
  refine aj 1 aq aq ?_;simp[ak,ah,fv,lk,AV.low,AV.low1,aN,w1];exact aK _ _
 |1,_ =>
  refine⟨fun _=>?_,fun h=>absurd (by decide) h⟩;simp[go_sem,Ij,Ik,Ez,nb,dk,aN];refine⟨aq,?_⟩;have w1:IntKind.i64.wrap 2=2:=by decide
  have ra:rb (a++b)=rb a++rb b:=by simp[rb]
  refine aj 2 aq aq ?_;simp[ak,ah,fv,lk,AV.low,AV.low1,aN,w1,ra];intro r hr;exact hr.elim (aK _ _ r) (aK _ _ r)
 |2,_ =>
  refine⟨fun _=>?_,fun h=>absurd (by decide) h⟩;have ra:rb d=rb (a++b)++rb c:=by rw[←hd];simp[rb]
  have hln:d.length=(a++b).length+c.length:=by rw[←hd];exact b_
  have hab:(a++b).length=64:=by simp[ha,hb]
  simp only[Ij,Ik];generalize a++b=e at *;simp[go_sem,Ij,Ik,Ez,nb,dk,aN];refine⟨aq,?_⟩;have w1:IntKind.i64.wrap 3=3:=by decide
  refine aj 3 aq aq ?_;simp[ak,ah,fv,lk,AV.low,AV.low1,aN,w1,ra,hln];intro r hr;exact hr.elim (aK _ _ r) (aK _ _ r)
 |3,_ =>
  refine⟨fun h=>absurd h (by decide),fun _=>?_⟩;simp only[Ij,Ik];simp[go_sem,ar];exact eU rfl (by simp[nb])
def lc:List Nat:=[66,73,80,48,51,52,48,47,99,104,97,108,108,101,110,103,101]
theorem Bt(l:List Nat):(l.map fun(b:Nat)=>[DV.int .u8 (b:Int)]).flatten=cd l:=by
 unfold cd
 induction l with
 |nil=>rfl
 |cons a l ih=>simp only[List.map_cons,List.flatten_cons,ih];rfl
theorem sP:∀l:List Nat,bm .u8 (cb l)=some (l.map fun(b:Nat)=>(b:Int))
 |[]=>rfl
 |a::l=>by
  have:=sP l;unfold cb at this⊢;simp only[List.map_cons,bm,if_true,this];rfl
theorem sQ(k m s:List Nat):∀v,v∈[AV.agg (cb k),.d (nb m),.d (nb s)]→v.deep:=by
 intro v hv;simp at hv;rcases hv with rfl|rfl|rfl
 ·exact eD _
 ·trivial
 ·trivial
end Go.Proofs.YtmfnimjnneflnaaGreat
namespace Go.Sha
def ko(i:Ip):List Nat:=i.hash++le i.idx 4
def nR(i:Ip):List Nat:=le i.seq 4
def nS(o:Nat×List Nat):List Nat:=le o.1 8
def oI(o:Nat×List Nat):List Nat:=a8 o.2
end Go.Sha
namespace Go.Proofs.YtmfnimjnneflnaaGreat
open Go.Am Go.Sha
def qW(l:List Nat):List AV:=bS (E H0 l).1++[.d (nb (E H0 l).2),.d (.int .u64 (l.length:Int))]
theorem bC(ρ:Nat→Nat)(l:List Nat):AV.renL ρ (qW l)=qW l:=by rw[qW,ed];rfl
theorem fX(n:Nat)(l:List Nat):∀v,v∈qW l→v.low1 n:=by
 intro v hv;simp[qW,bS]at hv;rcases hv with rfl|rfl|rfl|rfl|rfl|rfl|rfl|rfl|rfl|rfl<;>trivial
theorem ED(n:Nat):As n (bS H0++[.nil,.d (.int .u64 0)]) (qW []):=xP (bS H0) [.d (.int .u64 0)] (.inr (.inr ⟨.inl rfl,.inr ⟨1,rfl⟩⟩))
theorem sR{st:St}(L:Nat)(h:lk L st.hp=some ⟨167,10,[bS H0++[.nil,.d (.int .u64 0)]]⟩):Wk st ⟨st.fr,aW L ⟨167,10,[qW []]⟩ st.hp,st.nx⟩:=Ho h (by decide) (ED _)
theorem pD(l b:List Nat)(hl:l.length+b.length≤100000000000) :
  cp Tryz.prog 58 1 [(0,⟨167,10,[qW l]⟩)] [.ptr 0 0 0 1,.d (nb b)] (fun r hp'=>r=.tup []∧lk 0 hp'=some ⟨167,10,[qW (l++b)]⟩):=by
 have h:=rZ _ H0 l (cL _);have:=Hg (E H0 l).1 (.d (nb (E H0 l).2)) (E H0 l).2 b l.length (.inl rfl) aq aq;rw[←rY b l.length H0 l (cL _),←b_]at this;exact this
theorem Il(ty:TypeId)(e:Nat)(row:List AV)(l b:List Nat)(hx0:(List.range 32).map (fun k=>(row.drop k).take 1)=List.map ((fun r=>List.map AV.d r)∘fun(x:Nat)=>[DV.int .u8 (x:Int)]) b)(hlow:∀n v,v∈row→v.low1 n)(hb32:b.length=32)(hl:l.length+b.length≤100000000000) :
  cp Tryz.prog 58 2 [(0,⟨167,10,[qW l]⟩),(1,⟨ty,e,[row]⟩)] [.ptr 0 0 0 1,.sub 1 0 0 1 32 32 1] (fun r hp'=>r=.tup []∧lk 0 hp'=some ⟨167,10,[qW (l++b)]⟩∧lk 1 hp'=some ⟨ty,e,[row]⟩):=by
 have h:=rZ _ H0 l (cL _);have:=Ak ty e row (E H0 l).1 (.d (nb (E H0 l).2)) (E H0 l).2 b l.length hx0 hlow (.inl rfl) aq hb32 aq;rw[←rY b l.length H0 l (cL _),←b_]at this;exact this
theorem sS(l:List Nat)(hl:l.length≤100000000000) :
  cp Tryz.prog 60 1 [(0,⟨167,10,[qW l]⟩)] [.ptr 0 0 0 1] (fun r hp'=>r=.agg (cb (bO l))∧lk 0 hp'=some ⟨167,10,[qW l]⟩):=by
 have h:=rZ _ H0 l (cL _);exact tW (E H0 l).1 (.d (nb (E H0 l).2)) (E H0 l).2 l.length (.inl rfl) aq
theorem iC{α:Type}{f:α→List Nat}{l:List α}:[]++cM f l 0=(l.map f).flatten:=by simp[cM]
theorem wG(ρ:Nat→Nat)(i:Ip):AV.renL ρ (lK i)=lK i:=by
 unfold lK
 have:∀(l m:List AV),AV.renL ρ (l++m)=AV.renL ρ l++AV.renL ρ m:=fun l m=>by
  induction l with
  |nil=>simp[AV.renL]
  |cons a l ih=>simp[AV.renL,ih]
 rw[this,d0];rfl
theorem EE(t:Tn)(ht:Sm t):au Tryz.prog 55 [.agg (eT t)] (fun r=>r=.agg (cb (bO (t.ins.map nR).flatten))):=by
 obtain⟨⟨hv,hlk,hi,ho⟩,h1,h2,h3,h4⟩:=ht;refine bu Tryz.func55 Tryz.ntmps55 (rs:=[.cell 2 29]) (by simp[AV.deep,AV.deep1,eT]) ?_;simp[go_sem,eT];refine aR [] j7 rfl aw aw aw (by simp[AV.renL]) ?_;rintro r hp'⟨rfl,h0⟩;refine⟨[(97,0)],rfl,?_⟩;simp[go_sem,bG,bE,h0,Blk.ren,aT,ed,AV.ren,bF];clear h0 hp';generalize hR0:(t.ins.map nR).flatten=R
 refine jg (fun u:Nat×List Nat=>⟨[(2,.ptr 32 0 0 1),(3,.ptr 64 0 0 1),(8,.d (.ro 35 (t.ins.map eI))),(9,.d (.int .i64 (t.ins.length:Int))),(10,.d (.int .i64 (u.1:Int)))],[(64,⟨167,10,[qW u.2]⟩),(32,⟨29,32,[cb z32]⟩)],2000⟩)
  (fun u=>u.1≤t.ins.length∧u.2.length≤4*u.1∧u.2++cM nR t.ins u.1=R) (fun u=>t.ins.length-u.1) (0,[]) ⟨aw,aw,by rw[←hR0];exact iC⟩ ((sR 64 rfl).trans (bf (by
   simp[ak,ah,fv,lk,aW,AV.low,AV.low1]
   exact⟨fX _ _,aC _ _⟩))) ?_
 rintro⟨k,B⟩⟨hk,hBl,hR⟩;simp only at hk hBl hR;simp only[go_sem,Nat.reduceEqDiff,Nat.reduceAdd,Nat.reduceLT,↓reduceIte,Nat.reduceMul];refine⟨fun h=>?_,fun h=>?_⟩
 ·obtain⟨i,hi1,hd⟩:=aL (l:=t.ins) (k:=k) aq;obtain⟨hi32,hidx,hseq⟩:=hi i (cr hi1);have w3:=al (k:=k) aq;have hel:=lJ hi32;have hcl:=jK hi32;simp[go_sem,hi1,hel,so,hcl,jo hi32,jq,Fq hi32];refine cE [] (kS [] i.seq aw hseq) rfl (ai (.one (az (.nil 1))) (ai (.deep a9) aG)) ?_;simp[go_sem,aO];refine aR [(0,64)] (pD B (le i.seq 4) (by rw[aE];omega)) rfl aw (by simp[lk]) (by simp[lk,Blk.ren,aT,bC]) (by simp[AV.renL,AV.ren,bF,fL,lk,eC]) ?_;rintro r hp'⟨rfl,h0⟩;refine⟨[],rfl,?_⟩;simp[go_sem,bG,bE,h0,Blk.ren,aT,bC,AV.renL,AV.ren,bF,w3];refine aj (k+1,B++le i.seq 4) ⟨by simp only;omega,by simp only[b_,aE];omega,b8 hd hR⟩ (by simp only;omega) ?_;simp[ak,ah,fv,lk,AV.low,AV.low1];exact⟨fX _ _,aC _ _⟩
 ·have hkl:k=t.ins.length:=aq;subst hkl;have:=ce hR;subst this;simp[go_sem];refine aR [(0,64)] (sS B aq) rfl aw (by simp[lk]) (by simp[lk,Blk.ren,aT,bC]) (by simp[AV.renL,AV.ren,bF,fL,lk]) ?_;rintro r hp'⟨rfl,h0⟩;refine⟨[],rfl,?_⟩;have hL:=bk B;simp[go_sem,bG,bE,h0,Blk.ren,aT,bC,d0,AV.ren,bF,hL,aA hL,aV,ar];exact ag (by simp[AV.deep];exact cj _) rfl
theorem EF(t:Tn)(ht:Sm t):au Tryz.prog 130 [.agg (eT t)] (fun r=>r=.agg (cb (bO (t.ins.map ko).flatten))):=by
 obtain⟨⟨hv,hlk,hi,ho⟩,h1,h2,h3,h4⟩:=ht;refine bu Tryz.func130 Tryz.ntmps130 (rs:=[.cell 2 29]) (by simp[AV.deep,AV.deep1,eT]) ?_;simp[go_sem,eT];refine aR [] j7 rfl aw aw aw (by simp[AV.renL]) ?_;rintro r hp'⟨rfl,h0⟩;refine⟨[(97,0)],rfl,?_⟩;simp[go_sem,bG,bE,h0,Blk.ren,aT,ed,AV.ren,bF];clear h0 hp';generalize hR0:(t.ins.map ko).flatten=R
 refine jg (fun u:Nat×List Nat=>⟨[(2,.ptr 32 0 0 1),(3,.ptr 64 0 0 1),(8,.d (.ro 35 (t.ins.map eI))),(9,.d (.int .i64 (t.ins.length:Int))),(10,.d (.int .i64 (u.1:Int)))],[(64,⟨167,10,[qW u.2]⟩),(32,⟨29,32,[cb z32]⟩)],2000⟩)
  (fun u=>u.1≤t.ins.length∧u.2.length≤36*u.1∧u.2++cM ko t.ins u.1=R) (fun u=>t.ins.length-u.1) (0,[]) ⟨aw,aw,by rw[←hR0];exact iC⟩ ((sR 64 rfl).trans (bf (by
   simp[ak,ah,fv,lk,aW,AV.low,AV.low1]
   exact⟨fX _ _,aC _ _⟩))) ?_
 rintro⟨k,B⟩⟨hk,hBl,hR⟩;simp only at hk hBl hR;simp only[go_sem,Nat.reduceEqDiff,Nat.reduceAdd,Nat.reduceLT,↓reduceIte,Nat.reduceMul];refine⟨fun h=>?_,fun h=>?_⟩
 ·obtain⟨i,hi1,hd⟩:=aL (l:=t.ins) (k:=k) aq;obtain⟨hi32,hidx,hseq⟩:=hi i (cr hi1);have w3:=al (k:=k) aq;have hel:=lJ hi32;have hcl:=jK hi32;have hx:(List.range 32).map (fun k=>((lK i).drop k).take 1)=List.map ((fun r=>List.map AV.d r)∘fun(x:Nat)=>[DV.int .u8 (x:Int)]) i.hash:=by rw[sr hi32];simp[rb,Function.comp_def]
  simp[go_sem,hi1,hel,so,hcl,jo hi32,jq];refine aR [(0,64),(1,2096)] (Il 68 35 (lK i) B i.hash hx (fun n=>D2 n i) hi32 aq) rfl aw (by simp[lk]) (by simp[lk,Blk.ren,aT,bC,wG]) (by simp[AV.renL,AV.ren,bF,fL,lk]) ?_;rintro r hp'⟨rfl,h0,h1⟩;refine⟨[],rfl,?_⟩;have hBl2:(B++i.hash).length=B.length+32:=by rw[b_,hi32]
  have hB3:B++ko i=B++i.hash++le i.idx 4:=by simp[ko]
  generalize B++i.hash=B1 at *;simp[go_sem,bG,bE,h0,h1,Blk.ren,aT,bC,wG,AV.renL,AV.ren,bF,hcl,Fp hi32];clear h0 h1 hp';refine cE [] (kS [] i.idx aw hidx) rfl (ai (.one (az (.nil 1))) (ai (.deep a9) aG)) ?_;simp[go_sem,aO];refine aR [(0,64)] (pD B1 (le i.idx 4) (by rw[aE];omega)) rfl aw (by simp[lk]) (by simp[lk,Blk.ren,aT,bC]) (by simp[AV.renL,AV.ren,bF,fL,lk,eC]) ?_;rintro r hp'⟨rfl,h0⟩;refine⟨[],rfl,?_⟩;rw[←hB3]at h0;have hB4:(B++ko i).length=B1.length+4:=by rw[hB3,b_,aE]
  simp[go_sem,bG,bE,h0,Blk.ren,aT,bC,AV.renL,AV.ren,bF,w3];refine aj (k+1,B++ko i) ⟨by simp only;omega,by simp only;omega,b8 hd hR⟩ (by simp only;omega) ?_;simp[ak,ah,fv,lk,AV.low,AV.low1];exact⟨fX _ _,aC _ _⟩
 ·have hkl:k=t.ins.length:=aq;subst hkl;have:=ce hR;subst this;simp[go_sem];refine aR [(0,64)] (sS B aq) rfl aw (by simp[lk]) (by simp[lk,Blk.ren,aT,bC]) (by simp[AV.renL,AV.ren,bF,fL,lk]) ?_;rintro r hp'⟨rfl,h0⟩;refine⟨[],rfl,?_⟩;have hL:=bk B;simp[go_sem,bG,bE,h0,Blk.ren,aT,bC,d0,AV.ren,bF,hL,aA hL,aV,ar];exact ag (by simp[AV.deep];exact cj _) rfl
theorem Bv(os:List (Nat×List Nat))(hn:os.length≤8)(ho:∀o,o∈os→o.1<18446744073709551616∧o.2.length≤1100):au Tryz.prog 56 [.d (.ro 2 (os.map eO))] (fun r=>r=.agg (cb (bO (os.map dS).flatten))):=by
 refine bu Tryz.func56 Tryz.ntmps56 (rs:=[.cell 2 29]) a9 ?_;simp[go_sem];refine aR [] j7 rfl aw aw aw (by simp[AV.renL]) ?_;rintro r hp'⟨rfl,h0⟩;refine⟨[(97,0)],rfl,?_⟩;simp[go_sem,bG,bE,h0,Blk.ren,aT,ed,AV.ren,bF];clear h0 hp';generalize hR0:(os.map dS).flatten=R
 refine jg (fun u:Nat×List Nat=>⟨[(2,.ptr 0 0 0 1),(3,.ptr 32 0 0 1),(7,.d (.ro 2 (os.map eO))),(8,.d (.int .i64 (os.length:Int))),(9,.d (.int .i64 (u.1:Int)))],[(32,⟨167,10,[qW u.2]⟩),(0,⟨29,32,[cb z32]⟩)],2000⟩)
  (fun u=>u.1≤os.length∧u.2.length≤1200*u.1∧u.2++cM dS os u.1=R) (fun u=>os.length-u.1) (0,[]) ⟨aw,aw,by rw[←hR0];exact iC⟩ ((sR 32 rfl).trans (bf (by
   simp[ak,ah,fv,lk,aW,AV.low,AV.low1]
   exact⟨fX _ _,aC _ _⟩))) ?_
 rintro⟨k,B⟩⟨hk,hBl,hR⟩;simp only at hk hBl hR;simp only[go_sem,Nat.reduceEqDiff,Nat.reduceAdd,Nat.reduceLT,↓reduceIte,Nat.reduceMul];refine⟨fun h=>?_,fun h=>?_⟩
 ·obtain⟨o,ho1,hd⟩:=aL (l:=os) (k:=k) aq;obtain⟨ho64,hol⟩:=ho o (cr ho1);have w3:=al (k:=k) aq;have hbl:=bz o.2.length;have hbb:(a8 o.2).length=(ao o.2.length).length+o.2.length:=by simp[a8]
  simp[go_sem,ho1,eO];refine cE [] (nB [] o.1 aw ho64) rfl (ai (.one (az (.nil 1))) (ai (.deep a9) aG)) ?_;simp[go_sem,aO];refine aR [(0,32)] (pD B (le o.1 8) (by rw[aE];omega)) rfl aw (by simp[lk]) (by simp[lk,Blk.ren,aT,bC]) (by simp[AV.renL,AV.ren,bF,fL,lk,eC]) ?_;rintro r hp'⟨rfl,h0⟩;refine⟨[],rfl,?_⟩;have hBl2:(B++le o.1 8).length=B.length+8:=by rw[b_,aE]
  have hB3:B++dS o=B++le o.1 8++a8 o.2:=by simp[dS]
  generalize B++le o.1 8=B1 at *;simp[go_sem,bG,bE,h0,Blk.ren,aT,bC,AV.renL,AV.ren,bF];clear h0 hp';refine cE [] (fG [] o.2 aw aq) rfl (ai (.one (az (.nil 1))) (ai (.deep a9) aG)) ?_;simp[go_sem,aO];refine aR [(0,32)] (pD B1 (a8 o.2) aq) rfl aw (by simp[lk]) (by simp[lk,Blk.ren,aT,bC]) (by simp[AV.renL,AV.ren,bF,fL,lk,nb,a8]) ?_;rintro r hp'⟨rfl,h0⟩;refine⟨[],rfl,?_⟩;rw[←hB3]at h0;have hB4:(B++dS o).length=B1.length+(a8 o.2).length:=by rw[hB3,b_]
  simp[go_sem,bG,bE,h0,Blk.ren,aT,bC,AV.renL,AV.ren,bF,w3];refine aj (k+1,B++dS o) ⟨by simp only;omega,by simp only;omega,b8 hd hR⟩ (by simp only;omega) ?_;simp[ak,ah,fv,lk,AV.low,AV.low1];exact⟨fX _ _,aC _ _⟩
 ·have hkl:k=os.length:=aq;subst hkl;have:=ce hR;subst this;simp[go_sem];refine aR [(0,32)] (sS B aq) rfl aw (by simp[lk]) (by simp[lk,Blk.ren,aT,bC]) (by simp[AV.renL,AV.ren,bF,fL,lk]) ?_;rintro r hp'⟨rfl,h0⟩;refine⟨[],rfl,?_⟩;have hL:=bk B;simp[go_sem,bG,bE,h0,Blk.ren,aT,bC,d0,AV.ren,bF,hL,aA hL,aV,ar];exact ag (by simp[AV.deep];exact cj _) rfl
end Go.Proofs.YtmfnimjnneflnaaGreat
namespace Go.Sha
def cK:List Nat:=[84,97,112,83,105,103,104,97,115,104]
end Go.Sha
namespace Go.Proofs.YtmfnimjnneflnaaGreat
open Go.Am Go.Sha
theorem Bw(os:List (Nat×List Nat))(hn:os.length≤8)(ho:∀o,o∈os→o.1<18446744073709551616∧o.2.length≤1100):au Tryz.prog 83 [.d (.ro 2 (os.map eO))] (fun r=>r=.tup [.agg (cb (bO (os.map nS).flatten)),.agg (cb (bO (os.map oI).flatten))]):=by
 refine bu Tryz.func83 Tryz.ntmps83 (rs:=[.cell 2 29,.cell 3 29]) a9 ?_;simp[go_sem];refine aR [] j7 rfl aw aw aw (by simp[AV.renL]) ?_;rintro r hp'⟨rfl,h0⟩;refine⟨[(97,0)],rfl,?_⟩;simp[go_sem,bG,bE,h0,Blk.ren,aT,ed,AV.ren,bF];clear h0 hp';refine aR [] j7 rfl aw aw aw (by simp[AV.renL]) ?_;rintro r hp'⟨rfl,h0⟩;refine⟨[(97,0)],rfl,?_⟩;simp[go_sem,bG,bE,h0,Blk.ren,aT,ed,AV.ren,bF];clear h0 hp';generalize hV0:(os.map nS).flatten=V;generalize hS0:(os.map oI).flatten=S
 refine jg (fun u:Nat×List Nat×List Nat=>⟨[(2,.ptr 0 0 0 1),(3,.ptr 32 0 0 1),(4,.ptr 64 0 0 1),(5,.ptr 96 0 0 1),(10,.d (.ro 2 (os.map eO))),(11,.d (.int .i64 (os.length:Int))),(12,.d (.int .i64 (u.1:Int)))],
   [(96,⟨167,10,[qW u.2.2]⟩),(64,⟨167,10,[qW u.2.1]⟩),(32,⟨29,32,[cb z32]⟩),(0,⟨29,32,[cb z32]⟩)],2000⟩)
  (fun u=>u.1≤os.length∧(u.2.1.length≤8*u.1∧u.2.2.length≤1200*u.1)∧u.2.1++cM nS os u.1=V∧u.2.2++cM oI os u.1=S) (fun u=>os.length-u.1) (0,[],[]) ⟨aw,aw,by rw[←hV0];exact iC,by rw[←hS0];exact iC⟩
  ((sR 64 rfl).trans ((sR 96 rfl).trans (bf (by
   simp[ak,ah,fv,lk,aW,AV.low,AV.low1]
   exact⟨fX _ _,aC _ _⟩)))) ?_
 rintro⟨k,A,B⟩⟨hk,⟨hAl,hBl⟩,hV,hS⟩;simp only at hk hAl hBl hV hS;simp only[go_sem,Nat.reduceEqDiff,Nat.reduceAdd,Nat.reduceLT,↓reduceIte,Nat.reduceMul];refine⟨fun h=>?_,fun h=>?_⟩
 ·obtain⟨o,ho1,hd⟩:=aL (l:=os) (k:=k) aq;obtain⟨ho64,hol⟩:=ho o (cr ho1);have w3:=al (k:=k) aq;have hbl:=bz o.2.length;have hbb:(a8 o.2).length=(ao o.2.length).length+o.2.length:=by simp[a8]
  simp[go_sem,ho1,eO];refine cE [] (nB [] o.1 aw ho64) rfl (ai (.one (az (.nil 1))) (ai (.deep a9) aG)) ?_;simp[go_sem,aO];refine aR [(0,64)] (pD A (le o.1 8) (by rw[aE];omega)) rfl aw (by simp[lk]) (by simp[lk,Blk.ren,aT,bC]) (by simp[AV.renL,AV.ren,bF,fL,lk,eC]) ?_;rintro r hp'⟨rfl,h0⟩;refine⟨[],rfl,?_⟩;have hA2:(A++nS o).length=A.length+8:=by rw[b_,nS,aE]
  rw[show A++le o.1 8=A++nS o from rfl]at h0;simp[go_sem,bG,bE,h0,Blk.ren,aT,bC,AV.renL,AV.ren,bF];clear h0 hp';refine cE [] (fG [] o.2 aw aq) rfl (ai (.one (az (.nil 1))) (ai (.deep a9) aG)) ?_;simp[go_sem,aO];refine aR [(0,96)] (pD B (a8 o.2) aq) rfl aw (by simp[lk]) (by simp[lk,Blk.ren,aT,bC]) (by simp[AV.renL,AV.ren,bF,fL,lk,nb,a8]) ?_;rintro r hp'⟨rfl,h0⟩;refine⟨[],rfl,?_⟩;have hB4:(B++oI o).length=B.length+(a8 o.2).length:=by rw[b_];rfl
  rw[show B++a8 o.2=B++oI o from rfl]at h0;simp[go_sem,bG,bE,h0,Blk.ren,aT,bC,AV.renL,AV.ren,bF,w3];refine aj (k+1,A++nS o,B++oI o) ⟨by simp only;omega,⟨by simp only;omega,by simp only;omega⟩,b8 hd hV,b8 hd hS⟩ (by simp only;omega) ?_;simp[ak,ah,fv,lk,AV.low,AV.low1];exact⟨fX _ _,fX _ _,aC _ _⟩
 ·have hkl:k=os.length:=aq;subst hkl;have:=ce hV;subst this;have:=ce hS;subst this;have hLA:=bk A;have hLB:=bk B;simp[go_sem];refine aR [(0,64)] (sS A aq) rfl aw (by simp[lk]) (by simp[lk,Blk.ren,aT,bC]) (by simp[AV.renL,AV.ren,bF,fL,lk]) ?_;rintro r hp'⟨rfl,h0⟩;refine⟨[],rfl,?_⟩;simp[go_sem,bG,bE,h0,Blk.ren,aT,bC,d0,AV.ren,bF];clear h0 hp';refine aR [(0,96)] (sS B aq) rfl aw (by simp[lk]) (by simp[lk,Blk.ren,aT,bC]) (by simp[AV.renL,AV.ren,bF,fL,lk]) ?_;rintro r hp'⟨rfl,h0⟩;refine⟨[],rfl,?_⟩;simp[go_sem,bG,bE,h0,Blk.ren,aT,bC,d0,AV.ren,bF,hLA,hLB,aA hLA,aA hLB,aV,ar]
  exact ag (by
   intro c hc;simp at hc;rcases hc with rfl|rfl
   ·exact .inr ⟨_,rfl,cj _⟩
   ·exact .inr ⟨_,rfl,cj _⟩) rfl
theorem qL(t:Tn):∀v,v∈[AV.agg (eT t)]→v.deep:=by simp[AV.deep,AV.deep1,eT]
def Im:List Nat:=List.replicate 96 0
theorem Io:ek Tryz.prog 139=some (cb Im):=by kernel_rfl
def wH:List Nat:=List.replicate 160 0
theorem EG:ek Tryz.prog 143=some (cb wH):=by kernel_rfl
attribute [go_sem] Io EG
theorem sT:Im.length=96:=rfl
theorem lQ:List.drop 96 (cb Im)=[]:=rfl
theorem pE:wH.length=160:=by simp[wH]
theorem uJ:List.drop 160 (cb wH)=[]:=c_ (by rw[ap,pE];exact cL _)
theorem uK{A Z:List AV}{n m:Nat}(hA:A.length=n)(hm:n≤m):List.drop m (A++List.drop n Z)=List.drop m Z:=by
 rw[List.drop_append,c_ aq,List.nil_append,List.drop_drop,hA,show n+(m-n)=m by omega]
theorem lg{A B Z:List AV}{n m:Nat}(hA:A.length=n)(hm:n≤m):List.take n (A++List.drop n Z)++(B++List.drop m (A++List.drop n Z))=A++B++List.drop m Z:=by
 rw[uK hA hm];subst hA;rw[List.take_left,cA]
theorem nT(a b:List Nat):cb (a++b)=cb a++cb b:=by simp[cb]
theorem Bz(t:Tn)(ht:Sm t):au Tryz.prog 82 [.agg (eT t)] (fun r=>r=.agg (cb (bO (t.ins.map ko).flatten++(bO (t.ins.map nR).flatten++bO (t.outs.map dS).flatten)))):=by
 refine bu Tryz.func82 Tryz.ntmps82 (rs:=[.cell 2 139]) (qL t) ?_;have p1:=EF t ht;have p2:=EE t ht;have p3:=Bv t.outs (by have:=ht.2.2.1;omega) (fun o h=>⟨ht.1.2.2.2 o h,by have:=ht.2.2.2.1 o h;omega⟩);have l1:=bk (t.ins.map ko).flatten;have l2:=bk (t.ins.map nR).flatten;have l3:=bk (t.outs.map dS).flatten;generalize bO (t.ins.map ko).flatten=a at *;generalize bO (t.ins.map nR).flatten=b at *;generalize bO (t.outs.map dS).flatten=c at *;have hT:eT t=[.d (.int .u32 (t.ver:Int)),.d (.ro 35 (t.ins.map eI)),.d (.ro 2 (t.outs.map eO)),.d (.int .u32 (t.lock:Int))]:=rfl;have hd:=qL t;rw[hT]at p1 p2 hd;simp[go_sem,eT];refine cQ [0,2,4,5] [(1,[]),(3,[]),(6,[7]),(8,[])] 3 (k:=9) ?_;intro G hG;simp[go_sem];refine ae p1 hd ?_;simp[go_sem];refine ae p2 hd ?_;simp[go_sem];refine ae p3 a9 ?_;simp[go_sem,ap,l1,l2,l3,sT,lQ];rw[uK (A:=cb a) (n:=32) (by rw[ap,l1]) aq,←cA (cb a),lg (A:=cb a++cb b) (n:=64) (by simp[ap,l1,l2]) aq,lQ,List.append_nil];refine hG _ _ ?_;clear hG G;have hL:(cb a++cb b++cb c).length=96:=by simp[ap,l1,l2,l3]
 have hT2:List.take 96 (cb a++cb b++cb c)=cb a++cb b++cb c:=cx aq;have hE:cb (a++(b++c))=cb a++cb b++cb c:=by rw[nT,nT,cA]
 have hD:=cj (a++(b++c));rw[hE]at hD;rw[hE];generalize cb a++cb b++cb c=R at *;simp[go_sem,hL,hT2,ar];exact ag hD rfl
end Go.Proofs.YtmfnimjnneflnaaGreat
