/-
 Part 19 of what the claim rests on.
-/
import Derived.Test.YtldccnbokbieiaaGreatO2
import Derived.Test.YtldccnbokbieiaaGreatO17
set_option linter.unusedVariables false
set_option linter.unusedSimpArgs false
set_option maxRecDepth 100000
set_option maxHeartbeats 16000000
namespace Go.Sha
def SJ (i:Ip):List Nat:=i.hash ++ le i.idx 4
def TC (i:Ip):List Nat:=le i.seq 4
def UA (o:Nat × List Nat):List Nat:=le o.1 8
def TD (o:Nat × List Nat):List Nat:=F2 o.2
end Go.Sha
namespace Go.Proofs.YtldccnbokbieiaaGreat
open Go.Am Go.Sha
def hsC (l:List Nat):List AV:=I2 (E H0 l).1 ++ [.d (nb (E H0 l).2),.d (.int .u64 (l.length:Int))]
theorem F4 (ρ:Nat→Nat) (l:List Nat):AV.renL ρ (hsC l)=hsC l:=by rw [hsC,RR];rfl
theorem TE (n:Nat) (l:List Nat):∀ v,v ∈ hsC l→v.low1 n:=by
 intro v hv;simp [hsC,I2] at hv;rcases hv with rfl | rfl | rfl | rfl | rfl | rfl | rfl | rfl | rfl | rfl <;> trivial
theorem ap9 (n:Nat):alp n (I2 H0 ++ [.nil,.d (.int .u64 0)]) (hsC []):=aja (I2 H0) [.d (.int .u64 0)] (.inr (.inr ⟨.inl rfl,.inr ⟨1,rfl⟩⟩))
theorem afV {st:St} (L:Nat) (h:lk L st.hp=some ⟨188,10,[I2 H0 ++ [.nil,.d (.int .u64 0)]]⟩):Wk st ⟨st.fr,y5 L ⟨188,10,[hsC []]⟩ st.hp,st.nx⟩:=asc h (by decide) (ap9 _)
theorem acD (l b:List Nat) (hl:l.length+b.length≤100000000000) :
  I1 Tryz.prog 118 1 [(0,⟨188,10,[hsC l]⟩)] [.ptr 0 0 0 1,.d (nb b)] (fun r hp'=>r=.tup []∧lk 0 hp'=some ⟨188,10,[hsC (l ++ b)]⟩):=by
 have h:=aeJ _ H0 l (av _);have:=ase (E H0 l).1 (.d (nb (E H0 l).2)) (E H0 l).2 b l.length (.inl rfl) aa aa;rw [← aeI b l.length H0 l (av _),← aj] at this;exact this
theorem atx (ty:TypeId) (e:Nat) (row:List AV) (l b:List Nat) (hx0:(List.range 32).map (fun k=>(row.drop k).take 1)=List.map ((fun r=>List.map AV.d r) ∘ fun (x:Nat)=>[DV.int .u8 (x:Int)]) b) (hlow:∀ n v,v ∈ row→v.low1 n) (hb32:b.length=32) (hl:l.length+b.length≤100000000000) :
  I1 Tryz.prog 118 2 [(0,⟨188,10,[hsC l]⟩),(1,⟨ty,e,[row]⟩)] [.ptr 0 0 0 1,.sub 1 0 0 1 32 32 1] (fun r hp'=>r=.tup []∧lk 0 hp'=some ⟨188,10,[hsC (l ++ b)]⟩∧lk 1 hp'=some ⟨ty,e,[row]⟩):=by
 have h:=aeJ _ H0 l (av _);have:=alw ty e row (E H0 l).1 (.d (nb (E H0 l).2)) (E H0 l).2 b l.length hx0 hlow (.inl rfl) aa hb32 aa;rw [← aeI b l.length H0 l (av _),← aj] at this;exact this
theorem afW (l:List Nat) (hl:l.length≤100000000000) :
  I1 Tryz.prog 119 1 [(0,⟨188,10,[hsC l]⟩)] [.ptr 0 0 0 1] (fun r hp'=>r=.agg (cb (z7 l))∧lk 0 hp'=some ⟨188,10,[hsC l]⟩):=by
 have h:=aeJ _ H0 l (av _);exact agq (E H0 l).1 (.d (nb (E H0 l).2)) (E H0 l).2 l.length (.inl rfl) aa
theorem O4 {α:Type} {f:α→List Nat} {l:List α}:[] ++ I5 f l 0=(l.map f).flatten:=by simp [I5]
theorem aiM (ρ:Nat→Nat) (i:Ip):AV.renL ρ (Zb i)=Zb i:=by
 unfold Zb
 have:∀ (l m:List AV),AV.renL ρ (l ++ m)=AV.renL ρ l ++ AV.renL ρ m:=fun l m=>by
  induction l with
  | nil=>simp [AV.renL]
  | cons a l ih=>simp [AV.renL,ih]
 rw [this,O5];rfl
theorem aqa (t:Tn) (ht:Sm t):m6 Tryz.prog 148 [.agg (eT t)] (fun r=>r=.agg (cb (z7 (t.ins.map TC).flatten))):=by
 obtain ⟨⟨hv,hlk,hi,ho⟩,h1,h2,h3,h4⟩:=ht;refine t6 Tryz.func148 Tryz.ntmps148 (rs:=[.cell 2 23]) (by simp [AV.deep,AV.deep1,eT]) ?_;simp [go_sem,eT];refine A3 [] Xh rfl ab ab ab (by simp [AV.renL]) ?_;rintro r hp' ⟨rfl,h0⟩;refine ⟨[(97,0)],rfl,?_⟩;simp [go_sem,D8,C8,h0,Blk.ren,x7,RR,AV.ren,D9];clear h0 hp';generalize hR0:(t.ins.map TC).flatten=R
 refine Sb (fun u:Nat × List Nat=>⟨[(2,.ptr 32 0 0 1),(3,.ptr 64 0 0 1),(8,.d (.ro 35 (t.ins.map eI))),(9,.d (.int .i64 (t.ins.length:Int))),(10,.d (.int .i64 (u.1:Int)))],[(64,⟨188,10,[hsC u.2]⟩),(32,⟨23,32,[cb z32]⟩)],2000⟩)
  (fun u=>u.1≤t.ins.length∧u.2.length≤4*u.1∧u.2 ++ I5 TC t.ins u.1=R) (fun u=>t.ins.length - u.1) (0,[]) ⟨ab,ab,by rw [← hR0];exact O4⟩ ((afV 64 rfl).trans (E5 (by
   simp [m7,c6,fv,lk,y5,AV.low,AV.low1]
   exact ⟨TE _ _,o5 _ _⟩))) ?_
 rintro ⟨k,B⟩ ⟨hk,hBl,hR⟩;simp only at hk hBl hR;simp only [go_sem,Nat.reduceEqDiff,Nat.reduceAdd,Nat.reduceLT,↓reduceIte,Nat.reduceMul];refine ⟨fun h=>?_,fun h=>?_⟩
 ·obtain ⟨i,hi1,hd⟩:=t5 (l:=t.ins) (k:=k) aa;obtain ⟨hi32,hidx,hseq⟩:=hi i (ao hi1);have w3:=j6 (k:=k) aa;have hel:=XD hi32;have hcl:=WX hi32;simp [go_sem,hi1,hel,afT,hcl,Wi hi32,Wj,aqS hi32];refine u7 [] (Ys [] i.seq ab hseq) rfl (c7 (.one (d9 (.nil 1))) (c7 (.deep ae) n7)) ?_;simp [go_sem,p9];refine A3 [(0,64)] (acD B (le i.seq 4) (by rw [r9];omega)) rfl ab (by simp [lk]) (by simp [lk,Blk.ren,x7,F4]) (by simp [AV.renL,AV.ren,D9,Tg,lk,Sg]) ?_;rintro r hp' ⟨rfl,h0⟩;refine ⟨[],rfl,?_⟩;simp [go_sem,D8,C8,h0,Blk.ren,x7,F4,AV.renL,AV.ren,D9,w3];refine c8 (k+1,B ++ le i.seq 4) ⟨by simp only;omega,by simp only [aj,r9];omega,E7 hd hR⟩ (by simp only;omega) ?_;simp [m7,c6,fv,lk,AV.low,AV.low1];exact ⟨TE _ _,o5 _ _⟩
 ·have hkl:k=t.ins.length:=aa;subst hkl;have:=E8 hR;subst this;simp [go_sem];refine A3 [(0,64)] (afW B aa) rfl ab (by simp [lk]) (by simp [lk,Blk.ren,x7,F4]) (by simp [AV.renL,AV.ren,D9,Tg,lk]) ?_;rintro r hp' ⟨rfl,h0⟩;refine ⟨[],rfl,?_⟩;have hL:=s8 B;simp [go_sem,D8,C8,h0,Blk.ren,x7,F4,O5,AV.ren,D9,hL,d6 hL,s9,d7];exact b7 (by simp [AV.deep];exact r6 _) rfl
theorem aqb (t:Tn) (ht:Sm t):m6 Tryz.prog 147 [.agg (eT t)] (fun r=>r=.agg (cb (z7 (t.ins.map SJ).flatten))):=by
 obtain ⟨⟨hv,hlk,hi,ho⟩,h1,h2,h3,h4⟩:=ht;refine t6 Tryz.func147 Tryz.ntmps147 (rs:=[.cell 2 23]) (by simp [AV.deep,AV.deep1,eT]) ?_;simp [go_sem,eT];refine A3 [] Xh rfl ab ab ab (by simp [AV.renL]) ?_;rintro r hp' ⟨rfl,h0⟩;refine ⟨[(97,0)],rfl,?_⟩;simp [go_sem,D8,C8,h0,Blk.ren,x7,RR,AV.ren,D9];clear h0 hp';generalize hR0:(t.ins.map SJ).flatten=R
 refine Sb (fun u:Nat × List Nat=>⟨[(2,.ptr 32 0 0 1),(3,.ptr 64 0 0 1),(8,.d (.ro 35 (t.ins.map eI))),(9,.d (.int .i64 (t.ins.length:Int))),(10,.d (.int .i64 (u.1:Int)))],[(64,⟨188,10,[hsC u.2]⟩),(32,⟨23,32,[cb z32]⟩)],2000⟩)
  (fun u=>u.1≤t.ins.length∧u.2.length≤36*u.1∧u.2 ++ I5 SJ t.ins u.1=R) (fun u=>t.ins.length - u.1) (0,[]) ⟨ab,ab,by rw [← hR0];exact O4⟩ ((afV 64 rfl).trans (E5 (by
   simp [m7,c6,fv,lk,y5,AV.low,AV.low1]
   exact ⟨TE _ _,o5 _ _⟩))) ?_
 rintro ⟨k,B⟩ ⟨hk,hBl,hR⟩;simp only at hk hBl hR;simp only [go_sem,Nat.reduceEqDiff,Nat.reduceAdd,Nat.reduceLT,↓reduceIte,Nat.reduceMul];refine ⟨fun h=>?_,fun h=>?_⟩
 ·obtain ⟨i,hi1,hd⟩:=t5 (l:=t.ins) (k:=k) aa;obtain ⟨hi32,hidx,hseq⟩:=hi i (ao hi1);have w3:=j6 (k:=k) aa;have hel:=XD hi32;have hcl:=WX hi32;have hx:(List.range 32).map (fun k=>((Zb i).drop k).take 1)=List.map ((fun r=>List.map AV.d r) ∘ fun (x:Nat)=>[DV.int .u8 (x:Int)]) i.hash:=by rw [afU hi32];simp [rb,Function.comp_def]
  simp [go_sem,hi1,hel,afT,hcl,Wi hi32,Wj];refine A3 [(0,64),(1,2096)] (atx 139 35 (Zb i) B i.hash hx (fun n=>ap7 n i) hi32 aa) rfl ab (by simp [lk]) (by simp [lk,Blk.ren,x7,F4,aiM]) (by simp [AV.renL,AV.ren,D9,Tg,lk]) ?_;rintro r hp' ⟨rfl,h0,h1⟩;refine ⟨[],rfl,?_⟩;have hBl2:(B ++ i.hash).length=B.length+32:=by rw [aj,hi32]
  have hB3:B ++ SJ i=B ++ i.hash ++ le i.idx 4:=by simp [SJ]
  generalize B ++ i.hash=B1 at *;simp [go_sem,D8,C8,h0,h1,Blk.ren,x7,F4,aiM,AV.renL,AV.ren,D9,hcl,aqR hi32];clear h0 h1 hp';refine u7 [] (Ys [] i.idx ab hidx) rfl (c7 (.one (d9 (.nil 1))) (c7 (.deep ae) n7)) ?_;simp [go_sem,p9];refine A3 [(0,64)] (acD B1 (le i.idx 4) (by rw [r9];omega)) rfl ab (by simp [lk]) (by simp [lk,Blk.ren,x7,F4]) (by simp [AV.renL,AV.ren,D9,Tg,lk,Sg]) ?_;rintro r hp' ⟨rfl,h0⟩;refine ⟨[],rfl,?_⟩;rw [← hB3] at h0;have hB4:(B ++ SJ i).length=B1.length+4:=by rw [hB3,aj,r9]
  simp [go_sem,D8,C8,h0,Blk.ren,x7,F4,AV.renL,AV.ren,D9,w3];refine c8 (k+1,B ++ SJ i) ⟨by simp only;omega,by simp only;omega,E7 hd hR⟩ (by simp only;omega) ?_;simp [m7,c6,fv,lk,AV.low,AV.low1];exact ⟨TE _ _,o5 _ _⟩
 ·have hkl:k=t.ins.length:=aa;subst hkl;have:=E8 hR;subst this;simp [go_sem];refine A3 [(0,64)] (afW B aa) rfl ab (by simp [lk]) (by simp [lk,Blk.ren,x7,F4]) (by simp [AV.renL,AV.ren,D9,Tg,lk]) ?_;rintro r hp' ⟨rfl,h0⟩;refine ⟨[],rfl,?_⟩;have hL:=s8 B;simp [go_sem,D8,C8,h0,Blk.ren,x7,F4,O5,AV.ren,D9,hL,d6 hL,s9,d7];exact b7 (by simp [AV.deep];exact r6 _) rfl
theorem anx (os:List (Nat × List Nat)) (hn:os.length≤8) (ho:∀ o,o ∈ os→o.1<18446744073709551616∧o.2.length≤1100):m6 Tryz.prog 149 [.d (.ro 2 (os.map eO))] (fun r=>r=.agg (cb (z7 (os.map J4).flatten))):=by
 refine t6 Tryz.func149 Tryz.ntmps149 (rs:=[.cell 2 23]) ae ?_;simp [go_sem];refine A3 [] Xh rfl ab ab ab (by simp [AV.renL]) ?_;rintro r hp' ⟨rfl,h0⟩;refine ⟨[(97,0)],rfl,?_⟩;simp [go_sem,D8,C8,h0,Blk.ren,x7,RR,AV.ren,D9];clear h0 hp';generalize hR0:(os.map J4).flatten=R
 refine Sb (fun u:Nat × List Nat=>⟨[(2,.ptr 0 0 0 1),(3,.ptr 32 0 0 1),(7,.d (.ro 2 (os.map eO))),(8,.d (.int .i64 (os.length:Int))),(9,.d (.int .i64 (u.1:Int)))],[(32,⟨188,10,[hsC u.2]⟩),(0,⟨23,32,[cb z32]⟩)],2000⟩)
  (fun u=>u.1≤os.length∧u.2.length≤1200*u.1∧u.2 ++ I5 J4 os u.1=R) (fun u=>os.length - u.1) (0,[]) ⟨ab,ab,by rw [← hR0];exact O4⟩ ((afV 32 rfl).trans (E5 (by
   simp [m7,c6,fv,lk,y5,AV.low,AV.low1]
   exact ⟨TE _ _,o5 _ _⟩))) ?_
 rintro ⟨k,B⟩ ⟨hk,hBl,hR⟩;simp only at hk hBl hR;simp only [go_sem,Nat.reduceEqDiff,Nat.reduceAdd,Nat.reduceLT,↓reduceIte,Nat.reduceMul];refine ⟨fun h=>?_,fun h=>?_⟩
 ·obtain ⟨o,ho1,hd⟩:=t5 (l:=os) (k:=k) aa;obtain ⟨ho64,hol⟩:=ho o (ao ho1);have w3:=j6 (k:=k) aa;have hbl:=y9 o.2.length;have hbb:(F2 o.2).length=(m8 o.2.length).length+o.2.length:=by simp [F2]
  simp [go_sem,ho1,eO];refine u7 [] (abi [] o.1 ab ho64) rfl (c7 (.one (d9 (.nil 1))) (c7 (.deep ae) n7)) ?_;simp [go_sem,p9];refine A3 [(0,32)] (acD B (le o.1 8) (by rw [r9];omega)) rfl ab (by simp [lk]) (by simp [lk,Blk.ren,x7,F4]) (by simp [AV.renL,AV.ren,D9,Tg,lk,Sg]) ?_;rintro r hp' ⟨rfl,h0⟩;refine ⟨[],rfl,?_⟩;have hBl2:(B ++ le o.1 8).length=B.length+8:=by rw [aj,r9]
  have hB3:B ++ J4 o=B ++ le o.1 8 ++ F2 o.2:=by simp [J4]
  generalize B ++ le o.1 8=B1 at *;simp [go_sem,D8,C8,h0,Blk.ren,x7,F4,AV.renL,AV.ren,D9];clear h0 hp';refine u7 [] (RS [] o.2 ab aa) rfl (c7 (.one (d9 (.nil 1))) (c7 (.deep ae) n7)) ?_;simp [go_sem,p9];refine A3 [(0,32)] (acD B1 (F2 o.2) aa) rfl ab (by simp [lk]) (by simp [lk,Blk.ren,x7,F4]) (by simp [AV.renL,AV.ren,D9,Tg,lk,nb,F2]) ?_;rintro r hp' ⟨rfl,h0⟩;refine ⟨[],rfl,?_⟩;rw [← hB3] at h0;have hB4:(B ++ J4 o).length=B1.length+(F2 o.2).length:=by rw [hB3,aj]
  simp [go_sem,D8,C8,h0,Blk.ren,x7,F4,AV.renL,AV.ren,D9,w3];refine c8 (k+1,B ++ J4 o) ⟨by simp only;omega,by simp only;omega,E7 hd hR⟩ (by simp only;omega) ?_;simp [m7,c6,fv,lk,AV.low,AV.low1];exact ⟨TE _ _,o5 _ _⟩
 ·have hkl:k=os.length:=aa;subst hkl;have:=E8 hR;subst this;simp [go_sem];refine A3 [(0,32)] (afW B aa) rfl ab (by simp [lk]) (by simp [lk,Blk.ren,x7,F4]) (by simp [AV.renL,AV.ren,D9,Tg,lk]) ?_;rintro r hp' ⟨rfl,h0⟩;refine ⟨[],rfl,?_⟩;have hL:=s8 B;simp [go_sem,D8,C8,h0,Blk.ren,x7,F4,O5,AV.ren,D9,hL,d6 hL,s9,d7];exact b7 (by simp [AV.deep];exact r6 _) rfl
end Go.Proofs.YtldccnbokbieiaaGreat
namespace Go.Sha
def Ss:List Nat:=[84,97,112,83,105,103,104,97,115,104]
def aj1 (t:Tn) (n:Nat) (coins:List (Nat × List Nat)) (h:List Nat):List Nat :=
 [0,0] ++ le t.ver 4 ++ le t.lock 4 ++ z7 (t.ins.map SJ).flatten ++ z7 (coins.map UA).flatten ++ z7 (coins.map TD).flatten ++ z7 (t.ins.map TC).flatten ++ z7 (t.outs.map J4).flatten ++ [2] ++ le n 4 ++ h ++ [0] ++ le 4294967295 4
end Go.Sha
namespace Go.Proofs.YtldccnbokbieiaaGreat
open Go.Am Go.Sha
theorem anz (os:List (Nat × List Nat)) (hn:os.length≤8) (ho:∀ o,o ∈ os→o.1<18446744073709551616∧o.2.length≤1100):m6 Tryz.prog 111 [.d (.ro 2 (os.map eO))] (fun r=>r=.tup [.agg (cb (z7 (os.map UA).flatten)),.agg (cb (z7 (os.map TD).flatten))]):=by
 refine t6 Tryz.func111 Tryz.ntmps111 (rs:=[.cell 2 23,.cell 3 23]) ae ?_;simp [go_sem];refine A3 [] Xh rfl ab ab ab (by simp [AV.renL]) ?_;rintro r hp' ⟨rfl,h0⟩;refine ⟨[(97,0)],rfl,?_⟩;simp [go_sem,D8,C8,h0,Blk.ren,x7,RR,AV.ren,D9];clear h0 hp';refine A3 [] Xh rfl ab ab ab (by simp [AV.renL]) ?_;rintro r hp' ⟨rfl,h0⟩;refine ⟨[(97,0)],rfl,?_⟩;simp [go_sem,D8,C8,h0,Blk.ren,x7,RR,AV.ren,D9];clear h0 hp';generalize hV0:(os.map UA).flatten=V;generalize hS0:(os.map TD).flatten=S
 refine Sb (fun u:Nat × List Nat × List Nat=>⟨[(2,.ptr 0 0 0 1),(3,.ptr 32 0 0 1),(4,.ptr 64 0 0 1),(5,.ptr 96 0 0 1),(10,.d (.ro 2 (os.map eO))),(11,.d (.int .i64 (os.length:Int))),(12,.d (.int .i64 (u.1:Int)))],
   [(96,⟨188,10,[hsC u.2.2]⟩),(64,⟨188,10,[hsC u.2.1]⟩),(32,⟨23,32,[cb z32]⟩),(0,⟨23,32,[cb z32]⟩)],2000⟩)
  (fun u=>u.1≤os.length∧(u.2.1.length≤8*u.1∧u.2.2.length≤1200*u.1)∧u.2.1 ++ I5 UA os u.1=V∧u.2.2 ++ I5 TD os u.1=S) (fun u=>os.length - u.1) (0,[],[]) ⟨ab,ab,by rw [← hV0];exact O4,by rw [← hS0];exact O4⟩
  ((afV 64 rfl).trans ((afV 96 rfl).trans (E5 (by
   simp [m7,c6,fv,lk,y5,AV.low,AV.low1]
   exact ⟨TE _ _,o5 _ _⟩)))) ?_
 rintro ⟨k,A,B⟩ ⟨hk,⟨hAl,hBl⟩,hV,hS⟩;simp only at hk hAl hBl hV hS;simp only [go_sem,Nat.reduceEqDiff,Nat.reduceAdd,Nat.reduceLT,↓reduceIte,Nat.reduceMul];refine ⟨fun h=>?_,fun h=>?_⟩
 ·obtain ⟨o,ho1,hd⟩:=t5 (l:=os) (k:=k) aa;obtain ⟨ho64,hol⟩:=ho o (ao ho1);have w3:=j6 (k:=k) aa;have hbl:=y9 o.2.length;have hbb:(F2 o.2).length=(m8 o.2.length).length+o.2.length:=by simp [F2]
  simp [go_sem,ho1,eO];refine u7 [] (abi [] o.1 ab ho64) rfl (c7 (.one (d9 (.nil 1))) (c7 (.deep ae) n7)) ?_;simp [go_sem,p9];refine A3 [(0,64)] (acD A (le o.1 8) (by rw [r9];omega)) rfl ab (by simp [lk]) (by simp [lk,Blk.ren,x7,F4]) (by simp [AV.renL,AV.ren,D9,Tg,lk,Sg]) ?_;rintro r hp' ⟨rfl,h0⟩;refine ⟨[],rfl,?_⟩;have hA2:(A ++ UA o).length=A.length+8:=by rw [aj,UA,r9]
  rw [show A ++ le o.1 8=A ++ UA o from rfl] at h0;simp [go_sem,D8,C8,h0,Blk.ren,x7,F4,AV.renL,AV.ren,D9];clear h0 hp';refine u7 [] (RS [] o.2 ab aa) rfl (c7 (.one (d9 (.nil 1))) (c7 (.deep ae) n7)) ?_;simp [go_sem,p9];refine A3 [(0,96)] (acD B (F2 o.2) aa) rfl ab (by simp [lk]) (by simp [lk,Blk.ren,x7,F4]) (by simp [AV.renL,AV.ren,D9,Tg,lk,nb,F2]) ?_;rintro r hp' ⟨rfl,h0⟩;refine ⟨[],rfl,?_⟩;have hB4:(B ++ TD o).length=B.length+(F2 o.2).length:=by rw [aj];rfl
  rw [show B ++ F2 o.2=B ++ TD o from rfl] at h0;simp [go_sem,D8,C8,h0,Blk.ren,x7,F4,AV.renL,AV.ren,D9,w3];refine c8 (k+1,A ++ UA o,B ++ TD o) ⟨by simp only;omega,⟨by simp only;omega,by simp only;omega⟩,E7 hd hV,E7 hd hS⟩ (by simp only;omega) ?_;simp [m7,c6,fv,lk,AV.low,AV.low1];exact ⟨TE _ _,TE _ _,o5 _ _⟩
 ·have hkl:k=os.length:=aa;subst hkl;have:=E8 hV;subst this;have:=E8 hS;subst this;have hLA:=s8 A;have hLB:=s8 B;simp [go_sem];refine A3 [(0,64)] (afW A aa) rfl ab (by simp [lk]) (by simp [lk,Blk.ren,x7,F4]) (by simp [AV.renL,AV.ren,D9,Tg,lk]) ?_;rintro r hp' ⟨rfl,h0⟩;refine ⟨[],rfl,?_⟩;simp [go_sem,D8,C8,h0,Blk.ren,x7,F4,O5,AV.ren,D9];clear h0 hp';refine A3 [(0,96)] (afW B aa) rfl ab (by simp [lk]) (by simp [lk,Blk.ren,x7,F4]) (by simp [AV.renL,AV.ren,D9,Tg,lk]) ?_;rintro r hp' ⟨rfl,h0⟩;refine ⟨[],rfl,?_⟩;simp [go_sem,D8,C8,h0,Blk.ren,x7,F4,O5,AV.ren,D9,hLA,hLB,d6 hLA,d6 hLB,s9,d7]
  exact b7 (by
   intro c hc;simp at hc;rcases hc with rfl | rfl
   ·exact .inr ⟨_,rfl,r6 _⟩
   ·exact .inr ⟨_,rfl,r6 _⟩) rfl
theorem Yu (t:Tn):∀ v,v ∈ [AV.agg (eT t)]→v.deep:=by simp [AV.deep,AV.deep1,eT]
def anA:List Nat:=List.replicate 96 0
theorem aty:O6 Tryz.prog 148=some (cb anA):=by kernel_rfl
def aiN:List Nat:=List.replicate 160 0
theorem aqc:O6 Tryz.prog 152=some (cb aiN):=by kernel_rfl
attribute [go_sem] aty aqc
theorem Te:anA.length=96:=rfl
theorem TQ:List.drop 96 (cb anA)=[]:=rfl
theorem acE:aiN.length=160:=by simp [aiN]
theorem ahi:List.drop 160 (cb aiN)=[]:=az (by rw [d0,acE];exact av _)
theorem ad5 {A Z:List AV} {n m:Nat} (hA:A.length=n) (hm:n≤m):List.drop m (A ++ List.drop n Z)=List.drop m Z:=by
 rw [List.drop_append,az aa,List.nil_append,List.drop_drop,hA,show n+(m - n)=m by omega]
theorem Wl {A B Z:List AV} {n m:Nat} (hA:A.length=n) (hm:n≤m):List.take n (A ++ List.drop n Z) ++ (B ++ List.drop m (A ++ List.drop n Z))=A ++ B ++ List.drop m Z:=by
 rw [ad5 hA hm];subst hA;rw [List.take_left,ar]
theorem Vx (a b:List Nat):cb (a ++ b)=cb a ++ cb b:=by simp [cb]
theorem anB (t:Tn) (ht:Sm t):m6 Tryz.prog 110 [.agg (eT t)] (fun r=>r=.agg (cb (z7 (t.ins.map SJ).flatten ++ (z7 (t.ins.map TC).flatten ++ z7 (t.outs.map J4).flatten)))):=by
 refine t6 Tryz.func110 Tryz.ntmps110 (rs:=[.cell 2 148]) (Yu t) ?_;have p1:=aqb t ht;have p2:=aqa t ht;have p3:=anx t.outs (by have:=ht.2.2.1;omega) (fun o h=>⟨ht.1.2.2.2 o h,by have:=ht.2.2.2.1 o h;omega⟩);have l1:=s8 (t.ins.map SJ).flatten;have l2:=s8 (t.ins.map TC).flatten;have l3:=s8 (t.outs.map J4).flatten;generalize z7 (t.ins.map SJ).flatten=a at *;generalize z7 (t.ins.map TC).flatten=b at *;generalize z7 (t.outs.map J4).flatten=c at *;have hT:eT t=[.d (.int .u32 (t.ver:Int)),.d (.ro 35 (t.ins.map eI)),.d (.ro 2 (t.outs.map eO)),.d (.int .u32 (t.lock:Int))]:=rfl;have hd:=Yu t;rw [hT] at p1 p2 hd;simp [go_sem,eT];refine B7 [0,2,4,5] [(1,[]),(3,[]),(6,[7]),(8,[])] 3 (k:=9) ?_;intro G hG;simp [go_sem];refine a9 p1 hd ?_;simp [go_sem];refine a9 p2 hd ?_;simp [go_sem];refine a9 p3 ae ?_;simp [go_sem,d0,l1,l2,l3,Te,TQ];rw [ad5 (A:=cb a) (n:=32) (by rw [d0,l1]) aa,← ar (cb a),Wl (A:=cb a ++ cb b) (n:=64) (by simp [d0,l1,l2]) aa,TQ,List.append_nil];refine hG _ _ ?_;clear hG G;have hL:(cb a ++ cb b ++ cb c).length=96:=by simp [d0,l1,l2,l3]
 have hT2:List.take 96 (cb a ++ cb b ++ cb c)=cb a ++ cb b ++ cb c:=aq aa;have hE:cb (a ++ (b ++ c))=cb a ++ cb b ++ cb c:=by rw [Vx,Vx,ar]
 have hD:=r6 (a ++ (b ++ c));rw [hE] at hD;rw [hE];generalize cb a ++ cb b ++ cb c=R at *;simp [go_sem,hL,hT2,d7];exact b7 hD rfl
def okC (coins:List (Nat × List Nat)):Prop:=coins.length≤8∧∀ o,o ∈ coins→o.1<18446744073709551616∧o.2.length≤1100
def afX (t:Tn) (n:Int) (coins:List (Nat × List Nat)) (h:List Nat):AV :=
 if N5 t n coins=0 then .tup [.agg (cb (G9 Ss (aj1 t n.toNat coins h))),.d (.int .i64 0)] else .tup [.agg (cb z32),.d (.int .i64 1)]
theorem acF (t:Tn) (n:Int) (coins:List (Nat × List Nat)):∀ v,v ∈ [AV.agg (eS t n coins)]→v.deep:=by simp [AV.deep,AV.deep1,eS]
theorem aqU (t:Tn) (n:Int) (coins:List (Nat × List Nat)) (h:List Nat):∀ v,v ∈ [AV.agg (eS t n coins),.d (nb h),.nil]→v.deep:=by simp [AV.deep,AV.deep1,eS]
theorem awh {a b c d e:List Nat} (k:Nat) (hk:k<5) (ha:a.length=32) (hb:b.length=32) (hc:c.length=32) (hd:d.length=32) (he:e.length=32) :
  List.take 32 (List.drop (k*32) (cb a ++ cb b ++ cb c ++ cb d ++ cb e))=cb ([a,b,c,d,e].getD k []):=by
 have ha':(cb a).length=32:=by rw [d0,ha]
 have hb':(cb b).length=32:=by rw [d0,hb]
 have hc':(cb c).length=32:=by rw [d0,hc]
 have hd':(cb d).length=32:=by rw [d0,hd]
 have he':(cb e).length=32:=by rw [d0,he]
 have mid:∀ (A B C:List AV) (m:Nat),A.length=m→B.length=32→List.take 32 (List.drop m (A ++ (B ++ C)))=B:=by
  intro A B C m hA hB;subst hA;rw [List.drop_left,← hB,List.take_left]
 match k,hk with
 | 0,_=>simpa using mid [] (cb a) (cb b ++ cb c ++ cb d ++ cb e) 0 rfl ha'
 | 1,_=>simpa using mid (cb a) (cb b) (cb c ++ cb d ++ cb e) 32 aa hb'
 | 2,_=>simpa using mid (cb a ++ cb b) (cb c) (cb d ++ cb e) 64 (by simp [ha',hb']) hc'
 | 3,_=>simpa using mid (cb a ++ cb b ++ cb c) (cb d) (cb e) 96 (by simp [ha',hb',hc']) hd'
 | 4,_=>simpa using mid (cb a ++ cb b ++ cb c ++ cb d) (cb e) [] 128 (by simp [ha',hb',hc',hd']) he'
theorem atz (t:Tn) (n:Int) (coins:List (Nat × List Nat)) (h:List Nat) (ht:Sm t) (hc:okC coins) (hl:h.length=32) (n1:-9223372036854775808≤n) (n2:n<9223372036854775808) :
    m6 Tryz.prog 84 [.agg (eS t n coins),.d (nb h),.nil] (fun r=>r=afX t n coins h):=by
  refine t6 Tryz.func84 Tryz.ntmps84 (rs:=[.cell 6 23,.tmp 7]) (aqU t n coins h) ?_;have hck:=ajZ t n coins ht (by have:=hc.1;omega);have hd1:=acF t n coins;unfold afX;by_cases c0:N5 t n coins=0
  · rw [if_pos c0]
    rw [c0] at hck
    have hn:0≤n∧n<coins.length:=by
      unfold N5 at c0
      split at c0
      · cases c0
      · rename_i hx
        simp only [not_or,Int.not_lt,Int.not_le] at hx;exact ⟨hx.2.2.1,hx.2.2.2.1⟩
    obtain ⟨m,rfl⟩:∃ m:Nat,n=(m:Int):=⟨n.toNat,aa⟩;rw [Int.toNat_natCast];obtain ⟨hv,hlk,hi,ho⟩:=ht.1;have p1:=anB t ht;have p2:=anz coins hc.1 hc.2;have hmsg:aj1 t m coins h=[0,0] ++ le t.ver 4 ++ le t.lock 4 ++ z7 (t.ins.map SJ).flatten ++ z7 (coins.map UA).flatten ++ z7 (coins.map TD).flatten ++ z7 (t.ins.map TC).flatten ++ z7 (t.outs.map J4).flatten ++ [2] ++ le m 4 ++ h ++ [0] ++ le 4294967295 4:=rfl;generalize aj1 t m coins h=M at *;have l1:=s8 (t.ins.map SJ).flatten;have l2:=s8 (t.ins.map TC).flatten;have l3:=s8 (t.outs.map J4).flatten;have l4:=s8 (coins.map UA).flatten;have l5:=s8 (coins.map TD).flatten;generalize z7 (t.ins.map SJ).flatten=a at *;generalize z7 (t.ins.map TC).flatten=b at *;generalize z7 (t.outs.map J4).flatten=c at *;generalize z7 (coins.map UA).flatten=x at *;generalize z7 (coins.map TD).flatten=y at *;have hT:=Yu t;simp only [eT,eS] at hT hck hd1 p1;have hL:(cb a ++ cb b ++ cb c).length=96:=by simp [d0,l1,l2,l3]
    have hT2:List.take 96 (cb a ++ cb b ++ cb c)=cb a ++ cb b ++ cb c:=aq aa;have hE:cb (a ++ (b ++ c))=cb a ++ cb b ++ cb c:=by rw [Vx,Vx,ar]
    rw [hE] at p1;simp [go_sem,eS];refine a9 hck hd1 ?_;simp [go_sem,hl,nb];refine J5 [512] (SI [0,0] t.ver ab hv) rfl (c7 (.one (d9 (n9 (L:=[0,0]) rfl rfl ab))) (c7 (.deep ae) n7)) (fun ρ=>by simp [AV.renL,AV.ren]) ?_;rintro r hp' ⟨I,rfl,h0⟩;refine ⟨[(I,0)],by simp [M4,RG],?_⟩;generalize hA1:[0,0] ++ le t.ver 4=A1 at *;have hA1l:A1.length=6:=by rw [← hA1];simp [r9]
    simp [go_sem,D8,C8,h0,Blk.ren,x7,C7,AV.renL,AV.ren,D9,p9];clear h0 hp';refine J5 [640] (SI A1 t.lock aa hlk) rfl (c7 (.one (d9 (n9 rfl rfl ab))) (c7 (.deep ae) n7)) (fun ρ=>by simp [AV.renL,AV.ren]) ?_;rintro r hp' ⟨I,rfl,h0⟩;refine ⟨[(I,0)],by simp [M4,RG],?_⟩;generalize hA2:A1 ++ le t.lock 4=A2 at *;have hA2l:A2.length=10:=by rw [← hA2];simp [r9,hA1l]
    simp [go_sem,D8,C8,h0,Blk.ren,x7,C7,AV.renL,AV.ren,D9,p9];clear h0 hp';have r0:List.take 32 (cb a ++ cb b ++ cb c)=cb a:=by rw [ar,← l1,← d0 a,List.take_left]
    have r1:List.take 32 (List.drop 32 (cb a ++ cb b ++ cb c))=cb b:=by rw [ar,show List.drop 32 (cb a ++ (cb b ++ cb c))=cb b ++ cb c by rw [← l1,← d0 a,List.drop_left],← l2,← d0 b,List.take_left]
    have r2:List.take 32 (List.drop 64 (cb a ++ cb b ++ cb c))=cb c:=by
      rw [show List.drop 64 (cb a ++ cb b ++ cb c)=cb c by rw [show 64=(cb a ++ cb b).length by simp [d0,l1,l2],List.drop_left]];exact d6 l3
    generalize hR:cb a ++ cb b ++ cb c=R at *;refine a9 p1 hT ?_;simp [go_sem,hL,hT2,Te,d0,TQ];refine a9 p2 ae ?_;simp [go_sem,d0,l1,l2,l3,l4,l5,d6 l4,d6 l5,s9,hL,r0,r1,r2,acE];rw [ad5 (A:=cb a) (n:=32) (m:=64) (by rw [d0,l1]) aa,← ar (cb a) (cb x),Wl (A:=cb a ++ cb x) (n:=64) (m:=96) (by simp [d0,l1,l4]) aa,Wl (A:=cb a ++ cb x ++ cb y) (n:=96) (m:=128) (by simp [d0,l1,l4,l5]) aa,Wl (A:=cb a ++ cb x ++ cb y ++ cb b) (n:=128) (m:=160) (by simp [d0,l1,l4,l5,l2]) aa,ahi,List.append_nil];have hF:=fun k hk=>awh (a:=a) (b:=x) (c:=y) (d:=b) (e:=c) k hk l1 l4 l5 l2 l3;have hG:cb a ++ cb x ++ cb y ++ cb b ++ cb c=cb (a ++ x ++ y ++ b ++ c):=by simp [Vx]
    have hGl:(a ++ x ++ y ++ b ++ c).length=160:=by simp [l1,l4,l5,l2,l3]
    rw [hG] at hF ⊢
    have hW:∀ k,k<5→([a,x,y,b,c].getD k []).length=32:=by
      intro k hk
      match k,hk with
      | 0,_=>exact l1
      | 1,_=>exact l4
      | 2,_=>exact l5
      | 3,_=>exact l2
      | 4,_=>exact l3
    have hS:∀ k,k<5→([a,x,y,b,c].take (k+1)).flatten=([a,x,y,b,c].take k).flatten ++ [a,x,y,b,c].getD k []:=by
      intro k hk
      match k,hk with
      | 0,_=>simp
      | 1,_=>simp
      | 2,_=>simp
      | 3,_=>simp
      | 4,_=>simp
    have hfin:A2 ++ a ++ x ++ y ++ b ++ c=A2 ++ ([a,x,y,b,c].take 5).flatten:=by simp
    rw [hfin] at hmsg;clear hfin;generalize a ++ x ++ y ++ b ++ c=G at *;generalize [a,x,y,b,c]=HS at *
    refine j9 (fun u:Nat × List Nat=>⟨[(1,.d (nb h)),(2,.nil),(3,.ptr 0 0 0 1),(6,.ptr 32 0 0 1),(8,.own 832 0 u.2.length u.2.length),(57,.agg (cb G)),(58,.d (.int .i64 (u.1:Int)))],
        [(832,⟨5,1,rb u.2⟩),(32,⟨23,32,[cb z32]⟩),(0,⟨59,6,[eS t m coins]⟩)],3000⟩)
      (fun u=>u.1≤5∧u.2.length=10+32*u.1∧u.2=A2 ++ (HS.take u.1).flatten) (fun u=>5 - u.1) (0,A2) ⟨ab,by simp;omega,ab⟩ (by
        simp [m7,c6,fv,lk,AV.low,AV.low1,nb,eS]
        exact ⟨o5 _ _,s7 _ _,o5 _ _⟩) ?_
    rintro ⟨k,B⟩ ⟨hk,hBl,hB⟩;simp only at hk hBl hB;simp only [eS];simp only [go_sem,Nat.reduceEqDiff,Nat.reduceAdd,Nat.reduceLT,↓reduceIte,Nat.reduceMul];refine ⟨fun hlt=>?_,fun hlt=>?_⟩
    · have hk5:k<5:=aa
      have hw:=hW k hk5;have hs:=hS k hk5;have hf:=hF k hk5;have w3:=j6 (k:=k) aa;have g1:32≤G.length - k*32:=aa;generalize HS.getD k []=w at *;have hx:=(K4 hw).trans (E6 w);simp [go_sem] at hx;simp [go_sem,hk5,hf,g1,d0,hw,s9,hx,o6,RI,w3];refine ⟨aa,aa,?_⟩;refine c8 (k+1,B ++ w) ⟨by simp only;omega,by simp only [aj,hw];omega,by simp only;rw [hs,hB,ar]⟩ (by simp only;omega) ?_;simp [m7,c6,fv,lk,AV.low,AV.low1,nb,eS,hw];exact ⟨o5 _ _,s7 _ _,o5 _ _⟩
    · have hk5:k=5:=aa
      subst hk5;rw [← hB] at hmsg;have wn:IntKind.u32.wrap (m:Int)=(m:Int):=by rw [aoI];have:=hc.1;omega
      have hn8:m<4294967296:=by have:=hc.1;omega
      simp [go_sem,hl,nb];have hb2:bits BinOp.or IntKind.u8 0 2=2:=by decide
      have hB1l:(B ++ [2]).length=B.length+1:=by simp
      have hB2l:(B ++ [2] ++ le m 4).length=B.length+5:=by simp [r9]
      generalize hB2:B ++ [2] ++ le m 4=B2 at *;refine C4 [0,1] [2,3,4,5,6,7,8] [0,1] (.alt (ah 2 (.alt (ag [3,4,5,6,7,8]) (ah 4 (.alt (ag [3,5,6,7,8]) (ah 5 (.alt (ag [3,6,7,8]) (ah 6 (ag [3,7,8])))))))) (ah 4 (.alt (ah 2 (.alt (ag [3,5,6,7,8]) (ah 5 (.alt (ag [3,6,7,8]) (ah 6 (ag [3,7,8])))))) (ah 5 (.alt (ah 2 (.alt (ag [3,6,7,8]) (ah 6 (ag [3,7,8])))) (ah 6 (ah 2 (ag [3,7,8])))))))) ⟨[(1,.d (nb h)),(2,.nil),(3,.ptr 0 0 0 1),(6,.ptr 32 0 0 1),(8,.own 3576 0 B2.length B2.length)],[(3576,⟨5,1,rb B2⟩),(32,⟨23,32,[cb z32]⟩)],6000⟩ (k:=9) ?h3 ?hq
      case h3 =>
        intro G hG
        have hW:∀ (fr:Fr) (hp:Hp),(fv 1 fr=.d (nb h)∧fv 2 fr=.nil∧fv 3 fr=.ptr 0 0 0 1∧fv 6 fr=.ptr 32 0 0 1∧fv 8 fr=.own 3576 0 B2.length B2.length∧lk 3576 hp=some ⟨5,1,rb B2⟩∧lk 32 hp=some ⟨23,32,[cb z32]⟩)→G fr hp:=by
          rintro fr hp ⟨q0,q1,q2,q3,q4,q5,q6⟩;refine hG _ _ (E5 ⟨?_,?_,ab⟩)
          · simp [c6,AV.low,AV.low1,q0,q1,q2,q3,q4,nb]
          · simp [q5,q6]
            exact ⟨s7 _ _,o5 _ _⟩
        have hrb:rb B ++ [[AV.d (DV.int IntKind.u8 2)]]=rb (B ++ [2]):=by simp [rb]
        have hp:=SI (B ++ [2]) m (by rw [hB1l];omega) hn8;rw [hB2] at hp;simp [go_sem,wn,hb2,o6,hrb]
        repeat' apply And.intro
        all_goals first
          | omega
          | (refine J5 [832] hp rfl (c7 (.one (d9 (n9 hB1l rfl ab))) (c7 (.deep ae) n7)) (fun ρ=>by simp [AV.renL,AV.ren]) ?_
             rintro r hp' ⟨I,rfl,h0⟩;refine ⟨[(I,0)],by simp [M4,RG],?_⟩;simp [go_sem,D8,C8,h0,Blk.ren,x7,C7,AV.renL,AV.ren,D9,p9];refine hW _ _ ?_
             simp [fv,lk,nb])
      case hq =>
        simp [go_sem,hl,nb,o6];have hrb3:rb B2 ++ (List.map ((fun r=>List.map AV.d r) ∘ fun (b:Nat)=>[DV.int IntKind.u8 (b:Int)]) h ++ [[AV.d (DV.int IntKind.u8 0)]])=rb (B2 ++ h ++ [0]):=by simp [rb]
        have hB3l:(B2 ++ h ++ [0]).length=B2.length+32+1:=by simp [hl]
        rw [hrb3];refine ⟨aa,aa,?_⟩;generalize B2 ++ h ++ [0]=B3 at *;have hp:=SI B3 4294967295 aa aa;rw [← hmsg] at hp;have hMl:M.length≤1000:=by rw [hmsg,aj,r9];omega
        refine J5 [3576] hp rfl (c7 (.one (d9 (n9 hB3l rfl ab))) (c7 (.deep ae) n7)) (fun ρ=>by simp [AV.renL,AV.ren]) ?_;rintro r hp' ⟨I,rfl,h0⟩;refine ⟨[(I,0)],by simp [M4,RG],?_⟩;simp [go_sem,D8,C8,h0,Blk.ren,x7,C7,AV.renL,AV.ren,D9,p9];clear h0 hp';refine u7 [6416] (TG Ss _ rfl M (by simp [Ss]) aa) rfl (c7 (.deep ae) (c7 (.one (d9 (n9 rfl rfl ab))) n7)) ?_;have hR:=s8 (z7 Ss ++ (z7 Ss ++ M));have hR':(G9 Ss M).length=32:=hR;generalize G9 Ss M=S at *;simp [go_sem,p9,hR',d0,d6 hR',s9,d7]
        exact b7 (by
          intro c hc;simp only [aF,List.mem_nil_iff,or_false] at hc;rcases hc with rfl | rfl
          · exact .inr ⟨_,rfl,r6 _⟩
          · exact .inl trivial) rfl
  · rw [if_neg c0]
    simp only [eS] at hck hd1;simp [go_sem,eS];refine a9 hck hd1 ?_;simp [go_sem,c0,d0,s9,d6 (show z32.length=32 from rfl),d7]
    exact b7 (by
      intro c hc;simp only [aF,List.mem_nil_iff,or_false] at hc;rcases hc with rfl | rfl
      · exact .inr ⟨_,rfl,r6 _⟩
      · exact .inl trivial) rfl
def aj2 (t:Tn):Prop:=(∀ o,o ∈ t.outs→bytes o.2)∧∀ i,i ∈ t.ins→bytes i.hash
theorem Tf {α:Type} {f:α→List Nat} {l:List α} (h:∀ x,x ∈ l→bytes (f x)):bytes (l.map f).flatten:=by
 intro y hy;obtain ⟨m,hm,hy⟩:=List.mem_flatten.1 hy;obtain ⟨x,hx,rfl⟩:=List.mem_map.1 hm;exact h x hx y hy
theorem ahj {i:Ip} (h:bytes i.hash):bytes (SJ i):=G0 h (ZC _ _)
theorem ahk (i:Ip):bytes (TC i):=ZC _ _
theorem ahl {o:Nat × List Nat} (h:bytes o.2):bytes (TD o):=G0 (WA _) h
theorem ahm {o:Nat × List Nat} (h:bytes o.2):bytes (J4 o):=G0 (ZC _ _) (G0 (WA _) h)
theorem aj3 (t:Tn) (ht:Sm t) (hb:aj2 t):m6 Tryz.prog 114 [.agg (eT t)] (fun r=>r=.agg (cb (z7 (t.ins.map SJ).flatten ++ (z7 (t.ins.map TC).flatten ++ z7 (t.outs.map J4).flatten)))):=by
 refine t6 Tryz.func114 Tryz.ntmps114 (rs:=[.cell 2 148]) (Yu t) ?_;have b1:bytes (t.ins.map SJ).flatten:=Tf fun i hi=>ahj (hb.2 i hi);have b2:bytes (t.ins.map TC).flatten:=Tf fun i _=>ahk i;have b3:bytes (t.outs.map J4).flatten:=Tf fun o ho=>ahm (hb.1 o ho);obtain ⟨⟨hv,hlk,hi,ho⟩,h1,h2,h3,h4⟩:=ht;simp [go_sem,eT];generalize hR1:(t.ins.map SJ).flatten=R1 at *;generalize hR2:(t.ins.map TC).flatten=R2 at *;generalize hR3:(t.outs.map J4).flatten=R3 at *
 refine j9 (fun u:Nat × List Nat × List Nat=>⟨[(1,.ptr 0 0 0 1),(2,.ptr 32 0 0 1),(3,.own 64 0 u.2.1.length u.2.1.length),(4,.own 96 0 u.2.2.length u.2.2.length),(5,.own 128 0 0 0),(6,.d (.int .i64 (u.1:Int)))],
   [(128,⟨5,1,[]⟩),(96,⟨5,1,rb u.2.2⟩),(64,⟨5,1,rb u.2.1⟩),(32,⟨148,96,[cb anA]⟩),(0,⟨57,4,[eT t]⟩)],2000⟩)
  (fun u=>u.1≤t.ins.length∧(u.2.1.length≤36*u.1∧u.2.2.length≤4*u.1)∧u.2.1 ++ I5 SJ t.ins u.1=R1∧u.2.2 ++ I5 TC t.ins u.1=R2) (fun u=>t.ins.length - u.1) (0,[],[]) ⟨ab,ab,by rw [← hR1];exact O4,by rw [← hR2];exact O4⟩ (by
   simp [m7,c6,fv,lk,AV.low,AV.low1,eT]
   and_intros <;> first | exact s7 _ _ | exact o5 _ _ | exact Te | rfl | simp [rb]) ?_
 rintro ⟨k,A,B⟩ ⟨hk,⟨hAl,hBl⟩,hA,hB⟩;simp only at hk hAl hBl hA hB;simp only [eT];simp only [go_sem,Nat.reduceEqDiff,Nat.reduceAdd,Nat.reduceLT,↓reduceIte,Nat.reduceMul];refine ⟨fun h=>?_,fun h=>?_⟩
 ·obtain ⟨i,hi1,hd⟩:=t5 (l:=t.ins) (k:=k) aa;obtain ⟨hi32,hidx,hseq⟩:=hi i (ao hi1);have w3:=j6 (k:=k) aa;have hel:=XD hi32;have wx:IntKind.u64.wrap (i.idx:Int)=(i.idx:Int):=by rw [L0];omega
  have ws:IntKind.u64.wrap (i.seq:Int)=(i.seq:Int):=by rw [L0];omega
  have her:=aiK hi32;simp [go_sem,hi1,hel,her,awb hi32,ap6 hi32,E6,o6,RI,wx,hi32];refine ⟨aa,?_⟩;have hA1:(A ++ i.hash).length=A.length+32:=by rw [aj,hi32]
  refine J5 [64] (L8 (A ++ i.hash) i.idx 4 4 rfl aa aa aa) rfl (c7 (.one (d9 (n9 hA1 rfl ab))) (c7 (.deep ae) (c7 (.deep ae) n7))) (fun ρ=>by simp [AV.renL,AV.ren]) ?_;rintro r hp' ⟨rfl,h0⟩;refine ⟨[(33,0)],by simp [M4,RG],?_⟩;have hA2:(A ++ i.hash ++ le i.idx 4).length=A.length+36:=by rw [aj,hA1,r9]
  have hA3:A ++ SJ i=A ++ i.hash ++ le i.idx 4:=by simp [SJ]
  rw [← hA3] at h0 hA2 ⊢;generalize hA4:A ++ SJ i=A2 at *;simp [go_sem,D8,C8,h0,Blk.ren,x7,C7,AV.renL,AV.ren,D9,p9,hi1,ap6 hi32,ws];clear h0 hp';refine J5 [96] (L8 B i.seq 4 4 rfl aa aa aa) rfl (c7 (.one (d9 (n9 rfl rfl ab))) (c7 (.deep ae) (c7 (.deep ae) n7))) (fun ρ=>by simp [AV.renL,AV.ren]) ?_;rintro r hp' ⟨rfl,h0⟩;refine ⟨[(33,0)],by simp [M4,RG],?_⟩;have hB2:(B ++ TC i).length=B.length+4:=by rw [aj,TC,r9]
  rw [show B ++ le i.seq 4=B ++ TC i from rfl] at h0 ⊢;generalize hB4:B ++ TC i=B2 at *;simp [go_sem,D8,C8,h0,Blk.ren,x7,C7,AV.renL,AV.ren,D9,p9,w3];refine UG (k+1,A2,B2) ⟨by simp only;omega,⟨by simp only;omega,by simp only;omega⟩,by rw [← hA4];exact E7 hd hA,by rw [← hB4];exact E7 hd hB⟩ (by simp only;omega) [(0,0),(32,32),(2768,64),(3088,96),(128,128)] 9000 (by decide) (by decide) (by decide) (by decide) ?_;simp [Zy,YG,D9,AV.ren,Blk.ren,x7,C7,O5,m7,c6,fv,lk,AV.low,AV.low1,AV.renL,eT];and_intros <;> first | exact s7 _ _ | exact o5 _ _ | exact Te | rfl | simp [rb]
 ·have hkl:k=t.ins.length:=aa;subst hkl;have:=E8 hA;subst this;have:=E8 hB;subst this;clear hA hB h hk;simp [go_sem]
  refine j9 (fun u:Nat × List Nat=>⟨[(1,.ptr 0 0 0 1),(2,.ptr 32 0 0 1),(3,.own 64 0 A.length A.length),(4,.own 96 0 B.length B.length),(5,.own 128 0 u.2.length u.2.length),(7,.d (.int .i64 (u.1:Int)))],
    [(128,⟨5,1,rb u.2⟩),(96,⟨5,1,rb B⟩),(64,⟨5,1,rb A⟩),(32,⟨148,96,[cb anA]⟩),(0,⟨57,4,[eT t]⟩)],3000⟩)
   (fun u=>u.1≤t.outs.length∧u.2.length≤700*u.1∧u.2 ++ I5 J4 t.outs u.1=R3) (fun u=>t.outs.length - u.1) (0,[]) ⟨ab,ab,by rw [← hR3];exact O4⟩ (by
    simp [m7,c6,fv,lk,AV.low,AV.low1,eT]
    and_intros <;> first | exact s7 _ _ | exact o5 _ _ | exact Te | rfl | simp [rb]) ?_
  rintro ⟨k,C⟩ ⟨hk,hCl,hC⟩;simp only at hk hCl hC;simp only [eT];simp only [go_sem,Nat.reduceEqDiff,Nat.reduceAdd,Nat.reduceLT,↓reduceIte,Nat.reduceMul];refine ⟨fun h=>?_,fun h=>?_⟩
  ·obtain ⟨o,ho1,hd⟩:=t5 (l:=t.outs) (k:=k) aa;have ho64:=ho o (ao ho1);have hol:=h3 o (ao ho1);have w3:=j6 (k:=k) aa;have hbl:=y9 o.2.length;have hpl:=Yt o;simp [go_sem,ho1,eO];refine J5 [128] (L8 C o.1 8 8 rfl aa ho64 aa) rfl (c7 (.one (d9 (n9 rfl rfl ab))) (c7 (.deep ae) (c7 (.deep ae) n7))) (fun ρ=>by simp [AV.renL,AV.ren]) ?_;rintro r hp' ⟨rfl,h0⟩;refine ⟨[(33,0)],by simp [M4,RG],?_⟩;have hC1:(C ++ le o.1 8).length=C.length+8:=by rw [aj,r9]
   have hC3:C ++ J4 o=C ++ le o.1 8 ++ m8 o.2.length ++ o.2:=by simp [J4,F2]
   have hC4:(C ++ J4 o).length=C.length+(J4 o).length:=aj;generalize C ++ le o.1 8=C1 at *;simp [go_sem,D8,C8,h0,Blk.ren,x7,C7,AV.renL,AV.ren,D9,p9,ho1,eO];clear h0 hp';refine J5 [3384] (Uv C1 o.2 aa aa) rfl (c7 (.one (d9 (n9 rfl rfl ab))) (c7 (.deep ae) n7)) (fun ρ=>by simp [AV.renL,AV.ren]) ?_;rintro r hp' ⟨I,rfl,h0⟩;refine ⟨[(I,0)],by simp [M4,RG],?_⟩;rw [← hC3] at h0 ⊢;generalize hC5:C ++ J4 o=C2 at *;simp [go_sem,D8,C8,h0,Blk.ren,x7,C7,AV.renL,AV.ren,D9,p9,w3];refine UG (k+1,C2) ⟨by simp only;omega,by simp only;omega,by rw [← hC5];exact E7 hd hC⟩ (by simp only;omega) [(0,0),(32,32),(64,64),(96,96),(3672,128)] 9000 (by decide) (by decide) (by decide) (by decide) ?_;simp [Zy,YG,D9,AV.ren,Blk.ren,x7,C7,O5,m7,c6,fv,lk,AV.low,AV.low1,AV.renL,eT];and_intros <;> first | exact s7 _ _ | exact o5 _ _ | exact Te | rfl | simp [rb]
  ·have hkl:k=t.outs.length:=aa;subst hkl;have:=E8 hC;subst this;have s1:=Vf A aa b1;have s2:=Vf B aa b2;have s3:=Vf C aa b3;have l1:=s8 A;have l2:=s8 B;have l3:=s8 C;generalize z7 A=a at *;generalize z7 B=b at *;generalize z7 C=c at *;simp [go_sem];refine u7 [64] s1 rfl (c7 (.one (d9 (n9 rfl rfl ab))) n7) ?_;simp [go_sem,p9];refine u7 [96] s2 rfl (c7 (.one (d9 (n9 rfl rfl ab))) n7) ?_;simp [go_sem,p9];refine u7 [128] s3 rfl (c7 (.one (d9 (n9 rfl rfl ab))) n7) ?_;simp [go_sem,p9,d0,l1,l2,l3,Te,TQ];rw [ad5 (A:=cb a) (n:=32) (by rw [d0,l1]) aa,← ar (cb a),Wl (A:=cb a ++ cb b) (n:=64) (by simp [d0,l1,l2]) aa,TQ,List.append_nil];have hL:(cb a ++ cb b ++ cb c).length=96:=by simp [d0,l1,l2,l3]
   have hT2:List.take 96 (cb a ++ cb b ++ cb c)=cb a ++ cb b ++ cb c:=aq aa;have hE:cb (a ++ (b ++ c))=cb a ++ cb b ++ cb c:=by rw [Vx,Vx,ar]
   have hD:=r6 (a ++ (b ++ c));rw [hE] at hD;rw [hE];generalize cb a ++ cb b ++ cb c=R at *;simp [go_sem,hL,hT2,d7];exact b7 hD rfl
theorem ad6 {R:List AV} {n:Nat} {a:List Nat} (ha:a.length=32) (h:List.take 32 (List.drop n R)=cb a):(List.range 32).map (fun k=>(R.drop (n+k)).take 1)=rb a:=by
 rw [← E6,← K4 ha,← h];refine List.map_congr_left fun k hk=>?_;have hk':=List.mem_range.1 hk;rw [List.drop_take,List.take_take,List.drop_drop,show min 1 (32 - k)=1 by omega]
theorem aqd (t:Tn) (n:Int) (coins:List (Nat × List Nat)) (h:List Nat) (ht:Sm t) (hbt:aj2 t) (hc:okC coins) (hcb:∀ o,o ∈ coins→bytes o.2) (hl:h.length=32) (hhb:bytes h) (n1:-9223372036854775808≤n) (n2:n<9223372036854775808) :
  m6 Tryz.prog 85 [.agg (eS t n coins),.d (nb h),.nil] (fun r=>r=afX t n coins h):=by
 refine t6 Tryz.func85 Tryz.ntmps85 (rs:=[.cell 6 23,.tmp 7]) (aqU t n coins h) ?_;have hck:=ahh t n coins ht (by have:=hc.1;omega);have hd1:=acF t n coins;unfold afX;by_cases c0:N5 t n coins=0
 ·rw [if_pos c0];rw [c0] at hck
  have hn:0≤n∧n<coins.length:=by
   unfold N5 at c0
   split at c0
   ·cases c0
   ·rename_i hx;simp only [not_or,Int.not_lt,Int.not_le] at hx;exact ⟨hx.2.2.1,hx.2.2.2.1⟩
  obtain ⟨m,rfl⟩:∃ m:Nat,n=(m:Int):=⟨n.toNat,aa⟩;rw [Int.toNat_natCast];have hm8:m<8:=by have:=hc.1;omega
  have p1:=aj3 t ht hbt;obtain ⟨hv,hlk,hi,ho⟩:=ht.1;have hmsg:aj1 t m coins h=[0,0] ++ le t.ver 4 ++ le t.lock 4 ++ z7 (t.ins.map SJ).flatten ++ z7 (coins.map UA).flatten ++ z7 (coins.map TD).flatten ++ z7 (t.ins.map TC).flatten ++ z7 (t.outs.map J4).flatten ++ [2] ++ le m 4 ++ h ++ [0] ++ le 4294967295 4:=rfl
  have hMb:bytes (aj1 t m coins h):=by
   rw [hmsg];have z1:=D3 (t.ins.map SJ).flatten;have z2:=D3 (t.ins.map TC).flatten;have z3:=D3 (t.outs.map J4).flatten;have z4:=D3 (coins.map UA).flatten;have z5:=D3 (coins.map TD).flatten;generalize z7 (t.ins.map SJ).flatten=a at *;generalize z7 (t.ins.map TC).flatten=b at *;generalize z7 (t.outs.map J4).flatten=c at *;generalize z7 (coins.map UA).flatten=x at *;generalize z7 (coins.map TD).flatten=y at *;have y0:bytes [0,0]:=by intro x hx;simp at hx;omega
   have y1:bytes [2]:=by intro x hx;simp at hx;omega
   have y2:bytes [0]:=by intro x hx;simp at hx;omega
   exact G0 (G0 (G0 (G0 (G0 (G0 (G0 (G0 (G0 (G0 (G0 (G0 y0 (ZC _ _)) (ZC _ _)) z1) z4) z5) z2) z3) y1) (ZC _ _)) hhb) y2) (ZC _ _)
  generalize aj1 t m coins h=M at *;have l1:=s8 (t.ins.map SJ).flatten;have l2:=s8 (t.ins.map TC).flatten;have l3:=s8 (t.outs.map J4).flatten;have bV:bytes (coins.map UA).flatten:=Tf fun o _=>ZC _ _;have bS:bytes (coins.map TD).flatten:=Tf fun o h=>ahl (hcb o h);generalize z7 (t.ins.map SJ).flatten=a at *;generalize z7 (t.ins.map TC).flatten=b at *;generalize z7 (t.outs.map J4).flatten=c at *;have hT:=Yu t;simp only [eT,eS] at hT hck hd1 p1;have hL:(cb a ++ cb b ++ cb c).length=96:=by simp [d0,l1,l2,l3]
  have hT2:List.take 96 (cb a ++ cb b ++ cb c)=cb a ++ cb b ++ cb c:=aq aa;have hE:cb (a ++ (b ++ c))=cb a ++ cb b ++ cb c:=by rw [Vx,Vx,ar]
  rw [hE] at p1;simp [go_sem,eS];refine a9 hck hd1 ?_;simp [go_sem,hl,nb];generalize hV0:(coins.map UA).flatten=V at *;generalize hS0:(coins.map TD).flatten=S at *
  refine j9 (fun u:Nat × List Nat × List Nat=>⟨[(1,.d (nb h)),(2,.nil),(3,.ptr 0 0 0 1),(6,.ptr 32 0 0 1),(8,.own 512 0 u.2.1.length u.2.1.length),(9,.own 544 0 u.2.2.length u.2.2.length),(10,.d (.int .i64 (u.1:Int)))],
    [(544,⟨5,1,rb u.2.2⟩),(512,⟨5,1,rb u.2.1⟩),(32,⟨23,32,[cb z32]⟩),(0,⟨59,6,[eS t m coins]⟩)],2000⟩)
   (fun u=>u.1≤coins.length∧(u.2.1.length≤8*u.1∧u.2.2.length≤1200*u.1)∧u.2.1 ++ I5 UA coins u.1=V∧u.2.2 ++ I5 TD coins u.1=S) (fun u=>coins.length - u.1) (0,[],[]) ⟨ab,ab,by rw [← hV0];exact O4,by rw [← hS0];exact O4⟩ (by
    simp [m7,c6,fv,lk,AV.low,AV.low1,eS,nb]
    and_intros <;> first | exact s7 _ _ | exact o5 _ _ | rfl | simp [rb]) ?_
  rintro ⟨k,A,B⟩ ⟨hk,⟨hAl,hBl⟩,hA,hB⟩;simp only at hk hAl hBl hA hB;simp only [eS];simp only [go_sem,Nat.reduceEqDiff,Nat.reduceAdd,Nat.reduceLT,↓reduceIte,Nat.reduceMul];have hc8:=hc.1;refine ⟨fun hlt=>?_,fun hlt=>?_⟩
  ·obtain ⟨o,ho1,hd⟩:=t5 (l:=coins) (k:=k) aa;obtain ⟨ho64,hol⟩:=hc.2 o (ao ho1);have w3:=j6 (k:=k) aa;have hbl:=y9 o.2.length;have hbb:(TD o).length=(m8 o.2.length).length+o.2.length:=by simp [TD,F2]
   simp [go_sem,ho1,eO];refine J5 [512] (L8 A o.1 8 8 rfl aa ho64 aa) rfl (c7 (.one (d9 (n9 rfl rfl ab))) (c7 (.deep ae) (c7 (.deep ae) n7))) (fun ρ=>by simp [AV.renL,AV.ren]) ?_;rintro r hp' ⟨rfl,h0⟩;refine ⟨[(33,0)],by simp [M4,RG],?_⟩;have hA2:(A ++ UA o).length=A.length+8:=by rw [aj,UA,r9]
   rw [show A ++ le o.1 8=A ++ UA o from rfl] at h0 ⊢;generalize hA4:A ++ UA o=A2 at *;simp [go_sem,D8,C8,h0,Blk.ren,x7,C7,AV.renL,AV.ren,D9,p9,ho1,eO];clear h0 hp';refine J5 [544] (Uv B o.2 aa aa) rfl (c7 (.one (d9 (n9 rfl rfl ab))) (c7 (.deep ae) n7)) (fun ρ=>by simp [AV.renL,AV.ren]) ?_;rintro r hp' ⟨I,rfl,h0⟩;refine ⟨[(I,0)],by simp [M4,RG],?_⟩;have hB2:(B ++ TD o).length=B.length+(TD o).length:=aj;have hB3:B ++ TD o=B ++ m8 o.2.length ++ o.2:=by simp [TD,F2]
   rw [← hB3] at h0 ⊢;generalize hB4:B ++ TD o=B2 at *;simp [go_sem,D8,C8,h0,Blk.ren,x7,C7,AV.renL,AV.ren,D9,p9,w3];refine UG (k+1,A2,B2) ⟨by simp only;omega,⟨by simp only;omega,by simp only;omega⟩,by rw [← hA4];exact E7 hd hA,by rw [← hB4];exact E7 hd hB⟩ (by simp only;omega) [(0,0),(32,32),(2384,512),(2672,544)] 9000 (by decide) (by decide) (by decide) (by decide) ?_;simp [Zy,YG,D9,AV.ren,Blk.ren,x7,C7,O5,m7,c6,fv,lk,AV.low,AV.low1,AV.renL,eS,nb];and_intros <;> first | exact s7 _ _ | exact o5 _ _ | rfl | simp [rb]
  ·have hkl:k=coins.length:=aa;subst hkl;have:=E8 hA;subst this;have:=E8 hB;subst this;have s1:=Vf A aa bV;have s2:=Vf B aa bS;have l4:=s8 A;have l5:=s8 B;generalize z7 A=x at *;generalize z7 B=y at *;have r0:List.take 32 (List.drop 0 (cb a ++ cb b ++ cb c))=cb a:=by rw [List.drop_zero,ar,← l1,← d0 a,List.take_left]
   have r1:List.take 32 (List.drop 32 (cb a ++ cb b ++ cb c))=cb b:=by rw [ar,show List.drop 32 (cb a ++ (cb b ++ cb c))=cb b ++ cb c by rw [← l1,← d0 a,List.drop_left],← l2,← d0 b,List.take_left]
   have r2:List.take 32 (List.drop 64 (cb a ++ cb b ++ cb c))=cb c:=by
    rw [show List.drop 64 (cb a ++ cb b ++ cb c)=cb c by rw [show 64=(cb a ++ cb b).length by simp [d0,l1,l2],List.drop_left]];exact d6 l3
   generalize hR:cb a ++ cb b ++ cb c=R at *;have x0:=ad6 l1 r0;have x1:=ad6 l2 r1;have x2:=ad6 l3 r2;have x3:=(K4 l4).trans (E6 x);have x4:=(K4 l5).trans (E6 y);simp [go_sem] at x0 x1 x2 x3 x4;simp [go_sem];refine a9 p1 hT ?_;simp [go_sem,hL,hT2,Te,d0,TQ];refine u7 [512] s1 rfl (c7 (.one (d9 (n9 rfl rfl ab))) n7) ?_;simp [go_sem,p9];refine u7 [544] s2 rfl (c7 (.one (d9 (n9 rfl rfl ab))) n7) ?_;simp [go_sem,p9,d0,l4,l5,s9];have wv:IntKind.u64.wrap (t.ver:Int)=(t.ver:Int):=by rw [L0];omega
   have wl:IntKind.u64.wrap (t.lock:Int)=(t.lock:Int):=by rw [L0];omega
   have wm:IntKind.u64.wrap (m:Int)=(m:Int):=by rw [L0];omega
   rw [wv];refine J5 [2576] (L8 [0,0] t.ver 4 4 rfl ab aa aa) rfl (c7 (.one (d9 (n9 (L:=[0,0]) rfl rfl ab))) (c7 (.deep ae) (c7 (.deep ae) n7))) (fun ρ=>by simp [AV.renL,AV.ren]) ?_;rintro r hp' ⟨rfl,h0⟩;refine ⟨[(33,0)],by simp [M4,RG],?_⟩;generalize hA1:[0,0] ++ le t.ver 4=A1 at *;have hA1l:A1.length=6:=by rw [← hA1];simp [r9]
   simp [go_sem,D8,C8,h0,Blk.ren,x7,C7,AV.renL,AV.ren,D9,p9,wl];clear h0 hp';refine J5 [2736] (L8 A1 t.lock 4 4 rfl aa aa aa) rfl (c7 (.one (d9 (n9 rfl rfl ab))) (c7 (.deep ae) (c7 (.deep ae) n7))) (fun ρ=>by simp [AV.renL,AV.ren]) ?_;rintro r hp' ⟨rfl,h0⟩;refine ⟨[(33,0)],by simp [M4,RG],?_⟩;generalize hA2:A1 ++ le t.lock 4=A2 at *;have hA2l:A2.length=10:=by rw [← hA2];simp [r9,hA1l]
   have hs2:[AV.d (DV.int IntKind.u8 2)]=[AV.d (.int .u8 ((2:Nat):Int))]:=rfl;have hw2:IntKind.u8.wrap 2=2:=by decide
   simp [go_sem,D8,C8,h0,Blk.ren,x7,C7,AV.renL,AV.ren,D9,p9,x0,x1,x2,x3,x4,o6,RI,l1,l2,l3,l4,l5,hl,wm,nb];have hq2:rb (A2 ++ (a ++ (x ++ (y ++ (b ++ c))))) ++ [[AV.d (DV.int IntKind.u8 2)]]=rb (A2 ++ (a ++ (x ++ (y ++ (b ++ c)))) ++ [2]):=by simp [rb]
   rw [hq2];have hB1l:(A2 ++ (a ++ (x ++ (y ++ (b ++ c)))) ++ [2]).length=A2.length+32+32+32+32+32+1:=by simp [l1,l2,l3,l4,l5]
   have hB1:M=(A2 ++ (a ++ (x ++ (y ++ (b ++ c)))) ++ [2]) ++ le m 4 ++ h ++ [0] ++ le 4294967295 4:=by rw [hmsg];simp
   generalize A2 ++ (a ++ (x ++ (y ++ (b ++ c)))) ++ [2]=B1 at *;refine ⟨aa,aa,aa,aa,aa,aa,?_⟩;refine J5 [2960] (L8 B1 m 4 4 rfl aa aa aa) rfl (c7 (.one (d9 (n9 hB1l rfl ab))) (c7 (.deep ae) (c7 (.deep ae) n7))) (fun ρ=>by simp [AV.renL,AV.ren]) ?_;rintro r hp' ⟨rfl,h0⟩;refine ⟨[(33,0)],by simp [M4,RG],?_⟩;have hB2l:(B1 ++ le m 4).length=B1.length+4:=by rw [aj,r9]
   generalize B1 ++ le m 4=B2 at *
   have hrb3:rb B2 ++ (List.map ((fun r=>List.map AV.d r) ∘ fun (b:Nat)=>[DV.int IntKind.u8 (b:Int)]) h ++ [[AV.d (DV.int IntKind.u8 0)],[AV.d (DV.int IntKind.u8 255)],[AV.d (DV.int IntKind.u8 255)],[AV.d (DV.int IntKind.u8 255)],[AV.d (DV.int IntKind.u8 255)]])=rb M:=by
    rw [hB1,show le 4294967295 4=[255,255,255,255] by decide];simp [rb]
   have hMl:M.length=B2.length+32+5:=by rw [hB1];simp [r9,hl]
   simp [go_sem,D8,C8,h0,Blk.ren,x7,C7,AV.renL,AV.ren,D9,p9,hl,nb,o6];clear h0 hp';rw [hrb3];refine ⟨aa,aa,?_⟩;refine u7 [4304] (SD Ss _ rfl M (by simp [Ss]) (by intro z hz;simp [Ss] at hz;omega) aa hMb) rfl (c7 (.deep ae) (c7 (.one (d9 (n9 hMl rfl ab))) n7)) ?_;have hR:=s8 (z7 Ss ++ (z7 Ss ++ M));have hR':(G9 Ss M).length=32:=hR;generalize G9 Ss M=S at *;simp [go_sem,p9,hR',d0,d6 hR',s9,d7]
   exact b7 (by
    intro c hc;simp only [aF,List.mem_nil_iff,or_false] at hc;rcases hc with rfl | rfl
    ·exact .inr ⟨_,rfl,r6 _⟩
    ·exact .inl trivial) rfl
 ·rw [if_neg c0];simp only [eS] at hck hd1;simp [go_sem,eS];refine a9 hck hd1 ?_;simp [go_sem,c0,d0,s9,d6 (show z32.length=32 from rfl),d7]
  exact b7 (by
   intro c hc;simp only [aF,List.mem_nil_iff,or_false] at hc;rcases hc with rfl | rfl
   ·exact .inr ⟨_,rfl,r6 _⟩
   ·exact .inl trivial) rfl
end Go.Proofs.YtldccnbokbieiaaGreat
