/-
 Part 9 of what the claim rests on.
-/
import Derived.Test.YtldccnbokbieiaaGreatM5
import Derived.Test.YtldccnbokbieiaaGreatM6
set_option linter.unusedVariables false
set_option linter.unusedSimpArgs false
set_option maxRecDepth 100000
set_option maxHeartbeats 16000000
namespace Go.Proofs.YtldccnbokbieiaaGreat
open Go.Am Go.Sha
def fF:List Int→Int
 | []=>0
 | x :: r=>x+4294967296*fF r
def oU (n:Nat) (l:List Int):Prop:=l.length=n∧∀ x,x ∈ l→0≤x∧x<4294967296
theorem yD (x:Int) (l:List Int):gI (x :: l) 0=x:=rfl
theorem yE (x:Int) (l:List Int) (k:Nat):gI (x :: l) (k+1)=gI l k:=rfl
theorem qj:∀ (l:List Int) (j:Nat) (v:Int),j<l.length→fF (l.set j v)=fF l+(v - gI l j)*4294967296 ^ j
 | [],j,v,h=>absurd h (by simp)
 | x :: r,0,v,h=>by rw [List.set_cons_zero,yD];simp only [fF,Int.pow_zero];omega
 | x :: r,j+1,v,h=>by
  rw [List.set_cons_succ,yE]
  simp only [fF]
  rw [qj r j v (by simpa using h),Int.pow_succ,Int.mul_add,← Int.mul_assoc (v - gI r j),Int.mul_comm _ 4294967296,Int.add_assoc]
theorem jF:∀ (l:List Int) (k:Nat),k<l.length→fF (l.take (k+1))=fF (l.take k)+gI l k*4294967296 ^ k
 | [],k,h=>absurd h (by simp)
 | x :: r,0,h=>by simp [fF,yD]
 | x :: r,k+1,h=>by
  rw [List.take_succ_cons,List.take_succ_cons,yE]
  simp only [fF]
  rw [jF r k (by simpa using h),Int.pow_succ,Int.mul_add,← Int.mul_assoc (gI r k),Int.mul_comm _ 4294967296,Int.add_assoc]
theorem gR {n:Nat} {l:List Int} (h:oU n l) (k:Nat):0≤gI l k∧gI l k<4294967296:=by
 unfold gI
 rw [List.getD_eq_getElem?_getD]
 cases e:l[k]? with
 | none=>exact ⟨by simp,by simp⟩
 | some x=>exact h.2 x (List.mem_of_getElem? e)
theorem wa {n k:Nat} {l:List Int} {x:Int} (h:oU n l) (hx:0≤x∧x<4294967296):oU n (l.set k x):=by
 refine ⟨by rw [List.length_set];exact h.1,fun y hy=>?_⟩
 rcases List.mem_or_eq_of_mem_set hy with hy | rfl
 ·exact h.2 y hy
 ·exact hx
theorem rZ {l:List Int} {i j:Nat} {x:Int} (h:i ≠ j):gI (l.set i x) j=gI l j:=by
 unfold gI
 rw [List.getD_eq_getElem?_getD,List.getD_eq_getElem?_getD,List.getElem?_set_ne h]
def pm (x y:List Int) (i k:Nat) (s:List Int × Int):Int:=s.2+gI s.1 (i+k)+gI x i*gI y k
def nS (x y:List Int) (i k:Nat) (s:List Int × Int):List Int × Int:=(s.1.set (i+k) (pm x y i k s % 4294967296),pm x y i k s / 4294967296)
def yF (x y:List Int) (i:Nat) (d:List Int):List Int:=(bd (nS x y i) (d,0) 8).1.set (i+8) (bd (nS x y i) (d,0) 8).2
theorem FU {a b:Int} (ha:0≤a∧a<4294967296) (hb:0≤b∧b<4294967296):0≤a*b∧a*b≤18446744065119617025 :=
 ⟨Int.mul_nonneg ha.1 hb.1,by
  have:a*b≤4294967295*4294967295:=Int.mul_le_mul (by omega) (by omega) hb.1 (by omega)
  omega⟩
theorem OA {x y:List Int} (hx:oU 8 x) (hy:oU 8 y) {i k:Nat} {s:List Int × Int} (h1:oU 16 s.1) (h2:0≤s.2∧s.2<4294967296):0≤pm x y i k s∧pm x y i k s<18446744073709551616:=by
 have p:=FU (gR hx i) (gR hy k)
 have q:=gR h1 (i+k)
 unfold pm
 generalize gI x i*gI y k=z at *
 omega
theorem wb {x y d:List Int} (hx:oU 8 x) (hy:oU 8 y) (hd:oU 16 d) {i:Nat} (hi:i<8):∀ k,k≤8→oU 16 (bd (nS x y i) (d,0) k).1∧(0≤(bd (nS x y i) (d,0) k).2∧(bd (nS x y i) (d,0) k).2<4294967296) ∧
  fF (bd (nS x y i) (d,0) k).1+(bd (nS x y i) (d,0) k).2*4294967296 ^ (i+k)=fF d+gI x i*fF (y.take k)*4294967296 ^ i∧∀ j,i+8≤j→gI (bd (nS x y i) (d,0) k).1 j=gI d j
 | 0,_=>by
  refine ⟨hd,⟨by simp [bd],by simp [bd]⟩,?_,fun j _=>rfl⟩
  simp [bd,fF]
 | k+1,hk=>by
  obtain ⟨h1,h2,h3,h4⟩:=wb hx hy hd hi k (by omega)
  have hR:=OA hx hy (i:=i) (k:=k) h1 h2
  rw [bd]
  generalize bd (nS x y i) (d,0) k=s at *
  have hl:i+k<s.1.length:=by rw [h1.1];omega
  unfold nS
  refine ⟨wa h1 ⟨by omega,by omega⟩,⟨by omega,by omega⟩,?_,fun j hj=>?_⟩
  ·dsimp only
   rw [qj _ _ _ hl,jF y k (by rw [hy.1];omega),← Nat.add_assoc,Int.pow_succ,Int.mul_add,Int.add_mul,← Int.add_assoc,← h3]
   have e:pm x y i k s=s.2+gI s.1 (i+k)+gI x i*gI y k:=rfl
   have hp:(4294967296:Int) ^ (i+k)=4294967296 ^ i*4294967296 ^ k:=Int.pow_add _ _ _
   have e3:gI x i*(gI y k*4294967296 ^ k)*4294967296 ^ i=(gI x i*gI y k)*4294967296 ^ (i+k):=by
    rw [hp,← Int.mul_assoc,Int.mul_assoc (gI x i*gI y k),Int.mul_comm (4294967296 ^ k)]
   rw [e3]
   generalize (4294967296:Int) ^ (i+k)=P at *
   generalize gI x i*gI y k=z at *
   generalize pm x y i k s=t at *
   have e2:t % 4294967296+4294967296*(t / 4294967296)=t:=Int.emod_add_mul_ediv t 4294967296
   generalize t % 4294967296=u at *
   generalize t / 4294967296=v at *
   subst e2
   rw [Int.mul_comm P 4294967296,← Int.mul_assoc,Int.add_assoc,← Int.add_mul,Int.add_assoc,← Int.add_mul]
   congr 2
   omega
  ·dsimp only
   rw [rZ (by omega)]
   exact h4 j hj
theorem BF {x y:List Int} (hx:oU 8 x) (hy:oU 8 y) {d:List Int} (hd:oU 16 d) (h0:∀ j,gI d j=0) (hv:fF d=0):∀ i,i≤8→oU 16 (bd (yF x y) d i)∧fF (bd (yF x y) d i)=fF (x.take i)*fF y∧∀ j,i+8≤j→gI (bd (yF x y) d i) j=0
 | 0,_=>by
  refine ⟨hd,?_,fun j _=>h0 j⟩
  simp [bd,fF,hv]
 | i+1,hi=>by
  obtain ⟨h1,h2,h3⟩:=BF hx hy hd h0 hv i (by omega)
  obtain ⟨k1,k2,k3,k4⟩:=wb hx hy h1 (i:=i) (by omega) 8 (by omega)
  rw [bd]
  generalize bd (yF x y) d i=e at *
  unfold yF
  generalize bd (nS x y i) (e,0) 8=s at *
  refine ⟨wa k1 k2,?_,fun j hj=>?_⟩
  ·rw [qj _ _ _ (by rw [k1.1];omega),k4 _ (Nat.le_refl _),h3 _ (Nat.le_refl _),Int.sub_zero,k3,h2,jF x i (by rw [hx.1];omega),List.take_of_length_le (l:=y) (by rw [hy.1];omega),Int.add_mul]
   congr 1
   rw [Int.mul_assoc,Int.mul_comm (fF y),← Int.mul_assoc]
  ·rw [rZ (by omega),k4 j (by omega)]
   exact h3 j (by omega)
def fm (d:List Int) (i:Nat) (c:Int):Int:=(if i<8 then c+gI d i+gI d (8+i)*977 else c)+(if 1≤i∧i<9 then gI d (7+i) else 0)
def nT (d:List Int) (i:Nat) (s:List Int × Int):List Int × Int:=(s.1.set i (fm d i s.2 % 4294967296),fm d i s.2 / 4294967296)
def mh:List Int:=[0,0,0,0,0,0,0,0,0,0]
theorem r5 {d:List Int} (hd:oU 16 d):∀ k,k≤10→oU 10 (bd (nT d) (mh,0) k).1∧(0≤(bd (nT d) (mh,0) k).2∧(bd (nT d) (mh,0) k).2<2000)∧(∀ j,k≤j→gI (bd (nT d) (mh,0) k).1 j=0) ∧
  fF (bd (nT d) (mh,0) k).1+(bd (nT d) (mh,0) k).2*4294967296 ^ k=fF (d.take (min k 8))+977*fF ((d.drop 8).take (min k 8))+4294967296*fF ((d.drop 8).take (min (k - 1) 8))
 | 0,_=>by
  refine ⟨⟨rfl,by intro x hx;simp [bd,mh] at hx;omega⟩,⟨by simp [bd],by simp [bd]⟩,fun j _=>?_,?_⟩
  ·show gI mh j=0
   match j with
   | 0 | 1 | 2 | 3 | 4 | 5 | 6 | 7 | 8 | 9=>rfl
   | n+10=>rfl
  ·simp [bd,fF,mh]
 | k+1,hk=>by
  obtain ⟨h1,h2,h3,h4⟩:=r5 hd k (by omega)
  rw [bd]
  generalize bd (nT d) (mh,0) k=s at *
  have q1:=gR hd k
  have q2:=gR hd (8+k)
  have q3:=gR hd (7+k)
  have hl:k<s.1.length:=by rw [h1.1];omega
  have hf:0≤fm d k s.2∧fm d k s.2<8589934592000:=by
   unfold fm
   split <;> split <;> omega
  have hdr:∀ j,gI (d.drop 8) j=gI d (8+j):=fun j=>by unfold gI;rw [List.getD_eq_getElem?_getD,List.getD_eq_getElem?_getD,List.getElem?_drop]
  have hdl:(d.drop 8).length=8:=by rw [List.length_drop,hd.1]
  unfold nT
  refine ⟨wa h1 ⟨by omega,by omega⟩,⟨by omega,by omega⟩,fun j hj=>?_,?_⟩
  ·dsimp only
   rw [rZ (by omega)]
   exact h3 j (by omega)
  ·dsimp only
   rw [qj _ _ _ hl,h3 k (Nat.le_refl _),Int.sub_zero,Int.pow_succ]
   have e2:fm d k s.2 % 4294967296*4294967296 ^ k+fm d k s.2 / 4294967296*(4294967296 ^ k*4294967296)=fm d k s.2*4294967296 ^ k:=by
    have e2:fm d k s.2 % 4294967296+4294967296*(fm d k s.2 / 4294967296)=fm d k s.2:=Int.emod_add_mul_ediv _ _
    generalize (4294967296:Int) ^ k=P at *
    generalize fm d k s.2 % 4294967296=u at *
    generalize fm d k s.2 / 4294967296=v at *
    rw [← e2,Int.mul_comm P 4294967296,← Int.mul_assoc,← Int.add_mul,Int.mul_comm v]
   rw [Int.add_assoc,e2]
   clear e2
   have e1:fF (d.take (min (k+1) 8))+977*fF ((d.drop 8).take (min (k+1) 8))=fF (d.take (min k 8))+977*fF ((d.drop 8).take (min k 8))+(if k<8 then gI d k+gI d (8+k)*977 else 0)*4294967296 ^ k:=by
    by_cases hk8:k<8
    ·rw [if_pos hk8,show min (k+1) 8=k+1 by omega,show min k 8=k by omega,jF d k (by rw [hd.1];omega),jF (d.drop 8) k (by rw [hdl];omega),hdr,Int.add_mul]
     generalize (4294967296:Int) ^ k=P at *
     have:gI d (8+k)*977*P=977*(gI d (8+k)*P):=by rw [Int.mul_comm _ 977,Int.mul_assoc]
     rw [this]
     omega
    ·rw [if_neg hk8,show min (k+1) 8=8 by omega,show min k 8=8 by omega]
     omega
   have e3:4294967296*fF ((d.drop 8).take (min (k+1 - 1) 8))=4294967296*fF ((d.drop 8).take (min (k - 1) 8))+(if 1≤k∧k<9 then gI d (7+k) else 0)*4294967296 ^ k:=by
    by_cases hk9:1≤k∧k<9
    ·obtain ⟨j,rfl⟩:∃ j,k=j+1:=⟨k - 1,by omega⟩
     rw [if_pos hk9,show min (j+1+1 - 1) 8=j+1 by omega,show min (j+1 - 1) 8=j by omega,jF (d.drop 8) j (by rw [hdl];omega),hdr,show 7+(j+1)=8+j by omega,Int.pow_succ,Int.mul_add,Int.mul_comm (4294967296 ^ j) 4294967296,← Int.mul_assoc,← Int.mul_assoc,Int.mul_comm 4294967296 (gI d (8+j))]
    ·rw [if_neg hk9]
     by_cases h0:k=0
     ·subst h0;simp [fF]
     ·rw [show min (k+1 - 1) 8=8 by omega,show min (k - 1) 8=8 by omega];omega
   rw [e1,e3]
   have ef:fm d k s.2=s.2+(if k<8 then gI d k+gI d (8+k)*977 else 0)+(if 1≤k∧k<9 then gI d (7+k) else 0):=by
    unfold fm
    split <;> omega
   rw [ef,Int.add_mul,Int.add_mul]
   generalize (4294967296:Int) ^ k=P at *
   generalize (if k<8 then gI d k+gI d (8+k)*977 else 0)*P=z1 at *
   generalize (if 1≤k∧k<9 then gI d (7+k) else 0)*P=z2 at *
   generalize s.2*P=z3 at *
   omega
def wc (x:Int × Int × Int):Int × Int:=(IntKind.u64.wrap (IntKind.u64.wrap (x.1+x.2.1)+x.2.2),if IntKind.u64.wrap (x.1+x.2.1)<x.1 ∨ IntKind.u64.wrap (IntKind.u64.wrap (x.1+x.2.1)+x.2.2)<IntKind.u64.wrap (x.1+x.2.1) then 1 else 0)
def wg (x:Int × Int × Int):Int × Int:=(IntKind.u64.wrap (IntKind.u64.wrap (x.1 - x.2.1) - x.2.2),if x.1<x.2.1 ∨ (x.1=x.2.1∧x.2.2=1) then 1 else 0)
theorem FW:zV wc:=by
 rintro ⟨a,b,c⟩ ⟨ha,hb,hc⟩
 unfold cD C1 at *
 unfold wc
 dsimp only at *
 simp only [cH]
 split <;> refine ⟨by omega,by omega,by omega⟩
theorem FX:Lm wg:=by
 rintro ⟨a,b,c⟩ ⟨ha,hb,hc⟩
 unfold cD C1 at *
 unfold wg
 dsimp only at *
 simp only [cH]
 split <;> refine ⟨by omega,by omega,by omega⟩
def Ma (x:Int):Int:=IntKind.u64.wrap (x*9223372036854775808)
theorem BG (x y:Int) (hx:0≤x) (hx2:x<18446744073709551616):Go.bits .or .u64 (Int.fdiv x 2) (Ma y)=x / 2+9223372036854775808*(y % 2):=by
 rw [Int.fdiv_eq_ediv_of_nonneg _ (by omega)]
 unfold Ma
 rw [cH]
 obtain ⟨X,hX⟩:∃ X:Nat,x / 2=(X:Int):=⟨(x / 2).toNat,by omega⟩
 obtain ⟨Y,hY⟩:∃ Y:Nat,y % 2=(Y:Int):=⟨(y % 2).toNat,by omega⟩
 have e:y*9223372036854775808 % 18446744073709551616=((Y*2 ^ 63:Nat):Int):=by omega
 rw [e,hX,H6 X (Y*2 ^ 63) (by omega) (by omega),hY,Nat.or_comm,← Nat.shiftLeft_eq,← Nat.shiftLeft_add_eq_or_of_lt (show X<2 ^ 63 by omega),Nat.shiftLeft_eq]
 omega
def nU (a:List Int) (c:Int):List Int:=Go.bits .or .u64 (Int.fdiv (gI a 0) 2) (Ma (gI a 1)) :: Go.bits .or .u64 (Int.fdiv (gI a 1) 2) (Ma (gI a 2)) :: Go.bits .or .u64 (Int.fdiv (gI a 2) 2) (Ma (gI a 3)) :: Go.bits .or .u64 (Int.fdiv (gI a 3) 2) (Ma c) :: []
theorem FY {a:List Int} (ha:Wn 4 a) {c:Int} (hc:C1 c):Wn 4 (nU a c)∧V (nU a c)=(V a+115792089237316195423570985008687907853269984665640564039457584007913129639936*c) / 2:=by
 obtain ⟨a0,a1,a2,a3,rfl,h0,h1,h2,h3⟩:=eV ha
 have g0:gI [a0,a1,a2,a3] 0=a0:=rfl
 have g1:gI [a0,a1,a2,a3] 1=a1:=rfl
 have g2:gI [a0,a1,a2,a3] 2=a2:=rfl
 have g3:gI [a0,a1,a2,a3] 3=a3:=rfl
 unfold nU
 rw [g0,g1,g2,g3,BG a0 a1 h0.1 h0.2,BG a1 a2 h1.1 h1.2,BG a2 a3 h2.1 h2.2,BG a3 c h3.1 h3.2]
 unfold cD C1 at *
 refine ⟨⟨rfl,?_⟩,?_⟩
 ·intro y hy
  simp only [List.mem_cons,List.mem_nil_iff,or_false] at hy
  rcases hy with rfl | rfl | rfl | rfl <;> exact ⟨by omega,by omega⟩
 ·rw [V4,V4]
  omega
def IJ (a:List Int) (b:Int):List Int:=IntKind.u64.wrap (IntKind.u64.wrap (gI a 0*2)+b) :: IntKind.u64.wrap (IntKind.u64.wrap (gI a 1*2)+gI a 0 / 9223372036854775808) :: IntKind.u64.wrap (IntKind.u64.wrap (gI a 2*2)+gI a 1 / 9223372036854775808) :: IntKind.u64.wrap (IntKind.u64.wrap (gI a 3*2)+gI a 2 / 9223372036854775808) :: []
theorem Qz {a:List Int} (ha:Wn 4 a) {b:Int} (hb:C1 b):Wn 4 (IJ a b)∧C1 (gI a 3 / 9223372036854775808)∧V (IJ a b)+115792089237316195423570985008687907853269984665640564039457584007913129639936*(gI a 3 / 9223372036854775808)=2*V a+b:=by
 obtain ⟨a0,a1,a2,a3,rfl,h0,h1,h2,h3⟩:=eV ha
 have g0:gI [a0,a1,a2,a3] 0=a0:=rfl
 have g1:gI [a0,a1,a2,a3] 1=a1:=rfl
 have g2:gI [a0,a1,a2,a3] 2=a2:=rfl
 have g3:gI [a0,a1,a2,a3] 3=a3:=rfl
 unfold IJ
 rw [g0,g1,g2,g3]
 simp only [cH]
 unfold cD C1 at *
 refine ⟨⟨rfl,?_⟩,⟨by omega,by omega⟩,?_⟩
 ·intro y hy
  simp only [List.mem_cons,List.mem_nil_iff,or_false] at hy
  rcases hy with rfl | rfl | rfl | rfl <;> exact ⟨by omega,by omega⟩
 ·rw [V4,V4]
  omega
theorem wh:∀ (n:Nat) (l:List Int),oU n l→0≤fF l∧fF l<4294967296 ^ n
 | 0,l,h=>by rw [List.length_eq_zero_iff.1 h.1];simp [fF]
 | n+1,[],h=>absurd h.1 (by simp)
 | n+1,x :: r,h=>by
  obtain ⟨h1,h2⟩:=wh n r ⟨by simpa using h.1,fun y hy=>h.2 y (List.mem_cons_of_mem _ hy)⟩
  obtain ⟨h3,h4⟩:=h.2 x (List.mem_cons_self)
  simp only [fF]
  rw [Int.pow_succ]
  generalize (4294967296:Int) ^ n=P at *
  omega
theorem BH:∀ (a b:List Int),fF (a ++ b)=fF a+4294967296 ^ a.length*fF b
 | [],b=>by simp [fF]
 | x :: r,b=>by
  rw [List.cons_append]
  simp only [fF]
  rw [BH r b,List.length_cons,Int.pow_succ,Int.mul_add,← Int.mul_assoc,Int.mul_comm (4294967296 ^ r.length),Int.add_assoc]
theorem FZ {n:Nat} (k:Nat) {l:List Int} (h:oU (k+n) l):oU k (l.take k):=⟨by rw [List.length_take,h.1];omega,fun x hx=>h.2 x (List.mem_of_mem_take hx)⟩
theorem F0 {n:Nat} (k:Nat) {l:List Int} (h:oU (k+n) l):oU n (l.drop k):=⟨by rw [List.length_drop,h.1];omega,fun x hx=>h.2 x (List.mem_of_mem_drop hx)⟩
def QA (a:List Int) (i:Nat):Int:=Int.fdiv (gI a (i / 2)) (2 ^ (32*(i % 2))) % 4294967296
def sB (a:List Int) (i:Nat) (s:List Int):List Int:=s.set i (QA a i)
theorem Jr {a:List Int} (ha:Wn 4 a):oU 8 (bd (sB a) oM 8)∧fF (bd (sB a) oM 8)=V a:=by
 obtain ⟨a0,a1,a2,a3,rfl,h0,h1,h2,h3⟩:=eV ha
 have e:bd (sB [a0,a1,a2,a3]) oM 8=Int.fdiv a0 1 % 4294967296 :: Int.fdiv a0 4294967296 % 4294967296 :: Int.fdiv a1 1 % 4294967296 :: Int.fdiv a1 4294967296 % 4294967296 :: Int.fdiv a2 1 % 4294967296 :: Int.fdiv a2 4294967296 % 4294967296 :: Int.fdiv a3 1 % 4294967296 :: Int.fdiv a3 4294967296 % 4294967296 :: []:=rfl
 have f1:∀ z:Int,Int.fdiv z 1=z:=fun z=>by rw [Int.fdiv_eq_ediv_of_nonneg _ (by omega),Int.ediv_one]
 have f2:∀ z:Int,Int.fdiv z 4294967296=z / 4294967296:=fun z=>Int.fdiv_eq_ediv_of_nonneg _ (by omega)
 rw [e]
 simp only [f1,f2]
 unfold cD at *
 refine ⟨⟨rfl,?_⟩,?_⟩
 ·intro y hy
  simp only [List.mem_cons,List.mem_nil_iff,or_false] at hy
  rcases hy with rfl | rfl | rfl | rfl | rfl | rfl | rfl | rfl <;> exact ⟨by omega,by omega⟩
 ·rw [V4]
  simp only [fF]
  omega
def Rd (e:List Int) (i:Nat):Int:=IntKind.u64.wrap (gI e (2*i)+IntKind.u64.wrap (gI e (2*i+1)*4294967296))
def Ak (e:List Int) (i:Nat) (s:List Int):List Int:=s.set i (Rd e i)
def F1 (e:List Int):Int:=IntKind.u64.wrap (gI e 8+IntKind.u64.wrap (gI e 9*4294967296))
theorem Bo {e:List Int} (h:oU 10 e):Wn 4 (bd (Ak e) zI 4)∧cD (F1 e)∧V (bd (Ak e) zI 4)+115792089237316195423570985008687907853269984665640564039457584007913129639936*F1 e=fF e:=by
 obtain ⟨h1,h2⟩:=h
 match e,h1 with
 | [a,b,c,d,f,g,i,j,k,l],_ =>
  have e:bd (Ak [a,b,c,d,f,g,i,j,k,l]) zI 4=IntKind.u64.wrap (a+IntKind.u64.wrap (b*4294967296)) :: IntKind.u64.wrap (c+IntKind.u64.wrap (d*4294967296)) :: IntKind.u64.wrap (f+IntKind.u64.wrap (g*4294967296)) :: IntKind.u64.wrap (i+IntKind.u64.wrap (j*4294967296)) :: []:=rfl
  have e2:F1 [a,b,c,d,f,g,i,j,k,l]=IntKind.u64.wrap (k+IntKind.u64.wrap (l*4294967296)):=rfl
  have q0:=h2 a (by simp)
  have q1:=h2 b (by simp)
  have q2:=h2 c (by simp)
  have q3:=h2 d (by simp)
  have q4:=h2 f (by simp)
  have q5:=h2 g (by simp)
  have q6:=h2 i (by simp)
  have q7:=h2 j (by simp)
  have q8:=h2 k (by simp)
  have q9:=h2 l (by simp)
  clear h2
  have w:∀ x y:Int,0≤x∧x<4294967296→0≤y∧y<4294967296→IntKind.u64.wrap (x+IntKind.u64.wrap (y*4294967296))=x+4294967296*y:=by
   intro x y hx hy
   simp only [cH]
   omega
  rw [e,e2,w a b q0 q1,w c d q2 q3,w f g q4 q5,w i j q6 q7,w k l q8 q9]
  refine ⟨⟨rfl,?_⟩,⟨by omega,by omega⟩,?_⟩
  ·intro y hy
   simp only [List.mem_cons,List.mem_nil_iff,or_false] at hy
   rcases hy with rfl | rfl | rfl | rfl <;> exact ⟨by omega,by omega⟩
  ·rw [V4]
   simp only [fF]
   omega
def LV (t:Int):List Int:=IntKind.u64.wrap (IntKind.u64.wrap (t*977)+IntKind.u64.wrap (t*4294967296)) :: IntKind.u64.wrap (Int.fdiv t 4294967296+if IntKind.u64.wrap (IntKind.u64.wrap (t*977)+IntKind.u64.wrap (t*4294967296))<IntKind.u64.wrap (t*977) then 1 else 0) :: 0 :: 0 :: []
theorem LW {t:Int} (h0:0≤t) (h1:t<1099511627776):Wn 4 (LV t)∧V (LV t)=t*4294968273:=by
 unfold LV
 rw [Int.fdiv_eq_ediv_of_nonneg _ (by omega)]
 simp only [cH]
 obtain ⟨q,r,rfl,hq,hr0,hr1⟩:∃ q r:Int,t=4294967296*q+r∧(0≤q∧q<256)∧0≤r∧r<4294967296:=⟨t / 4294967296,t % 4294967296,by omega,by omega,by omega,by omega⟩
 have e1:(4294967296*q+r)*977 % 18446744073709551616=(4294967296*q+r)*977:=by omega
 have e2:(4294967296*q+r)*4294967296 % 18446744073709551616=r*4294967296:=by omega
 have e3:(4294967296*q+r) / 4294967296=q:=by omega
 rw [e1,e2,e3]
 refine ⟨⟨rfl,?_⟩,?_⟩
 ·intro y hy
  simp only [List.mem_cons,List.mem_nil_iff,or_false] at hy
  rcases hy with rfl | rfl | rfl | rfl
  ·exact ⟨by omega,by omega⟩
  ·split <;> exact ⟨by omega,by omega⟩
  ·exact nL
  ·exact nL
 ·rw [V4]
  by_cases hs:(4294967296*q+r)*977+r*4294967296<18446744073709551616
  ·have e4:((4294967296*q+r)*977+r*4294967296) % 18446744073709551616=(4294967296*q+r)*977+r*4294967296:=by omega
   rw [e4,if_neg (by omega)]
   omega
  ·have e4:((4294967296*q+r)*977+r*4294967296) % 18446744073709551616=(4294967296*q+r)*977+r*4294967296 - 18446744073709551616:=by omega
   rw [e4,if_pos (by omega)]
   omega
theorem IK {d:List Int} (hd:oU 16 d):oU 10 (bd (nT d) (mh,0) 10).1∧fF (bd (nT d) (mh,0) 10).1=fF (d.take 8)+4294968273*fF (d.drop 8)∧fF (d.take 8)+115792089237316195423570985008687907853269984665640564039457584007913129639936*fF (d.drop 8)=fF d∧(0≤fF (d.take 8)∧fF (d.take 8)<115792089237316195423570985008687907853269984665640564039457584007913129639936)∧(0≤fF (d.drop 8)∧fF (d.drop 8)<115792089237316195423570985008687907853269984665640564039457584007913129639936):=by
 obtain ⟨h1,h2,h3,h4⟩:=r5 hd 10 (by omega)
 have b1:=wh 8 _ (FZ (n:=8) 8 hd)
 have b2:=wh 8 _ (F0 (n:=8) 8 hd)
 have b3:=wh 10 _ h1
 have hdl:(d.drop 8).length=8:=by rw [List.length_drop,hd.1]
 have ea:=BH (d.take 8) (d.drop 8)
 rw [List.take_append_drop,List.length_take,hd.1,show min 8 16=8 by omega] at ea
 rw [show min 10 8=8 by omega,show min (10 - 1) 8=8 by omega,List.take_of_length_le (l:=d.drop 8) (by omega)] at h4
 have p8:(4294967296:Int) ^ 8=115792089237316195423570985008687907853269984665640564039457584007913129639936:=by decide
 have p10:(4294967296:Int) ^ 10=2135987035920910082395021706169552114602704522356652769947041607822219725780640550022962086936576:=by decide
 rw [p8] at b1 b2 ea
 rw [p10] at b3 h4
 generalize bd (nT d) (mh,0) 10=s at *
 generalize fF (d.take 8)=L at *
 generalize fF (d.drop 8)=H at *
 refine ⟨h1,by omega,by omega,b1,b2⟩
theorem F2 {T L H W t:Int} (h1:T=L+115792089237316195423570985008687907853269984665640564039457584007913129639936*H) (h2:W+115792089237316195423570985008687907853269984665640564039457584007913129639936*t=L+4294968273*H):(W+t*4294968273) % 115792089237316195423570985008687907853269984665640564039457584007908834671663=T % 115792089237316195423570985008687907853269984665640564039457584007908834671663:=by
 have:T=(W+t*4294968273)+115792089237316195423570985008687907853269984665640564039457584007908834671663*(H+t):=by omega
 rw [this,Int.add_mul_emod_self_left]
open Go.Am Go.Sha Go.Ec
theorem gJ (a b:List Int) (ha:Wn 4 a) (hb:Wn 4 b):∃ (s:List Int) (c:Int),Wn 4 s∧C1 c∧V s+115792089237316195423570985008687907853269984665640564039457584007913129639936*c=V a+V b∧aq Tryz.prog 217 [.agg (cI a),.agg (cI b)] (fun r=>r=.tup [.agg (cI s),.d (.int .u64 c)]):=by
 have hS:∀ k,Wn 4 (bd (eG wc a b) (zI,0) k).1∧C1 (bd (eG wc a b) (zI,0) k).2:=ej (P:=fun _ (s:List Int × Int)=>Wn 4 s.1∧C1 s.2) ⟨cG,pH⟩ fun k s hs=>by
  obtain ⟨h1,h2,_⟩:=FW (gI a k,gI b k,s.2) ⟨aP ha,aP hb,hs.2⟩
  exact ⟨j6 hs.1 h1,h2⟩
 refine ⟨(bd (eG wc a b) (zI,0) 4).1,(bd (eG wc a b) (zI,0) 4).2,(hS 4).1,(hS 4).2,ND FW ha hb,?_⟩
 refine aS Tryz.func217 Tryz.ntmps217 (rs:=[.cell 4 160,.tmp 5]) (ah a b) ?_
 have hal:=ha.1
 have hbl:=hb.1
 simp [go_sem,hal,hbl,aa hal,aa hbl]
 generalize hSS:bd (eG wc a b) (zI,0)=S at *
 refine au (fun k:Nat=>⟨[(2,.ptr 0 0 0 1),(3,.ptr 32 0 0 1),(4,.ptr 64 0 0 1),(6,.ptr 160 0 0 1),(7,.d (.int .u64 (S k).2)),(8,.d (.int .i64 (k:Int)))],[(160,⟨160,4,[cI (S k).1]⟩),(64,⟨160,4,[cI zI]⟩),(32,⟨160,4,[cI b]⟩),(0,⟨160,4,[cI a]⟩)],1000⟩)
  (fun k=>k≤4) (fun k=>4 - k) 0 (by omega) (by
   rw [← hSS]
   simp [av,ag,fv,lk,AV.low,AV.low1,bd]
   and_intros <;> first | rfl | exact aA _ _) ?_
 intro k hk
 obtain ⟨hs1,hs2⟩:=hS k
 have hsl:=hs1.1
 have w3:=ax (k:=k) (by omega)
 simp only [go_sem,Nat.reduceEqDiff,Nat.reduceAdd,Nat.reduceLT,↓reduceIte]
 by_cases h4:k<4
 ·refine ⟨fun h=>?_,fun h=>absurd (by exact_mod_cast h4) h⟩
  have hka:=bw (l:=a) (k:=k) (by omega)
  have hkb:=bw (l:=b) (k:=k) (by omega)
  have hsn:S (k+1)=eG wc a b k (S k):=by rw [← hSS];rfl
  have hk4:(k:Int)<4:=by omega
  simp only [eG,wc] at hsn
  have hRa:=aP (k:=k) ha
  have hRb:=aP (k:=k) hb
  generalize (S k).2=c0 at *
  generalize gI a k=x at *
  generalize gI b k=y at *
  generalize hs1e:IntKind.u64.wrap (x+y)=s1 at *
  generalize hs2e:IntKind.u64.wrap (s1+c0)=s2 at *
  refine bk [0,1,2,3,4,5,6,7] [] 0 (k:=8) ?_
  intro G hG
  simp [go_sem,hka,hkb,hal,hbl,hsl,hk4,cg,w3,hs1e,hs2e]
  first | refine hG _ _ ?_ | refine ⟨by omega,hG _ _ ?_⟩ | refine ⟨by omega,by omega,hG _ _ ?_⟩ | refine ⟨by omega,by omega,by omega,hG _ _ ?_⟩ | refine ⟨by omega,by omega,by omega,by omega,hG _ _ ?_⟩
  clear hG G
  by_cases h1:s1<x
  ·rw [if_pos (.inl h1)] at hsn
   simp [go_sem,hka,hkb,hal,hbl,hsl,hk4,cg,w3,hs1e,hs2e,h1]
   first | refine ai (k+1) (by omega) (by omega) ?_ | refine ⟨by omega,ai (k+1) (by omega) (by omega) ?_⟩ | refine ⟨by omega,by omega,ai (k+1) (by omega) (by omega) ?_⟩
   rw [hsn]
   simp [av,ag,fv,lk,AV.low,AV.low1]
   and_intros <;> exact aA _ _
  ·by_cases h2:s2<s1
   ·rw [if_pos (.inr h2)] at hsn
    simp [go_sem,hka,hkb,hal,hbl,hsl,hk4,cg,w3,hs1e,hs2e,h1,h2]
    first | refine ai (k+1) (by omega) (by omega) ?_ | refine ⟨by omega,ai (k+1) (by omega) (by omega) ?_⟩ | refine ⟨by omega,by omega,ai (k+1) (by omega) (by omega) ?_⟩
    rw [hsn]
    simp [av,ag,fv,lk,AV.low,AV.low1]
    and_intros <;> exact aA _ _
   ·rw [if_neg (fun h=>h.elim h1 h2)] at hsn
    simp [go_sem,hka,hkb,hal,hbl,hsl,hk4,cg,w3,hs1e,hs2e,h1,h2]
    first | refine ai (k+1) (by omega) (by omega) ?_ | refine ⟨by omega,ai (k+1) (by omega) (by omega) ?_⟩ | refine ⟨by omega,by omega,ai (k+1) (by omega) (by omega) ?_⟩
    rw [hsn]
    simp [av,ag,fv,lk,AV.low,AV.low1]
    and_intros <;> exact aA _ _
 ·refine ⟨fun h=>absurd (by exact_mod_cast h) h4,fun h=>?_⟩
  have hk4:k=4:=by omega
  subst hk4
  simp [go_sem,hsl,aa hsl,ao (l:=zI) (n:=4) rfl,ak]
  exact lQ rfl
theorem lh (a b:List Int) (ha:Wn 4 a) (hb:Wn 4 b):∃ (s:List Int) (c:Int),Wn 4 s∧C1 c∧V s - 115792089237316195423570985008687907853269984665640564039457584007913129639936*c=V a - V b∧aq Tryz.prog 238 [.agg (cI a),.agg (cI b)] (fun r=>r=.tup [.agg (cI s),.d (.int .u64 c)]):=by
 have hS:∀ k,Wn 4 (bd (eG wg a b) (zI,0) k).1∧C1 (bd (eG wg a b) (zI,0) k).2:=ej (P:=fun _ (s:List Int × Int)=>Wn 4 s.1∧C1 s.2) ⟨cG,pH⟩ fun k s hs=>by
  obtain ⟨h1,h2,_⟩:=FX (gI a k,gI b k,s.2) ⟨aP ha,aP hb,hs.2⟩
  exact ⟨j6 hs.1 h1,h2⟩
 refine ⟨(bd (eG wg a b) (zI,0) 4).1,(bd (eG wg a b) (zI,0) 4).2,(hS 4).1,(hS 4).2,NE FX ha hb,?_⟩
 refine aS Tryz.func238 Tryz.ntmps238 (rs:=[.cell 4 160,.tmp 5]) (ah a b) ?_
 have hal:=ha.1
 have hbl:=hb.1
 simp [go_sem,hal,hbl,aa hal,aa hbl]
 generalize hSS:bd (eG wg a b) (zI,0)=S at *
 refine au (fun k:Nat=>⟨[(2,.ptr 0 0 0 1),(3,.ptr 32 0 0 1),(4,.ptr 64 0 0 1),(6,.ptr 160 0 0 1),(7,.d (.int .u64 (S k).2)),(8,.d (.int .i64 (k:Int)))],[(160,⟨160,4,[cI (S k).1]⟩),(64,⟨160,4,[cI zI]⟩),(32,⟨160,4,[cI b]⟩),(0,⟨160,4,[cI a]⟩)],1000⟩)
  (fun k=>k≤4) (fun k=>4 - k) 0 (by omega) (by
   rw [← hSS]
   simp [av,ag,fv,lk,AV.low,AV.low1,bd]
   and_intros <;> first | rfl | exact aA _ _) ?_
 intro k hk
 obtain ⟨hs1,hs2⟩:=hS k
 have hsl:=hs1.1
 have w3:=ax (k:=k) (by omega)
 simp only [go_sem,Nat.reduceEqDiff,Nat.reduceAdd,Nat.reduceLT,↓reduceIte]
 by_cases h4:k<4
 ·refine ⟨fun h=>?_,fun h=>absurd (by exact_mod_cast h4) h⟩
  have hka:=bw (l:=a) (k:=k) (by omega)
  have hkb:=bw (l:=b) (k:=k) (by omega)
  have hsn:S (k+1)=eG wg a b k (S k):=by rw [← hSS];rfl
  have hk4:(k:Int)<4:=by omega
  simp only [eG,wg] at hsn
  have hRa:=aP (k:=k) ha
  have hRb:=aP (k:=k) hb
  generalize (S k).2=c0 at *
  generalize gI a k=x at *
  generalize gI b k=y at *
  generalize hs1e:IntKind.u64.wrap (IntKind.u64.wrap (x - y) - c0)=s1 at *
  refine bk [0,1,2,3,4,5,6,7,8,9,10] [(11,[])] 0 (k:=12) ?_
  intro G hG
  simp [go_sem,hka,hkb,hal,hbl,hsl,hk4,cg,w3,hs1e]
  first | refine hG _ _ ?_ | refine ⟨by omega,hG _ _ ?_⟩ | refine ⟨by omega,by omega,hG _ _ ?_⟩ | refine ⟨by omega,by omega,by omega,hG _ _ ?_⟩ | refine ⟨by omega,by omega,by omega,by omega,hG _ _ ?_⟩
  clear hG G
  by_cases h1:x<y
  ·rw [if_pos (.inl h1)] at hsn
   refine bk [0,1,2,3,4,5,6,7,8,9,10,11,12,13,14,15,16,17,18,19] [] 0 (k:=20) ?_
   intro G hG
   simp [go_sem,hka,hkb,hal,hbl,hsl,hk4,cg,w3,hs1e,h1]
   first | refine hG _ _ ?_ | refine ⟨by omega,hG _ _ ?_⟩ | refine ⟨by omega,by omega,hG _ _ ?_⟩ | refine ⟨by omega,by omega,by omega,hG _ _ ?_⟩ | refine ⟨by omega,by omega,by omega,by omega,hG _ _ ?_⟩
   clear hG G
   simp [qJ,go_sem,hka,hkb,hal,hbl,hsl,hk4,cg,w3,hs1e,h1]
   first | refine ai (k+1) (by omega) (by omega) ?_ | refine ⟨by omega,ai (k+1) (by omega) (by omega) ?_⟩ | refine ⟨by omega,by omega,ai (k+1) (by omega) (by omega) ?_⟩
   rw [hsn]
   simp [av,ag,fv,lk,AV.low,AV.low1]
   and_intros <;> exact aA _ _
  ·by_cases h2:x=y
   ·by_cases h3:c0=1
    ·rw [if_pos (.inr ⟨h2,h3⟩)] at hsn
     refine bk [0,1,2,3,4,5,6,7,8,9,10,11,12,13,14,15,16,17,18,19] [] 0 (k:=20) ?_
     intro G hG
     simp [go_sem,hka,hkb,hal,hbl,hsl,hk4,cg,w3,hs1e,h1,h2,h3]
     first | refine hG _ _ ?_ | refine ⟨by omega,hG _ _ ?_⟩ | refine ⟨by omega,by omega,hG _ _ ?_⟩ | refine ⟨by omega,by omega,by omega,hG _ _ ?_⟩ | refine ⟨by omega,by omega,by omega,by omega,hG _ _ ?_⟩
     clear hG G
     simp [qJ,go_sem,hka,hkb,hal,hbl,hsl,hk4,cg,w3,hs1e,h1,h2,h3]
     first | refine ai (k+1) (by omega) (by omega) ?_ | refine ⟨by omega,ai (k+1) (by omega) (by omega) ?_⟩ | refine ⟨by omega,by omega,ai (k+1) (by omega) (by omega) ?_⟩
     rw [hsn]
     simp [av,ag,fv,lk,AV.low,AV.low1]
     and_intros <;> exact aA _ _
    ·rw [if_neg (fun h=>h.elim h1 (fun h=>h3 h.2))] at hsn
     refine bk [0,1,2,3,4,5,6,7,8,9,10,11,12,13,14,15,16,17,18,19] [] 0 (k:=20) ?_
     intro G hG
     simp [go_sem,hka,hkb,hal,hbl,hsl,hk4,cg,w3,hs1e,h1,h2,h3]
     first | refine hG _ _ ?_ | refine ⟨by omega,hG _ _ ?_⟩ | refine ⟨by omega,by omega,hG _ _ ?_⟩ | refine ⟨by omega,by omega,by omega,hG _ _ ?_⟩ | refine ⟨by omega,by omega,by omega,by omega,hG _ _ ?_⟩
     clear hG G
     simp [qJ,go_sem,hka,hkb,hal,hbl,hsl,hk4,cg,w3,hs1e,h1,h2,h3]
     first | refine ai (k+1) (by omega) (by omega) ?_ | refine ⟨by omega,ai (k+1) (by omega) (by omega) ?_⟩ | refine ⟨by omega,by omega,ai (k+1) (by omega) (by omega) ?_⟩
     rw [hsn]
     simp [av,ag,fv,lk,AV.low,AV.low1]
     and_intros <;> exact aA _ _
   ·rw [if_neg (fun h=>h.elim h1 (fun h=>h2 h.1))] at hsn
    refine bk [0,1,2,3,4,5,6,7,8,9,10,11,12,13,14,15,16,17,18,19] [] 0 (k:=20) ?_
    intro G hG
    simp [go_sem,hka,hkb,hal,hbl,hsl,hk4,cg,w3,hs1e,h1,h2]
    first | refine hG _ _ ?_ | refine ⟨by omega,hG _ _ ?_⟩ | refine ⟨by omega,by omega,hG _ _ ?_⟩ | refine ⟨by omega,by omega,by omega,hG _ _ ?_⟩ | refine ⟨by omega,by omega,by omega,by omega,hG _ _ ?_⟩
    clear hG G
    simp [qJ,go_sem,hka,hkb,hal,hbl,hsl,hk4,cg,w3,hs1e,h1,h2]
    first | refine ai (k+1) (by omega) (by omega) ?_ | refine ⟨by omega,ai (k+1) (by omega) (by omega) ?_⟩ | refine ⟨by omega,by omega,ai (k+1) (by omega) (by omega) ?_⟩
    rw [hsn]
    simp [av,ag,fv,lk,AV.low,AV.low1]
    and_intros <;> exact aA _ _
 ·refine ⟨fun h=>absurd (by exact_mod_cast h) h4,fun h=>?_⟩
  have hk4:k=4:=by omega
  subst hk4
  simp [go_sem,hsl,aa hsl,ao (l:=zI) (n:=4) rfl,ak]
  exact lQ rfl
theorem ii:aq Tryz.prog 218 [] (fun r=>r=.agg (cI lS)):=by
 refine aS Tryz.func218 Tryz.ntmps218 (rs:=[.cell 0 160]) (by simp [AV.deep,AV.deep1]) ?_
 simp [go_sem,cI,zI,ak]
 exact bm (a:=lS) rfl
theorem tP:aq Tryz.prog 225 [] (fun r=>r=.agg (cI CY)):=by
 refine aS Tryz.func225 Tryz.ntmps225 (rs:=[.cell 0 160]) (by simp [AV.deep,AV.deep1]) ?_
 simp [go_sem,cI,zI,ak]
 exact bm (a:=CY) rfl
theorem F3:V lS=115792089237316195423570985008687907853269984665640564039457584007908834671663:=by simp [V,lS]
theorem d0 (a:List Int) (ha:Wn 4 a):∃ r,Wn 4 r∧V r=V a % 115792089237316195423570985008687907853269984665640564039457584007908834671663∧W1 221 a r:=by
 obtain ⟨d,c,hd,hc,hv,hf⟩:=lh a lS ha mq
 have va:=cy ha
 have vd:=cy hd
 rw [F3] at hv
 have hc1:=hc.1
 have hc2:=hc.2
 have hal:=ha.1
 have hdl:=hd.1
 by_cases h0:c=0
 ·refine ⟨d,hd,by subst h0;omega,?_⟩
  unfold W1
  refine aS Tryz.func221 Tryz.ntmps221 (rs:=[.cell 2 160]) (ar a) ?_
  simp [go_sem,hal,aa hal]
  refine bD [0] [1,2,6,7] [0,3,4,5,8] (.alt (.step 1 [] true (.alt (.step 2 [3,4,5] true (.step 6 [] true (.step 7 [8] true .done))) (.step 6 [] true (.step 2 [3,4,5] true (.step 7 [8] true .done))))) (.step 6 [] true (.step 1 [] true (.step 2 [3,4,5] true (.step 7 [8] true .done))))) ⟨[(1,.ptr 0 0 0 1),(2,.ptr 32 0 0 1),(3,.ptr 256 0 0 1),(4,.d (.int .u64 c))],[(256,⟨160,4,[cI d]⟩),(32,⟨160,4,[cI zI]⟩),(0,⟨160,4,[cI a]⟩)],9000⟩ (k:=9) ?h3 ?hq
  case h3 =>
   intro G hG
   have hW:∀ (fr:Fr) (hp:Hp),(fv 1 fr=.ptr 0 0 0 1∧fv 2 fr=.ptr 32 0 0 1∧fv 3 fr=.ptr 256 0 0 1∧fv 4 fr=.d (.int .u64 c)∧lk 256 hp=some ⟨160,4,[cI d]⟩∧lk 32 hp=some ⟨160,4,[cI zI]⟩∧lk 0 hp=some ⟨160,4,[cI a]⟩)→G fr hp:=by
    rintro fr hp ⟨q0,q1,q2,q3,q4,q5,q6⟩
    exact hG _ _ fc
   simp [go_sem,hal,aa hal,hdl,aa hdl,ao (l:=zI) (n:=4) rfl,be]
   repeat' first | exact hW _ _ ⟨rfl,rfl,rfl,rfl,rfl,rfl,rfl⟩ | (refine hW _ _ ?_;simp [fv,lk];done) | refine ab ii (by simp) ?_ | refine ab hf (ah _ _) ?_ | apply And.intro | simp [go_sem,hal,aa hal,hdl,aa hdl,ao (l:=zI) (n:=4) rfl,be]
  case hq =>
   simp [go_sem,h0,hdl,aa hdl,ao (l:=zI) (n:=4) rfl,ak]
   exact bm rfl
 ·have h1:c=1:=by omega
  refine ⟨a,ha,by omega,?_⟩
  unfold W1
  refine aS Tryz.func221 Tryz.ntmps221 (rs:=[.cell 2 160]) (ar a) ?_
  simp [go_sem,hal,aa hal]
  refine bD [0] [1,2,6,7] [0,3,4,5,8] (.alt (.step 1 [] true (.alt (.step 2 [3,4,5] true (.step 6 [] true (.step 7 [8] true .done))) (.step 6 [] true (.step 2 [3,4,5] true (.step 7 [8] true .done))))) (.step 6 [] true (.step 1 [] true (.step 2 [3,4,5] true (.step 7 [8] true .done))))) ⟨[(1,.ptr 0 0 0 1),(2,.ptr 32 0 0 1),(3,.ptr 256 0 0 1),(4,.d (.int .u64 c))],[(256,⟨160,4,[cI d]⟩),(32,⟨160,4,[cI zI]⟩),(0,⟨160,4,[cI a]⟩)],9000⟩ (k:=9) ?h3 ?hq
  case h3 =>
   intro G hG
   have hW:∀ (fr:Fr) (hp:Hp),(fv 1 fr=.ptr 0 0 0 1∧fv 2 fr=.ptr 32 0 0 1∧fv 3 fr=.ptr 256 0 0 1∧fv 4 fr=.d (.int .u64 c)∧lk 256 hp=some ⟨160,4,[cI d]⟩∧lk 32 hp=some ⟨160,4,[cI zI]⟩∧lk 0 hp=some ⟨160,4,[cI a]⟩)→G fr hp:=by
    rintro fr hp ⟨q0,q1,q2,q3,q4,q5,q6⟩
    exact hG _ _ fc
   simp [go_sem,hal,aa hal,hdl,aa hdl,ao (l:=zI) (n:=4) rfl,be]
   repeat' first | exact hW _ _ ⟨rfl,rfl,rfl,rfl,rfl,rfl,rfl⟩ | (refine hW _ _ ?_;simp [fv,lk];done) | refine ab ii (by simp) ?_ | refine ab hf (ah _ _) ?_ | apply And.intro | simp [go_sem,hal,aa hal,hdl,aa hdl,ao (l:=zI) (n:=4) rfl,be]
  case hq =>
   simp [go_sem,h1,hal,aa hal,ao (l:=zI) (n:=4) rfl,ak]
   exact bm rfl
theorem IL (a b:List Int) (ha:Wn 4 a) (hb:Wn 4 b):∃ r,Wn 4 r∧V r=(V a+V b) % 115792089237316195423570985008687907853269984665640564039457584007908834671663∧W2 223 a b r:=by
 obtain ⟨a1,ha1,va1,f1⟩:=d0 a ha
 obtain ⟨b1,hb1,vb1,f2⟩:=d0 b hb
 obtain ⟨s,c,hs,hc,vs,f3⟩:=gJ a1 b1 ha1 hb1
 obtain ⟨s2,c2,hs2,hc2,vs2,f4⟩:=gJ s [4294968273,0,0,0] hs (cO Lo)
 obtain ⟨r1,hr1,vr1,f5⟩:=d0 s hs
 obtain ⟨r2,hr2,vr2,f6⟩:=d0 s2 hs2
 have vo:V [4294968273,0,0,0]=4294968273:=by simp [V]
 rw [vo] at vs2
 have q1:=cy hs
 have q2:=cy hs2
 have q3:=hc.1
 have q4:=hc.2
 have q5:=hc2.1
 have q6:=hc2.2
 unfold W1 at f5 f6
 unfold W1 at f1 f2
 have hal:=ha.1
 have hbl:=hb.1
 have hsl:=hs.1
 have hz:List.drop 4 (cI zI)=[]:=ao rfl
 have h2l:=hs2.1
 have r1l:=hr1.1
 have r2l:=hr2.1
 unfold W2
 by_cases h0:c=0
 ·refine ⟨r1,hr1,by subst h0;rw [vr1];omega,?_⟩
  refine aS Tryz.func223 Tryz.ntmps223 (rs:=[.cell 4 160]) (ah a b) ?_
  simp [go_sem,hal,hbl,aa hal,aa hbl]
  refine bD [0,2] [1,3,4,8,9] [0,2,5,6,7,10] (.alt (.step 1 [] true (.alt (.step 3 [] true (.alt (.step 4 [5,6,7] true (.step 8 [] true (.step 9 [10] true .done))) (.step 8 [] true (.step 4 [5,6,7] true (.step 9 [10] true .done))))) (.step 8 [] true (.step 3 [] true (.step 4 [5,6,7] true (.step 9 [10] true .done)))))) (.step 8 [] true (.step 1 [] true (.step 3 [] true (.step 4 [5,6,7] true (.step 9 [10] true .done)))))) ⟨[(4,.ptr 64 0 0 1),(5,.ptr 352 0 0 1),(6,.d (.int .u64 c))],[(352,⟨160,4,[cI s]⟩),(64,⟨160,4,[cI zI]⟩)],9000⟩ (k:=11) ?h3 ?hq
  case h3 =>
   intro G hG
   have hW:∀ (fr:Fr) (hp:Hp),(fv 4 fr=.ptr 64 0 0 1∧fv 5 fr=.ptr 352 0 0 1∧fv 6 fr=.d (.int .u64 c)∧lk 352 hp=some ⟨160,4,[cI s]⟩∧lk 64 hp=some ⟨160,4,[cI zI]⟩)→G fr hp:=by
    rintro fr hp ⟨q0,q1,q2,q3,q4⟩
    exact hG _ _ fc
   simp [go_sem,hal,hbl,hsl,aa hal,aa hbl,aa hsl,ao (l:=zI) (n:=4) rfl,be]
   repeat' first | exact hW _ _ ⟨rfl,rfl,rfl,rfl,rfl⟩ | (refine hW _ _ ?_;simp [fv,lk];done) | refine ab f1 (ar _) ?_ | refine ab f2 (ar _) ?_ | refine ab f3 (ah _ _) ?_ | apply And.intro | simp [go_sem,hal,hbl,hsl,aa hal,aa hbl,aa hsl,ao (l:=zI) (n:=4) rfl,be]
  case hq =>
   simp [go_sem,h0,hsl,aa hsl]
   refine ab f5 (ar _) ?_
   simp [go_sem,r1l,aa r1l,hz,ak]
   exact bm rfl
 ·have h1:c=1:=by omega
  refine ⟨r2,hr2,by subst h1;rw [vr2];omega,?_⟩
  refine aS Tryz.func223 Tryz.ntmps223 (rs:=[.cell 4 160]) (ah a b) ?_
  simp [go_sem,hal,hbl,aa hal,aa hbl]
  refine bD [0,2] [1,3,4,8,9] [0,2,5,6,7,10] (.alt (.step 1 [] true (.alt (.step 3 [] true (.alt (.step 4 [5,6,7] true (.step 8 [] true (.step 9 [10] true .done))) (.step 8 [] true (.step 4 [5,6,7] true (.step 9 [10] true .done))))) (.step 8 [] true (.step 3 [] true (.step 4 [5,6,7] true (.step 9 [10] true .done)))))) (.step 8 [] true (.step 1 [] true (.step 3 [] true (.step 4 [5,6,7] true (.step 9 [10] true .done)))))) ⟨[(4,.ptr 64 0 0 1),(5,.ptr 352 0 0 1),(6,.d (.int .u64 c))],[(352,⟨160,4,[cI s]⟩),(64,⟨160,4,[cI zI]⟩)],9000⟩ (k:=11) ?h3 ?hq
  case h3 =>
   intro G hG
   have hW:∀ (fr:Fr) (hp:Hp),(fv 4 fr=.ptr 64 0 0 1∧fv 5 fr=.ptr 352 0 0 1∧fv 6 fr=.d (.int .u64 c)∧lk 352 hp=some ⟨160,4,[cI s]⟩∧lk 64 hp=some ⟨160,4,[cI zI]⟩)→G fr hp:=by
    rintro fr hp ⟨q0,q1,q2,q3,q4⟩
    exact hG _ _ fc
   simp [go_sem,hal,hbl,hsl,aa hal,aa hbl,aa hsl,ao (l:=zI) (n:=4) rfl,be]
   repeat' first | exact hW _ _ ⟨rfl,rfl,rfl,rfl,rfl⟩ | (refine hW _ _ ?_;simp [fv,lk];done) | refine ab f1 (ar _) ?_ | refine ab f2 (ar _) ?_ | refine ab f3 (ah _ _) ?_ | apply And.intro | simp [go_sem,hal,hbl,hsl,aa hal,aa hbl,aa hsl,ao (l:=zI) (n:=4) rfl,be]
  case hq =>
   simp [go_sem,h1,hsl,aa hsl]
   refine ab f4 (ah s [4294968273,0,0,0]) ?_
   simp [go_sem,h2l,hsl,aa h2l,ao hsl]
   refine ab f6 (ar _) ?_
   simp [go_sem,r2l,aa r2l,hz,ak]
   exact bm rfl
theorem BI (a b:List Int) (ha:Wn 4 a) (hb:Wn 4 b):∃ r,Wn 4 r∧V r=(V a - V b) % 115792089237316195423570985008687907853269984665640564039457584007908834671663∧W2 226 a b r:=by
 obtain ⟨a1,ha1,va1,f1⟩:=d0 a ha
 obtain ⟨b1,hb1,vb1,f2⟩:=d0 b hb
 obtain ⟨s,c,hs,hc,vs,f3⟩:=lh a1 b1 ha1 hb1
 obtain ⟨s2,c2,hs2,hc2,vs2,f4⟩:=gJ s lS hs mq
 rw [F3] at vs2
 have q1:=cy hs
 have q2:=cy hs2
 have q3:=hc.1
 have q4:=hc.2
 have q5:=hc2.1
 have q6:=hc2.2
 unfold W1 at f1 f2
 have hal:=ha.1
 have hbl:=hb.1
 have hsl:=hs.1
 have hz:List.drop 4 (cI zI)=[]:=ao rfl
 have h2l:=hs2.1
 unfold W2
 by_cases h0:c=0
 ·refine ⟨s,hs,by subst h0;omega,?_⟩
  refine aS Tryz.func226 Tryz.ntmps226 (rs:=[.cell 4 160]) (ah a b) ?_
  simp [go_sem,hal,hbl,aa hal,aa hbl]
  refine bD [0,2] [1,3,4,8,9] [0,2,5,6,7,10] (.alt (.step 1 [] true (.alt (.step 3 [] true (.alt (.step 4 [5,6,7] true (.step 8 [] true (.step 9 [10] true .done))) (.step 8 [] true (.step 4 [5,6,7] true (.step 9 [10] true .done))))) (.step 8 [] true (.step 3 [] true (.step 4 [5,6,7] true (.step 9 [10] true .done)))))) (.step 8 [] true (.step 1 [] true (.step 3 [] true (.step 4 [5,6,7] true (.step 9 [10] true .done)))))) ⟨[(4,.ptr 64 0 0 1),(5,.ptr 352 0 0 1),(6,.d (.int .u64 c))],[(352,⟨160,4,[cI s]⟩),(64,⟨160,4,[cI zI]⟩)],9000⟩ (k:=11) ?h3 ?hq
  case h3 =>
   intro G hG
   have hW:∀ (fr:Fr) (hp:Hp),(fv 4 fr=.ptr 64 0 0 1∧fv 5 fr=.ptr 352 0 0 1∧fv 6 fr=.d (.int .u64 c)∧lk 352 hp=some ⟨160,4,[cI s]⟩∧lk 64 hp=some ⟨160,4,[cI zI]⟩)→G fr hp:=by
    rintro fr hp ⟨q0,q1,q2,q3,q4⟩
    exact hG _ _ fc
   simp [go_sem,hal,hbl,hsl,aa hal,aa hbl,aa hsl,ao (l:=zI) (n:=4) rfl,be]
   repeat' first | exact hW _ _ ⟨rfl,rfl,rfl,rfl,rfl⟩ | (refine hW _ _ ?_;simp [fv,lk];done) | refine ab f1 (ar _) ?_ | refine ab f2 (ar _) ?_ | refine ab f3 (ah _ _) ?_ | apply And.intro | simp [go_sem,hal,hbl,hsl,aa hal,aa hbl,aa hsl,ao (l:=zI) (n:=4) rfl,be]
  case hq =>
   simp [go_sem,h0,hsl,aa hsl,hz,ak]
   exact bm rfl
 ·have h1:c=1:=by omega
  refine ⟨s2,hs2,by subst h1;omega,?_⟩
  refine aS Tryz.func226 Tryz.ntmps226 (rs:=[.cell 4 160]) (ah a b) ?_
  simp [go_sem,hal,hbl,aa hal,aa hbl]
  refine bD [0,2] [1,3,4,8,9] [0,2,5,6,7,10] (.alt (.step 1 [] true (.alt (.step 3 [] true (.alt (.step 4 [5,6,7] true (.step 8 [] true (.step 9 [10] true .done))) (.step 8 [] true (.step 4 [5,6,7] true (.step 9 [10] true .done))))) (.step 8 [] true (.step 3 [] true (.step 4 [5,6,7] true (.step 9 [10] true .done)))))) (.step 8 [] true (.step 1 [] true (.step 3 [] true (.step 4 [5,6,7] true (.step 9 [10] true .done)))))) ⟨[(4,.ptr 64 0 0 1),(5,.ptr 352 0 0 1),(6,.d (.int .u64 c))],[(352,⟨160,4,[cI s]⟩),(64,⟨160,4,[cI zI]⟩)],9000⟩ (k:=11) ?h3 ?hq
  case h3 =>
   intro G hG
   have hW:∀ (fr:Fr) (hp:Hp),(fv 4 fr=.ptr 64 0 0 1∧fv 5 fr=.ptr 352 0 0 1∧fv 6 fr=.d (.int .u64 c)∧lk 352 hp=some ⟨160,4,[cI s]⟩∧lk 64 hp=some ⟨160,4,[cI zI]⟩)→G fr hp:=by
    rintro fr hp ⟨q0,q1,q2,q3,q4⟩
    exact hG _ _ fc
   simp [go_sem,hal,hbl,hsl,aa hal,aa hbl,aa hsl,ao (l:=zI) (n:=4) rfl,be]
   repeat' first | exact hW _ _ ⟨rfl,rfl,rfl,rfl,rfl⟩ | (refine hW _ _ ?_;simp [fv,lk];done) | refine ab f1 (ar _) ?_ | refine ab f2 (ar _) ?_ | refine ab f3 (ah _ _) ?_ | apply And.intro | simp [go_sem,hal,hbl,hsl,aa hal,aa hbl,aa hsl,ao (l:=zI) (n:=4) rfl,be]
  case hq =>
   simp [go_sem,h1,hsl,aa hsl]
   refine bD [0] [1,2,5,6] [0,3,4] (.step 1 [] true (.step 2 [3,4] true (.alt (.step 5 [] true (.step 6 [] false .done)) (.step 6 [] false (.step 5 [] false .done))))) ⟨[(4,.ptr 64 0 0 1),(5,.ptr 352 0 0 1)],[(352,⟨160,4,[cI s2]⟩),(64,⟨160,4,[cI zI]⟩)],20000⟩ (k:=7) ?h3 ?hq
   case h3 =>
    intro G hG
    have hW:∀ (fr:Fr) (hp:Hp),(fv 4 fr=.ptr 64 0 0 1∧fv 5 fr=.ptr 352 0 0 1∧lk 352 hp=some ⟨160,4,[cI s2]⟩∧lk 64 hp=some ⟨160,4,[cI zI]⟩)→G fr hp:=by
     rintro fr hp ⟨q0,q1,q2,q3⟩
     exact hG _ _ fc
    simp [go_sem,hsl,h2l,aa hsl,aa h2l,ao hsl,hz,be]
    repeat' first | exact hW _ _ ⟨rfl,rfl,rfl,rfl⟩ | (refine hW _ _ ?_;simp [fv,lk];done) | refine ab ii (by simp) ?_ | refine ab f4 (ah _ _) ?_ | apply And.intro | simp [go_sem,hsl,h2l,aa hsl,aa h2l,ao hsl,hz,be]
   case hq =>
    simp [go_sem,h2l,aa h2l,hz,ak]
    exact bm rfl
theorem IM (a:List Int) (ha:Wn 4 a):∃ r,Wn 4 r∧V r=(0 - V a) % 115792089237316195423570985008687907853269984665640564039457584007908834671663∧W1 222 a r:=by
 obtain ⟨r,hr,vr,f1⟩:=BI zI a cG ha
 have v0:V zI=0:=by simp [V,zI]
 rw [v0] at vr
 unfold W2 at f1
 have hal:=ha.1
 have hrl:=hr.1
 have hz:List.drop 4 (cI zI)=[]:=ao rfl
 refine ⟨r,hr,vr,?_⟩
 unfold W1
 refine aS Tryz.func222 Tryz.ntmps222 (rs:=[.cell 2 160]) (ar a) ?_
 simp [go_sem,hal,aa hal]
 refine ab f1 (ah zI a) ?_
 simp [go_sem,hrl,aa hrl,hz,ak]
 exact bm rfl
theorem gg {l:List Int} (hl:l.length=4) (j:Nat) (hj:j<4):∀ h,(cI l)[j]'h=.d (.int .u64 (gI l j)):=fun h=>(List.getElem?_eq_some_iff.1 (by rw [iH,bw (by omega)];rfl)).2
theorem qk {a:List Int} (ha:Wn 4 a):gI a 0 % 2=V a % 2:=by
 obtain ⟨a0,a1,a2,a3,rfl,h0,h1,h2,h3⟩:=eV ha
 show a0 % 2=_
 rw [V4];omega
theorem yG (a m:List Int) (ha:Wn 4 a) (hm:Wn 4 m):∃ r,Wn 4 r∧V r=(if V a % 2=0 then V a / 2 else (V a+V m) / 2)∧W2 239 a m r:=by
 obtain ⟨s,c,hs,hc,vs,f1⟩:=gJ a m ha hm
 obtain ⟨h1,v1⟩:=FY ha pH
 obtain ⟨h2,v2⟩:=FY hs hc
 have hal:=ha.1
 have hml:=hm.1
 have hsl:=hs.1
 have h1l:=h1.1
 have h2l:=h2.1
 have hz:List.drop 4 (cI zI)=[]:=ao rfl
 have p2:=qk ha
 have ka0:=bw (l:=a) (k:=0) (by omega)
 have ka1:=bw (l:=a) (k:=1) (by omega)
 have ka2:=bw (l:=a) (k:=2) (by omega)
 have ka3:=bw (l:=a) (k:=3) (by omega)
 have ks0:=bw (l:=s) (k:=0) (by omega)
 have ks1:=bw (l:=s) (k:=1) (by omega)
 have ks2:=bw (l:=s) (k:=2) (by omega)
 have ks3:=bw (l:=s) (k:=3) (by omega)
 have hah:(cI a).head?=some (.d (.int .u64 (gI a 0))):=by rw [List.head?_eq_getElem?,iH,ka0];rfl
 have hsh:(cI s).head?=some (.d (.int .u64 (gI s 0))):=by rw [List.head?_eq_getElem?,iH,ks0];rfl
 have e1:cI (nU a 0)=[AV.d (.int .u64 (Go.bits .or .u64 (Int.fdiv (gI a 0) 2) (IntKind.u64.wrap (gI a 1*9223372036854775808)))),AV.d (.int .u64 (Go.bits .or .u64 (Int.fdiv (gI a 1) 2) (IntKind.u64.wrap (gI a 2*9223372036854775808)))),AV.d (.int .u64 (Go.bits .or .u64 (Int.fdiv (gI a 2) 2) (IntKind.u64.wrap (gI a 3*9223372036854775808)))),AV.d (.int .u64 (Go.bits .or .u64 (Int.fdiv (gI a 3) 2) (IntKind.u64.wrap 0)))]:=rfl
 have e2:cI (nU s c)=[AV.d (.int .u64 (Go.bits .or .u64 (Int.fdiv (gI s 0) 2) (IntKind.u64.wrap (gI s 1*9223372036854775808)))),AV.d (.int .u64 (Go.bits .or .u64 (Int.fdiv (gI s 1) 2) (IntKind.u64.wrap (gI s 2*9223372036854775808)))),AV.d (.int .u64 (Go.bits .or .u64 (Int.fdiv (gI s 2) 2) (IntKind.u64.wrap (gI s 3*9223372036854775808)))),AV.d (.int .u64 (Go.bits .or .u64 (Int.fdiv (gI s 3) 2) (IntKind.u64.wrap (c*9223372036854775808))))]:=rfl
 unfold W2
 by_cases h0:V a % 2=0
 ·refine ⟨nU a 0,h1,by rw [v1,if_pos h0];omega,?_⟩
  refine aS Tryz.func239 Tryz.ntmps239 (rs:=[.cell 4 160]) (ah a m) ?_
  have g0:gI a 0 % 2=0:=by omega
  have g0t:Int.tmod (gI a 0) 2=0:=by rw [Int.tmod_eq_emod_of_nonneg (aP ha).1];exact g0
  simp [go_sem,hal,hml,aa hal,aa hml,ka0,ka1,ka2,ka3,gg hal 1 (by omega),gg hal 2 (by omega),gg hal 3 (by omega),hah,g0,g0t,IntKind.bits,hz,ak]
  exact bm (a:=nU a 0) (by rw [e1])
 ·refine ⟨nU s c,h2,by rw [v2,vs,if_neg h0],?_⟩
  refine aS Tryz.func239 Tryz.ntmps239 (rs:=[.cell 4 160]) (ah a m) ?_
  have g0:gI a 0 % 2=1:=by omega
  have g0t:Int.tmod (gI a 0) 2=1:=by rw [Int.tmod_eq_emod_of_nonneg (aP ha).1];exact g0
  simp [go_sem,hal,hml,aa hal,aa hml,ka0,hah,g0,g0t,IntKind.bits]
  refine ab f1 (ah _ _) ?_
  simp [go_sem,hal,hml,hsl,aa hal,aa hml,aa hsl,ks0,ks1,ks2,ks3,gg hsl 1 (by omega),gg hsl 2 (by omega),gg hsl 3 (by omega),hsh,IntKind.bits,hz,ao hal,ak]
  exact bm (a:=nU s c) (by rw [e2])
def sC (a:List Int) (k:Nat):Nat:=(V a).toNat / 2 ^ k % 2
theorem OB (a:List Int) (k:Nat):C1 (sC a k:Int):=by
 have:=Nat.mod_two_eq_zero_or_one ((V a).toNat / 2 ^ k)
 unfold C1 sC;omega
theorem OC {a:List Int} (ha:Wn 4 a) {k:Nat} (hk:k<256):gI a (dq k) / (2:Int) ^ rq k % 2=(sC a k:Int):=by
 have hb:=Fa ha hk
 have hg:=aP (k:=dq k) ha
 have hp:(0:Int)<2 ^ rq k:=Int.pow_pos (by omega)
 have hf:Int.fdiv (gI a (dq k)) (2 ^ rq k)=gI a (dq k) / 2 ^ rq k:=Int.fdiv_eq_ediv_of_nonneg _ (Int.le_of_lt hp)
 have h0:0≤gI a (dq k) / (2:Int) ^ rq k:=Int.ediv_nonneg hg.1 (Int.le_of_lt hp)
 have h1:gI a (dq k) / (2:Int) ^ rq k<18446744073709551616:=Int.lt_of_le_of_lt (Int.ediv_le_self _ hg.1) hg.2
 unfold sA at hb
 rw [hf,p9 _ h0 h1] at hb
 unfold sC
 have:=Int.emod_two_eq (gI a (dq k) / 2 ^ rq k)
 rcases this with h | h
 ·rw [h,hb.1 h];rfl
 ·rw [h,hb.2 (by omega)];rfl
theorem nV (a:List Int) (k:Nat) (ha:Wn 4 a) (hk:k<256):aq Tryz.prog 184 [.agg (cI a),.d (.int .i64 (k:Int))] (fun r=>r=.d (.int .u64 (sC a k:Int))):=by
 refine aS Tryz.func184 Tryz.ntmps184 (rs:=[.tmp 4]) (gx _ _) ?_
 have hal:=ha.1
 have hdq:dq k=k / 64:=rfl
 have hrq:rq k=k % 64:=rfl
 have hnk:=bw (l:=a) (k:=dq k) (by omega)
 have w4:IntKind.i64.wrap ((k:Int) / 64)=(dq k:Int):=by rw [IntWalk.i64_in _ (by omega)];omega
 have w4b:IntKind.i64.wrap ((k:Int).tdiv 64)=(dq k:Int):=w4
 have e2:(k:Int) % 64=(rq k:Int):=by omega
 have e2b:(k:Int).tmod 64=(rq k:Int):=e2
 have i1:(dq k:Int)<4:=by omega
 have hm64:rq k<64:=by omega
 have hmn:min (rq k) 64=rq k:=by omega
 have w5:IntKind.u64.wrap (rq k:Int)=(rq k:Int):=by rw [cH];omega
 have hg:=aP (k:=dq k) ha
 have hp:(0:Int)<2 ^ rq k:=Int.pow_pos (by omega)
 have hp2:(2:Int) ^ rq k<18446744073709551616:=by
  have h:=Nat.pow_lt_pow_right (a:=2) (by omega) hm64
  have h2:(((2 ^ rq k:Nat)):Int)<((2 ^ 64:Nat):Int):=Int.ofNat_lt.2 h
  rw [Int.natCast_pow] at h2
  exact Int.lt_of_lt_of_le h2 (Int.le_of_eq rfl)
 have hw:=OC ha hk
 have h0:0≤gI a (dq k) / (2:Int) ^ rq k:=Int.ediv_nonneg hg.1 (Int.le_of_lt hp)
 have h1:gI a (dq k) / (2:Int) ^ rq k<18446744073709551616:=Int.lt_of_le_of_lt (Int.ediv_le_self _ hg.1) hg.2
 have ht:(gI a (dq k)).tdiv (2 ^ rq k)=gI a (dq k) / 2 ^ rq k:=Int.tdiv_eq_ediv_of_nonneg hg.1
 have hW:IntKind.u64.wrap ((2:Int) ^ rq k)=2 ^ rq k:=by rw [cH];exact Int.emod_eq_of_lt (Int.le_of_lt hp) hp2
 have hne:¬ ((2:Int) ^ rq k=0):=by omega
 have hWq:IntKind.u64.wrap (gI a (dq k) / 2 ^ rq k)=gI a (dq k) / 2 ^ rq k:=by rw [cH];exact Int.emod_eq_of_lt h0 h1
 have hm:(gI a (dq k) / 2 ^ rq k).tmod 2=(sC a k:Int):=by rw [Int.tmod_eq_emod_of_nonneg h0,hw]
 generalize hq:gI a (dq k) / (2:Int) ^ rq k=q at *
 simp [go_sem,hal,aa hal,hnk,e2,e2b,w4,w4b,i1,hm64,hmn,w5,IntKind.bits,hW,hne,ht,hq,hWq,hm,hw,ak]
 exact ae (by simp [AV.deep,AV.deep1]) rfl
def IN (a:List Int):Nat→Nat
 | 0=>0
 | k+1=>if sC a k=0 then IN a k else k+1
theorem F4 (a:List Int):∀ k,IN a k≤k
 | 0=>Nat.le_refl _
 | k+1=>by
  unfold IN
  split
  ·have:=F4 a k;omega
  ·omega
theorem F5 (a:List Int):∀ k,(V a).toNat<2 ^ k→(V a).toNat<2 ^ IN a k
 | 0,h=>h
 | k+1,h=>by
  unfold IN
  split
  ·rename_i h0
   refine F5 a k ?_
   unfold sC at h0
   rw [Nat.pow_succ] at h
   have hlt:(V a).toNat / 2 ^ k<2:=Nat.div_lt_of_lt_mul h
   have h00:(V a).toNat / 2 ^ k=0:=by
    generalize (V a).toNat / 2 ^ k=z at *
    omega
   exact (Nat.div_eq_zero_iff_lt (Nat.two_pow_pos k)).1 h00
  ·exact h
theorem BJ {a:List Int} (ha:Wn 4 a):(V a).toNat<2 ^ 256:=by
 have h:=cy ha
 have:(2:Nat) ^ 256=115792089237316195423570985008687907853269984665640564039457584007913129639936:=by decide
 omega
theorem IOa (a:List Int) (ha:Wn 4 a):∃ n:Nat,n≤256∧(V a).toNat<2 ^ n∧aq Tryz.prog 182 [.agg (cI a)] (fun r=>r=.d (.int .i64 (n:Int))):=by
 refine ⟨IN a 256,F4 a 256,F5 a 256 (BJ ha),?_⟩
 refine aS Tryz.func182 Tryz.ntmps182 (rs:=[.tmp 2]) (ar a) ?_
 have hal:=ha.1
 generalize hF:IN a 256=F
 simp [go_sem,hal,aa hal]
 refine au (fun k:Nat=>⟨[(1,.ptr 0 0 0 1),(3,.d (.int .i64 (k:Int)))],[(0,⟨160,4,[cI a]⟩)],500⟩)
  (fun k=>k≤256∧IN a k=F) (fun k=>k) 256 ⟨by omega,hF⟩ (by
   simp [av,ag,fv,lk,AV.low,AV.low1]
   first | rfl | exact aA _ _) ?_
 rintro k ⟨hk,hq⟩
 cases k with
 | zero =>
  have:F=0:=hq.symm
  subst this
  simp [go_sem,ak]
  exact ae (by simp [AV.deep,AV.deep1]) rfl
 | succ k =>
  have w3:IntKind.i64.wrap (((k+1:Nat):Int) - 1)=(k:Int):=by rw [IntWalk.i64_in _ (by omega)];omega
  have w3b:IntKind.i64.wrap (((k:Int)+1) - 1)=(k:Int):=by rw [IntWalk.i64_in _ (by omega)];omega
  have p0:(0:Int)<(k:Int)+1:=by omega
  have w3c:IntKind.i64.wrap (k:Int)=(k:Int):=IntWalk.i64_in _ (by omega)
  unfold IN at hq
  simp [go_sem,p0,w3,w3b,w3c,hal,aa hal]
  refine ab (nV a k ha (by omega)) (gx _ _) ?_
  by_cases hb:sC a k=0
  ·rw [if_pos hb] at hq
   simp [go_sem,p0,w3,w3b,w3c,hb]
   refine ai k ⟨by omega,hq⟩ (by omega) ?_
   simp [av,ag,fv,lk,AV.low,AV.low1]
   first | rfl | exact aA _ _
  ·rw [if_neg hb] at hq
   subst hq
   simp [go_sem,p0,w3,w3b,w3c,hb,ak]
   exact ae (by simp [AV.deep,AV.deep1]) rfl
theorem oV (b:List Nat) (i:Nat):(fl b i).length=4:=by simp [fl]
theorem F6 (b:List Nat) (hb:b.length=32) (hby:∀ x,x ∈ b→x<256):aq Tryz.prog 175 [.agg (cb b)] (fun r=>r=.agg (cW (fl b 32))):=by
 refine aS Tryz.func175 Tryz.ntmps175 (rs:=[.cell 2 160]) (by intro v hv;simp at hv;subst hv;exact fQ _) ?_
 have hcl:(cb b).length=32:=by rw [am];exact hb
 simp [go_sem,hcl]
 refine au (fun i:Nat=>⟨[(1,.ptr 0 0 0 1),(2,.ptr 32 0 0 1),(3,.ptr 96 0 0 1),(4,.d (.int .i64 (i:Int)))],[(0,⟨23,32,[cb b]⟩),(32,⟨160,4,[cW [0,0,0,0]]⟩),(96,⟨160,4,[cW (fl b i)]⟩)],500⟩)
  (fun i=>i≤32) (fun i=>32 - i) 0 (by omega) (by
   simp [av,ag,fv,lk,AV.low,AV.low1,fR,CA]
   repeat' apply And.intro
   all_goals first | rfl | exact gf _ _ | exact aF _ _) ?_
 intro i hi
 simp only [go_sem,Nat.reduceEqDiff,Nat.reduceAdd,Nat.reduceLT,↓reduceIte,Nat.reduceMul]
 refine ⟨fun h=>?_,fun h=>?_⟩
 ·obtain ⟨c,hc,_⟩:=cN (l:=b) (k:=i) (by omega)
  obtain ⟨w,hw1,hw2,hw4⟩:=CB hb hby hc
  have w3:=ax (k:=i) (by omega)
  have hc8:=hby c (List.mem_of_getElem? hc)
  have q3:IntKind.i64.wrap (3 - IntKind.i64.wrap ((i:Int) / 8))=((3 - i / 8:Nat):Int):=by
   rw [show IntKind.i64.wrap ((i:Int) / 8)=((i / 8:Nat):Int) by rw [IntWalk.i64_in _ (by omega)];omega,IntWalk.i64_in _ (by omega)]
   omega
  have q5:IntKind.u64.wrap (c:Int)=(c:Int):=by rw [fU];omega
  have q6:IntKind.u64.wrap (IntKind.u64.wrap ((w:Int)*256)+(c:Int))=((w*256+c:Nat):Int):=by
   rw [show IntKind.u64.wrap ((w:Int)*256)=(w:Int)*256 by rw [fU];omega,fU]
   omega
  have hj4:3 - i / 8<4:=by omega
  generalize 3 - i / 8=j at *
  generalize w*256+c=z at *
  refine bk [0,1,2,3,4,5,6,7,8,9,10,11,12,13,14] [(15,[])] 0 (k:=16) ?_
  intro G hG
  simp [go_sem,q3,q5,q6,oL,uS,hc,hw1,fR,oV,EZ,hw4]
  have hi32:(i:Int)<32:=h
  have hj32:(j:Int)<4:=by omega
  first
  | refine ⟨hj32,hi32,hj4,hG _ _ ?_⟩
  | refine ⟨hj32,hi32,hj32,hj4,hG _ _ ?_⟩
  | refine ⟨hj4,hG _ _ ?_⟩
  | refine ⟨hj32,hj4,hG _ _ ?_⟩
  | trace_state
  simp [go_sem,w3]
  refine ai (i+1) (by omega) (by omega) ?_
  simp [av,ag,fv,lk,AV.low,AV.low1,fR]
  repeat' apply And.intro
  all_goals first | rfl | exact gf _ _ | exact aF _ _
 ·have h32:i=32:=by omega
  subst h32
  have htk4:(cW (fl b 32)).take 4=cW (fl b 32):=List.take_of_length_le (by rw [fR,oV];omega)
  have d4:(cW [0,0,0,0]).drop 4=[]:=rfl
  simp [go_sem,ak,fR,oV,htk4,d4]
  exact ae (pY _) rfl
theorem tQ (b:List Nat) (hb:b.length=32) (hby:bytes b):∃ a:List Int,Wn 4 a∧V a=(db b:Int)∧aq Tryz.prog 175 [.agg (cb b)] (fun r=>r=.agg (cI a)):=by
 refine ⟨(fl b 32).map fun (x:Nat)=>(x:Int),⟨by simp [fl],fun x hx=>?_⟩,FO hb,?_⟩
 ·rw [List.mem_map] at hx
  obtain ⟨y,hy,rfl⟩:=hx
  unfold fl at hy
  rw [List.mem_map] at hy
  obtain ⟨j,_,rfl⟩:=hy
  have:=rI (l:=Go.Sha.part b 32 j) (fun x hx=>hby x (List.mem_of_mem_take (List.mem_of_mem_drop (List.mem_of_mem_take hx)))) (by unfold Go.Sha.part;rw [List.length_take];omega)
  exact ⟨Int.natCast_nonneg _,by omega⟩
 ·have e:cI ((fl b 32).map fun (x:Nat)=>(x:Int))=cW (fl b 32):=by unfold cI cW;rw [List.map_map];rfl
  rw [e]
  exact F6 b hb hby
theorem tR (a:List Int) (ha:Wn 4 a):∃ b:List Nat,b.length=32∧bytes b∧db b=(V a).toNat∧aq Tryz.prog 188 [.agg (cI a)] (fun r=>r=.agg (cb b)):=by
 refine ⟨bd (Bx a) z32 32,(oS a 32).1,(oS a 32).2,Jq ha,?_⟩
 refine aS Tryz.func188 Tryz.ntmps188 (rs:=[.cell 2 23]) (ar a) ?_
 have hal:=ha.1
 simp [go_sem,hal,aa hal]
 generalize hSS:bd (Bx a) z32=S at *
 have hS:=oS a
 rw [hSS] at hS
 refine au (fun k:Nat=>⟨[(1,.ptr 0 0 0 1),(2,.ptr 32 0 0 1),(3,.ptr 96 0 0 1),(4,.d (.int .i64 (k:Int)))],[(96,⟨23,32,[cb (S k)]⟩),(32,⟨23,32,[cb z32]⟩),(0,⟨160,4,[cI a]⟩)],20000⟩)
  (fun k=>k≤32) (fun k=>32 - k) 0 (by omega) (by
   rw [← hSS]
   simp [av,ag,fv,lk,AV.low,AV.low1,bd]
   and_intros <;> first | rfl | exact aA _ _ | exact aF _ _ | (rw [am];exact Nat.le_refl _)) ?_
 intro k hk
 obtain ⟨hs1,hs2⟩:=hS k
 have w3:=ax (k:=k) (by omega)
 simp only [go_sem,Nat.reduceEqDiff,Nat.reduceAdd,Nat.reduceLT,↓reduceIte]
 by_cases h4:k<32
 ·refine ⟨fun h=>?_,fun h=>absurd (by exact_mod_cast h4) h⟩
  have hsn:S (k+1)=Bx a k (S k):=by rw [← hSS];rfl
  have hdq:d8 k=k / 8:=rfl
  have hrq:r8 k=8*(k % 8):=rfl
  have hnk:=bw (l:=a) (k:=d8 k) (by omega)
  have w4:IntKind.i64.wrap ((k:Int) / 8)=(d8 k:Int):=by rw [IntWalk.i64_in _ (by omega)];omega
  have w4b:IntKind.i64.wrap ((k:Int).tdiv 8)=(d8 k:Int):=w4
  have e2:IntKind.i64.wrap (8*((k:Int) % 8))=(r8 k:Int):=by rw [IntWalk.i64_in _ (by omega)];omega
  have e2b:IntKind.i64.wrap (8*((k:Int).tmod 8))=(r8 k:Int):=e2
  have e3:IntKind.i64.wrap (31 - (k:Int))=((31 - k:Nat):Int):=by rw [IntWalk.i64_in _ (by omega)];omega
  have i1:(d8 k:Int)<4:=by omega
  have hm64:r8 k<64:=by omega
  have hmn:min (r8 k) 64=r8 k:=by omega
  have i3:((31 - k:Nat):Int)<32:=by omega
  have i4:31 - k<32:=by omega
  have hg:=aP (k:=d8 k) ha
  have hp:(0:Int)<2 ^ r8 k:=Int.pow_pos (by omega)
  have hp2:(2:Int) ^ r8 k<18446744073709551616:=by
   have h:=Nat.pow_lt_pow_right (a:=2) (by omega) hm64
   have h2:(((2 ^ r8 k:Nat)):Int)<((2 ^ 64:Nat):Int):=Int.ofNat_lt.2 h
   rw [Int.natCast_pow] at h2
   exact Int.lt_of_lt_of_le h2 (Int.le_of_eq rfl)
  have w5:IntKind.u64.wrap (r8 k:Int)=(r8 k:Int):=by rw [cH];omega
  have hW:IntKind.u64.wrap ((2:Int) ^ r8 k)=2 ^ r8 k:=by rw [cH];exact Int.emod_eq_of_lt (Int.le_of_lt hp) hp2
  have hne:¬ ((2:Int) ^ r8 k=0):=by omega
  have h0:0≤gI a (d8 k) / (2:Int) ^ r8 k:=Int.ediv_nonneg hg.1 (Int.le_of_lt hp)
  have h1:gI a (d8 k) / (2:Int) ^ r8 k<18446744073709551616:=Int.lt_of_le_of_lt (Int.ediv_le_self _ hg.1) hg.2
  have ht:(gI a (d8 k)).tdiv (2 ^ r8 k)=gI a (d8 k) / 2 ^ r8 k:=Int.tdiv_eq_ediv_of_nonneg hg.1
  have hWq:IntKind.u64.wrap (gI a (d8 k) / 2 ^ r8 k)=gI a (d8 k) / 2 ^ r8 k:=by rw [cH];exact Int.emod_eq_of_lt h0 h1
  have hB:=By a k
  rw [Int.fdiv_eq_ediv_of_nonneg _ (Int.le_of_lt hp)] at hB
  generalize hqq:gI a (d8 k) / (2:Int) ^ r8 k=q at *
  simp [go_sem,hnk,hal,e2,e2b,w4,w4b,e3,i1,i3,i4,hm64,hmn,w5,IntKind.bits,hW,hne,ht,hqq,hWq,hB,rt,am,hs1,w3]
  refine ai (k+1) (by omega) (by omega) ?_
  rw [hsn]
  simp [av,ag,fv,lk,AV.low,AV.low1,Bx]
  and_intros <;> first | rfl | exact aA _ _ | exact aF _ _
 ·refine ⟨fun h=>absurd (by exact_mod_cast h) h4,fun h=>?_⟩
  have hkl:k=32:=by omega
  subst hkl
  simp [go_sem,am,hs1,aj hs1,dr (l:=z32) rfl,ak]
  exact ae (fQ _) rfl
theorem F7 (a:List Int) (b:Int) (ha:Wn 4 a):aq Tryz.prog 237 [.agg (cI a),.d (.int .u64 b)] (fun r=>r=.tup [.agg (cI (IJ a b)),.d (.int .u64 (gI a 3 / 9223372036854775808))]):=by
 refine aS Tryz.func237 Tryz.ntmps237 (rs:=[.cell 4 160,.tmp 5]) (j9 _ _) ?_
 have hal:=ha.1
 have hz:List.drop 4 (cI zI)=[]:=ao rfl
 have ka0:=bw (l:=a) (k:=0) (by omega)
 have ka1:=bw (l:=a) (k:=1) (by omega)
 have ka2:=bw (l:=a) (k:=2) (by omega)
 have ka3:=bw (l:=a) (k:=3) (by omega)
 have hah:(cI a).head?=some (.d (.int .u64 (gI a 0))):=by rw [List.head?_eq_getElem?,iH,ka0];rfl
 have h0:=aP (k:=0) ha
 have h1:=aP (k:=1) ha
 have h2:=aP (k:=2) ha
 have h3:=aP (k:=3) ha
 have td:∀ x:Int,cD x→IntKind.u64.wrap (x.tdiv 9223372036854775808)=x / 9223372036854775808:=by
  intro x hx
  unfold cD at hx
  rw [Int.tdiv_eq_ediv_of_nonneg hx.1,cH];omega
 have t0:=td _ h0
 have t1:=td _ h1
 have t2:=td _ h2
 have t3:=td _ h3
 have e1:cI (IJ a b)=[AV.d (.int .u64 (IntKind.u64.wrap (IntKind.u64.wrap (gI a 0*2)+b))),AV.d (.int .u64 (IntKind.u64.wrap (IntKind.u64.wrap (gI a 1*2)+gI a 0 / 9223372036854775808))),AV.d (.int .u64 (IntKind.u64.wrap (IntKind.u64.wrap (gI a 2*2)+gI a 1 / 9223372036854775808))),AV.d (.int .u64 (IntKind.u64.wrap (IntKind.u64.wrap (gI a 3*2)+gI a 2 / 9223372036854775808)))]:=rfl
 simp [go_sem,hal,aa hal,hah,ka0,ka1,ka2,ka3,gg hal 1 (by omega),gg hal 2 (by omega),gg hal 3 (by omega),t0,t1,t2,t3,hz,ak]
 exact lQ (a:=IJ a b) (by rw [e1])
def CN (a:List Int) (i:Nat):Int:=if i+2<256 then (sC a (i+2):Int) else 0
def An (a:List Int) (j:Nat) (s:List Int):List Int:=IJ s (CN a (255 - j))
theorem Js (a:List Int) (i:Nat):C1 (CN a i):=by
 unfold CN
 split
 ·exact OB _ _
 ·exact pH
theorem F8 {a:List Int} (ha:Wn 4 a):∀ j,j≤256→Wn 4 (bd (An a) zI j)∧(V (bd (An a) zI j)).toNat=(V a).toNat / 4 / 2 ^ (256 - j)
 | 0,_=>by
  refine ⟨cG,?_⟩
  have v0:V zI=0:=by simp [V,zI]
  have:=BJ ha
  show (V zI).toNat=_
  rw [v0,Nat.div_eq_of_lt (by omega)];rfl
 | j+1,hj=>by
  obtain ⟨h1,h2⟩:=F8 ha j (by omega)
  rw [bd]
  generalize bd (An a) zI j=s at *
  obtain ⟨k1,k2,k3⟩:=Qz h1 (Js a (255 - j))
  refine ⟨k1,?_⟩
  have q1:=cy h1
  have q2:=cy k1
  have q3:=Js a (255 - j)
  unfold An
  have hN:=BJ ha
  have e:256 - j=(255 - j)+1:=by omega
  have e2:256 - (j+1)=255 - j:=by omega
  have hb:(V a).toNat / 4 / 2 ^ (255 - j)=2*((V a).toNat / 4 / 2 ^ (256 - j))+(CN a (255 - j)).toNat:=by
   have h3:(V a).toNat / 4 / 2 ^ (256 - j)=(V a).toNat / 4 / 2 ^ (255 - j) / 2:=by rw [e,Nat.pow_succ,← Nat.div_div_eq_div_mul]
   have h4:(CN a (255 - j)).toNat=(V a).toNat / 4 / 2 ^ (255 - j) % 2:=by
    have h5:(V a).toNat / 4 / 2 ^ (255 - j)=(V a).toNat / 2 ^ (255 - j+2):=by rw [Nat.div_div_eq_div_mul,Nat.pow_add,Nat.mul_comm]
    rw [h5]
    unfold CN
    split
    ·rw [Int.toNat_natCast];rfl
    ·rename_i hge
     have:2 ^ 256≤2 ^ (255 - j+2):=Nat.pow_le_pow_right (by omega) (by omega)
     rw [Nat.div_eq_of_lt (by omega)];rfl
   rw [h3,h4];omega
  rw [e2,hb,← h2]
  have hs:(V s).toNat≤(V a).toNat / 4:=by rw [h2];exact Nat.div_le_self _ _
  have hM:(2:Nat) ^ 256=115792089237316195423570985008687907853269984665640564039457584007913129639936:=by decide
  have c1:=k2.1
  have c2:=k2.2
  have b1:=q3.1
  have b2:=q3.2
  generalize gI s 3 / 9223372036854775808=cc at *
  generalize V (IJ s (CN a (255 - j)))=X at *
  generalize V s=Y at *
  generalize CN a (255 - j)=B at *
  omega
theorem IP (a:List Int) (ha:Wn 4 a):∃ r,Wn 4 r∧V r=V a / 4∧aq Tryz.prog 220 [.agg (cI a),.d (.int .i64 2)] (fun x=>x=.agg (cI r)):=by
 have hS:=F8 ha
 refine ⟨bd (An a) zI 256,(hS 256 (by omega)).1,?_,?_⟩
 ·obtain ⟨h1,h2⟩:=hS 256 (by omega)
  have q1:=cy h1
  have q2:=cy ha
  rw [Nat.sub_self,Nat.pow_zero,Nat.div_one] at h2
  omega
 refine aS Tryz.func220 Tryz.ntmps220 (rs:=[.cell 4 160]) (gx _ _) ?_
 have hal:=ha.1
 have hz:List.drop 4 (cI zI)=[]:=ao rfl
 have ix:(255:Int)=ve 256:=rfl
 simp [go_sem,hal,aa hal]
 generalize hSS:bd (An a) zI=S at *
 refine au (fun k:Nat=>⟨[(1,.d (.int .i64 2)),(2,.ptr 0 0 0 1),(4,.ptr 32 0 0 1),(5,.ptr 96 0 0 1),(6,.d (.int .i64 (ve k)))],[(96,⟨160,4,[cI (S (256 - k))]⟩),(32,⟨160,4,[cI zI]⟩),(0,⟨160,4,[cI a]⟩)],1000⟩)
  (fun k=>k≤256) (fun k=>k) 256 (by omega) (by
   rw [← hSS]
   simp [av,ag,fv,lk,AV.low,AV.low1,bd,ve]
   first | (and_intros <;> first | rfl | exact aA _ _) | skip) ?_
 intro k hk
 cases k with
 | zero =>
  have hl:=(hS 256 (by omega)).1.1
  simp [go_sem,nK,hl,aa hl,hz,ak]
  exact bm rfl
 | succ k =>
  obtain ⟨h1,_⟩:=hS (256 - (k+1)) (by omega)
  have hl:=h1.1
  have hsn:S (256 - k)=IJ (S (256 - (k+1))) (CN a k):=by
   rw [show 256 - k=(256 - (k+1))+1 by omega,← hSS,bd]
   unfold An
   rw [show 255 - (256 - (k+1))=k by omega]
  have hl2:(S (256 - k)).length=4:=(hS (256 - k) (by omega)).1.1
  have hw:=iG k (by omega)
  have w2:IntKind.i64.wrap ((k:Int)+2)=((k+2:Nat):Int):=by rw [IntWalk.i64_in _ (by omega)];omega
  have p0:¬ ((k:Int)<0):=by omega
  by_cases h2:k+2<256
  ·have hb:CN a k=(sC a (k+2):Int):=by unfold CN;rw [if_pos h2]
   have h2i:(k:Int)+2<256:=by omega
   have e255:256 - (k+1)=255 - k:=by omega
   rw [e255] at h1 hl hsn
   have hb2:=nV a (k+2) ha (by omega)
   have ec:((k+2:Nat):Int)=(k:Int)+2:=by omega
   rw [ec] at hb2
   have w2b:IntKind.i64.wrap ((k:Int)+2)=(k:Int)+2:=IntWalk.i64_in _ (by omega)
   simp [go_sem,gH,p0,hl,aa hl,hal,aa hal,w2b,h2i]
   refine ab hb2 (gx _ _) ?_
   simp [go_sem,hl,aa hl]
   refine ab (F7 _ _ h1) (j9 _ _) ?_
   rw [← hb,← hsn]
   simp [go_sem,gH,hl,hl2,aa hl2,ao hl,hw]
   refine ai k (by omega) (by omega) ?_
   simp [av,ag,fv,lk,AV.low,AV.low1]
   and_intros <;> first | rfl | exact aA _ _
  ·have hb:CN a k=0:=by unfold CN;rw [if_neg h2]
   have h2i:¬ (k:Int)+2<256:=by omega
   have e255:256 - (k+1)=255 - k:=by omega
   rw [e255] at h1 hl hsn
   have w2b:IntKind.i64.wrap ((k:Int)+2)=(k:Int)+2:=IntWalk.i64_in _ (by omega)
   simp [go_sem,gH,p0,hl,aa hl,hal,aa hal,w2b,h2i]
   refine ab (F7 _ _ h1) (j9 _ _) ?_
   rw [← hb,← hsn]
   simp [go_sem,gH,hl,hl2,aa hl2,ao hl,hw]
   refine ai k (by omega) (by omega) ?_
   simp [av,ag,fv,lk,AV.low,AV.low1]
   and_intros <;> first | rfl | exact aA _ _
def Ao:List Int:=[0,0,0,0,0,0,0,0,0,0,0,0,0,0,0,0]
theorem OD:eH Tryz.prog 232=some (cI Ao):=by kernel_rfl
theorem OE:eH Tryz.prog 242=some (cI mh):=by kernel_rfl
theorem QB:eH Tryz.prog 230=some (cI oM):=by kernel_rfl
attribute [go_sem] OD OE QB
theorem F9:Ao.length=16:=rfl
theorem Ga:mh.length=10:=rfl
theorem Gb:oM.length=8:=rfl
attribute [go_sem] F9 Ga Gb
theorem Re {l:List Int} (j:Nat) (hj:j<l.length):∀ h,(cI l)[j]'h=.d (.int .u64 (gI l j)):=fun h=>(List.getElem?_eq_some_iff.1 (by rw [iH,bw hj];rfl)).2
theorem Gc (z:Int):Int.fdiv z 4294967296=z / 4294967296:=Int.fdiv_eq_ediv_of_nonneg _ (by omega)
theorem r6 (a:List Int) (ha:Wn 4 a):aq Tryz.prog 229 [.agg (cI a)] (fun r=>r=.agg (cI (bd (sB a) oM 8))):=by
 refine aS Tryz.func229 Tryz.ntmps229 (rs:=[.cell 2 230]) (ar a) ?_
 have hal:=ha.1
 simp [go_sem,hal,aa hal]
 generalize hSS:bd (sB a) oM=S at *
 have hS:∀ k,(S k).length=8:=by
  intro k
  rw [← hSS]
  exact ej (P:=fun _ (s:List Int)=>s.length=8) rfl (fun k s hs=>by unfold sB;rw [List.length_set];exact hs) k
 refine au (fun k:Nat=>⟨[(1,.ptr 0 0 0 1),(2,.ptr 32 0 0 1),(3,.ptr 96 0 0 1),(4,.d (.int .i64 (k:Int)))],[(96,⟨230,8,[cI (S k)]⟩),(32,⟨230,8,[cI oM]⟩),(0,⟨160,4,[cI a]⟩)],1000⟩)
  (fun k=>k≤8) (fun k=>8 - k) 0 (by omega) (by
   rw [← hSS]
   simp [av,ag,fv,lk,AV.low,AV.low1,bd]
   and_intros <;> first | rfl | exact aA _ _) ?_
 intro k hk
 have hsl:=hS k
 have w3:=ax (k:=k) (by omega)
 simp only [go_sem,Nat.reduceEqDiff,Nat.reduceAdd,Nat.reduceLT,↓reduceIte]
 by_cases h4:k<8
 ·refine ⟨fun h=>?_,fun h=>absurd (by exact_mod_cast h4) h⟩
  have hsn:S (k+1)=sB a k (S k):=by rw [← hSS];rfl
  generalize hdd:k / 2=d at *
  generalize hrr:32*(k % 2)=r at *
  have hka:=bw (l:=a) (k:=d) (by omega)
  have hk8:(k:Int)<8:=by omega
  have w4:IntKind.i64.wrap ((k:Int) / 2)=(d:Int):=by rw [IntWalk.i64_in _ (by omega)];omega
  have w4b:IntKind.i64.wrap ((k:Int).tdiv 2)=(d:Int):=w4
  have e2:IntKind.i64.wrap (32*((k:Int) % 2))=(r:Int):=by rw [IntWalk.i64_in _ (by omega)];omega
  have e2b:IntKind.i64.wrap (32*((k:Int).tmod 2))=(r:Int):=e2
  have i1:(d:Int)<4:=by omega
  have hmn:min r 64=r:=by omega
  have w5:IntKind.u64.wrap (r:Int)=(r:Int):=by rw [cH];omega
  have hg:=aP (k:=d) ha
  have hp:(0:Int)<2 ^ r:=Int.pow_pos (by omega)
  have hf:Int.fdiv (gI a d) (2 ^ r)=gI a d / 2 ^ r:=Int.fdiv_eq_ediv_of_nonneg _ (Int.le_of_lt hp)
  have h0:0≤gI a d / (2:Int) ^ r:=Int.ediv_nonneg hg.1 (Int.le_of_lt hp)
  have h1:gI a d / (2:Int) ^ r<18446744073709551616:=Int.lt_of_le_of_lt (Int.ediv_le_self _ hg.1) hg.2
  have ha32:=nM _ h0 h1
  have hv:QA a k=gI a d / 2 ^ r % 4294967296:=by unfold QA;rw [hdd,hrr,hf]
  unfold sB at hsn
  rw [hv] at hsn
  generalize hq:gI a d / (2:Int) ^ r=q at *
  simp [go_sem,hka,hal,hsl,w4,w4b,e2,e2b,i1,hmn,w5,hf,hq,ha32,IntKind.bits,hk8,cg,w3]
  first | refine ai (k+1) (by omega) (by omega) ?_ | refine ⟨by omega,ai (k+1) (by omega) (by omega) ?_⟩ | refine ⟨by omega,by omega,ai (k+1) (by omega) (by omega) ?_⟩
  rw [hsn]
  simp [av,ag,fv,lk,AV.low,AV.low1]
  and_intros <;> exact aA _ _
 ·refine ⟨fun h=>absurd (by exact_mod_cast h) h4,fun h=>?_⟩
  have hk4:k=8:=by omega
  subst hk4
  simp [go_sem,hsl,aa hsl,ao (l:=oM) (n:=8) rfl,ak]
  exact bm rfl
theorem IQ (t:Int):aq Tryz.prog 240 [.d (.int .u64 t)] (fun r=>r=.agg (cI (LV t))):=by
 refine aS Tryz.func240 Tryz.ntmps240 (rs:=[.cell 2 160]) (rS _) ?_
 have hz:List.drop 4 (cI zI)=[]:=ao rfl
 generalize ha:IntKind.u64.wrap (t*977)=a at *
 generalize hb:IntKind.u64.wrap (t*4294967296)=b at *
 generalize hc:IntKind.u64.wrap (a+b)=c at *
 have e:∀ i:Int,(if c<a then (1:Int) else 0)=i→cI (LV t)=[AV.d (.int .u64 c),AV.d (.int .u64 (IntKind.u64.wrap (Int.fdiv t 4294967296+i))),AV.d (.int .u64 0),AV.d (.int .u64 0)]:=by
  intro i hi
  unfold LV
  rw [ha,hb,hc,hi]
  rfl
 by_cases h1:c<a
 ·simp [go_sem,IntKind.bits,ha,hb,hc,h1,hz,ak]
  rw [← e 1 (if_pos h1)]
  exact bm rfl
 ·simp [go_sem,IntKind.bits,ha,hb,hc,h1,hz,ak]
  have e0:=e 0 (if_neg h1)
  rw [Int.add_zero] at e0
  rw [← e0]
  exact bm rfl
theorem Ap (d:List Int) (hd:oU 16 d):∃ r,Wn 4 r∧V r=fF d % 115792089237316195423570985008687907853269984665640564039457584007908834671663∧aq Tryz.prog 230 [.agg (cI d)] (fun x=>x=.agg (cI r)):=by
 obtain ⟨hE,vE,vd,bL,bH⟩:=IK hd
 have hI:=r5 hd
 generalize hSS:bd (nT d) (mh,0)=S at *
 generalize hEE:(S 10).1=E at *
 obtain ⟨hW,hT,vW⟩:=Bo hE
 generalize hWW:bd (Ak E) zI=U at *
 generalize hTT:F1 E=t at *
 have bW:=cy hW
 have ht0:=hT.1
 have ht1:t<1099511627776:=by omega
 obtain ⟨hF,vF⟩:=LW ht0 ht1
 obtain ⟨s,cc,hs,hcc,vs,f1⟩:=gJ (U 4) (LV t) hW hF
 obtain ⟨s2,c2,hs2,hc2,vs2,f2⟩:=gJ s [4294968273,0,0,0] hs (cO Lo)
 obtain ⟨r1,hr1,vr1,f3⟩:=d0 s hs
 obtain ⟨r2,hr2,vr2,f4⟩:=d0 s2 hs2
 have vo:V [4294968273,0,0,0]=4294968273:=by simp [V]
 rw [vo] at vs2
 have q1:=cy hs
 have q2:=cy hs2
 have q3:=hcc.1
 have q4:=hcc.2
 have q5:=hc2.1
 have q6:=hc2.2
 have hmod:=F2 (T:=fF d) (L:=fF (d.take 8)) (H:=fF (d.drop 8)) (W:=V (U 4)) (t:=t) (by omega) (by omega)
 unfold W1 at f3 f4
 have hdl:=hd.1
 have hEl:=hE.1
 have hwl:=hW.1
 have hsl:=hs.1
 have h2l:=hs2.1
 have r1l:=hr1.1
 have r2l:=hr2.1
 have hz:List.drop 4 (cI zI)=[]:=ao rfl
 have key:∀ r,Wn 4 r→(cc=0→r=r1)→(cc=1→r=r2)→aq Tryz.prog 230 [.agg (cI d)] (fun x=>x=.agg (cI r)):=by
  intro r hr e0 e1
  have hrl:=hr.1
  refine aS Tryz.func230 Tryz.ntmps230 (rs:=[.cell 2 160]) (ar d) ?_
  have hdt:List.take 16 (cI d)=cI d:=aa hdl
  simp [go_sem,hdl,hdt]
  refine au (fun k:Nat=>⟨[(1,.ptr 0 0 0 1),(2,.ptr 32 0 0 1),(3,.ptr 96 0 0 1),(4,.d (.int .u64 (S k).2)),(5,.d (.int .i64 (k:Int)))],[(96,⟨242,10,[cI (S k).1]⟩),(32,⟨160,4,[cI zI]⟩),(0,⟨232,16,[cI d]⟩)],2000⟩)
   (fun k=>k≤10) (fun k=>10 - k) 0 (by omega) (by
    rw [← hSS]
    simp [av,ag,fv,lk,AV.low,AV.low1,bd]
    and_intros <;> first | rfl | exact aA _ _) ?_
  intro k hk
  obtain ⟨hs1,hs2',_,_⟩:=hI k hk
  have hkl:=hs1.1
  have w3:=ax (k:=k) (by omega)
  simp only [go_sem,Nat.reduceEqDiff,Nat.reduceAdd,Nat.reduceLT,↓reduceIte]
  by_cases h10:k<10
  ·refine ⟨fun h=>?_,fun h=>absurd (by exact_mod_cast h10) h⟩
   have hsn:S (k+1)=nT d k (S k):=by rw [← hSS];rfl
   have hk10:(k:Int)<10:=by omega
   have g1:=gR hd k
   have g2:=gR hd (8+k)
   have g3:=gR hd (7+k)
   have w8:IntKind.i64.wrap (8+(k:Int))=((8+k:Nat):Int):=by rw [IntWalk.i64_in _ (by omega)];omega
   have w7:IntKind.i64.wrap (7+(k:Int))=((7+k:Nat):Int):=by rw [IntWalk.i64_in _ (by omega)];omega
   unfold nT at hsn
   have oI:∀ (fr:Fr) (hp:Hp) (nx:Nat),True:=fun _ _ _=>trivial
   generalize hcE:(S k).2=c at *
   have a1:IntKind.u64.wrap (c+gI d k)=c+gI d k:=by rw [cH];omega
   have a2:IntKind.u64.wrap (gI d (8+k)*977)=gI d (8+k)*977:=by rw [cH];omega
   have a3:IntKind.u64.wrap (c+gI d k+gI d (8+k)*977)=c+gI d k+gI d (8+k)*977:=by rw [cH];omega
   have a4:IntKind.u64.wrap (c+gI d k+gI d (8+k)*977+gI d (7+k))=c+gI d k+gI d (8+k)*977+gI d (7+k):=by rw [cH];omega
   have a5:IntKind.u64.wrap (c+gI d (7+k))=c+gI d (7+k):=by rw [cH];omega
   have kd:=bw (l:=d) (k:=k) (by omega)
   by_cases h8:k<8
   ·have k8:(k:Int)<8:=by omega
    have kd8:=bw (l:=d) (k:=8+k) (by omega)
    have kd7:=bw (l:=d) (k:=7+k) (by omega)
    have i8:((8+k:Nat):Int)<16:=by omega
    have i7:((7+k:Nat):Int)<16:=by omega
    have i16:(k:Int)<16:=by omega
    have ef:fm d k c=c+gI d k+gI d (8+k)*977+(if 1≤k∧k<9 then gI d (7+k) else 0):=by unfold fm;rw [if_pos h8]
    rw [ef] at hsn
    clear ef
    generalize 8+k=j8 at *
    generalize 7+k=j7 at *
    simp [go_sem,k8]
    refine bk [0,1,2,3,4,5,6,7,8,9,10] [(11,[])] 0 (k:=12) ?_
    intro G hG
    simp [go_sem,hdl,kd,kd8,w8,i8,i16,a1,a2,a3]
    first | refine hG _ _ ?_ | refine ⟨by omega,hG _ _ ?_⟩ | refine ⟨by omega,by omega,hG _ _ ?_⟩ | refine ⟨by omega,by omega,by omega,hG _ _ ?_⟩ | refine ⟨by omega,by omega,by omega,by omega,hG _ _ ?_⟩
    clear hG G
    by_cases h1:1≤k
    ·have k1:(1:Int)≤(k:Int):=by omega
     have k9:(k:Int)<9:=by omega
     rw [if_pos ⟨h1,by omega⟩] at hsn
     have b1:=nM (c+gI d k+gI d j8*977+gI d j7) (by omega) (by omega)
     generalize c+gI d k+gI d j8*977=y at *
     simp [go_sem,k1,k9,hdl,kd7,w7,i7,a4,b1,Gc,IntKind.bits,hkl,hk10,cg,w3]
     first | refine ai (k+1) (by omega) (by omega) ?_ | refine ⟨by omega,ai (k+1) (by omega) (by omega) ?_⟩ | refine ⟨by omega,by omega,ai (k+1) (by omega) (by omega) ?_⟩
     rw [hsn]
     simp [av,ag,fv,lk,AV.low,AV.low1]
     and_intros <;> exact aA _ _
    ·have k1:¬ (1:Int)≤(k:Int):=by omega
     have k1b:(k:Int)<1:=by omega
     rw [if_neg (fun h=>h1 h.1),Int.add_zero] at hsn
     have b1:=nM (c+gI d k+gI d j8*977) (by omega) (by omega)
     generalize c+gI d k+gI d j8*977=z at *
     simp [go_sem,k1,k1b,b1,Gc,IntKind.bits,hkl,hk10,cg,w3]
     first | refine ai (k+1) (by omega) (by omega) ?_ | refine ⟨by omega,ai (k+1) (by omega) (by omega) ?_⟩ | refine ⟨by omega,by omega,ai (k+1) (by omega) (by omega) ?_⟩
     rw [hsn]
     simp [av,ag,fv,lk,AV.low,AV.low1]
     and_intros <;> exact aA _ _
   ·have k8:¬ (k:Int)<8:=by omega
    have k1:(1:Int)≤(k:Int):=by omega
    by_cases h9:k<9
    ·have k9:(k:Int)<9:=by omega
     have kd7:=bw (l:=d) (k:=7+k) (by omega)
     have i7:((7+k:Nat):Int)<16:=by omega
     have e:fm d k c=c+gI d (7+k):=by unfold fm;rw [if_neg h8,if_pos ⟨by omega,h9⟩]
     rw [e] at hsn
     clear e
     have b1:=nM (c+gI d (7+k)) (by omega) (by omega)
     generalize 7+k=j7 at *
     simp [go_sem,k8,k1,k9,hdl,kd7,w7,i7,a5,b1,Gc,IntKind.bits,hkl,hk10,cg,w3]
     first | refine ai (k+1) (by omega) (by omega) ?_ | refine ⟨by omega,ai (k+1) (by omega) (by omega) ?_⟩ | refine ⟨by omega,by omega,ai (k+1) (by omega) (by omega) ?_⟩
     rw [hsn]
     simp [av,ag,fv,lk,AV.low,AV.low1]
     and_intros <;> exact aA _ _
    ·have k9:¬ (k:Int)<9:=by omega
     have k9b:9≤(k:Int):=by omega
     have e:fm d k c=c:=by unfold fm;rw [if_neg h8,if_neg (fun h=>h9 h.2)];omega
     rw [e] at hsn
     have b1:=nM c (by omega) (by omega)
     simp [go_sem,k8,k1,k9,k9b,b1,Gc,IntKind.bits,hkl,hk10,cg,w3]
     first | refine ai (k+1) (by omega) (by omega) ?_ | refine ⟨by omega,ai (k+1) (by omega) (by omega) ?_⟩ | refine ⟨by omega,by omega,ai (k+1) (by omega) (by omega) ?_⟩
     rw [hsn]
     simp [av,ag,fv,lk,AV.low,AV.low1]
     and_intros <;> exact aA _ _
  refine ⟨fun h=>absurd (by exact_mod_cast h) h10,fun h=>?_⟩
  have hk10:k=10:=by omega
  subst hk10
  have k8:=bw (l:=E) (k:=8) (by omega)
  have k9:=bw (l:=E) (k:=9) (by omega)
  unfold F1 at hTT
  simp [go_sem,hEE,hEl,k8,k9,Re (l:=E) 8 (by omega),Re (l:=E) 9 (by omega),IntKind.bits,hTT]
  have hUl:∀ j,(U j).length=4:=by
   intro j
   rw [← hWW]
   exact ej (P:=fun _ (s:List Int)=>s.length=4) rfl (fun k s hs=>by unfold Ak;rw [List.length_set];exact hs) j
  refine au (fun j:Nat=>⟨[(2,.ptr 32 0 0 1),(3,.ptr 96 0 0 1),(6,.d (.int .u64 t)),(7,.ptr 2320 0 0 1),(8,.d (.int .i64 (j:Int)))],[(2320,⟨160,4,[cI (U j)]⟩),(96,⟨242,10,[cI E]⟩),(32,⟨160,4,[cI zI]⟩)],8000⟩)
   (fun k=>k≤4) (fun k=>4 - k) 0 (by omega) (by
    rw [← hWW]
    simp [av,ag,fv,lk,AV.low,AV.low1,bd]
    and_intros <;> first | rfl | exact aA _ _) ?_
  intro k hk
  have hul:=hUl k
  have w3:=ax (k:=k) (by omega)
  simp only [go_sem,Nat.reduceEqDiff,Nat.reduceAdd,Nat.reduceLT,↓reduceIte]
  by_cases h4:k<4
  ·refine ⟨fun h=>?_,fun h=>absurd (by exact_mod_cast h4) h⟩
   have hsn:U (k+1)=Ak E k (U k):=by rw [← hWW];rfl
   have hk4:(k:Int)<4:=by omega
   have w1:IntKind.i64.wrap (2*(k:Int))=((2*k:Nat):Int):=by rw [IntWalk.i64_in _ (by omega)];omega
   have w2:IntKind.i64.wrap (((2*k:Nat):Int)+1)=((2*k+1:Nat):Int):=by rw [IntWalk.i64_in _ (by omega)];omega
   have kd:=bw (l:=E) (k:=2*k) (by omega)
   have kd1:=bw (l:=E) (k:=2*k+1) (by omega)
   have i1:((2*k:Nat):Int)<10:=by omega
   have i2:((2*k+1:Nat):Int)<10:=by omega
   unfold Ak Rd at hsn
   generalize 2*k+1=j1 at *
   generalize 2*k=j0 at *
   refine bk [0,1,2,3,4,5,6,7,8,9,10,11,12] [(13,[])] 0 (k:=14) ?_
   intro G hG
   simp only [go_sem,Nat.reduceEqDiff,Nat.reduceAdd,Nat.reduceLT,↓reduceIte,w1,w2]
   simp [go_sem,w1,w2,hEl,kd,kd1,i1,i2,IntKind.bits,hul,hk4,cg]
   first | refine hG _ _ ?_ | refine ⟨by omega,hG _ _ ?_⟩ | refine ⟨by omega,by omega,hG _ _ ?_⟩ | refine ⟨by omega,by omega,by omega,hG _ _ ?_⟩ | refine ⟨by omega,by omega,by omega,by omega,hG _ _ ?_⟩
   clear hG G
   simp [go_sem,w3]
   first | refine ai (k+1) (by omega) (by omega) ?_ | refine ⟨by omega,ai (k+1) (by omega) (by omega) ?_⟩ | refine ⟨by omega,by omega,ai (k+1) (by omega) (by omega) ?_⟩
   rw [hsn]
   simp [av,ag,fv,lk,AV.low,AV.low1]
   and_intros <;> exact aA _ _
  ·refine ⟨fun h=>absurd (by exact_mod_cast h) h4,fun h=>?_⟩
   have hk4:k=4:=by omega
   subst hk4
   refine bD [0,1] [2,3,7,8] [0,1,4,5,6,9] (.alt (.step 2 [] true (.alt (.step 3 [4,5,6] true (.step 7 [] true (.step 8 [9] true .done))) (.step 7 [] true (.step 3 [4,5,6] true (.step 8 [9] true .done))))) (.step 7 [] true (.step 2 [] true (.step 3 [4,5,6] true (.step 8 [9] true .done))))) ⟨[(2,.ptr 32 0 0 1),(9,.ptr 8288 0 0 1),(10,.d (.int .u64 cc))],[(8288,⟨160,4,[cI s]⟩),(32,⟨160,4,[cI zI]⟩)],20000⟩ (k:=10) ?h3 ?hq
   case h3 =>
    intro G hG
    have hW:∀ (fr:Fr) (hp:Hp),(fv 2 fr=.ptr 32 0 0 1∧fv 9 fr=.ptr 8288 0 0 1∧fv 10 fr=.d (.int .u64 cc)∧lk 8288 hp=some ⟨160,4,[cI s]⟩∧lk 32 hp=some ⟨160,4,[cI zI]⟩)→G fr hp:=by
     rintro fr hp ⟨q0,q1,q2,q3,q4⟩
     exact hG _ _ fc
    simp [go_sem,hwl,aa hwl,hsl,aa hsl,hz,be]
    repeat' first | exact hW _ _ ⟨rfl,rfl,rfl,rfl,rfl⟩ | (refine hW _ _ ?_;simp [fv,lk];done) | refine ab (IQ _) (rS _) ?_ | refine ab f1 (ah _ _) ?_ | apply And.intro | simp [go_sem,hwl,aa hwl,hsl,aa hsl,hz,be]
   case hq =>
    by_cases h0:cc=0
    ·obtain rfl:=e0 h0
     simp [go_sem,h0,hsl,aa hsl]
     refine ab f3 (ar _) ?_
     simp [go_sem,r1l,aa r1l,hz,ak]
     exact bm rfl
    ·have h1:cc=1:=by omega
     obtain rfl:=e1 h1
     simp [go_sem,h1,hsl,aa hsl]
     refine ab f2 (ah s [4294968273,0,0,0]) ?_
     simp [go_sem,h2l,hsl,aa h2l,ao hsl]
     refine ab f4 (ar _) ?_
     simp [go_sem,r2l,aa r2l,hz,ak]
     exact bm rfl
 by_cases h0:cc=0
 ·refine ⟨r1,hr1,?_,key r1 hr1 (fun _=>rfl) (fun h=>absurd (h0.symm.trans h) (by decide))⟩
  rw [vr1,← hmod]
  congr 1
  subst h0
  omega
 ·have h1:cc=1:=by omega
  refine ⟨r2,hr2,?_,key r2 hr2 (fun h=>absurd h h0) (fun _=>rfl)⟩
  rw [vr2,← hmod]
  subst h1
  have:V (U 4)+t*4294968273=V s2+115792089237316195423570985008687907853269984665640564039457584007908834671663:=by omega
  rw [this,Int.add_emod_right]
theorem wj (a b:List Int) (ha:Wn 4 a) (hb:Wn 4 b):∃ r,Wn 4 r∧V r=(V a*V b) % 115792089237316195423570985008687907853269984665640564039457584007908834671663∧W2 187 a b r:=by
 obtain ⟨hx,vx⟩:=Jr ha
 obtain ⟨hy,vy⟩:=Jr hb
 have f1:=r6 a ha
 have f2:=r6 b hb
 generalize bd (sB a) oM 8=x at *
 generalize bd (sB b) oM 8=y at *
 have hz16:oU 16 Ao:=⟨rfl,by intro q hq;simp [Ao] at hq;omega⟩
 have hg0:∀ j,gI Ao j=0:=by
  intro j
  match j with
  | 0 | 1 | 2 | 3 | 4 | 5 | 6 | 7 | 8 | 9 | 10 | 11 | 12 | 13 | 14 | 15=>rfl
  | n+16=>rfl
 have hI:=BF hx hy hz16 hg0 (by simp [Ao,fF])
 obtain ⟨hD,vD,_⟩:=hI 8 (by omega)
 rw [List.take_of_length_le (by rw [hx.1];omega),vx,vy] at vD
 generalize hDD:bd (yF x y) Ao=D at *
 obtain ⟨r,hr,vr,f3⟩:=Ap (D 8) hD
 refine ⟨r,hr,by rw [vr,vD],?_⟩
 unfold W2
 refine aS Tryz.func187 Tryz.ntmps187 (rs:=[.cell 4 160]) (ah a b) ?_
 have hal:=ha.1
 have hbl:=hb.1
 have hxl:=hx.1
 have hyl:=hy.1
 have hrl:=hr.1
 have hz:List.drop 4 (cI zI)=[]:=ao rfl
 simp [go_sem,hal,hbl,aa hal,aa hbl]
 refine bD [0,2] [1,3,4,5,6,7] [0,2] (.alt (.step 1 [] true (.alt (.step 3 [] false (.alt (.step 4 [] false (.step 5 [] false (.step 6 [] false (.step 7 [] false .done)))) (.step 5 [] false (.step 4 [] false (.step 6 [] false (.step 7 [] false .done)))))) (.alt (.step 4 [] true (.alt (.step 3 [] false (.step 5 [] false (.step 6 [] false (.step 7 [] false .done)))) (.step 5 [] true (.step 3 [] false (.step 6 [] false (.step 7 [] false .done)))))) (.step 5 [] true (.alt (.step 3 [] false (.step 4 [] false (.step 6 [] false (.step 7 [] false .done)))) (.step 4 [] true (.step 3 [] false (.step 6 [] false (.step 7 [] false .done))))))))) (.alt (.step 4 [] true (.alt (.step 1 [] true (.alt (.step 3 [] false (.step 5 [] false (.step 6 [] false (.step 7 [] false .done)))) (.step 5 [] true (.step 3 [] false (.step 6 [] false (.step 7 [] false .done)))))) (.step 5 [] true (.step 1 [] true (.step 3 [] false (.step 6 [] false (.step 7 [] false .done))))))) (.step 5 [] true (.alt (.step 1 [] true (.alt (.step 3 [] false (.step 4 [] false (.step 6 [] false (.step 7 [] false .done)))) (.step 4 [] true (.step 3 [] false (.step 6 [] false (.step 7 [] false .done)))))) (.step 4 [] true (.step 1 [] true (.step 3 [] false (.step 6 [] false (.step 7 [] false .done))))))))) ⟨[(4,.ptr 64 0 0 1),(5,.ptr 224 0 0 1),(6,.ptr 256 0 0 1)],[(256,⟨230,8,[cI y]⟩),(224,⟨230,8,[cI x]⟩),(64,⟨160,4,[cI zI]⟩)],1000⟩ (k:=8) ?h3 ?hq
 case h3 =>
  intro G hG
  have hW:∀ (fr:Fr) (hp:Hp),(fv 4 fr=.ptr 64 0 0 1∧fv 5 fr=.ptr 224 0 0 1∧fv 6 fr=.ptr 256 0 0 1∧lk 256 hp=some ⟨230,8,[cI y]⟩∧lk 224 hp=some ⟨230,8,[cI x]⟩∧lk 64 hp=some ⟨160,4,[cI zI]⟩)→G fr hp:=by
   rintro fr hp ⟨q0,q1,q2,q3,q4,q5⟩
   exact hG _ _ fc
  simp [go_sem,hal,hbl,aa hal,aa hbl,hxl,hyl,aa hxl,aa hyl,be]
  repeat' first | exact hW _ _ ⟨rfl,rfl,rfl,rfl,rfl,rfl⟩ | (refine hW _ _ ?_;simp [fv,lk];done) | refine ab f1 (ar _) ?_ | refine ab f2 (ar _) ?_ | apply And.intro | simp [go_sem,hal,hbl,aa hal,aa hbl,hxl,hyl,aa hxl,aa hyl,be]
 case hq =>
  simp [go_sem]
  refine au (fun i:Nat=>⟨[(4,.ptr 64 0 0 1),(5,.ptr 224 0 0 1),(6,.ptr 256 0 0 1),(7,.ptr 1032 0 0 1),(8,.d (.int .i64 (i:Int)))],[(1032,⟨232,16,[cI (D i)]⟩),(256,⟨230,8,[cI y]⟩),(224,⟨230,8,[cI x]⟩),(64,⟨160,4,[cI zI]⟩)],2000⟩)
   (fun k=>k≤8) (fun k=>8 - k) 0 (by omega) (by
    rw [← hDD]
    simp [av,ag,fv,lk,AV.low,AV.low1,bd]
    and_intros <;> first | rfl | exact aA _ _ | (rw [dc];exact Nat.le_refl _)) ?_
  intro i hi
  obtain ⟨hd1,_,_⟩:=hI i hi
  have w3:=ax (k:=i) (by omega)
  simp only [go_sem,Nat.reduceEqDiff,Nat.reduceAdd,Nat.reduceLT,↓reduceIte]
  by_cases h8:i<8
  ·refine ⟨fun h=>?_,fun h=>absurd (by exact_mod_cast h8) h⟩
   have hi8:(i:Int)<8:=by omega
   have hsn:D (i+1)=yF x y i (D i):=by rw [← hDD];rfl
   have hR:=wb hx hy hd1 (i:=i) h8
   unfold yF at hsn
   generalize hTT:bd (nS x y i) (D i,0)=T at *
   have hT0:T 0=(D i,0):=by rw [← hTT];rfl
   have kx:=bw (l:=x) (k:=i) (by omega)
   refine au (fun k:Nat=>⟨[(4,.ptr 64 0 0 1),(5,.ptr 224 0 0 1),(6,.ptr 256 0 0 1),(7,.ptr 1032 0 0 1),(8,.d (.int .i64 (i:Int))),(9,.d (.int .u64 (T k).2)),(10,.d (.int .i64 (k:Int)))],[(1032,⟨232,16,[cI (T k).1]⟩),(256,⟨230,8,[cI y]⟩),(224,⟨230,8,[cI x]⟩),(64,⟨160,4,[cI zI]⟩)],4000⟩)
    (fun k=>k≤8) (fun k=>8 - k) 0 (by omega) (by
     rw [hT0]
     simp [av,ag,fv,lk,AV.low,AV.low1]
     and_intros <;> first | rfl | exact aA _ _) ?_
   intro k hk
   obtain ⟨ht1,ht2,_,_⟩:=hR k hk
   have htl:=ht1.1
   have w4:=ax (k:=k) (by omega)
   simp only [go_sem,Nat.reduceEqDiff,Nat.reduceAdd,Nat.reduceLT,↓reduceIte]
   by_cases h5:k<8
   ·refine ⟨fun h=>?_,fun h=>absurd (by exact_mod_cast h5) h⟩
    have hk8:(k:Int)<8:=by omega
    have htn:T (k+1)=nS x y i k (T k):=by rw [← hTT];rfl
    have ky:=bw (l:=y) (k:=k) (by omega)
    have kt:=bw (l:=(T k).1) (k:=i+k) (by omega)
    have w5:IntKind.i64.wrap ((i:Int)+(k:Int))=((i+k:Nat):Int):=by rw [IntWalk.i64_in _ (by omega)];omega
    have i16:((i+k:Nat):Int)<16:=by omega
    have i16n:i+k<16:=by omega
    have p1:=FU (gR hx i) (gR hy k)
    have p2:=gR ht1 (i+k)
    have p3:=OA hx hy (i:=i) (k:=k) ht1 ht2
    have ep:pm x y i k (T k)=(T k).2+gI (T k).1 (i+k)+gI x i*gI y k:=rfl
    unfold nS at htn
    rw [ep] at htn p3
    have b1:=nM _ p3.1 p3.2
    have a1:IntKind.u64.wrap ((T k).2+gI (T k).1 (i+k))=(T k).2+gI (T k).1 (i+k):=by rw [cH];omega
    have a2:IntKind.u64.wrap (gI x i*gI y k)=gI x i*gI y k:=by rw [cH];omega
    have a3:IntKind.u64.wrap ((T k).2+gI (T k).1 (i+k)+gI x i*gI y k)=(T k).2+gI (T k).1 (i+k)+gI x i*gI y k:=by rw [cH];omega
    generalize i+k=j at *
    generalize hzz:(T k).2+gI (T k).1 j+gI x i*gI y k=z at *
    refine bk [0,1,2,3,4,5,6,7,8,9,10,11,12,13,14] [(15,[])] 0 (k:=16) ?_
    intro G hG
    simp only [go_sem,Nat.reduceEqDiff,Nat.reduceAdd,Nat.reduceLT,↓reduceIte,w5]
    simp [go_sem,w5,kx,ky,kt,hxl,hyl,htl,hi8,hk8,i16,a1,a2,a3,hzz]
    first | refine hG _ _ ?_ | refine ⟨by omega,hG _ _ ?_⟩ | refine ⟨by omega,by omega,hG _ _ ?_⟩ | refine ⟨by omega,by omega,by omega,hG _ _ ?_⟩ | refine ⟨by omega,by omega,by omega,by omega,hG _ _ ?_⟩
    clear hG G
    simp only [go_sem,Nat.reduceEqDiff,Nat.reduceAdd,Nat.reduceLT,↓reduceIte,w5]
    simp [go_sem,w5,htl,i16,i16n,b1,Gc,IntKind.bits,cg,w4]
    first | refine ai (k+1) (by omega) (by omega) ?_ | refine ⟨by omega,ai (k+1) (by omega) (by omega) ?_⟩ | refine ⟨by omega,by omega,ai (k+1) (by omega) (by omega) ?_⟩
    rw [htn]
    simp [av,ag,fv,lk,AV.low,AV.low1]
    and_intros <;> exact aA _ _
   ·refine ⟨fun h=>absurd (by exact_mod_cast h) h5,fun h=>?_⟩
    have hk8:k=8:=by omega
    subst hk8
    have w6:IntKind.i64.wrap ((i:Int)+8)=((i+8:Nat):Int):=by rw [IntWalk.i64_in _ (by omega)];omega
    have i16:((i+8:Nat):Int)<16:=by omega
    have i16n:i+8<16:=by omega
    generalize i+8=j at *
    simp only [go_sem,Nat.reduceEqDiff,Nat.reduceAdd,Nat.reduceLT,↓reduceIte,w6]
    simp [go_sem,w6,htl,i16,i16n,cg,w3]
    first | refine ai (i+1) (by omega) (by omega) ?_ | refine ⟨by omega,ai (i+1) (by omega) (by omega) ?_⟩
    rw [hsn]
    simp [av,ag,fv,lk,AV.low,AV.low1]
    and_intros <;> exact aA _ _
  ·refine ⟨fun h=>absurd (by exact_mod_cast h) h8,fun h=>?_⟩
   have hk4:i=8:=by omega
   subst hk4
   have hdl:=hd1.1
   simp [go_sem,hdl,aa hdl]
   refine ab f3 (ar _) ?_
   simp [go_sem,hrl,aa hrl,hz,ak]
   exact bm rfl
theorem OF:∃ M:List Int × List Int→List Int,∀ x,(Wn 4 x.1∧Wn 4 x.2)→Wn 4 (M x)∧V (M x)=(V x.1*V x.2) % 115792089237316195423570985008687907853269984665640564039457584007908834671663∧aq Tryz.prog 187 [.agg (cI x.1),.agg (cI x.2)] (fun r=>r=.agg (cI (M x))) :=
 pick (α:=List Int × List Int) (β:=List Int) (A:=fun x=>Wn 4 x.1∧Wn 4 x.2) (B:=fun x y=>Wn 4 y∧V y=(V x.1*V x.2) % 115792089237316195423570985008687907853269984665640564039457584007908834671663∧aq Tryz.prog 187 [.agg (cI x.1),.agg (cI x.2)] (fun r=>r=.agg (cI y))) (fun x hx=>by
  obtain ⟨r,h1,h2,h3⟩:=wj x.1 x.2 hx.1 hx.2
  exact ⟨r,h1,h2,h3⟩)
def yH (M:List Int × List Int→List Int) (a n:List Int) (j:Nat) (s:List Int):List Int:=if sC n (255 - j)=1 then M (M (s,s),a) else M (s,s)
theorem BK {M:List Int × List Int→List Int} (hM:∀ x,(Wn 4 x.1∧Wn 4 x.2)→Wn 4 (M x)∧V (M x)=(V x.1*V x.2) % 115792089237316195423570985008687907853269984665640564039457584007908834671663) {a n:List Int} (ha:Wn 4 a) (hn:Wn 4 n):∀ j,j≤256→Wn 4 (bd (yH M a n) dm j)∧V (bd (yH M a n) dm j)=V a ^ ((V n).toNat / 2 ^ (256 - j)) % 115792089237316195423570985008687907853269984665640564039457584007908834671663
 | 0,_=>by
  refine ⟨oR,?_⟩
  have:=BJ hn
  show V dm=_
  rw [tJ,Nat.div_eq_of_lt (by omega),Int.pow_zero];rfl
 | j+1,hj=>by
  obtain ⟨h1,h2⟩:=BK hM ha hn j (by omega)
  rw [bd]
  generalize bd (yH M a n) dm j=s at *
  obtain ⟨k1,k2⟩:=hM (s,s) ⟨h1,h1⟩
  obtain ⟨k3,k4⟩:=hM (M (s,s),a) ⟨k1,ha⟩
  dsimp only at k2 k4
  have e:256 - j=(255 - j)+1:=by omega
  have e2:256 - (j+1)=255 - j:=by omega
  have h3:(V n).toNat / 2 ^ (256 - j)=(V n).toNat / 2 ^ (255 - j) / 2:=by rw [e,Nat.pow_succ,← Nat.div_div_eq_div_mul]
  have hb:sC n (255 - j)=(V n).toNat / 2 ^ (255 - j) % 2:=rfl
  rw [h3] at h2
  unfold yH
  rw [e2,hb]
  generalize (V n).toNat / 2 ^ (255 - j)=N at *
  have sq:V (M (s,s))=V a ^ (N / 2+N / 2) % 115792089237316195423570985008687907853269984665640564039457584007908834671663:=by rw [k2,h2,← Int.mul_emod,← Int.pow_add]
  by_cases h5:N % 2=1
  ·rw [if_pos h5]
   refine ⟨k3,?_⟩
   rw [k4,sq,Int.mul_emod,Int.emod_emod,← Int.mul_emod,← Int.pow_succ]
   congr 2
   omega
  ·rw [if_neg h5]
   refine ⟨k1,?_⟩
   rw [sq]
   congr 2
   omega
theorem IR (a n:List Int) (ha:Wn 4 a) (hn:Wn 4 n):∃ r,Wn 4 r∧V r=V a ^ (V n).toNat % 115792089237316195423570985008687907853269984665640564039457584007908834671663∧W2 219 a n r:=by
 obtain ⟨M,hM⟩:=OF
 have hS:=BK (fun x hx=>⟨(hM x hx).1,(hM x hx).2.1⟩) ha hn
 refine ⟨bd (yH M a n) dm 256,(hS 256 (by omega)).1,by rw [(hS 256 (by omega)).2,Nat.sub_self,Nat.pow_zero,Nat.div_one],?_⟩
 unfold W2
 refine aS Tryz.func219 Tryz.ntmps219 (rs:=[.cell 4 160]) (ah a n) ?_
 have hal:=ha.1
 have hnl:=hn.1
 have hz:List.drop 4 (cI zI)=[]:=ao rfl
 simp [go_sem,hal,hnl,aa hal,aa hnl]
 generalize hSS:bd (yH M a n) dm=S at *
 refine au (fun k:Nat=>⟨[(2,.ptr 0 0 0 1),(3,.ptr 32 0 0 1),(4,.ptr 64 0 0 1),(5,.ptr 128 0 0 1),(6,.d (.int .i64 (ve k)))],[(128,⟨160,4,[cI (S (256 - k))]⟩),(64,⟨160,4,[cI zI]⟩),(32,⟨160,4,[cI n]⟩),(0,⟨160,4,[cI a]⟩)],1000⟩)
  (fun k=>k≤256) (fun k=>k) 256 (by omega) (by
   rw [← hSS]
   simp [av,ag,fv,lk,AV.low,AV.low1,bd,ve]
   and_intros <;> first | rfl | exact aA _ _) ?_
 intro k hk
 cases k with
 | zero =>
  have hl:=(hS 256 (by omega)).1.1
  simp [go_sem,nK,hl,aa hl,hz,ak]
  exact bm rfl
 | succ k =>
  obtain ⟨h1,_⟩:=hS (256 - (k+1)) (by omega)
  have e255:256 - (k+1)=255 - k:=by omega
  have hsn:S (256 - k)=yH M a n (255 - k) (S (255 - k)):=by
   rw [show 256 - k=(255 - k)+1 by omega,← hSS,bd]
  rw [e255] at h1
  have hl:=h1.1
  have hw:=iG k (by omega)
  have p0:¬ ((k:Int)<0):=by omega
  obtain ⟨m1,_,m2⟩:=hM (S (255 - k),S (255 - k)) ⟨h1,h1⟩
  obtain ⟨m3,_,m4⟩:=hM (M (S (255 - k),S (255 - k)),a) ⟨m1,ha⟩
  unfold yH at hsn
  rw [show 255 - (255 - k)=k by omega] at hsn
  generalize M (S (255 - k),S (255 - k))=q at *
  have hql:=m1.1
  have hgl:=m3.1
  simp [go_sem,gH,p0,hl,aa hl]
  refine ab m2 (ah _ _) ?_
  simp [go_sem,hql,hl,aa hql,ao hl,hnl,aa hnl]
  refine ab (nV n k hn (by omega)) (gx _ _) ?_
  by_cases hb:sC n k=1
  ·rw [if_pos hb] at hsn
   simp [go_sem,hb,hql,aa hql,hal,aa hal]
   refine ab m4 (ah _ _) ?_
   rw [← hsn] at *
   simp [go_sem,gH,hgl,hql,aa hgl,ao hql,hw]
   refine ai k (by omega) (by omega) ?_
   simp [av,ag,fv,lk,AV.low,AV.low1]
   and_intros <;> first | rfl | exact aA _ _
  ·have hb2:¬ ((sC n k:Int)=1):=by omega
   rw [if_neg hb] at hsn
   simp [go_sem,hb,hb2,hw,gH]
   refine ai k (by omega) (by omega) ?_
   rw [hsn]
   simp [av,ag,fv,lk,AV.low,AV.low1]
   and_intros <;> first | rfl | exact aA _ _
abbrev T4:=List Int × List Int × List Int × List Int
def Rf (s:T4):Prop:=Wn 4 s.1∧Wn 4 s.2.1∧Wn 4 s.2.2.1∧Wn 4 s.2.2.2
def N4 (s:T4):I4:=((V s.1).toNat,(V s.2.1).toNat,(V s.2.2.1).toNat,(V s.2.2.2).toNat)
theorem Gd {m a:Nat} (hm:m<115792089237316195423570985008687907853269984665640564039457584007913129639936) (hodd:m % 2=1) {mw:List Int} (hmw:Wn 4 mw) (vm:V mw=(m:Int)) {s:T4} (hs:Rf s) (hI:Jm m a (N4 s)) (h0:s.1 ≠ zI) :
  ((V s.1 % 2=0→∃ u x,Wn 4 u∧Wn 4 x∧W2 239 s.1 mw u∧W2 239 s.2.2.1 mw x∧N4 (u,s.2.1,x,s.2.2.2)=Iu m (N4 s)) ∧
  (V s.1 % 2 ≠ 0→∃ (d:List Int) (c:Int),Wn 4 d∧C1 c∧(c=1→V s.1<V s.2.1)∧aq Tryz.prog 238 [.agg (cI s.1),.agg (cI s.2.1)] (fun r=>r=.tup [.agg (cI d),.d (.int .u64 c)]) ∧
   ∀ (d' v' x' y':List Int),((c=1∧Wn 4 d'∧V d'=V s.2.1 - V s.1∧v'=s.1∧x'=s.2.2.2∧y'=s.2.2.1) ∨ (c=0∧d'=d∧v'=s.2.1∧x'=s.2.2.1∧y'=s.2.2.2)) →
    ∃ (z:List Int) (b:Int) (z2:List Int) (b2:Int),Wn 4 z∧C1 b∧Wn 4 z2∧aq Tryz.prog 238 [.agg (cI x'),.agg (cI y')] (fun r=>r=.tup [.agg (cI z),.d (.int .u64 b)])∧aq Tryz.prog 217 [.agg (cI z),.agg (cI mw)] (fun r=>r=.tup [.agg (cI z2),.d (.int .u64 b2)])∧N4 (d',v',if b=1 then z2 else z,y')=Iu m (N4 s))):=by
 obtain ⟨hu,hv,hx,hy⟩:=hs
 obtain ⟨i1,i2,i3,i4,i5,_,_,_⟩:=hI
 have q1:=cy hu
 have q2:=cy hv
 have q3:=cy hx
 have q4:=cy hy
 simp only [N4] at i1 i2 i3 i4 i5
 refine ⟨fun he=>?_,fun ho=>?_⟩
 ·obtain ⟨u,hu1,vu,f1⟩:=yG s.1 mw hu hmw
  obtain ⟨x,hx1,vx,f2⟩:=yG s.2.2.1 mw hx hmw
  refine ⟨u,x,hu1,hx1,f1,f2,?_⟩
  rw [if_pos he] at vu
  unfold N4 Iu hf
  dsimp only
  rw [if_pos (by omega),vu,vx,vm]
  refine Prod.ext ?_ (Prod.ext rfl (Prod.ext ?_ rfl))
  ·dsimp only;omega
  ·dsimp only
   split
   ·rw [if_pos (by omega)];omega
   ·rw [if_neg (by omega)];omega
 ·obtain ⟨d,c,hd,hc,vd,f1⟩:=lh s.1 s.2.1 hu hv
  have qd:=cy hd
  have c1:=hc.1
  have c2:=hc.2
  refine ⟨d,c,hd,hc,fun h=>by omega,f1,?_⟩
  intro d' v' x' y' hcs
  have hW:Wn 4 x'∧Wn 4 y':=by
   rcases hcs with ⟨_,_,_,_,rfl,rfl⟩ | ⟨_,_,_,rfl,rfl⟩
   ·exact ⟨hy,hx⟩
   ·exact ⟨hx,hy⟩
  obtain ⟨z,b,hz,hb,vz,f2⟩:=lh x' y' hW.1 hW.2
  obtain ⟨z2,b2,hz2,hb2,vz2,f3⟩:=gJ z mw hz hmw
  refine ⟨z,b,z2,b2,hz,hb,hz2,f2,f3,?_⟩
  have qz:=cy hz
  have qz2:=cy hz2
  have b1:=hb.1
  have b3:=hb.2
  have b4:=hb2.1
  have b5:=hb2.2
  have qx:=cy hW.1
  have qy:=cy hW.2
  rw [vm] at vz2
  unfold N4 Iu
  dsimp only
  rw [if_neg (show ¬ (V s.1).toNat % 2=0 by omega)]
  rcases hcs with ⟨e1,_,e4,rfl,rfl,rfl⟩ | ⟨e1,rfl,rfl,rfl,rfl⟩
  ·rw [if_pos (show (V s.1).toNat<(V s.2.1).toNat by omega)]
   refine Prod.ext (by dsimp only;omega) (Prod.ext rfl (Prod.ext ?_ rfl))
   dsimp only
   by_cases hb1:b=1
   ·rw [if_pos hb1,if_pos (show (V s.2.2.2).toNat<(V s.2.2.1).toNat by omega)];omega
   ·rw [if_neg hb1,if_neg (show ¬ (V s.2.2.2).toNat<(V s.2.2.1).toNat by omega)];omega
  ·rw [if_neg (show ¬ (V s.1).toNat<(V s.2.1).toNat by omega)]
   refine Prod.ext (by dsimp only;omega) (Prod.ext rfl (Prod.ext ?_ rfl))
   dsimp only
   by_cases hb1:b=1
   ·rw [if_pos hb1,if_pos (show (V s.2.2.1).toNat<(V s.2.2.2).toNat by omega)];omega
   ·rw [if_neg hb1,if_neg (show ¬ (V s.2.2.1).toNat<(V s.2.2.2).toNat by omega)];omega
theorem r7:V zI=0:=by simp [V,zI]
theorem yI (a m:List Int) (ha:Wn 4 a) (hm:Wn 4 m) (hodd:V m % 2=1) (h1:1<V m) (hlt:V a<V m) (hg:V a ≠ 0→Nat.gcd (V a).toNat (V m).toNat=1):∃ r,Wn 4 r∧V r<V m∧(V a=0→V r=0)∧(V a ≠ 0→V r*V a % V m=1)∧W2 228 a m r:=by
 have qa:=cy ha
 have qm:=cy hm
 have hal:=ha.1
 have hml:=hm.1
 have hz:List.drop 4 (cI zI)=[]:=ao rfl
 have iz:bz .u64 [AV.d (.int .u64 0),AV.d (.int .u64 0),AV.d (.int .u64 0),AV.d (.int .u64 0)]=some zI:=aW zI
 unfold W2
 by_cases h0:a=zI
 ·have va:V a=0:=by rw [h0];exact r7
  refine ⟨a,ha,hlt,fun _=>va,fun h=>absurd va h,?_⟩
  refine aS Tryz.func228 Tryz.ntmps228 (rs:=[.cell 4 160]) (ah a m) ?_
  simp [go_sem,hal,hml,aa hal,aa hml,aW,iz,h0,hz,mP,aa (l:=zI) (n:=4) rfl,ak]
  exact bm (a:=zI) rfl
 have va:V a ≠ 0:=fun h=>h0 (pv ha cG (by rw [h,r7]))
 have hg1:=hg va
 obtain ⟨mN,vm⟩:∃ n:Nat,V m=(n:Int):=⟨(V m).toNat,by omega⟩
 obtain ⟨aN,van⟩:∃ n:Nat,V a=(n:Int):=⟨(V a).toNat,by omega⟩
 have hM:(2:Nat) ^ 256=115792089237316195423570985008687907853269984665640564039457584007913129639936:=by decide
 rw [vm,van,Int.toNat_natCast,Int.toNat_natCast] at hg1
 have hok:=Oj (m:=mN) (a:=aN) (by omega) (by omega) (by omega) (by omega) (by omega) hg1
 generalize hR:CF mN 1100 (aN,mN,1,0)=R at hok
 obtain ⟨hR1,hR2,hR3⟩:=hok
 have hI0:Jm mN aN (aN,mN,1,0):=⟨by dsimp only;omega,Nat.le_refl _,by dsimp only;omega,by dsimp only;omega,by dsimp only;omega,by dsimp only;rw [Nat.one_mul],by dsimp only;rw [Nat.zero_mul,Nat.mod_self,Nat.zero_mod],hg1⟩
 have hN0:N4 (a,m,dm,zI)=(aN,mN,1,0):=by
  unfold N4
  dsimp only
  rw [van,vm,tJ,r7]
  rfl
 -- the answer's words
 obtain ⟨r,hr,vr⟩:∃ r,Wn 4 r∧V r=(R.2.2.2:Int):=by
  refine ⟨[((R.2.2.2 % 18446744073709551616:Nat):Int),((R.2.2.2 / 18446744073709551616 % 18446744073709551616:Nat):Int),((R.2.2.2 / 340282366920938463463374607431768211456 % 18446744073709551616:Nat):Int),((R.2.2.2 / 6277101735386680763835789423207666416102355444464034512896:Nat):Int)],⟨rfl,?_⟩,?_⟩
  ·intro y hy
   simp only [List.mem_cons,List.mem_nil_iff,or_false] at hy
   rcases hy with rfl | rfl | rfl | rfl <;> exact ⟨by omega,by omega⟩
  ·rw [V4]
   omega
 have hrl:=hr.1
 refine ⟨r,hr,by omega,fun h=>absurd h va,fun _=>?_,?_⟩
 ·rw [vr,van,vm,← Int.natCast_mul,← Int.natCast_emod,hR3];rfl
 refine aS Tryz.func228 Tryz.ntmps228 (rs:=[.cell 4 160]) (ah a m) ?_
 simp [go_sem,hal,hml,aa hal,aa hml,aW,iz,h0]
 refine bD [0,1] [2,3,4,5] [0,1] (.alt (.step 2 [] true (.step 3 [] true (.step 4 [] true (.step 5 [] false .done)))) (.step 3 [] true (.step 2 [] true (.step 4 [] true (.step 5 [] false .done))))) ⟨[(2,.ptr 0 0 0 1),(3,.ptr 32 0 0 1),(4,.ptr 64 0 0 1),(5,.ptr 256 0 0 1),(6,.ptr 288 0 0 1)],[(288,⟨160,4,[cI m]⟩),(256,⟨160,4,[cI a]⟩),(64,⟨160,4,[cI zI]⟩),(32,⟨160,4,[cI m]⟩),(0,⟨160,4,[cI a]⟩)],1000⟩ (k:=6) ?h3 ?hq
 case h3 =>
  intro G hG
  have hW:∀ (fr:Fr) (hp:Hp),(fv 2 fr=.ptr 0 0 0 1∧fv 3 fr=.ptr 32 0 0 1∧fv 4 fr=.ptr 64 0 0 1∧fv 5 fr=.ptr 256 0 0 1∧fv 6 fr=.ptr 288 0 0 1∧lk 288 hp=some ⟨160,4,[cI m]⟩∧lk 256 hp=some ⟨160,4,[cI a]⟩∧lk 64 hp=some ⟨160,4,[cI zI]⟩∧lk 32 hp=some ⟨160,4,[cI m]⟩∧lk 0 hp=some ⟨160,4,[cI a]⟩)→G fr hp:=by
   rintro fr hp ⟨q0,q1,q2,q3,q4,q5,q6,q7,q8,q9⟩
   exact hG _ _ fc
  simp [go_sem,hal,hml,aa hal,aa hml,be]
  repeat' first | exact hW _ _ ⟨rfl,rfl,rfl,rfl,rfl,rfl,rfl,rfl,rfl,rfl⟩ | (refine hW _ _ ?_;simp [fv,lk];done) | fail | apply And.intro | simp [go_sem,hal,hml,aa hal,aa hml,be]
 case hq =>
  simp [go_sem]
  refine au (fun t:Nat × T4=>⟨[(3,.ptr 32 0 0 1),(4,.ptr 64 0 0 1),(5,.ptr 256 0 0 1),(6,.ptr 288 0 0 1),(7,.ptr 1064 0 0 1),(8,.ptr 1096 0 0 1),(9,.d (.int .i64 (t.1:Int)))],[(1096,⟨160,4,[cI t.2.2.2.2]⟩),(1064,⟨160,4,[cI t.2.2.2.1]⟩),(288,⟨160,4,[cI t.2.2.1]⟩),(256,⟨160,4,[cI t.2.1]⟩),(64,⟨160,4,[cI zI]⟩),(32,⟨160,4,[cI m]⟩)],4000⟩)
   (fun t=>t.1≤1100∧Rf t.2∧Jm mN aN (N4 t.2)∧CF mN (1100 - t.1) (N4 t.2)=R) (fun t=>1100 - t.1) (0,(a,m,dm,zI)) ⟨by dsimp only;omega,⟨ha,hm,oR,cG⟩,by rw [hN0];exact hI0,by rw [hN0];exact hR⟩ (by
    simp [av,ag,fv,lk,AV.low,AV.low1]
    and_intros <;> first | rfl | exact aA _ _) ?_
  rintro ⟨k,u,v,x,y⟩ ⟨hk,⟨hu,hv,hx,hy⟩,hI,hq⟩
  dsimp only at hk hu hv hx hy hI hq
  have w3:=ax (k:=k) (by omega)
  have hul:=hu.1
  have hvl:=hv.1
  have hxl:=hx.1
  have hyl:=hy.1
  have qu:=cy hu
  have qy:=cy hy
  have oI:CF mN (1100 - k) (N4 (u,v,x,y))=N4 (u,v,x,y)→y=r:=by
   intro h
   rw [hq] at h
   refine pv hy hr ?_
   have h4:=congrArg (fun s:I4=>s.2.2.2) h
   simp only [N4] at h4
   omega
  by_cases hk2:k<1100
  ·have hk2i:(k:Int)<1100:=by omega
   by_cases hu0:u=zI
   ·have hy2:y=r:=oI (by
     obtain ⟨j,hj⟩:∃ j,1100 - k=j+1:=⟨1099 - k,by omega⟩
     rw [hj,CF,if_pos (by unfold N4;dsimp only;rw [hu0,r7];rfl)])
    subst hy2
    simp [go_sem,hk2i,hul,aa hul,aW,iz,hu0,mP,aa (l:=zI) (n:=4) rfl,hyl,aa hyl,hz,ak]
    exact bm rfl
   ·have hun:(V u).toNat ≠ 0:=fun h=>hu0 (pv hu cG (by rw [r7];omega))
    have hst:=Bs (m:=mN) (a:=aN) (by omega) hI hun
    have hnx:CF mN (1100 - (k+1)) (Iu mN (N4 (u,v,x,y)))=R:=by
     obtain ⟨j,hj⟩:∃ j,1100 - k=j+1:=⟨1099 - k,by omega⟩
     rw [hj,CF,if_neg (show (N4 (u,v,x,y)).1 ≠ 0 from hun)] at hq
     rw [show 1100 - (k+1)=j by omega]
     exact hq
    obtain ⟨we,wo⟩:=Gd (m:=mN) (a:=aN) (by omega) (by omega) hm vm (s:=(u,v,x,y)) ⟨hu,hv,hx,hy⟩ hI hu0
    dsimp only at we wo
    have hg0:=qk hu
    have ku0:=bw (l:=u) (k:=0) (by omega)
    have huh:(cI u).head?=some (.d (.int .u64 (gI u 0))):=by rw [List.head?_eq_getElem?,iH,ku0];rfl
    have hR0:=aP (k:=0) hu
    by_cases hev:V u % 2=0
    ·obtain ⟨u2,x2,hu2,hx2,f1,f2,hN⟩:=we hev
     unfold W2 at f1 f2
     have g0:gI u 0 % 2=0:=by omega
     have g0t:Int.tmod (gI u 0) 2=0:=by rw [Int.tmod_eq_emod_of_nonneg hR0.1];exact g0
     have l1:=hu2.1
     have l2:=hx2.1
     simp [go_sem,hk2i,hul,hxl,hml,aa hul,aa hxl,aa hml,aW,iz,hu0,ku0,huh,g0,g0t]
     refine ab f1 (ah _ _) ?_
     simp [go_sem,l1,hul,aa l1,ao hul,hxl,hml,aa hxl,aa hml]
     refine ab f2 (ah _ _) ?_
     simp [go_sem,l2,hxl,aa l2,ao hxl,w3]
     refine ai (k+1,(u2,v,x2,y)) ⟨by dsimp only;omega,⟨hu2,hv,hx2,hy⟩,by rw [hN];exact hst.1,by rw [hN];exact hnx⟩ (by dsimp only;omega) ?_
     simp [av,ag,fv,lk,AV.low,AV.low1]
     and_intros <;> first | rfl | exact aA _ _
    ·obtain ⟨d,c,hd,hc,hcl,f1,hrest⟩:=wo hev
     have g0:gI u 0 % 2=1:=by omega
     have g0t:Int.tmod (gI u 0) 2=1:=by rw [Int.tmod_eq_emod_of_nonneg hR0.1];exact g0
     have ld:=hd.1
     simp [go_sem,hk2i,hul,hvl,aa hul,aa hvl,aW,iz,hu0,ku0,huh,g0,g0t]
     refine ab f1 (ah _ _) ?_
     by_cases hc1:c=1
     ·obtain ⟨d',c',hd',hc',vd',f2⟩:=lh v u hv hu
      have qd':=cy hd'
      have qv:=cy hv
      have vdd:V d'=V v - V u:=by
       have:=hcl hc1
       have:=hc'.1
       have:=hc'.2
       omega
      obtain ⟨z,b,z2,b2,hzw,hb,hz2w,f3,f4,hN⟩:=hrest d' u y x (.inl ⟨hc1,hd',vdd,rfl,rfl,rfl⟩)
      have ld':=hd'.1
      have lz:=hzw.1
      have lz2:=hz2w.1
      simp [go_sem,hc1,ld,aa ld,hul,hvl,aa hul,aa hvl,hz]
      refine ab f2 (ah _ _) ?_
      simp [go_sem,ld,ld',aa ld',ao ld,hul,hvl,hxl,hyl,aa hul,aa hxl,aa hyl,ao hul,ao hvl,ao hxl,ao hyl]
      refine ab f3 (ah _ _) ?_
      by_cases hb1:b=1
      ·rw [if_pos hb1] at hN
       simp [go_sem,hb1,lz,aa lz,hz,hml,aa hml]
       refine ab f4 (ah _ _) ?_
       simp [go_sem,lz,lz2,aa lz2,ao lz,hyl,ao hyl,w3]
       refine ai (k+1,(d',u,z2,x)) ⟨by dsimp only;omega,⟨hd',hu,hz2w,hx⟩,by rw [hN];exact hst.1,by rw [hN];exact hnx⟩ (by dsimp only;omega) ?_
       simp [av,ag,fv,lk,AV.low,AV.low1]
       and_intros <;> first | rfl | exact aA _ _
      ·rw [if_neg hb1] at hN
       simp [go_sem,hb1,lz,aa lz,hz,hyl,ao hyl,w3]
       refine ai (k+1,(d',u,z,x)) ⟨by dsimp only;omega,⟨hd',hu,hzw,hx⟩,by rw [hN];exact hst.1,by rw [hN];exact hnx⟩ (by dsimp only;omega) ?_
       simp [av,ag,fv,lk,AV.low,AV.low1]
       and_intros <;> first | rfl | exact aA _ _
     ·have hc0:c=0:=by have:=hc.1;have:=hc.2;omega
      obtain ⟨z,b,z2,b2,hzw,hb,hz2w,f3,f4,hN⟩:=hrest d v x y (.inr ⟨hc0,rfl,rfl,rfl,rfl⟩)
      have lz:=hzw.1
      have lz2:=hz2w.1
      simp [go_sem,hc0,ld,aa ld,hul,hxl,hyl,aa hxl,aa hyl,ao hul,hz]
      refine ab f3 (ah _ _) ?_
      by_cases hb1:b=1
      ·rw [if_pos hb1] at hN
       simp [go_sem,hb1,lz,aa lz,hz,hml,aa hml]
       refine ab f4 (ah _ _) ?_
       simp [go_sem,lz,lz2,aa lz2,ao lz,hxl,ao hxl,w3]
       refine ai (k+1,(d,v,z2,y)) ⟨by dsimp only;omega,⟨hd,hv,hz2w,hy⟩,by rw [hN];exact hst.1,by rw [hN];exact hnx⟩ (by dsimp only;omega) ?_
       simp [av,ag,fv,lk,AV.low,AV.low1]
       and_intros <;> first | rfl | exact aA _ _
      ·rw [if_neg hb1] at hN
       simp [go_sem,hb1,lz,aa lz,hz,hxl,ao hxl,w3]
       refine ai (k+1,(d,v,z,y)) ⟨by dsimp only;omega,⟨hd,hv,hzw,hy⟩,by rw [hN];exact hst.1,by rw [hN];exact hnx⟩ (by dsimp only;omega) ?_
       simp [av,ag,fv,lk,AV.low,AV.low1]
       and_intros <;> first | rfl | exact aA _ _
  ·have hk3:k=1100:=by omega
   have hk2i:¬ (k:Int)<1100:=by omega
   have hy2:y=r:=oI (by rw [hk3];rfl)
   subst hy2
   simp [go_sem,hk2i,hyl,aa hyl,hz,ak]
   exact bm rfl
theorem dz (a b:List Int) (ha:Wn 4 a) (hb:Wn 4 b):∃ r,Wn 4 r∧(V r<pZ∧FV r=FV a*FV b)∧W2 187 a b r:=by
 obtain ⟨r,h1,h2,h3⟩:=wj a b ha hb
 exact ⟨r,h1,FH h2,h3⟩
theorem LX (a b:List Int) (ha:Wn 4 a) (hb:Wn 4 b):∃ r,Wn 4 r∧(V r<pZ∧FV r=FV a+FV b)∧W2 223 a b r:=by
 obtain ⟨r,h1,h2,h3⟩:=IL a b ha hb
 exact ⟨r,h1,FI h2,h3⟩
theorem kh (a b:List Int) (ha:Wn 4 a) (hb:Wn 4 b):∃ r,Wn 4 r∧(V r<pZ∧FV r=FV a - FV b)∧W2 226 a b r:=by
 obtain ⟨r,h1,h2,h3⟩:=BI a b ha hb
 exact ⟨r,h1,FJ h2,h3⟩
theorem Ge {n:Nat} [NeZero n] (f:Go.Ec.Fd n) {r a:Fin n} (h:r*a=1) (ha:a ≠ 0):r=f.inv a:=by
 have h2:=f.hinv a ha
 generalize f.inv a=i at *
 have:r=(r*a)*i:=by
  have e:(r*a)*i=r*(a*i):=by clear h h2;grobner
  rw [e,h2];clear h h2 e;grobner
 rw [this,h];clear this h h2;grobner
theorem CO:(((1:F).val:Nat):Int)=1:=by
 show ((1 % pP:Nat):Int)=1
 rw [Nat.mod_eq_of_lt (by have:=It;omega)];rfl
theorem LY {n:Nat} [NeZero n] (f:Go.Ec.Fd n) {r a:Fin n} (h0:a=0→r=0) (h1:a ≠ 0→r*a=1):r=f.inv a:=by
 by_cases hz:a=0
 ·rw [hz,f.inv0];exact h0 hz
 ·exact Ge f (h1 hz) hz
theorem IS {r a a1:List Int} (hl:V r<pZ) (e1:V a1=V a % pZ) (h0:V a1=0→V r=0) (h1:V a1 ≠ 0→V r*V a1 % pZ=1):V r<pZ∧FV r=fd.inv (FV a):=by
 refine ⟨hl,?_⟩
 have ea:FV a1=FV a:=FG (by rw [e1,Int.emod_emod])
 have hmod:V a1 % pZ=V a1:=by rw [e1,Int.emod_emod]
 have hv:(((FV a1).val:Nat):Int)=V a1:=by rw [cp,hmod]
 have z0:(((0:F).val:Nat):Int)=0:=by rw [← mS,cp,r7];rfl
 have k0:FV a1=0→FV r=0:=fun h=>by
  have:V a1=0:=by rw [← hv,h,z0]
  rw [← mS]
  exact FG (by rw [h0 this,r7])
 have k1:FV a1 ≠ 0→FV r*FV a1=1:=fun h=>by
  have:V a1 ≠ 0:=fun q=>h (by rw [← mS];exact FG (by rw [q,r7]))
  have h2:=h1 this
  exact kW (by rw [CO,oO,Int.natCast_emod,Int.natCast_mul,cp,cp,eO,← Int.mul_emod,h2])
 rw [← ea]
 exact LY fd k0 k1
theorem LZ (a:List Int) (ha:Wn 4 a):∃ r,Wn 4 r∧(V r<pZ∧FV r=fd.inv (FV a))∧W1 186 a r:=by
 obtain ⟨a1,ha1,va1,f1⟩:=d0 a ha
 have vp:=F3
 have q:=cy ha1
 obtain ⟨r,hr,v1,v2,v3,f2⟩:=yI a1 lS ha1 mq (by rw [vp];decide) (by rw [vp];decide) (by rw [vp,va1];exact Int.emod_lt_of_pos _ (by decide)) (fun h=>by
  have hp:=Bp
  have hn:¬ 115792089237316195423570985008687907853269984665640564039457584007908834671663 ∣ (V a1).toNat:=by
   intro hd
   have:=Nat.le_of_dvd (by omega) hd
   have hlt:V a1<115792089237316195423570985008687907853269984665640564039457584007908834671663:=by rw [va1];exact Int.emod_lt_of_pos _ (by decide)
   omega
  have hc:=hp.cop hn
  have e:(V lS).toNat=115792089237316195423570985008687907853269984665640564039457584007908834671663:=by rw [vp];rfl
  rw [e,Nat.gcd_comm]
  exact hc)
 rw [vp] at v1 v3
 unfold W1 at f1
 unfold W2 at f2
 have hal:=ha.1
 have h1l:=ha1.1
 have hrl:=hr.1
 have hz:List.drop 4 (cI zI)=[]:=ao rfl
 refine ⟨r,hr,IS v1 va1 v2 v3,?_⟩
 unfold W1
 refine aS Tryz.func186 Tryz.ntmps186 (rs:=[.cell 2 160]) (ar a) ?_
 simp [go_sem,hal,aa hal]
 refine ab f1 (ar _) ?_
 simp [go_sem]
 refine ab ii (by simp) ?_
 simp [go_sem]
 refine ab f2 (ah _ _) ?_
 simp [go_sem,hrl,aa hrl,hz,ak]
 exact bm rfl
theorem OG (a:List Int) (ha:Wn 4 a):∃ (r:List Int) (ok:Bool),Wn 4 r∧(ok=true ↔ (V a ^ 28948022309329048855892746252171976963317496166410141009864396001977208667916 % 115792089237316195423570985008687907853269984665640564039457584007908834671663)*(V a ^ 28948022309329048855892746252171976963317496166410141009864396001977208667916 % 115792089237316195423570985008687907853269984665640564039457584007908834671663) % 115792089237316195423570985008687907853269984665640564039457584007908834671663=V a % 115792089237316195423570985008687907853269984665640564039457584007908834671663)∧(ok=true→V r=if V a ^ 28948022309329048855892746252171976963317496166410141009864396001977208667916 % 115792089237316195423570985008687907853269984665640564039457584007908834671663 % 2=0 then V a ^ 28948022309329048855892746252171976963317496166410141009864396001977208667916 % 115792089237316195423570985008687907853269984665640564039457584007908834671663 else (0 - V a ^ 28948022309329048855892746252171976963317496166410141009864396001977208667916 % 115792089237316195423570985008687907853269984665640564039457584007908834671663) % 115792089237316195423570985008687907853269984665640564039457584007908834671663)∧(ok=false→r=zI)∧aq Tryz.prog 176 [.agg (cI a)] (fun x=>x=.tup [.agg (cI r),.d (.bool ok)]):=by
 obtain ⟨n0,c,hn0,hc,vn0,f1⟩:=gJ lS [1,0,0,0] mq (cO ⟨by omega,by omega⟩)
 obtain ⟨n,hn,vn,f2⟩:=IP n0 hn0
 obtain ⟨r,hr,vr,f3⟩:=IR a n ha hn
 obtain ⟨m,hm,vm,f4⟩:=wj r r hr hr
 obtain ⟨a1,ha1,va1,f5⟩:=d0 a ha
 obtain ⟨q,hq,vq,f6⟩:=IM r hr
 have vp:V lS=115792089237316195423570985008687907853269984665640564039457584007908834671663:=by simp [V,lS]
 have v1:V [1,0,0,0]=1:=by simp [V]
 rw [vp,v1] at vn0
 have b1:=cy hn0
 have b2:=hc.1
 have b3:=hc.2
 have vN:(V n).toNat=28948022309329048855892746252171976963317496166410141009864396001977208667916:=by omega
 rw [vN] at vr
 have hmV:m=a1 ↔ (V a ^ 28948022309329048855892746252171976963317496166410141009864396001977208667916 % 115792089237316195423570985008687907853269984665640564039457584007908834671663)*(V a ^ 28948022309329048855892746252171976963317496166410141009864396001977208667916 % 115792089237316195423570985008687907853269984665640564039457584007908834671663) % 115792089237316195423570985008687907853269984665640564039457584007908834671663=V a % 115792089237316195423570985008687907853269984665640564039457584007908834671663:=by
  rw [← vr,← vm,← va1]
  exact ⟨fun h=>by rw [h],fun h=>pv hm ha1 h⟩
 have hr00:=aP (k:=0) hr
 have hmg:=qk hr
 have hmt:Int.tmod (gI r 0) 2=gI r 0 % 2:=Int.tmod_eq_emod_of_nonneg hr00.1
 have hpar:gI r 0 % 2=0 ↔ V r % 2=0:=by rw [hmg]
 rw [← vr] at hmV
 unfold W1 at f5 f6
 unfold W2 at f3 f4
 have hal:=ha.1
 have h0l:=hn0.1
 have hrl:=hr.1
 have hml:=hm.1
 have h1l:=ha1.1
 have hql:=hq.1
 have hz:List.drop 4 (cI zI)=[]:=ao rfl
 have hr0:=bw (l:=r) (k:=0) (by omega)
 have hrh:(cI r).head?=some (.d (.int .u64 (gI r 0))):=by
  rw [List.head?_eq_getElem?,iH,hr0];rfl
 have key:∀ (x:List Int) (ok:Bool),Wn 4 x→(m ≠ a1→x=zI∧ok=false)→(m=a1→ok=true∧x=(if gI r 0 % 2=0 then r else q))→aq Tryz.prog 176 [.agg (cI a)] (fun y=>y=.tup [.agg (cI x),.d (.bool ok)]):=by
  intro x ok hx hno hyes
  refine aS Tryz.func176 Tryz.ntmps176 (rs:=[.cell 2 160,.tmp 3]) (ar a) ?_
  simp [go_sem,hal,aa hal]
  refine ab ii (by simp) ?_
  simp [go_sem]
  refine ab f1 (ah lS [1,0,0,0]) ?_
  simp [go_sem,h0l,aa h0l,hz]
  refine bD [0,1] [2,3,4,5] [0,1] (.alt (.step 2 [] true (.alt (.step 3 [] false (.step 4 [] false (.step 5 [] false .done))) (.step 4 [] true (.step 3 [] false (.step 5 [] false .done))))) (.step 4 [] true (.step 2 [] true (.step 3 [] false (.step 5 [] false .done))))) ⟨[(1,.ptr 0 0 0 1),(2,.ptr 32 0 0 1),(6,.ptr 512 0 0 1)],[(512,⟨160,4,[cI r]⟩),(32,⟨160,4,[cI zI]⟩),(0,⟨160,4,[cI a]⟩)],9000⟩ (k:=6) ?h3 ?hq
  case h3 =>
   intro G hG
   have hW:∀ (fr:Fr) (hp:Hp),(fv 1 fr=.ptr 0 0 0 1∧fv 2 fr=.ptr 32 0 0 1∧fv 6 fr=.ptr 512 0 0 1∧lk 512 hp=some ⟨160,4,[cI r]⟩∧lk 32 hp=some ⟨160,4,[cI zI]⟩∧lk 0 hp=some ⟨160,4,[cI a]⟩)→G fr hp:=by
    rintro fr hp ⟨q0,q1,q2,q3,q4,q5⟩
    exact hG _ _ fc
   simp [go_sem,hal,aa hal,h0l,aa h0l,hrl,aa hrl,hz,be]
   repeat' first | exact hW _ _ ⟨rfl,rfl,rfl,rfl,rfl,rfl⟩ | (refine hW _ _ ?_;simp [fv,lk];done) | refine ab f2 (gx _ _) ?_ | refine ab f3 (ah _ _) ?_ | apply And.intro | simp [go_sem,hal,aa hal,h0l,aa h0l,hrl,aa hrl,hz,be]
  case hq =>
   simp [go_sem]
   refine bk [0,1,3] [(2,[]),(4,[5])] 2 (k:=6) ?_
   intro G hG
   simp [go_sem,hrl,aa hrl,hal,aa hal]
   refine ab f4 (ah _ _) ?_
   simp [go_sem,hrl,aa hrl,hal,aa hal]
   refine ab f5 (ar _) ?_
   simp [go_sem,aW,hml,h1l]
   refine hG _ _ ?_
   by_cases h1:m=a1
   ·obtain ⟨rfl,hx2⟩:=hyes h1
    by_cases h2:gI r 0 % 2=0
    ·rw [if_pos h2] at hx2
     subst hx2
     simp [go_sem,h1,hr0,hrh,hmt,h2,hrl,aa hrl,hz,ak]
     exact ff rfl
    ·rw [if_neg h2] at hx2
     subst hx2
     have h2b:gI r 0 % 2=1:=by omega
     simp [go_sem,h1,hr0,hrh,hmt,h2,h2b,hrl,aa hrl,hz]
     refine ab f6 (ar _) ?_
     simp [go_sem,hql,hrl,aa hql,ao hrl,hz,ak]
     exact ff rfl
   ·obtain ⟨rfl,rfl⟩:=hno h1
    simp [go_sem,h1,hz,aa (l:=zI) (n:=4) rfl,ak]
    exact ff (a:=zI) rfl
 rw [← vr]
 by_cases h1:m=a1
 ·refine ⟨if gI r 0 % 2=0 then r else q,true,?_,⟨fun _=>hmV.1 h1,fun _=>rfl⟩,fun _=>?_,fun h=>(Bool.noConfusion h),key _ _ ?_ (fun h=>absurd h1 h) (fun _=>⟨rfl,rfl⟩)⟩
  ·split
   ·exact hr
   ·exact hq
  ·by_cases h2:V r % 2=0
   ·rw [if_pos (hpar.2 h2),if_pos h2]
   ·rw [if_neg (fun h=>h2 (hpar.1 h)),if_neg h2,vq]
  ·split
   ·exact hr
   ·exact hq
 ·exact ⟨zI,false,cG,⟨fun h=>(Bool.noConfusion h),fun h=>absurd (hmV.2 h) h1⟩,fun h=>(Bool.noConfusion h),fun _=>rfl,key _ _ cG (fun _=>⟨rfl,rfl⟩) (fun h=>absurd h h1)⟩
theorem Gf (a:List Int) (ha:Wn 4 a):∃ r,Wn 4 r∧(V r<pZ∧FV r=FV a*FV a*FV a+7)∧W1 177 a r:=by
 obtain ⟨s,hs,vs,f1⟩:=dz a a ha ha
 obtain ⟨m,hm,vm,f2⟩:=dz a s ha hs
 obtain ⟨r,hr,vr,f3⟩:=LX m [7,0,0,0] hm (cO ⟨by omega,by omega⟩)
 have v7:FV [7,0,0,0]=7:=oP 7 (by omega)
 rw [v7,vm.2,vs.2] at vr
 have e:FV a*(FV a*FV a)=FV a*FV a*FV a:=by
  generalize FV a=z
  grobner
 rw [e] at vr
 unfold W2 at f1 f2 f3
 have hal:=ha.1
 have hrl:=hr.1
 have hz:List.drop 4 (cI zI)=[]:=ao rfl
 refine ⟨r,hr,vr,?_⟩
 unfold W1
 refine aS Tryz.func177 Tryz.ntmps177 (rs:=[.cell 2 160]) (ar a) ?_
 simp [go_sem,hal,aa hal]
 refine bk [0,1,2,5] [(3,[]),(4,[]),(6,[]),(7,[])] 2 (k:=8) ?_
 intro G hG
 simp [go_sem,hal,aa hal]
 refine ab f1 (ah _ _) ?_
 simp [go_sem,hal,aa hal]
 refine ab f2 (ah _ _) ?_
 simp [go_sem]
 refine ab f3 (ah m [7,0,0,0]) ?_
 simp [go_sem,hrl,aa hrl,hz,be]
 refine hG _ _ ?_
 simp [go_sem,hrl,aa hrl,ak]
 exact bm rfl
theorem Gg (a b:List Nat) (ha:a.length=4) (hb:b.length=4):aq Tryz.prog 224 [.agg (cW a),.agg (cW b)] (fun r=>r=.d (.int .i64 (oK a b 4))):=by
 refine aS Tryz.func224 Tryz.ntmps224 (rs:=[.tmp 4]) (by intro v hv;simp at hv;rcases hv with rfl | rfl <;> exact pY _) ?_
 generalize hF:oK a b 4=F
 simp [go_sem]
 refine au (fun k:Nat=>⟨[(2,.ptr 0 0 0 1),(3,.ptr 32 0 0 1),(5,.d (.int .i64 (ve k)))],[(32,⟨160,4,[cW b]⟩),(0,⟨160,4,[cW a]⟩)],500⟩)
  (fun k=>k≤4∧oK a b k=F) (fun k=>k) 4 ⟨by omega,hF⟩ (by
   simp [av,ag,fv,lk,AV.low,AV.low1,fR,ha,hb,ve]
   exact ⟨gf _ _,gf _ _⟩) ?_
 rintro k ⟨hk,hq⟩
 cases k with
 | zero =>
  simp only [oK] at hq
  subst hq
  simp [go_sem,nK,ak]
  exact ae (by simp [AV.deep,AV.deep1]) rfl
 | succ k =>
  obtain ⟨x,hx,_⟩:=cN (l:=a) (k:=k) (by omega)
  obtain ⟨y,hy,_⟩:=cN (l:=b) (k:=k) (by omega)
  have ex:a.getD k 0=x:=by rw [List.getD_eq_getElem?_getD,hx];rfl
  have ey:b.getD k 0=y:=by rw [List.getD_eq_getElem?_getD,hy];rfl
  simp only [oK,ex,ey] at hq
  have hw:=iG k (by omega)
  simp [go_sem,gH]
  refine bk [0,1,2,3,4,5,6] [] 0 (k:=7) ?_
  intro G hG
  simp [go_sem,oL,hx,hy]
  refine ⟨by omega,hG _ _ ?_⟩
  by_cases h1:x<y
  ·rw [if_pos h1] at hq
   subst hq
   simp [go_sem,h1,ak]
   exact ae (by simp [AV.deep,AV.deep1]) rfl
  ·rw [if_neg h1] at hq
   simp [go_sem,h1]
   refine bk [0,1,2,3,4,5,6] [] 0 (k:=7) ?_
   intro G hG
   simp [go_sem,oL,hx,hy]
   refine ⟨by omega,hG _ _ ?_⟩
   by_cases h2:y<x
   ·rw [if_pos h2] at hq
    subst hq
    simp [go_sem,h2,ak]
    exact ae (by simp [AV.deep,AV.deep1]) rfl
   ·rw [if_neg h2] at hq
    simp [go_sem,h2,hw]
    refine ai k ⟨by omega,hq⟩ (by omega) ?_
    simp [av,ag,fv,lk,AV.low,AV.low1,fR,ha,hb]
    exact ⟨gf _ _,gf _ _⟩
theorem yJ (a b:List Int) (ha:Wn 4 a) (hb:Wn 4 b):∃ c:Int,(c<0 ↔ V a<V b)∧aq Tryz.prog 224 [.agg (cI a),.agg (cI b)] (fun r=>r=.d (.int .i64 c)):=by
 obtain ⟨hl,e1⟩:=Bt ha
 obtain ⟨hm,e2⟩:=Bt hb
 rw [e1,e2]
 exact ⟨_,Om ha hb,Gg _ _ hl hm⟩
theorem Aq (a:List Int) (ha:Wn 4 a):∃ b:Bool,(b=true ↔ V a<pZ)∧aq Tryz.prog 178 [.agg (cI a)] (fun r=>r=.d (.bool b)):=by
 obtain ⟨c,vc,f1⟩:=yJ a lS ha mq
 have vp:V lS=pZ:=by simp [V,lS]
 rw [vp] at vc
 have hal:=ha.1
 refine ⟨decide (c<0),by rw [decide_eq_true_iff];exact vc,?_⟩
 refine aS Tryz.func178 Tryz.ntmps178 (rs:=[.tmp 2]) (ar a) ?_
 simp [go_sem,hal,aa hal]
 refine bk [0] [(1,[]),(2,[3,4])] 2 (k:=5) ?_
 intro G hG
 simp [go_sem,hal,aa hal]
 refine ab ii (by simp) ?_
 simp [go_sem]
 refine ab f1 (ah _ _) ?_
 simp [go_sem,be]
 refine hG _ _ ?_
 simp [go_sem,ak]
 exact ae (by simp [AV.deep,AV.deep1]) rfl
theorem Ro (x y:List Int) (b:Bool) (hx:Wn 4 x) (hy:Wn 4 y):∃ c:Bool,(c=true ↔ dB x y b)∧aq Tryz.prog 227 [.agg (cP x y b)] (fun r=>r=.d (.bool c)):=by
 have hxl:=hx.1
 have hyl:=hy.1
 cases b
 ·obtain ⟨b1,vb1,f1⟩:=Aq x hx
  obtain ⟨b2,vb2,f2⟩:=Aq y hy
  obtain ⟨s,hs,vs,f3⟩:=dz y y hy hy
  obtain ⟨r,hr,vr,f4⟩:=Gf x hx
  unfold W2 at f3
  unfold W1 at f4
  have hsl:=hs.1
  have hrl:=hr.1
  have e1:∀ c:Bool,(cP x y c).take 4=cI x:=yu hxl
  have e2:∀ c:Bool,((cP x y c).drop 4).take 4=cI y:=CH hxl hyl
  have hv:(b1 && (b2 && decide (s=r)))=true ↔ dB x y false:=by
   rw [Bool.and_eq_true,Bool.and_eq_true,decide_eq_true_iff,vb1,vb2]
   refine ⟨fun ⟨h1,h2,h3⟩=>.inr ⟨rfl,h1,h2,by rw [← vs.2,h3,vr.2]⟩,fun h=>?_⟩
   rcases h with ⟨h,_⟩ | ⟨_,h1,h2,h3⟩
   ·cases h
   ·exact ⟨h1,h2,rR hs hr vs.1 vr.1 (by rw [vs.2,vr.2,h3])⟩
  refine ⟨b1 && (b2 && decide (s=r)),hv,?_⟩
  refine aS Tryz.func227 Tryz.ntmps227 (rs:=[.tmp 2]) (bp _ _ _) ?_
  simp [go_sem,aD hxl hyl,aH hxl hyl,kw hxl hyl,kZ hxl hyl]
  cases b1
  ·skip
   refine bk [0,1] [(2,[3,4,5]),(6,[7,8,9,10,11,12,14,15]),(13,[]),(16,[17,18,19])] 4 (k:=20) ?_
   intro G hG
   simp [go_sem,aD hxl hyl,e1,e2]
   refine ab f1 (ar _) ?_
   simp [go_sem,be]
   refine hG _ _ ?_
   simp [go_sem,ak]
   exact ae (by simp [AV.deep,AV.deep1]) rfl
  ·cases b2
   ·skip
    refine bk [0,1] [(2,[3,4,5]),(6,[7,8,9,10,11,12,14,15]),(13,[]),(16,[17,18,19])] 4 (k:=20) ?_
    intro G hG
    simp [go_sem,aD hxl hyl,e1,e2]
    refine ab f1 (ar _) ?_
    simp [go_sem,aD hxl hyl,e1,e2,be]
    refine ab f2 (ar _) ?_
    simp [go_sem,be]
    refine hG _ _ ?_
    simp [go_sem,ak]
    exact ae (by simp [AV.deep,AV.deep1]) rfl
   ·skip
    refine bk [0,1] [(2,[3,4,5]),(6,[7,8,9,10,11,12,14,15]),(13,[]),(16,[17,18,19])] 4 (k:=20) ?_
    intro G hG
    simp [go_sem,aD hxl hyl,e1,e2]
    refine ab f1 (ar _) ?_
    simp [go_sem,aD hxl hyl,e1,e2,be]
    refine ab f2 (ar _) ?_
    simp [go_sem,aD hxl hyl,e1,e2,be]
    refine ab f3 (ah _ _) ?_
    simp [go_sem,aD hxl hyl,e1,e2,be]
    refine ab f4 (ar _) ?_
    simp [go_sem,aW,hsl,hrl,be]
    refine hG _ _ ?_
    simp [go_sem,ak]
    exact ae (by simp [AV.deep,AV.deep1]) rfl
 ·have hv:decide (lP x y true=lP zI zI true)=true ↔ dB x y true:=by
   rw [decide_eq_true_iff]
   refine ⟨fun h=>.inl ⟨rfl,?_⟩,fun h=>?_⟩
   ·match x,y,hxl,hyl with
    | [a,b,c,d],[e,f,g,i],_,_ =>
     simp [lP,zI] at h
     obtain ⟨rfl,rfl,rfl,rfl,rfl,rfl,rfl,rfl⟩:=h
     exact ⟨rfl,rfl⟩
   ·rcases h with ⟨_,rfl,rfl⟩ | ⟨h,_⟩
    ·rfl
    ·cases h
  refine ⟨decide (lP x y true=lP zI zI true),hv,?_⟩
  refine aS Tryz.func227 Tryz.ntmps227 (rs:=[.tmp 2]) (bp _ _ _) ?_
  have k1:=vP hxl hyl true
  have k2:=vP (x:=zI) (y:=zI) rfl rfl true
  have l1:=qe x y true
  have l2:=qe zI zI true
  generalize lP x y true=u at *
  have zz:cP zI zI true=[AV.d (.int .u64 0),AV.d (.int .u64 0),AV.d (.int .u64 0),AV.d (.int .u64 0),AV.d (.int .u64 0),AV.d (.int .u64 0),AV.d (.int .u64 0),AV.d (.int .u64 0),AV.d (.bool true)]:=rfl
  have kk:=Option.some.inj (k1.symm.trans Qv)
  simp [go_sem,aD hxl hyl,aH hxl hyl,kw hxl hyl,kZ hxl hyl,l1,Rb,Qv,ak]
  exact ⟨kk.symm,⟨rfl,rfl⟩,ae (by simp [AV.deep,AV.deep1]) rfl⟩
theorem Gh (x y:List Int) (b:Bool) (hx:Wn 4 x) (hy:Wn 4 y):∃ (u v:List Int) (c:Bool),Wn 4 u∧Wn 4 v∧(dB u v c∧(dB x y b→u=x∧v=y∧c=b)∧(¬ dB x y b→u=zI∧v=zI∧c=true))∧aq Tryz.prog 181 [.agg (cP x y b)] (fun r=>r=.agg (cP u v c)):=by
 obtain ⟨o,vo,f1⟩:=Ro x y b hx hy
 have hxl:=hx.1
 have hyl:=hy.1
 have zd:(cP zI zI false).drop 9=[]:=dG rfl rfl _
 have zl:(cP zI zI true).length=9:=rfl
 have zt:(cP zI zI true).take 9=cP zI zI true:=aH rfl rfl _
 have zl2:(cP zI zI false).length=9:=rfl
 cases o
 ·refine ⟨zI,zI,true,cG,cG,⟨kX,fun h=>absurd (vo.2 h) (by decide),fun _=>⟨rfl,rfl,rfl⟩⟩,?_⟩
  refine aS Tryz.func181 Tryz.ntmps181 (rs:=[.cell 2 162]) (bp _ _ _) ?_
  simp [go_sem,aD hxl hyl,aH hxl hyl]
  refine ab f1 (bp _ _ _) ?_
  simp [go_sem,zl,zt,zd,zl2,ak]
  exact dK (x:=zI) (y:=zI) (b:=true) rfl
 ·refine ⟨x,y,b,hx,hy,⟨vo.1 rfl,fun _=>⟨rfl,rfl,rfl⟩,fun h=>absurd (vo.1 rfl) h⟩,?_⟩
  refine aS Tryz.func181 Tryz.ntmps181 (rs:=[.cell 2 162]) (bp _ _ _) ?_
  simp [go_sem,aD hxl hyl,aH hxl hyl]
  refine ab f1 (bp _ _ _) ?_
  simp [go_sem,aD hxl hyl,aH hxl hyl,zd,zl2,ak]
  exact dK rfl
theorem tS {x1 y1 x2 y2 d i X Y s up:F} (hi:d*i=1) (es:s=up*i) (eX:X=s*s - x1 - x2) (eY:Y=s*(x1 - X) - y1):X*(d*d)=up*up - (x1+x2)*(d*d)∧Y*d=up*(x1 - X) - y1*d:=by
 have e1:s*d=up:=by
  have:s*d=up*(d*i):=by rw [es];clear hi es eX eY;grobner
  rw [this,hi];clear hi es eX eY this;grobner
 refine ⟨?_,?_⟩
 ·have:X*(d*d)=(s*d)*(s*d) - (x1+x2)*(d*d):=by rw [eX];clear hi es eX eY e1;grobner
  rw [this,e1]
 ·have:Y*d=(s*d)*(x1 - X) - y1*d:=by rw [eY];clear hi es eX eY e1;grobner
  rw [this,e1]
theorem IT {x y X Y:F} (h1:X*((y+y)*(y+y))=3*(x*x)*(3*(x*x)) - (x+x)*((y+y)*(y+y))) (h2:Y*(y+y)=3*(x*x)*(x - X) - y*(y+y)):X*(4*(y*y))=3*(x*x)*(3*(x*x)) - 8*(x*(y*y))∧Y*(2*y)=3*(x*x)*(x - X) - y*(2*y):=by
 refine ⟨?_,?_⟩
 ·have e:X*(4*(y*y))=X*((y+y)*(y+y)):=by clear h1 h2;grobner
  rw [e,h1];clear h1 h2 e;grobner
 ·have e:Y*(2*y)=Y*(y+y):=by clear h1 h2;grobner
  rw [e,h2];clear h1 h2 e;grobner
theorem L0 {x y y':F} (h1:fC (some (x,y))) (h2:fC (some (x,y'))) (hne:y ≠ y'):y'=-y:=by
 have e1:y*y=x*x*x+7:=h1
 have e2:y'*y'=x*x*x+7:=h2
 have h3:(y' - y)*(y'+y)=0:=by
  have:(y' - y)*(y'+y)=y'*y' - y*y:=by clear h1 h2 hne e1 e2;grobner
  rw [this,e1,e2];clear h1 h2 hne e1 e2 this;grobner
 rcases fd.nzd h3 with h | h
 ·exact absurd (ko h).symm hne
 ·clear h1 h2 hne e1 e2 h3;grobner
theorem ki (x y:List Int) (b:Bool) (x' y':List Int) (b':Bool):∀ v,v ∈ [AV.agg (cP x y b),AV.agg (cP x' y' b')]→v.deep:=by
 intro v hv;simp at hv;rcases hv with rfl | rfl <;> exact kf _ _ _
theorem QC (x y x' y':List Int) (b b':Bool) (hx:Wn 4 x) (hy:Wn 4 y) (hx':Wn 4 x') (hy':Wn 4 y') (hp:dB x y b) (hp':dB x' y' b'):∃ (u v:List Int) (o:Bool),Wn 4 u∧Wn 4 v∧dB u v o∧PV u v o=sum fd (PV x y b) (PV x' y' b')∧aq Tryz.prog 180 [.agg (cP x y b),.agg (cP x' y' b')] (fun r=>r=.agg (cP u v o)):=by
 have hxl:=hx.1
 have hyl:=hy.1
 have hxl':=hx'.1
 have hyl':=hy'.1
 have z4:List.drop 4 (cI zI)=[]:=ao rfl
 have pd:(cP zI zI false).drop 9=[]:=dG rfl rfl _
 have zl2:(cP zI zI false).length=9:=rfl
 have iz:bz .u64 [AV.d (.int .u64 0),AV.d (.int .u64 0),AV.d (.int .u64 0),AV.d (.int .u64 0)]=some zI:=aW zI
 have on1:=gZ hp
 have on2:=gZ hp'
 cases b
 case true =>
  refine ⟨x',y',b',hx',hy',hp',(dx fd on2).symm,?_⟩
  refine aS Tryz.func180 Tryz.ntmps180 (rs:=[.cell 4 162]) (ki _ _ _ _ _ _) ?_
  simp [go_sem,aD hxl hyl,aH hxl hyl,kw hxl hyl,kZ hxl hyl,aD hxl' hyl',aH hxl' hyl',zl2,pd,ak]
  exact dK rfl
 cases b'
 case true =>
  refine ⟨x,y,false,hx,hy,hp,(fT fd on1).symm,?_⟩
  refine aS Tryz.func180 Tryz.ntmps180 (rs:=[.cell 4 162]) (ki _ _ _ _ _ _) ?_
  simp [go_sem,aD hxl hyl,aH hxl hyl,kw hxl hyl,kZ hxl hyl,aD hxl' hyl',aH hxl' hyl',kw hxl' hyl',kZ hxl' hyl',zl2,pd,ak]
  exact dK rfl
 have bx:V x<pZ∧V y<pZ:=by
  rcases hp with ⟨h,_⟩ | ⟨_,h1,h2,_⟩
  ·cases h
  ·exact ⟨h1,h2⟩
 have bx':V x'<pZ∧V y'<pZ:=by
  rcases hp' with ⟨h,_⟩ | ⟨_,h1,h2,_⟩
  ·cases h
  ·exact ⟨h1,h2⟩
 have on1':fC (some (FV x,FV y)):=on1
 have on2':fC (some (FV x',FV y')):=on2
 obtain ⟨up,h1,g1,f1⟩:=kh y' y hy' hy
 obtain ⟨dn,h2,g2,f2⟩:=kh x' x hx' hx
 unfold W2 at f1 f2
 have l1:=h1.1
 have l2:=h2.1
 have pl:=aD hxl hyl false
 have pt:=aH hxl hyl false
 have ql:=aD hxl' hyl' false
 have qt:=aH hxl' hyl' false
 have pb:=kw hxl hyl false
 have pg:=kZ hxl hyl false
 have qb:=kw hxl' hyl' false
 have qg:=kZ hxl' hyl' false
 have e1:(cP x y false).take 4=cI x:=yu hxl _
 have e2:((cP x y false).drop 4).take 4=cI y:=CH hxl hyl _
 have e1b:(cP x' y' false).take 4=cI x':=yu hxl' _
 have e2b:((cP x' y' false).drop 4).take 4=cI y':=CH hxl' hyl' _
 by_cases hxx:x=x'
 ·by_cases hyy:y=y'
  ·have hy0:y ≠ zI:=fun h=>fd.y_ne on1' (by rw [h];exact mS)
   obtain ⟨x2,h11,g11,f11⟩:=dz x x hx hx
   obtain ⟨u,hu,gu,f12⟩:=dz [3,0,0,0] x2 (cO ⟨by omega,by omega⟩) h11
   obtain ⟨y2,h13,g13,f13⟩:=LX y y hy hy
   obtain ⟨v,hv,g3,f3⟩:=LZ y2 h13
   unfold W2 at f11 f12 f13
   have l11:=h11.1
   have lu:=hu.1
   have l13:=h13.1
   obtain ⟨s,h4,g4,f4⟩:=dz u v hu hv
   obtain ⟨ss,h5,g5,f5⟩:=dz s s h4 h4
   obtain ⟨e5,h6,g6,f6⟩:=kh ss x h5 hx
   obtain ⟨X,h7,g7,f7⟩:=kh e5 x' h6 hx'
   obtain ⟨e8,h8,g8,f8⟩:=kh x X hx h7
   obtain ⟨e9,h9,g9,f9⟩:=dz s e8 h4 h8
   obtain ⟨Y,h10,g10,f10⟩:=kh e9 y h9 hy
   unfold W1 at f3
   unfold W2 at f4 f5 f6 f7 f8 f9 f10
   have l4:=h4.1
   have l7:=h7.1
   have l10:=h10.1
   have n3:FV [3,0,0,0]=3:=oP 3 (by omega)
   have hval:PV X Y false=sum fd (PV x y false) (PV x' y' false):=by
    rw [← hxx,← hyy]
    have hd0:FV y+FV y ≠ 0:=by
     have e:FV y+FV y=2*FV y:=by generalize FV y=z;grobner
     rw [e];exact fd.mul_ne fd.two (fd.y_ne on1')
    have hi:=fd.hinv _ hd0
    have q:=tS (x1:=FV x) (y1:=FV y) (x2:=FV x) (y2:=FV y) (d:=FV y+FV y) (i:=fd.inv (FV y+FV y)) (X:=FV X) (Y:=FV Y) (s:=FV s) (up:=3*(FV x*FV x)) hi (by rw [g4.2,g3.2,g13.2,gu.2,g11.2,n3]) (by rw [g7.2,g6.2,g5.2,← hxx]) (by rw [g10.2,g9.2,g8.2])
    have q2:=IT q.1 q.2
    exact (rM fd on1' q2.1 q2.2).symm
   refine ⟨X,Y,false,h7,h10,.inr ⟨rfl,g7.1,g10.1,?_⟩,hval,?_⟩
   ·have:=iI fd on1 on2
    rw [← hval] at this
    exact this
   subst hxx hyy
   refine aS Tryz.func180 Tryz.ntmps180 (rs:=[.cell 4 162]) (ki _ _ _ _ _ _) ?_
   simp [go_sem,pl,pt,pb,pg,ql,qt,qb,qg]
   refine bD [0,1,2,3,5,6,7,8] [4,9,10,11,12,13] [0,1,2,3,5,6,7,8] (.alt (.step 4 [] true (.alt (.step 9 [] false (.alt (.step 10 [] false (.step 11 [] false (.step 12 [] false (.step 13 [] false .done)))) (.step 11 [] false (.step 10 [] false (.step 12 [] false (.step 13 [] false .done)))))) (.alt (.step 10 [] true (.alt (.step 9 [] false (.step 11 [] false (.step 12 [] false (.step 13 [] false .done)))) (.step 11 [] true (.step 9 [] false (.step 12 [] false (.step 13 [] false .done)))))) (.step 11 [] true (.alt (.step 9 [] false (.step 10 [] false (.step 12 [] false (.step 13 [] false .done)))) (.step 10 [] true (.step 9 [] false (.step 12 [] false (.step 13 [] false .done))))))))) (.alt (.step 10 [] true (.alt (.step 4 [] true (.alt (.step 9 [] false (.step 11 [] false (.step 12 [] false (.step 13 [] false .done)))) (.step 11 [] true (.step 9 [] false (.step 12 [] false (.step 13 [] false .done)))))) (.step 11 [] true (.step 4 [] true (.step 9 [] false (.step 12 [] false (.step 13 [] false .done))))))) (.step 11 [] true (.alt (.step 4 [] true (.alt (.step 9 [] false (.step 10 [] false (.step 12 [] false (.step 13 [] false .done)))) (.step 10 [] true (.step 9 [] false (.step 12 [] false (.step 13 [] false .done)))))) (.step 10 [] true (.step 4 [] true (.step 9 [] false (.step 12 [] false (.step 13 [] false .done))))))))) ⟨[(2,.ptr 0 0 0 1),(3,.ptr 32 0 0 1),(4,.ptr 64 0 0 1),(5,.ptr 544 0 0 1),(6,.ptr 576 0 0 1)],[(576,⟨160,4,[cI dn]⟩),(544,⟨160,4,[cI up]⟩),(64,⟨162,9,[cP zI zI false]⟩),(32,⟨162,9,[cP x y false]⟩),(0,⟨162,9,[cP x y false]⟩)],4000⟩ (k:=14) ?h3 ?hq
   case h3 =>
    intro G hG
    have hW:∀ (fr:Fr) (hp:Hp),(fv 2 fr=.ptr 0 0 0 1∧fv 3 fr=.ptr 32 0 0 1∧fv 4 fr=.ptr 64 0 0 1∧fv 5 fr=.ptr 544 0 0 1∧fv 6 fr=.ptr 576 0 0 1∧lk 576 hp=some ⟨160,4,[cI dn]⟩∧lk 544 hp=some ⟨160,4,[cI up]⟩∧lk 64 hp=some ⟨162,9,[cP zI zI false]⟩∧lk 32 hp=some ⟨162,9,[cP x y false]⟩∧lk 0 hp=some ⟨162,9,[cP x y false]⟩)→G fr hp:=by
     rintro fr hp ⟨q0,q1,q2,q3,q4,q5,q6,q7,q8,q9⟩
     exact hG _ _ fc
    simp [go_sem,e1,e2,pl,l1,l2,aa l1,aa l2,z4,be]
    repeat' first | exact hW _ _ ⟨rfl,rfl,rfl,rfl,rfl,rfl,rfl,rfl,rfl,rfl⟩ | (refine hW _ _ ?_;simp [fv,lk];done) | refine ab f1 (ah _ _) ?_ | refine ab f2 (ah _ _) ?_ | apply And.intro | simp [go_sem,e1,e2,pl,l1,l2,aa l1,aa l2,z4,be]
   case hq =>
    simp [go_sem,e1,e2,pl,aW,hxl,hyl,hy0,iz]
    refine ab f11 (ah _ _) ?_
    simp [go_sem]
    refine ab f12 (ah [3,0,0,0] _) ?_
    simp [go_sem,lu,l1,aa lu,ao l1,e1,e2,pl]
    refine ab f13 (ah _ _) ?_
    simp [go_sem,l13,l2,aa l13,ao l2]
    refine bD [0,1] [2,3,4,5] [0,1] (.alt (.step 2 [] true (.alt (.step 3 [] false (.step 4 [] false (.step 5 [] false .done))) (.step 4 [] true (.step 3 [] false (.step 5 [] false .done))))) (.step 4 [] true (.step 2 [] true (.step 3 [] false (.step 5 [] false .done))))) ⟨[(2,.ptr 0 0 0 1),(3,.ptr 32 0 0 1),(4,.ptr 64 0 0 1),(7,.ptr 5088 0 0 1)],[(5088,⟨160,4,[cI s]⟩),(64,⟨162,9,[cP zI zI false]⟩),(32,⟨162,9,[cP x y false]⟩),(0,⟨162,9,[cP x y false]⟩)],9000⟩ (k:=6) ?h3 ?hq
    case h3 =>
     intro G hG
     have hW:∀ (fr:Fr) (hp:Hp),(fv 2 fr=.ptr 0 0 0 1∧fv 3 fr=.ptr 32 0 0 1∧fv 4 fr=.ptr 64 0 0 1∧fv 7 fr=.ptr 5088 0 0 1∧lk 5088 hp=some ⟨160,4,[cI s]⟩∧lk 64 hp=some ⟨162,9,[cP zI zI false]⟩∧lk 32 hp=some ⟨162,9,[cP x y false]⟩∧lk 0 hp=some ⟨162,9,[cP x y false]⟩)→G fr hp:=by
      rintro fr hp ⟨q0,q1,q2,q3,q4,q5,q6,q7⟩
      exact hG _ _ fc
     simp [go_sem,lu,l13,aa lu,aa l13,l4,aa l4,z4,be]
     repeat' first | exact hW _ _ ⟨rfl,rfl,rfl,rfl,rfl,rfl,rfl,rfl⟩ | (refine hW _ _ ?_;simp [fv,lk];done) | refine ab f3 (ar _) ?_ | refine ab f4 (ah _ _) ?_ | apply And.intro | simp [go_sem,lu,l13,aa lu,aa l13,l4,aa l4,z4,be]
    case hq =>
     simp [go_sem]
     refine bD [0,1,3,4,6,7] [2,5,8,9,10] [0,1,3,4,6,7] (.alt (.step 2 [] true (.alt (.step 5 [] true (.alt (.step 8 [] false (.step 9 [] false (.step 10 [] false .done))) (.step 9 [] true (.step 8 [] false (.step 10 [] false .done))))) (.step 9 [] true (.step 5 [] true (.step 8 [] false (.step 10 [] false .done)))))) (.step 9 [] true (.step 2 [] true (.step 5 [] true (.step 8 [] false (.step 10 [] false .done)))))) ⟨[(2,.ptr 0 0 0 1),(3,.ptr 32 0 0 1),(4,.ptr 64 0 0 1),(7,.ptr 5088 0 0 1),(8,.ptr 9288 0 0 1)],[(9288,⟨160,4,[cI X]⟩),(5088,⟨160,4,[cI s]⟩),(64,⟨162,9,[cP zI zI false]⟩),(32,⟨162,9,[cP x y false]⟩),(0,⟨162,9,[cP x y false]⟩)],20000⟩ (k:=11) ?h3 ?hq
     case h3 =>
      intro G hG
      have hW:∀ (fr:Fr) (hp:Hp),(fv 2 fr=.ptr 0 0 0 1∧fv 3 fr=.ptr 32 0 0 1∧fv 4 fr=.ptr 64 0 0 1∧fv 7 fr=.ptr 5088 0 0 1∧fv 8 fr=.ptr 9288 0 0 1∧lk 9288 hp=some ⟨160,4,[cI X]⟩∧lk 5088 hp=some ⟨160,4,[cI s]⟩∧lk 64 hp=some ⟨162,9,[cP zI zI false]⟩∧lk 32 hp=some ⟨162,9,[cP x y false]⟩∧lk 0 hp=some ⟨162,9,[cP x y false]⟩)→G fr hp:=by
       rintro fr hp ⟨q0,q1,q2,q3,q4,q5,q6,q7,q8,q9⟩
       exact hG _ _ fc
      simp [go_sem,e1,e2,pl,l4,l7,aa l4,aa l7,z4,be]
      repeat' first | exact hW _ _ ⟨rfl,rfl,rfl,rfl,rfl,rfl,rfl,rfl,rfl,rfl⟩ | (refine hW _ _ ?_;simp [fv,lk];done) | refine ab f5 (ah _ _) ?_ | refine ab f6 (ah _ _) ?_ | refine ab f7 (ah _ _) ?_ | apply And.intro | simp [go_sem,e1,e2,pl,l4,l7,aa l4,aa l7,z4,be]
     case hq =>
      simp [go_sem]
      refine bD [0,1,2,3,6,7] [4,5,8,9,10] [0,1,2,3,6,7] (.alt (.step 4 [] true (.alt (.step 5 [] true (.alt (.step 8 [] false (.step 9 [] false (.step 10 [] false .done))) (.step 9 [] true (.step 8 [] false (.step 10 [] false .done))))) (.step 9 [] true (.step 5 [] true (.step 8 [] false (.step 10 [] false .done)))))) (.step 9 [] true (.step 4 [] true (.step 5 [] true (.step 8 [] false (.step 10 [] false .done)))))) ⟨[(4,.ptr 64 0 0 1),(8,.ptr 9288 0 0 1),(9,.ptr 20288 0 0 1)],[(20288,⟨160,4,[cI Y]⟩),(9288,⟨160,4,[cI X]⟩),(64,⟨162,9,[cP zI zI false]⟩)],30000⟩ (k:=11) ?h3 ?hq
      case h3 =>
       intro G hG
       have hW:∀ (fr:Fr) (hp:Hp),(fv 4 fr=.ptr 64 0 0 1∧fv 8 fr=.ptr 9288 0 0 1∧fv 9 fr=.ptr 20288 0 0 1∧lk 20288 hp=some ⟨160,4,[cI Y]⟩∧lk 9288 hp=some ⟨160,4,[cI X]⟩∧lk 64 hp=some ⟨162,9,[cP zI zI false]⟩)→G fr hp:=by
        rintro fr hp ⟨q0,q1,q2,q3,q4,q5⟩
        exact hG _ _ fc
       simp [go_sem,e1,e2,pl,l4,l7,l10,aa l4,aa l7,aa l10,z4,be]
       repeat' first | exact hW _ _ ⟨rfl,rfl,rfl,rfl,rfl,rfl⟩ | (refine hW _ _ ?_;simp [fv,lk];done) | refine ab f8 (ah _ _) ?_ | refine ab f9 (ah _ _) ?_ | refine ab f10 (ah _ _) ?_ | apply And.intro | simp [go_sem,e1,e2,pl,l4,l7,l10,aa l4,aa l7,aa l10,z4,be]
      case hq =>
       have mp:=LN l7 l10
       simp [go_sem,l7,l10,aa l7,aa l10,z4,mp,aD l7 l10,aH l7 l10,zl2,pd,ak]
       exact dK rfl
  ·have hval:PV zI zI true=sum fd (PV x y false) (PV x' y' false):=by
    have hne:FV y ≠ FV y':=fun h=>hyy (rR hy hy' bx.2 bx'.2 h)
    subst hxx
    have e:=L0 on1' on2' hne
    show none=sum fd (some (FV x,FV y)) (some (FV x,FV y'))
    rw [e]
    exact (vH fd on1').symm
   refine ⟨zI,zI,true,cG,cG,kX,hval,?_⟩
   subst hxx
   refine aS Tryz.func180 Tryz.ntmps180 (rs:=[.cell 4 162]) (ki _ _ _ _ _ _) ?_
   simp [go_sem,pl,pt,pb,pg,ql,qt,qb,qg]
   refine bD [0,1,2,3,5,6,7,8] [4,9,10,11,12,13] [0,1,2,3,5,6,7,8] (.alt (.step 4 [] true (.alt (.step 9 [] false (.alt (.step 10 [] false (.step 11 [] false (.step 12 [] false (.step 13 [] false .done)))) (.step 11 [] false (.step 10 [] false (.step 12 [] false (.step 13 [] false .done)))))) (.alt (.step 10 [] true (.alt (.step 9 [] false (.step 11 [] false (.step 12 [] false (.step 13 [] false .done)))) (.step 11 [] true (.step 9 [] false (.step 12 [] false (.step 13 [] false .done)))))) (.step 11 [] true (.alt (.step 9 [] false (.step 10 [] false (.step 12 [] false (.step 13 [] false .done)))) (.step 10 [] true (.step 9 [] false (.step 12 [] false (.step 13 [] false .done))))))))) (.alt (.step 10 [] true (.alt (.step 4 [] true (.alt (.step 9 [] false (.step 11 [] false (.step 12 [] false (.step 13 [] false .done)))) (.step 11 [] true (.step 9 [] false (.step 12 [] false (.step 13 [] false .done)))))) (.step 11 [] true (.step 4 [] true (.step 9 [] false (.step 12 [] false (.step 13 [] false .done))))))) (.step 11 [] true (.alt (.step 4 [] true (.alt (.step 9 [] false (.step 10 [] false (.step 12 [] false (.step 13 [] false .done)))) (.step 10 [] true (.step 9 [] false (.step 12 [] false (.step 13 [] false .done)))))) (.step 10 [] true (.step 4 [] true (.step 9 [] false (.step 12 [] false (.step 13 [] false .done))))))))) ⟨[(2,.ptr 0 0 0 1),(3,.ptr 32 0 0 1),(4,.ptr 64 0 0 1),(5,.ptr 544 0 0 1),(6,.ptr 576 0 0 1)],[(576,⟨160,4,[cI dn]⟩),(544,⟨160,4,[cI up]⟩),(64,⟨162,9,[cP zI zI false]⟩),(32,⟨162,9,[cP x y' false]⟩),(0,⟨162,9,[cP x y false]⟩)],4000⟩ (k:=14) ?h3 ?hq
   case h3 =>
    intro G hG
    have hW:∀ (fr:Fr) (hp:Hp),(fv 2 fr=.ptr 0 0 0 1∧fv 3 fr=.ptr 32 0 0 1∧fv 4 fr=.ptr 64 0 0 1∧fv 5 fr=.ptr 544 0 0 1∧fv 6 fr=.ptr 576 0 0 1∧lk 576 hp=some ⟨160,4,[cI dn]⟩∧lk 544 hp=some ⟨160,4,[cI up]⟩∧lk 64 hp=some ⟨162,9,[cP zI zI false]⟩∧lk 32 hp=some ⟨162,9,[cP x y' false]⟩∧lk 0 hp=some ⟨162,9,[cP x y false]⟩)→G fr hp:=by
     rintro fr hp ⟨q0,q1,q2,q3,q4,q5,q6,q7,q8,q9⟩
     exact hG _ _ fc
    simp [go_sem,e1,e2,e1b,e2b,pl,ql,l1,l2,aa l1,aa l2,z4,be]
    repeat' first | exact hW _ _ ⟨rfl,rfl,rfl,rfl,rfl,rfl,rfl,rfl,rfl,rfl⟩ | (refine hW _ _ ?_;simp [fv,lk];done) | refine ab f1 (ah _ _) ?_ | refine ab f2 (ah _ _) ?_ | apply And.intro | simp [go_sem,e1,e2,e1b,e2b,pl,ql,l1,l2,aa l1,aa l2,z4,be]
   case hq =>
    simp [go_sem,e1,e2,e1b,e2b,pl,ql,aW,hxl,hyl,hyl',hyy,iz,zl2,pd,ak]
    exact dK (x:=zI) (y:=zI) (b:=true) rfl
 ·obtain ⟨v,hv,g3,f3⟩:=LZ dn h2
  have hu:=h1
  obtain ⟨s,h4,g4,f4⟩:=dz up v hu hv
  obtain ⟨ss,h5,g5,f5⟩:=dz s s h4 h4
  obtain ⟨e5,h6,g6,f6⟩:=kh ss x h5 hx
  obtain ⟨X,h7,g7,f7⟩:=kh e5 x' h6 hx'
  obtain ⟨e8,h8,g8,f8⟩:=kh x X hx h7
  obtain ⟨e9,h9,g9,f9⟩:=dz s e8 h4 h8
  obtain ⟨Y,h10,g10,f10⟩:=kh e9 y h9 hy
  unfold W1 at f3
  unfold W2 at f4 f5 f6 f7 f8 f9 f10
  have l4:=h4.1
  have l7:=h7.1
  have l10:=h10.1
  have hval:PV X Y false=sum fd (PV x y false) (PV x' y' false):=by
   have hd0:FV x' - FV x ≠ 0:=fun h=>hxx (rR hx hx' bx.1 bx'.1 (ko h).symm)
   have hi:=fd.hinv _ hd0
   have q:=tS (x1:=FV x) (y1:=FV y) (x2:=FV x') (y2:=FV y') (d:=FV x' - FV x) (i:=fd.inv (FV x' - FV x)) (X:=FV X) (Y:=FV Y) (s:=FV s) (up:=FV y' - FV y) hi (by rw [g4.2,g3.2,g1.2,g2.2]) (by rw [g7.2,g6.2,g5.2]) (by rw [g10.2,g9.2,g8.2])
   exact (tH fd on1' on2' hd0 q.1 q.2).symm
  refine ⟨X,Y,false,h7,h10,.inr ⟨rfl,g7.1,g10.1,?_⟩,hval,?_⟩
  ·have:=iI fd on1 on2
   rw [← hval] at this
   exact this
  refine aS Tryz.func180 Tryz.ntmps180 (rs:=[.cell 4 162]) (ki _ _ _ _ _ _) ?_
  simp [go_sem,pl,pt,pb,pg,ql,qt,qb,qg]
  refine bD [0,1,2,3,5,6,7,8] [4,9,10,11,12,13] [0,1,2,3,5,6,7,8] (.alt (.step 4 [] true (.alt (.step 9 [] false (.alt (.step 10 [] false (.step 11 [] false (.step 12 [] false (.step 13 [] false .done)))) (.step 11 [] false (.step 10 [] false (.step 12 [] false (.step 13 [] false .done)))))) (.alt (.step 10 [] true (.alt (.step 9 [] false (.step 11 [] false (.step 12 [] false (.step 13 [] false .done)))) (.step 11 [] true (.step 9 [] false (.step 12 [] false (.step 13 [] false .done)))))) (.step 11 [] true (.alt (.step 9 [] false (.step 10 [] false (.step 12 [] false (.step 13 [] false .done)))) (.step 10 [] true (.step 9 [] false (.step 12 [] false (.step 13 [] false .done))))))))) (.alt (.step 10 [] true (.alt (.step 4 [] true (.alt (.step 9 [] false (.step 11 [] false (.step 12 [] false (.step 13 [] false .done)))) (.step 11 [] true (.step 9 [] false (.step 12 [] false (.step 13 [] false .done)))))) (.step 11 [] true (.step 4 [] true (.step 9 [] false (.step 12 [] false (.step 13 [] false .done))))))) (.step 11 [] true (.alt (.step 4 [] true (.alt (.step 9 [] false (.step 10 [] false (.step 12 [] false (.step 13 [] false .done)))) (.step 10 [] true (.step 9 [] false (.step 12 [] false (.step 13 [] false .done)))))) (.step 10 [] true (.step 4 [] true (.step 9 [] false (.step 12 [] false (.step 13 [] false .done))))))))) ⟨[(2,.ptr 0 0 0 1),(3,.ptr 32 0 0 1),(4,.ptr 64 0 0 1),(5,.ptr 544 0 0 1),(6,.ptr 576 0 0 1)],[(576,⟨160,4,[cI dn]⟩),(544,⟨160,4,[cI up]⟩),(64,⟨162,9,[cP zI zI false]⟩),(32,⟨162,9,[cP x' y' false]⟩),(0,⟨162,9,[cP x y false]⟩)],4000⟩ (k:=14) ?h3 ?hq
  case h3 =>
   intro G hG
   have hW:∀ (fr:Fr) (hp:Hp),(fv 2 fr=.ptr 0 0 0 1∧fv 3 fr=.ptr 32 0 0 1∧fv 4 fr=.ptr 64 0 0 1∧fv 5 fr=.ptr 544 0 0 1∧fv 6 fr=.ptr 576 0 0 1∧lk 576 hp=some ⟨160,4,[cI dn]⟩∧lk 544 hp=some ⟨160,4,[cI up]⟩∧lk 64 hp=some ⟨162,9,[cP zI zI false]⟩∧lk 32 hp=some ⟨162,9,[cP x' y' false]⟩∧lk 0 hp=some ⟨162,9,[cP x y false]⟩)→G fr hp:=by
    rintro fr hp ⟨q0,q1,q2,q3,q4,q5,q6,q7,q8,q9⟩
    exact hG _ _ fc
   simp [go_sem,e1,e2,e1b,e2b,pl,ql,l1,l2,aa l1,aa l2,z4,be]
   repeat' first | exact hW _ _ ⟨rfl,rfl,rfl,rfl,rfl,rfl,rfl,rfl,rfl,rfl⟩ | (refine hW _ _ ?_;simp [fv,lk];done) | refine ab f1 (ah _ _) ?_ | refine ab f2 (ah _ _) ?_ | apply And.intro | simp [go_sem,e1,e2,e1b,e2b,pl,ql,l1,l2,aa l1,aa l2,z4,be]
  case hq =>
   simp [go_sem,e1,e2,e1b,e2b,pl,ql,aW,hxl,hxl',hxx]
   refine bD [0,1] [2,3,4,5] [0,1] (.alt (.step 2 [] true (.alt (.step 3 [] false (.step 4 [] false (.step 5 [] false .done))) (.step 4 [] true (.step 3 [] false (.step 5 [] false .done))))) (.step 4 [] true (.step 2 [] true (.step 3 [] false (.step 5 [] false .done))))) ⟨[(2,.ptr 0 0 0 1),(3,.ptr 32 0 0 1),(4,.ptr 64 0 0 1),(7,.ptr 4288 0 0 1)],[(4288,⟨160,4,[cI s]⟩),(64,⟨162,9,[cP zI zI false]⟩),(32,⟨162,9,[cP x' y' false]⟩),(0,⟨162,9,[cP x y false]⟩)],9000⟩ (k:=6) ?h3 ?hq
   case h3 =>
    intro G hG
    have hW:∀ (fr:Fr) (hp:Hp),(fv 2 fr=.ptr 0 0 0 1∧fv 3 fr=.ptr 32 0 0 1∧fv 4 fr=.ptr 64 0 0 1∧fv 7 fr=.ptr 4288 0 0 1∧lk 4288 hp=some ⟨160,4,[cI s]⟩∧lk 64 hp=some ⟨162,9,[cP zI zI false]⟩∧lk 32 hp=some ⟨162,9,[cP x' y' false]⟩∧lk 0 hp=some ⟨162,9,[cP x y false]⟩)→G fr hp:=by
     rintro fr hp ⟨q0,q1,q2,q3,q4,q5,q6,q7⟩
     exact hG _ _ fc
    simp [go_sem,l1,l2,aa l1,aa l2,l4,aa l4,z4,be]
    repeat' first | exact hW _ _ ⟨rfl,rfl,rfl,rfl,rfl,rfl,rfl,rfl⟩ | (refine hW _ _ ?_;simp [fv,lk];done) | refine ab f3 (ar _) ?_ | refine ab f4 (ah _ _) ?_ | apply And.intro | simp [go_sem,l1,l2,aa l1,aa l2,l4,aa l4,z4,be]
   case hq =>
    simp [go_sem]
    refine bD [0,1,3,4,6,7] [2,5,8,9,10] [0,1,3,4,6,7] (.alt (.step 2 [] true (.alt (.step 5 [] true (.alt (.step 8 [] false (.step 9 [] false (.step 10 [] false .done))) (.step 9 [] true (.step 8 [] false (.step 10 [] false .done))))) (.step 9 [] true (.step 5 [] true (.step 8 [] false (.step 10 [] false .done)))))) (.step 9 [] true (.step 2 [] true (.step 5 [] true (.step 8 [] false (.step 10 [] false .done)))))) ⟨[(2,.ptr 0 0 0 1),(3,.ptr 32 0 0 1),(4,.ptr 64 0 0 1),(7,.ptr 4288 0 0 1),(8,.ptr 9288 0 0 1)],[(9288,⟨160,4,[cI X]⟩),(4288,⟨160,4,[cI s]⟩),(64,⟨162,9,[cP zI zI false]⟩),(32,⟨162,9,[cP x' y' false]⟩),(0,⟨162,9,[cP x y false]⟩)],20000⟩ (k:=11) ?h3 ?hq
    case h3 =>
     intro G hG
     have hW:∀ (fr:Fr) (hp:Hp),(fv 2 fr=.ptr 0 0 0 1∧fv 3 fr=.ptr 32 0 0 1∧fv 4 fr=.ptr 64 0 0 1∧fv 7 fr=.ptr 4288 0 0 1∧fv 8 fr=.ptr 9288 0 0 1∧lk 9288 hp=some ⟨160,4,[cI X]⟩∧lk 4288 hp=some ⟨160,4,[cI s]⟩∧lk 64 hp=some ⟨162,9,[cP zI zI false]⟩∧lk 32 hp=some ⟨162,9,[cP x' y' false]⟩∧lk 0 hp=some ⟨162,9,[cP x y false]⟩)→G fr hp:=by
      rintro fr hp ⟨q0,q1,q2,q3,q4,q5,q6,q7,q8,q9⟩
      exact hG _ _ fc
     simp [go_sem,e1,e2,e1b,e2b,pl,ql,l4,l7,aa l4,aa l7,z4,be]
     repeat' first | exact hW _ _ ⟨rfl,rfl,rfl,rfl,rfl,rfl,rfl,rfl,rfl,rfl⟩ | (refine hW _ _ ?_;simp [fv,lk];done) | refine ab f5 (ah _ _) ?_ | refine ab f6 (ah _ _) ?_ | refine ab f7 (ah _ _) ?_ | apply And.intro | simp [go_sem,e1,e2,e1b,e2b,pl,ql,l4,l7,aa l4,aa l7,z4,be]
    case hq =>
     simp [go_sem]
     refine bD [0,1,2,3,6,7] [4,5,8,9,10] [0,1,2,3,6,7] (.alt (.step 4 [] true (.alt (.step 5 [] true (.alt (.step 8 [] false (.step 9 [] false (.step 10 [] false .done))) (.step 9 [] true (.step 8 [] false (.step 10 [] false .done))))) (.step 9 [] true (.step 5 [] true (.step 8 [] false (.step 10 [] false .done)))))) (.step 9 [] true (.step 4 [] true (.step 5 [] true (.step 8 [] false (.step 10 [] false .done)))))) ⟨[(4,.ptr 64 0 0 1),(8,.ptr 9288 0 0 1),(9,.ptr 20288 0 0 1)],[(20288,⟨160,4,[cI Y]⟩),(9288,⟨160,4,[cI X]⟩),(64,⟨162,9,[cP zI zI false]⟩)],30000⟩ (k:=11) ?h3 ?hq
     case h3 =>
      intro G hG
      have hW:∀ (fr:Fr) (hp:Hp),(fv 4 fr=.ptr 64 0 0 1∧fv 8 fr=.ptr 9288 0 0 1∧fv 9 fr=.ptr 20288 0 0 1∧lk 20288 hp=some ⟨160,4,[cI Y]⟩∧lk 9288 hp=some ⟨160,4,[cI X]⟩∧lk 64 hp=some ⟨162,9,[cP zI zI false]⟩)→G fr hp:=by
       rintro fr hp ⟨q0,q1,q2,q3,q4,q5⟩
       exact hG _ _ fc
      simp [go_sem,e1,e2,e1b,e2b,pl,ql,l4,l7,l10,aa l4,aa l7,aa l10,z4,be]
      repeat' first | exact hW _ _ ⟨rfl,rfl,rfl,rfl,rfl,rfl⟩ | (refine hW _ _ ?_;simp [fv,lk];done) | refine ab f8 (ah _ _) ?_ | refine ab f9 (ah _ _) ?_ | refine ab f10 (ah _ _) ?_ | apply And.intro | simp [go_sem,e1,e2,e1b,e2b,pl,ql,l4,l7,l10,aa l4,aa l7,aa l10,z4,be]
     case hq =>
      have mp:=LN l7 l10
      simp [go_sem,l7,l10,aa l7,aa l10,z4,mp,aD l7 l10,aH l7 l10,zl2,pd,ak]
      exact dK rfl
theorem OH (x y x' y':List Int) (b b':Bool) (hx:Wn 4 x) (hy:Wn 4 y) (hx':Wn 4 x') (hy':Wn 4 y') (hp:dB x y b) (hp':dB x' y' b'):∃ (u v:List Int) (o:Bool),Wn 4 u∧Wn 4 v∧dB u v o∧PV u v o=sum fd (PV x y b) (PV x' y' b')∧aq Tryz.prog 130 [.agg (cP x y b),.agg (cP x' y' b')] (fun r=>r=.agg (cP u v o)):=by
 obtain ⟨x1,y1,b1,hx1,hy1,t1,f1⟩:=Gh x y b hx hy
 obtain ⟨x2,y2,b2,hx2,hy2,t2,f2⟩:=Gh x' y' b' hx' hy'
 obtain ⟨rfl,rfl,rfl⟩:=t1.2.1 hp
 obtain ⟨rfl,rfl,rfl⟩:=t2.2.1 hp'
 obtain ⟨u,v,o,hu,hv,hpt,vs,f3⟩:=QC x1 y1 x2 y2 b1 b2 hx hy hx' hy' hp hp'
 refine ⟨u,v,o,hu,hv,hpt,vs,?_⟩
 have pd:(cP zI zI false).drop 9=[]:=dG rfl rfl _
 have zl2:(cP zI zI false).length=9:=rfl
 have pl:=aD hx.1 hy.1 b1
 have pt:=aH hx.1 hy.1 b1
 have ql:=aD hx'.1 hy'.1 b2
 have qt:=aH hx'.1 hy'.1 b2
 have ul:=aD hu.1 hv.1 o
 have ut:=aH hu.1 hv.1 o
 refine aS Tryz.func130 Tryz.ntmps130 (rs:=[.cell 4 162]) (ki _ _ _ _ _ _) ?_
 simp [go_sem,pl,pt,ql,qt]
 refine bk [0,2] [(1,[]),(3,[]),(4,[]),(5,[])] 1 (k:=6) ?_
 intro G hG
 simp [go_sem,pl,pt,ql,qt]
 refine ab f1 (bp _ _ _) ?_
 simp [go_sem,pl,pt,ql,qt]
 refine ab f2 (bp _ _ _) ?_
 simp [go_sem]
 refine ab f3 (ki _ _ _ _ _ _) ?_
 simp [go_sem,ul,ut,pd,zl2,be]
 refine hG _ _ ?_
 simp [go_sem,ul,ut,pd,zl2,ak]
 exact dK rfl
theorem QD:eH Tryz.prog 208=some (cV zI zI zI):=by kernel_rfl
attribute [go_sem] QD
noncomputable def FrV (x y z:List Int):Pt pP:=fr fd (FV x) (FV y) (FV z)
def BL (x y z:List Int):Prop:=(V x<pZ∧V y<pZ∧V z<pZ)∧fC (FrV x y z)
theorem tT (x y:List Int):FrV x y zI=none:=by
 show fr fd _ _ (FV zI)=none
 rw [mS];exact Ix fd _ _
theorem Gi:BL zI zI zI:=⟨⟨by rw [r7];decide,by rw [r7];decide,by rw [r7];decide⟩,by rw [tT];trivial⟩
theorem mU (x y z x' y' z':List Int):∀ v,v ∈ [AV.agg (cV x y z),AV.agg (cV x' y' z')]→v.deep:=by
 intro v hv;simp at hv;rcases hv with rfl | rfl
 ·exact lU _ _ _
 ·exact lU _ _ _
theorem sD {y z:F} (hz:z=0):8*(y*z*(y*z*(y*z)))=0:=by rw [hz];clear hz;grobner
theorem Gj (x y z:List Int) (hx:Wn 4 x) (hy:Wn 4 y) (hz:Wn 4 z):∃ (X Y Z:List Int),Wn 4 X∧Wn 4 Y∧Wn 4 Z∧(BL x y z→BL X Y Z∧FrV X Y Z=sum fd (FrV x y z) (FrV x y z))∧aq Tryz.prog 183 [.agg (cV x y z)] (fun r=>r=.agg (cV X Y Z)):=by
 obtain ⟨x2,h1,g1,f1⟩:=dz x x hx hx
 obtain ⟨w,h2,g2,f2⟩:=dz [3,0,0,0] x2 (cO ⟨by omega,by omega⟩) h1
 obtain ⟨s,h3,g3,f3⟩:=dz y z hy hz
 obtain ⟨xy,h4,g4,f4⟩:=dz x y hx hy
 obtain ⟨b,h5,g5,f5⟩:=dz xy s h4 h3
 obtain ⟨ww,h6,g6,f6⟩:=dz w w h2 h2
 obtain ⟨b8,h7,g7,f7⟩:=dz [8,0,0,0] b (cO ⟨by omega,by omega⟩) h5
 obtain ⟨h,h8,g8,f8⟩:=kh ww b8 h6 h7
 obtain ⟨ys,h9,g9,f9⟩:=dz y s hy h3
 obtain ⟨hs,h10,g10,f10⟩:=dz h s h8 h3
 obtain ⟨X,h11,g11,f11⟩:=dz [2,0,0,0] hs (cO ⟨by omega,by omega⟩) h10
 obtain ⟨b4,h12,g12,f12⟩:=dz [4,0,0,0] b (cO ⟨by omega,by omega⟩) h5
 obtain ⟨d,h13,g13,f13⟩:=kh b4 h h12 h8
 obtain ⟨wd,h14,g14,f14⟩:=dz w d h2 h13
 obtain ⟨y2,h15,g15,f15⟩:=dz ys ys h9 h9
 obtain ⟨y8,h16,g16,f16⟩:=dz [8,0,0,0] y2 (cO ⟨by omega,by omega⟩) h15
 obtain ⟨Y,h17,g17,f17⟩:=kh wd y8 h14 h16
 obtain ⟨s2,h18,g18,f18⟩:=dz s s h3 h3
 obtain ⟨s3,h19,g19,f19⟩:=dz s s2 h3 h18
 obtain ⟨Z,h20,g20,f20⟩:=dz [8,0,0,0] s3 (cO ⟨by omega,by omega⟩) h19
 unfold W2 at f1 f2 f3 f4 f5 f6 f7 f8 f9 f10 f11 f12 f13 f14 f15 f16 f17 f18 f19 f20
 have l2:=h2.1
 have l3:=h3.1
 have l5:=h5.1
 have l8:=h8.1
 have l9:=h9.1
 have l11:=h11.1
 have l17:=h17.1
 have l20:=h20.1
 have hxl:=hx.1
 have hyl:=hy.1
 have hzl:=hz.1
 have z4:List.drop 4 (cI zI)=[]:=ao rfl
 have vl:=bq hxl hyl hzl
 have vt:=aZ hxl hyl hzl
 have v1:(cV x y z).take 4=cI x:=vQ hxl
 have v2:=vS (z:=z) hxl hyl
 have v3:=pI hxl hyl hzl
 have wd:(cV zI zI zI).drop 12=[]:=ek rfl rfl rfl
 have wl:(cV zI zI zI).length=12:=rfl
 have vv:BL x y z→BL X Y Z∧FrV X Y Z=sum fd (FrV x y z) (FrV x y z):=by
  intro hj
  have n2:FV [2,0,0,0]=2:=oP 2 (by omega)
  have n3:FV [3,0,0,0]=3:=oP 3 (by omega)
  have n4:FV [4,0,0,0]=4:=oP 4 (by omega)
  have n8:FV [8,0,0,0]=8:=oP 8 (by omega)
  have eZ:FV Z=8*(FV y*FV z*(FV y*FV z*(FV y*FV z))):=by rw [g20.2,g19.2,g18.2,g3.2,n8]
  have e2:FrV X Y Z=sum fd (FrV x y z) (FrV x y z):=by
   by_cases hz0:FV z=0
   ·have e0:FrV x y z=none:=by show fr fd _ _ (FV z)=none;rw [hz0];exact Ix fd _ _
    have eZ0:FV Z=0:=by rw [eZ];exact sD hz0
    have e1:FrV X Y Z=none:=by show fr fd _ _ (FV Z)=none;rw [eZ0];exact Ix fd _ _
    rw [e0,e1]
    exact (dx fd (Q:=none) True.intro).symm
   ·obtain ⟨_,e⟩:=FF fd hz0 hj.2
    have eX:FV X=2*((3*(FV x*FV x)*(3*(FV x*FV x)) - 8*(FV x*FV y*(FV y*FV z)))*(FV y*FV z)):=by rw [g11.2,g10.2,g8.2,g6.2,g7.2,g2.2,g1.2,g5.2,g4.2,g3.2,n2,n3,n8]
    have eY:FV Y=3*(FV x*FV x)*(4*(FV x*FV y*(FV y*FV z)) - (3*(FV x*FV x)*(3*(FV x*FV x)) - 8*(FV x*FV y*(FV y*FV z)))) - 8*(FV y*(FV y*FV z)*(FV y*(FV y*FV z))):=by rw [g17.2,g14.2,g13.2,g12.2,g8.2,g6.2,g7.2,g2.2,g1.2,g5.2,g4.2,g16.2,g15.2,g9.2,g3.2,n3,n4,n8]
    show fr fd (FV X) (FV Y) (FV Z)=_
    rw [eX,eY,eZ]
    exact e
  exact ⟨⟨⟨g11.1,g17.1,g20.1⟩,by rw [e2];exact iI fd hj.2 hj.2⟩,e2⟩
 refine ⟨X,Y,Z,h11,h17,h20,vv,?_⟩
 refine aS Tryz.func183 Tryz.ntmps183 (rs:=[.cell 2 208]) (dC _ _ _) ?_
 simp [go_sem,vl,vt,v1,v2,v3]
 refine ab f1 (ah _ _) ?_
 simp [go_sem]
 refine ab f2 (ah [3,0,0,0] _) ?_
 simp [go_sem,l2,aa l2,z4,vl,v1,v2,v3]
 refine ab f3 (ah _ _) ?_
 simp [go_sem,l3,aa l3,z4]
 refine bD [0,1,2,3,5] [4,6,7,8] [0,1,2,3,5] (.alt (.step 4 [] true (.alt (.step 6 [] false (.step 7 [] false (.step 8 [] false .done))) (.step 7 [] true (.step 6 [] false (.step 8 [] false .done))))) (.step 7 [] true (.step 4 [] true (.step 6 [] false (.step 8 [] false .done))))) ⟨[(1,.ptr 0 0 0 1),(2,.ptr 32 0 0 1),(3,.ptr 288 0 0 1),(4,.ptr 512 0 0 1),(5,.ptr 800 0 0 1)],[(800,⟨160,4,[cI b]⟩),(512,⟨160,4,[cI s]⟩),(288,⟨160,4,[cI w]⟩),(32,⟨208,12,[cV zI zI zI]⟩),(0,⟨208,12,[cV x y z]⟩)],4000⟩ (k:=9) ?h3 ?hq
 case h3 =>
  intro G hG
  have hW:∀ (fr:Fr) (hp:Hp),(fv 1 fr=.ptr 0 0 0 1∧fv 2 fr=.ptr 32 0 0 1∧fv 3 fr=.ptr 288 0 0 1∧fv 4 fr=.ptr 512 0 0 1∧fv 5 fr=.ptr 800 0 0 1∧lk 800 hp=some ⟨160,4,[cI b]⟩∧lk 512 hp=some ⟨160,4,[cI s]⟩∧lk 288 hp=some ⟨160,4,[cI w]⟩∧lk 32 hp=some ⟨208,12,[cV zI zI zI]⟩∧lk 0 hp=some ⟨208,12,[cV x y z]⟩)→G fr hp:=by
   rintro fr hp ⟨q0,q1,q2,q3,q4,q5,q6,q7,q8,q9⟩
   exact hG _ _ fc
  simp [go_sem,l3,l5,aa l3,aa l5,z4,v1,v2,v3,vl,be]
  repeat' first | exact hW _ _ ⟨rfl,rfl,rfl,rfl,rfl,rfl,rfl,rfl,rfl,rfl⟩ | (refine hW _ _ ?_;simp [fv,lk];done) | refine ab f4 (ah _ _) ?_ | refine ab f5 (ah _ _) ?_ | apply And.intro | simp [go_sem,l3,l5,aa l3,aa l5,z4,v1,v2,v3,vl,be]
 case hq =>
  simp [go_sem]
  refine bD [0,1,3,4] [2,5,6,7,8] [0,1,3,4] (.alt (.step 2 [] true (.alt (.step 5 [] false (.alt (.step 6 [] false (.step 7 [] false (.step 8 [] false .done))) (.step 7 [] false (.step 6 [] false (.step 8 [] false .done))))) (.step 7 [] true (.step 5 [] false (.step 6 [] false (.step 8 [] false .done)))))) (.step 7 [] true (.step 2 [] true (.step 5 [] false (.step 6 [] false (.step 8 [] false .done)))))) ⟨[(1,.ptr 0 0 0 1),(2,.ptr 32 0 0 1),(3,.ptr 288 0 0 1),(4,.ptr 512 0 0 1),(5,.ptr 800 0 0 1),(6,.ptr 4224 0 0 1)],[(4224,⟨160,4,[cI h]⟩),(800,⟨160,4,[cI b]⟩),(512,⟨160,4,[cI s]⟩),(288,⟨160,4,[cI w]⟩),(32,⟨208,12,[cV zI zI zI]⟩),(0,⟨208,12,[cV x y z]⟩)],9000⟩ (k:=9) ?h3 ?hq
  case h3 =>
   intro G hG
   have hW:∀ (fr:Fr) (hp:Hp),(fv 1 fr=.ptr 0 0 0 1∧fv 2 fr=.ptr 32 0 0 1∧fv 3 fr=.ptr 288 0 0 1∧fv 4 fr=.ptr 512 0 0 1∧fv 5 fr=.ptr 800 0 0 1∧fv 6 fr=.ptr 4224 0 0 1∧lk 4224 hp=some ⟨160,4,[cI h]⟩∧lk 800 hp=some ⟨160,4,[cI b]⟩∧lk 512 hp=some ⟨160,4,[cI s]⟩∧lk 288 hp=some ⟨160,4,[cI w]⟩∧lk 32 hp=some ⟨208,12,[cV zI zI zI]⟩∧lk 0 hp=some ⟨208,12,[cV x y z]⟩)→G fr hp:=by
    rintro fr hp ⟨q0,q1,q2,q3,q4,q5,q6,q7,q8,q9,q10,q11⟩
    exact hG _ _ fc
   simp [go_sem,l2,l5,l8,aa l2,aa l5,aa l8,z4,be]
   repeat' first | exact hW _ _ ⟨rfl,rfl,rfl,rfl,rfl,rfl,rfl,rfl,rfl,rfl,rfl,rfl⟩ | (refine hW _ _ ?_;simp [fv,lk];done) | refine ab f6 (ah _ _) ?_ | refine ab f7 (ah [8,0,0,0] _) ?_ | refine ab f8 (ah _ _) ?_ | apply And.intro | simp [go_sem,l2,l5,l8,aa l2,aa l5,aa l8,z4,be]
  case hq =>
   simp [go_sem,vl,v2,l3,aa l3]
   refine ab f9 (ah _ _) ?_
   simp [go_sem,l9,aa l9,z4,l3,l8,aa l3,aa l8]
   refine ab f10 (ah _ _) ?_
   simp [go_sem]
   refine ab f11 (ah [2,0,0,0] _) ?_
   simp [go_sem,l11,aa l11,z4]
   refine bD [0,1,2,4,7,8,9] [3,5,6,10,11,12,13,14] [0,1,2,4,7,8,9] (.alt (.step 3 [] true (.alt (.step 5 [] true (.alt (.step 6 [] true (.alt (.step 10 [] true (.alt (.step 11 [] false (.alt (.step 12 [] false (.step 13 [] false (.step 14 [] false .done))) (.step 13 [] false (.step 12 [] false (.step 14 [] false .done))))) (.step 13 [] true (.step 11 [] false (.step 12 [] false (.step 14 [] false .done)))))) (.step 13 [] true (.step 10 [] true (.step 11 [] false (.step 12 [] false (.step 14 [] false .done))))))) (.step 13 [] true (.step 6 [] true (.step 10 [] true (.step 11 [] false (.step 12 [] false (.step 14 [] false .done)))))))) (.step 13 [] true (.step 5 [] true (.step 6 [] true (.step 10 [] true (.step 11 [] false (.step 12 [] false (.step 14 [] false .done))))))))) (.step 13 [] true (.step 3 [] true (.step 5 [] true (.step 6 [] true (.step 10 [] true (.step 11 [] false (.step 12 [] false (.step 14 [] false .done))))))))) ⟨[(2,.ptr 32 0 0 1),(4,.ptr 512 0 0 1),(8,.ptr 9352 0 0 1),(9,.ptr 9832 0 0 1)],[(9832,⟨160,4,[cI Y]⟩),(9352,⟨160,4,[cI X]⟩),(512,⟨160,4,[cI s]⟩),(32,⟨208,12,[cV zI zI zI]⟩)],20000⟩ (k:=15) ?h3 ?hq
   case h3 =>
    intro G hG
    have hW:∀ (fr:Fr) (hp:Hp),(fv 2 fr=.ptr 32 0 0 1∧fv 4 fr=.ptr 512 0 0 1∧fv 8 fr=.ptr 9352 0 0 1∧fv 9 fr=.ptr 9832 0 0 1∧lk 9832 hp=some ⟨160,4,[cI Y]⟩∧lk 9352 hp=some ⟨160,4,[cI X]⟩∧lk 512 hp=some ⟨160,4,[cI s]⟩∧lk 32 hp=some ⟨208,12,[cV zI zI zI]⟩)→G fr hp:=by
     rintro fr hp ⟨q0,q1,q2,q3,q4,q5,q6,q7⟩
     exact hG _ _ fc
    simp [go_sem,l2,l5,l8,l9,l17,aa l2,aa l5,aa l8,aa l9,aa l17,z4,be]
    repeat' first | exact hW _ _ ⟨rfl,rfl,rfl,rfl,rfl,rfl,rfl,rfl⟩ | (refine hW _ _ ?_;simp [fv,lk];done) | refine ab f12 (ah [4,0,0,0] _) ?_ | refine ab f13 (ah _ _) ?_ | refine ab f14 (ah _ _) ?_ | refine ab f15 (ah _ _) ?_ | refine ab f16 (ah [8,0,0,0] _) ?_ | refine ab f17 (ah _ _) ?_ | apply And.intro | simp [go_sem,l2,l5,l8,l9,l17,aa l2,aa l5,aa l8,aa l9,aa l17,z4,be]
   case hq =>
    simp [go_sem]
    refine bD [0,1,2,3] [4,5,6,7,8] [0,1,2,3] (.alt (.step 4 [] true (.alt (.step 5 [] true (.alt (.step 6 [] false (.step 7 [] false (.step 8 [] false .done))) (.step 7 [] true (.step 6 [] false (.step 8 [] false .done))))) (.step 7 [] true (.step 5 [] true (.step 6 [] false (.step 8 [] false .done)))))) (.step 7 [] true (.step 4 [] true (.step 5 [] true (.step 6 [] false (.step 8 [] false .done)))))) ⟨[(2,.ptr 32 0 0 1),(8,.ptr 9352 0 0 1),(9,.ptr 9832 0 0 1),(10,.ptr 20224 0 0 1)],[(20224,⟨160,4,[cI Z]⟩),(9832,⟨160,4,[cI Y]⟩),(9352,⟨160,4,[cI X]⟩),(32,⟨208,12,[cV zI zI zI]⟩)],30000⟩ (k:=9) ?h3 ?hq
    case h3 =>
     intro G hG
     have hW:∀ (fr:Fr) (hp:Hp),(fv 2 fr=.ptr 32 0 0 1∧fv 8 fr=.ptr 9352 0 0 1∧fv 9 fr=.ptr 9832 0 0 1∧fv 10 fr=.ptr 20224 0 0 1∧lk 20224 hp=some ⟨160,4,[cI Z]⟩∧lk 9832 hp=some ⟨160,4,[cI Y]⟩∧lk 9352 hp=some ⟨160,4,[cI X]⟩∧lk 32 hp=some ⟨208,12,[cV zI zI zI]⟩)→G fr hp:=by
      rintro fr hp ⟨q0,q1,q2,q3,q4,q5,q6,q7⟩
      exact hG _ _ fc
     simp [go_sem,l3,l20,aa l3,aa l20,z4,be]
     repeat' first | exact hW _ _ ⟨rfl,rfl,rfl,rfl,rfl,rfl,rfl,rfl⟩ | (refine hW _ _ ?_;simp [fv,lk];done) | refine ab f18 (ah _ _) ?_ | refine ab f19 (ah _ _) ?_ | refine ab f20 (ah [8,0,0,0] _) ?_ | apply And.intro | simp [go_sem,l3,l20,aa l3,aa l20,z4,be]
    case hq =>
     have ev:cI X ++ (cI Y ++ cI Z)=cV X Y Z:=rfl
     have xl:=bq l11 l17 l20
     have xt:=aZ l11 l17 l20
     simp [go_sem,l11,l17,l20,aa l11,aa l17,aa l20,wl,wd,O0 l11 l17,IA l11 l17,ev,xl,xt,ak]
     exact eP rfl
end Go.Proofs.YtldccnbokbieiaaGreat
