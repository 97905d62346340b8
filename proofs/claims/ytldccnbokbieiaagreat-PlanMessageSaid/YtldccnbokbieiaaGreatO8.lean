/-
 Part 9 of what the claim rests on.
-/
import Derived.Test.YtldccnbokbieiaaGreatO5
import Derived.Test.YtldccnbokbieiaaGreatO6
set_option linter.unusedVariables false
set_option linter.unusedSimpArgs false
set_option maxRecDepth 100000
set_option maxHeartbeats 16000000
namespace Go.Proofs.YtldccnbokbieiaaGreat
open Go.Am Go.Sha
def R6:List Int→Int
 | []=>0
 | x :: r=>x+4294967296*R6 r
def YW (n:Nat) (l:List Int):Prop:=l.length=n∧∀ x,x ∈ l→0≤x∧x<4294967296
theorem afd (x:Int) (l:List Int):gI (x :: l) 0=x:=rfl
theorem afe (x:Int) (l:List Int) (k:Nat):gI (x :: l) (k+1)=gI l k:=rfl
theorem ZR:∀ (l:List Int) (j:Nat) (v:Int),j<l.length→R6 (l.set j v)=R6 l+(v - gI l j)*4294967296 ^ j
 | [],j,v,h=>absurd h ab
 | x :: r,0,v,h=>by rw [List.set_cons_zero,afd];simp only [R6,Int.pow_zero];omega
 | x :: r,j+1,v,h=>by
  rw [List.set_cons_succ,afe];simp only [R6];rw [ZR r j v (by simpa using h),Int.pow_succ,Int.mul_add,← Int.mul_assoc (v - gI r j),Int.mul_comm _ 4294967296,Int.add_assoc]
theorem UN:∀ (l:List Int) (k:Nat),k<l.length→R6 (l.take (k+1))=R6 (l.take k)+gI l k*4294967296 ^ k
 | [],k,h=>absurd h ab
 | x :: r,0,h=>by simp [R6,afd]
 | x :: r,k+1,h=>by
  rw [List.take_succ_cons,List.take_succ_cons,afe];simp only [R6];rw [UN r k (by simpa using h),Int.pow_succ,Int.mul_add,← Int.mul_assoc (gI r k),Int.mul_comm _ 4294967296,Int.add_assoc]
theorem To {n:Nat} {l:List Int} (h:YW n l) (k:Nat):0≤gI l k∧gI l k<4294967296:=by
 unfold gI;rw [aw]
 cases e:l[k]? with
 | none=>exact ⟨ab,ab⟩
 | some x=>exact h.2 x (ao e)
theorem adA {n k:Nat} {l:List Int} {x:Int} (h:YW n l) (hx:0≤x∧x<4294967296):YW n (l.set k x):=by
 refine ⟨by rw [List.length_set];exact h.1,fun y hy=>?_⟩;rcases List.mem_or_eq_of_mem_set hy with hy | rfl
 ·exact h.2 y hy
 ·exact hx
theorem aaR {l:List Int} {i j:Nat} {x:Int} (h:i ≠ j):gI (l.set i x) j=gI l j:=by
 unfold gI;rw [aw,aw,List.getElem?_set_ne h]
def pm (x y:List Int) (i k:Nat) (s:List Int × Int):Int:=s.2+gI s.1 (i+k)+gI x i*gI y k
def Yf (x y:List Int) (i k:Nat) (s:List Int × Int):List Int × Int:=(s.1.set (i+k) (pm x y i k s % 4294967296),pm x y i k s / 4294967296)
def aff (x y:List Int) (i:Nat) (d:List Int):List Int:=(A4 (Yf x y i) (d,0) 8).1.set (i+8) (A4 (Yf x y i) (d,0) 8).2
theorem amG {a b:Int} (ha:0≤a∧a<4294967296) (hb:0≤b∧b<4294967296):0≤a*b∧a*b≤18446744065119617025 :=
 ⟨Int.mul_nonneg ha.1 hb.1,by
  have:a*b≤4294967295*4294967295:=Int.mul_le_mul aa aa hb.1 aa
  omega⟩
theorem avK {x y:List Int} (hx:YW 8 x) (hy:YW 8 y) {i k:Nat} {s:List Int × Int} (h1:YW 16 s.1) (h2:0≤s.2∧s.2<4294967296):0≤pm x y i k s∧pm x y i k s<18446744073709551616:=by
 have p:=amG (To hx i) (To hy k);have q:=To h1 (i+k);unfold pm;generalize gI x i*gI y k=z at *;omega
theorem adB {x y d:List Int} (hx:YW 8 x) (hy:YW 8 y) (hd:YW 16 d) {i:Nat} (hi:i<8):∀ k,k≤8→YW 16 (A4 (Yf x y i) (d,0) k).1∧(0≤(A4 (Yf x y i) (d,0) k).2∧(A4 (Yf x y i) (d,0) k).2<4294967296) ∧
  R6 (A4 (Yf x y i) (d,0) k).1+(A4 (Yf x y i) (d,0) k).2*4294967296 ^ (i+k)=R6 d+gI x i*R6 (y.take k)*4294967296 ^ i∧∀ j,i+8≤j→gI (A4 (Yf x y i) (d,0) k).1 j=gI d j
 | 0,_=>by
  refine ⟨hd,⟨by simp [A4],by simp [A4]⟩,?_,fun j _=>rfl⟩;simp [A4,R6]
 | k+1,hk=>by
  obtain ⟨h1,h2,h3,h4⟩:=adB hx hy hd hi k aa;have hR:=avK hx hy (i:=i) (k:=k) h1 h2;rw [A4];generalize A4 (Yf x y i) (d,0) k=s at *;have hl:i+k<s.1.length:=by rw [h1.1];omega
  unfold Yf;refine ⟨adA h1 ⟨aa,aa⟩,⟨aa,aa⟩,?_,fun j hj=>?_⟩
  ·dsimp only;rw [ZR _ _ _ hl,UN y k (by rw [hy.1];omega),← Nat.add_assoc,Int.pow_succ,Int.mul_add,Int.add_mul,← Int.add_assoc,← h3];have e:pm x y i k s=s.2+gI s.1 (i+k)+gI x i*gI y k:=rfl;have hp:(4294967296:Int) ^ (i+k)=4294967296 ^ i*4294967296 ^ k:=Int.pow_add _ _ _
   have e3:gI x i*(gI y k*4294967296 ^ k)*4294967296 ^ i=(gI x i*gI y k)*4294967296 ^ (i+k):=by
    rw [hp,← Int.mul_assoc,Int.mul_assoc (gI x i*gI y k),Int.mul_comm (4294967296 ^ k)]
   rw [e3];generalize (4294967296:Int) ^ (i+k)=P at *;generalize gI x i*gI y k=z at *;generalize pm x y i k s=t at *;have e2:t % 4294967296+4294967296*(t / 4294967296)=t:=Int.emod_add_mul_ediv t 4294967296;generalize t % 4294967296=u at *;generalize t / 4294967296=v at *;subst e2;rw [Int.mul_comm P 4294967296,← Int.mul_assoc,Int.add_assoc,← Int.add_mul,Int.add_assoc,← Int.add_mul];congr 2;omega
  ·dsimp only;rw [aaR aa];exact h4 j hj
theorem aij {x y:List Int} (hx:YW 8 x) (hy:YW 8 y) {d:List Int} (hd:YW 16 d) (h0:∀ j,gI d j=0) (hv:R6 d=0):∀ i,i≤8→YW 16 (A4 (aff x y) d i)∧R6 (A4 (aff x y) d i)=R6 (x.take i)*R6 y∧∀ j,i+8≤j→gI (A4 (aff x y) d i) j=0
 | 0,_=>by
  refine ⟨hd,?_,fun j _=>h0 j⟩;simp [A4,R6,hv]
 | i+1,hi=>by
  obtain ⟨h1,h2,h3⟩:=aij hx hy hd h0 hv i aa;obtain ⟨k1,k2,k3,k4⟩:=adB hx hy h1 (i:=i) aa 8 aa;rw [A4];generalize A4 (aff x y) d i=e at *;unfold aff;generalize A4 (Yf x y i) (e,0) 8=s at *;refine ⟨adA k1 k2,?_,fun j hj=>?_⟩
  ·rw [ZR _ _ _ (by rw [k1.1];omega),k4 _ (av _),h3 _ (av _),Int.sub_zero,k3,h2,UN x i (by rw [hx.1];omega),aq (l:=y) (by rw [hy.1];omega),Int.add_mul];congr 1;rw [Int.mul_assoc,Int.mul_comm (R6 y),← Int.mul_assoc]
  ·rw [aaR aa,k4 j aa];exact h3 j aa
def fm (d:List Int) (i:Nat) (c:Int):Int:=(if i<8 then c+gI d i+gI d (8+i)*977 else c)+(if 1≤i∧i<9 then gI d (7+i) else 0)
def Yg (d:List Int) (i:Nat) (s:List Int × Int):List Int × Int:=(s.1.set i (fm d i s.2 % 4294967296),fm d i s.2 / 4294967296)
def W4:List Int:=[0,0,0,0,0,0,0,0,0,0]
theorem aaS {d:List Int} (hd:YW 16 d):∀ k,k≤10→YW 10 (A4 (Yg d) (W4,0) k).1∧(0≤(A4 (Yg d) (W4,0) k).2∧(A4 (Yg d) (W4,0) k).2<2000)∧(∀ j,k≤j→gI (A4 (Yg d) (W4,0) k).1 j=0) ∧
  R6 (A4 (Yg d) (W4,0) k).1+(A4 (Yg d) (W4,0) k).2*4294967296 ^ k=R6 (d.take (min k 8))+977*R6 ((d.drop 8).take (min k 8))+4294967296*R6 ((d.drop 8).take (min (k - 1) 8))
 | 0,_=>by
  refine ⟨⟨rfl,by intro x hx;simp [A4,W4] at hx;omega⟩,⟨by simp [A4],by simp [A4]⟩,fun j _=>?_,?_⟩
  ·show gI W4 j=0
   match j with
   | 0 | 1 | 2 | 3 | 4 | 5 | 6 | 7 | 8 | 9=>rfl
   | n+10=>rfl
  ·simp [A4,R6,W4]
 | k+1,hk=>by
  obtain ⟨h1,h2,h3,h4⟩:=aaS hd k aa;rw [A4];generalize A4 (Yg d) (W4,0) k=s at *;have q1:=To hd k;have q2:=To hd (8+k);have q3:=To hd (7+k);have hl:k<s.1.length:=by rw [h1.1];omega
  have hf:0≤fm d k s.2∧fm d k s.2<8589934592000:=by
   unfold fm
   split <;> split <;> omega
  have hdr:∀ j,gI (d.drop 8) j=gI d (8+j):=fun j=>by unfold gI;rw [aw,aw,List.getElem?_drop]
  have hdl:(d.drop 8).length=8:=by rw [aG,hd.1]
  unfold Yg;refine ⟨adA h1 ⟨aa,aa⟩,⟨aa,aa⟩,fun j hj=>?_,?_⟩
  ·dsimp only;rw [aaR aa];exact h3 j aa
  ·dsimp only;rw [ZR _ _ _ hl,h3 k (av _),Int.sub_zero,Int.pow_succ]
   have e2:fm d k s.2 % 4294967296*4294967296 ^ k+fm d k s.2 / 4294967296*(4294967296 ^ k*4294967296)=fm d k s.2*4294967296 ^ k:=by
    have e2:fm d k s.2 % 4294967296+4294967296*(fm d k s.2 / 4294967296)=fm d k s.2:=Int.emod_add_mul_ediv _ _;generalize (4294967296:Int) ^ k=P at *;generalize fm d k s.2 % 4294967296=u at *;generalize fm d k s.2 / 4294967296=v at *;rw [← e2,Int.mul_comm P 4294967296,← Int.mul_assoc,← Int.add_mul,Int.mul_comm v]
   rw [Int.add_assoc,e2];clear e2
   have e1:R6 (d.take (min (k+1) 8))+977*R6 ((d.drop 8).take (min (k+1) 8))=R6 (d.take (min k 8))+977*R6 ((d.drop 8).take (min k 8))+(if k<8 then gI d k+gI d (8+k)*977 else 0)*4294967296 ^ k:=by
    by_cases hk8:k<8
    ·rw [if_pos hk8,show min (k+1) 8=k+1 by omega,show min k 8=k by omega,UN d k (by rw [hd.1];omega),UN (d.drop 8) k (by rw [hdl];omega),hdr,Int.add_mul];generalize (4294967296:Int) ^ k=P at *;have:gI d (8+k)*977*P=977*(gI d (8+k)*P):=by rw [Int.mul_comm _ 977,Int.mul_assoc]
     rw [this];omega
    ·rw [if_neg hk8,show min (k+1) 8=8 by omega,show min k 8=8 by omega];omega
   have e3:4294967296*R6 ((d.drop 8).take (min (k+1 - 1) 8))=4294967296*R6 ((d.drop 8).take (min (k - 1) 8))+(if 1≤k∧k<9 then gI d (7+k) else 0)*4294967296 ^ k:=by
    by_cases hk9:1≤k∧k<9
    ·obtain ⟨j,rfl⟩:∃ j,k=j+1:=⟨k - 1,aa⟩;rw [if_pos hk9,show min (j+1+1 - 1) 8=j+1 by omega,show min (j+1 - 1) 8=j by omega,UN (d.drop 8) j (by rw [hdl];omega),hdr,show 7+(j+1)=8+j by omega,Int.pow_succ,Int.mul_add,Int.mul_comm (4294967296 ^ j) 4294967296,← Int.mul_assoc,← Int.mul_assoc,Int.mul_comm 4294967296 (gI d (8+j))]
    ·rw [if_neg hk9];by_cases h0:k=0
     ·subst h0;simp [R6]
     ·rw [show min (k+1 - 1) 8=8 by omega,show min (k - 1) 8=8 by omega];omega
   rw [e1,e3]
   have ef:fm d k s.2=s.2+(if k<8 then gI d k+gI d (8+k)*977 else 0)+(if 1≤k∧k<9 then gI d (7+k) else 0):=by
    unfold fm
    split <;> omega
   rw [ef,Int.add_mul,Int.add_mul];generalize (4294967296:Int) ^ k=P at *;generalize (if k<8 then gI d k+gI d (8+k)*977 else 0)*P=z1 at *;generalize (if 1≤k∧k<9 then gI d (7+k) else 0)*P=z2 at *;generalize s.2*P=z3 at *;omega
def adC (x:Int × Int × Int):Int × Int:=(IntKind.u64.wrap (IntKind.u64.wrap (x.1+x.2.1)+x.2.2),if IntKind.u64.wrap (x.1+x.2.1)<x.1 ∨ IntKind.u64.wrap (IntKind.u64.wrap (x.1+x.2.1)+x.2.2)<IntKind.u64.wrap (x.1+x.2.1) then 1 else 0)
def adD (x:Int × Int × Int):Int × Int:=(IntKind.u64.wrap (IntKind.u64.wrap (x.1 - x.2.1) - x.2.2),if x.1<x.2.1 ∨ (x.1=x.2.1∧x.2.2=1) then 1 else 0)
theorem amH:agz adC:=by
 rintro ⟨a,b,c⟩ ⟨ha,hb,hc⟩;unfold H1 C1 at *;unfold adC;dsimp only at *;simp only [H5]
 split <;> refine ⟨aa,aa,aa⟩
theorem amI:ast adD:=by
 rintro ⟨a,b,c⟩ ⟨ha,hb,hc⟩;unfold H1 C1 at *;unfold adD;dsimp only at *;simp only [H5]
 split <;> refine ⟨aa,aa,aa⟩
def hiB (x:Int):Int:=IntKind.u64.wrap (x*9223372036854775808)
theorem aik (x y:Int) (hx:0≤x) (hx2:x<18446744073709551616):Go.bits .or .u64 (Int.fdiv x 2) (hiB y)=x / 2+9223372036854775808*(y % 2):=by
 rw [Int.fdiv_eq_ediv_of_nonneg _ aa];unfold hiB;rw [H5];obtain ⟨X,hX⟩:∃ X:Nat,x / 2=(X:Int):=⟨(x / 2).toNat,aa⟩;obtain ⟨Y,hY⟩:∃ Y:Nat,y % 2=(Y:Int):=⟨(y % 2).toNat,aa⟩;have e:y*9223372036854775808 % 18446744073709551616=((Y*2 ^ 63:Nat):Int):=aa;rw [e,hX,aoZ X (Y*2 ^ 63) aa aa,hY,Nat.or_comm,← Nat.shiftLeft_eq,← Nat.shiftLeft_add_eq_or_of_lt (show X<2 ^ 63 by omega),Nat.shiftLeft_eq];omega
def Yh (a:List Int) (c:Int):List Int:=Go.bits .or .u64 (Int.fdiv (gI a 0) 2) (hiB (gI a 1)) :: Go.bits .or .u64 (Int.fdiv (gI a 1) 2) (hiB (gI a 2)) :: Go.bits .or .u64 (Int.fdiv (gI a 2) 2) (hiB (gI a 3)) :: Go.bits .or .u64 (Int.fdiv (gI a 3) 2) (hiB c) :: []
theorem amJ {a:List Int} (ha:Wn 4 a) {c:Int} (hc:C1 c):Wn 4 (Yh a c)∧V (Yh a c)=(V a+115792089237316195423570985008687907853269984665640564039457584007913129639936*c) / 2:=by
 obtain ⟨a0,a1,a2,a3,rfl,h0,h1,h2,h3⟩:=Rv ha;have g0:gI [a0,a1,a2,a3] 0=a0:=rfl;have g1:gI [a0,a1,a2,a3] 1=a1:=rfl;have g2:gI [a0,a1,a2,a3] 2=a2:=rfl;have g3:gI [a0,a1,a2,a3] 3=a3:=rfl;unfold Yh;rw [g0,g1,g2,g3,aik a0 a1 h0.1 h0.2,aik a1 a2 h1.1 h1.2,aik a2 a3 h2.1 h2.2,aik a3 c h3.1 h3.2];unfold H1 C1 at *;refine ⟨⟨rfl,?_⟩,?_⟩
 ·intro y hy;simp only [aF,List.mem_nil_iff,or_false] at hy;rcases hy with rfl | rfl | rfl | rfl <;> exact ⟨aa,aa⟩
 ·rw [V4,V4];omega
def twW (a:List Int) (b:Int):List Int:=IntKind.u64.wrap (IntKind.u64.wrap (gI a 0*2)+b) :: IntKind.u64.wrap (IntKind.u64.wrap (gI a 1*2)+gI a 0 / 9223372036854775808) :: IntKind.u64.wrap (IntKind.u64.wrap (gI a 2*2)+gI a 1 / 9223372036854775808) :: IntKind.u64.wrap (IntKind.u64.wrap (gI a 3*2)+gI a 2 / 9223372036854775808) :: []
theorem axY {a:List Int} (ha:Wn 4 a) {b:Int} (hb:C1 b):Wn 4 (twW a b)∧C1 (gI a 3 / 9223372036854775808)∧V (twW a b)+115792089237316195423570985008687907853269984665640564039457584007913129639936*(gI a 3 / 9223372036854775808)=2*V a+b:=by
 obtain ⟨a0,a1,a2,a3,rfl,h0,h1,h2,h3⟩:=Rv ha;have g0:gI [a0,a1,a2,a3] 0=a0:=rfl;have g1:gI [a0,a1,a2,a3] 1=a1:=rfl;have g2:gI [a0,a1,a2,a3] 2=a2:=rfl;have g3:gI [a0,a1,a2,a3] 3=a3:=rfl;unfold twW;rw [g0,g1,g2,g3];simp only [H5];unfold H1 C1 at *;refine ⟨⟨rfl,?_⟩,⟨aa,aa⟩,?_⟩
 ·intro y hy;simp only [aF,List.mem_nil_iff,or_false] at hy;rcases hy with rfl | rfl | rfl | rfl <;> exact ⟨aa,aa⟩
 ·rw [V4,V4];omega
theorem adE:∀ (n:Nat) (l:List Int),YW n l→0≤R6 l∧R6 l<4294967296 ^ n
 | 0,l,h=>by rw [List.length_eq_zero_iff.1 h.1];simp [R6]
 | n+1,[],h=>absurd h.1 ab
 | n+1,x :: r,h=>by
  obtain ⟨h1,h2⟩:=adE n r ⟨by simpa using h.1,fun y hy=>h.2 y (ax _ hy)⟩;obtain ⟨h3,h4⟩:=h.2 x (aC);simp only [R6];rw [Int.pow_succ];generalize (4294967296:Int) ^ n=P at *;omega
theorem ail:∀ (a b:List Int),R6 (a ++ b)=R6 a+4294967296 ^ a.length*R6 b
 | [],b=>by simp [R6]
 | x :: r,b=>by
  rw [List.cons_append];simp only [R6];rw [ail r b,List.length_cons,Int.pow_succ,Int.mul_add,← Int.mul_assoc,Int.mul_comm (4294967296 ^ r.length),Int.add_assoc]
theorem amK {n:Nat} (k:Nat) {l:List Int} (h:YW (k+n) l):YW k (l.take k):=⟨by rw [List.length_take,h.1];omega,fun x hx=>h.2 x (List.mem_of_mem_take hx)⟩
theorem amL {n:Nat} (k:Nat) {l:List Int} (h:YW (k+n) l):YW n (l.drop k):=⟨by rw [aG,h.1];omega,fun x hx=>h.2 x (List.mem_of_mem_drop hx)⟩
def hvI (a:List Int) (i:Nat):Int:=Int.fdiv (gI a (i / 2)) (2 ^ (32*(i % 2))) % 4294967296
def abv (a:List Int) (i:Nat) (s:List Int):List Int:=s.set i (hvI a i)
theorem aqJ {a:List Int} (ha:Wn 4 a):YW 8 (A4 (abv a) YP 8)∧R6 (A4 (abv a) YP 8)=V a:=by
 obtain ⟨a0,a1,a2,a3,rfl,h0,h1,h2,h3⟩:=Rv ha;have e:A4 (abv [a0,a1,a2,a3]) YP 8=Int.fdiv a0 1 % 4294967296 :: Int.fdiv a0 4294967296 % 4294967296 :: Int.fdiv a1 1 % 4294967296 :: Int.fdiv a1 4294967296 % 4294967296 :: Int.fdiv a2 1 % 4294967296 :: Int.fdiv a2 4294967296 % 4294967296 :: Int.fdiv a3 1 % 4294967296 :: Int.fdiv a3 4294967296 % 4294967296 :: []:=rfl;have f1:∀ z:Int,Int.fdiv z 1=z:=fun z=>by rw [Int.fdiv_eq_ediv_of_nonneg _ aa,Int.ediv_one]
 have f2:∀ z:Int,Int.fdiv z 4294967296=z / 4294967296:=fun z=>Int.fdiv_eq_ediv_of_nonneg _ aa;rw [e];simp only [f1,f2];unfold H1 at *;refine ⟨⟨rfl,?_⟩,?_⟩
 ·intro y hy;simp only [aF,List.mem_nil_iff,or_false] at hy;rcases hy with rfl | rfl | rfl | rfl | rfl | rfl | rfl | rfl <;> exact ⟨aa,aa⟩
 ·rw [V4];simp only [R6];omega
def pkI (e:List Int) (i:Nat):Int:=IntKind.u64.wrap (gI e (2*i)+IntKind.u64.wrap (gI e (2*i+1)*4294967296))
def agQ (e:List Int) (i:Nat) (s:List Int):List Int:=s.set i (pkI e i)
def amM (e:List Int):Int:=IntKind.u64.wrap (gI e 8+IntKind.u64.wrap (gI e 9*4294967296))
theorem ah2 {e:List Int} (h:YW 10 e):Wn 4 (A4 (agQ e) zI 4)∧H1 (amM e)∧V (A4 (agQ e) zI 4)+115792089237316195423570985008687907853269984665640564039457584007913129639936*amM e=R6 e:=by
 obtain ⟨h1,h2⟩:=h
 match e,h1 with
 | [a,b,c,d,f,g,i,j,k,l],_ =>
  have e:A4 (agQ [a,b,c,d,f,g,i,j,k,l]) zI 4=IntKind.u64.wrap (a+IntKind.u64.wrap (b*4294967296)) :: IntKind.u64.wrap (c+IntKind.u64.wrap (d*4294967296)) :: IntKind.u64.wrap (f+IntKind.u64.wrap (g*4294967296)) :: IntKind.u64.wrap (i+IntKind.u64.wrap (j*4294967296)) :: []:=rfl;have e2:amM [a,b,c,d,f,g,i,j,k,l]=IntKind.u64.wrap (k+IntKind.u64.wrap (l*4294967296)):=rfl;have q0:=h2 a ab;have q1:=h2 b ab;have q2:=h2 c ab;have q3:=h2 d ab;have q4:=h2 f ab;have q5:=h2 g ab;have q6:=h2 i ab;have q7:=h2 j ab;have q8:=h2 k ab;have q9:=h2 l ab;clear h2
  have w:∀ x y:Int,0≤x∧x<4294967296→0≤y∧y<4294967296→IntKind.u64.wrap (x+IntKind.u64.wrap (y*4294967296))=x+4294967296*y:=by
   intro x y hx hy;simp only [H5];omega
  rw [e,e2,w a b q0 q1,w c d q2 q3,w f g q4 q5,w i j q6 q7,w k l q8 q9];refine ⟨⟨rfl,?_⟩,⟨aa,aa⟩,?_⟩
  ·intro y hy;simp only [aF,List.mem_nil_iff,or_false] at hy;rcases hy with rfl | rfl | rfl | rfl <;> exact ⟨aa,aa⟩
  ·rw [V4];simp only [R6];omega
def twF (t:Int):List Int:=IntKind.u64.wrap (IntKind.u64.wrap (t*977)+IntKind.u64.wrap (t*4294967296)) :: IntKind.u64.wrap (Int.fdiv t 4294967296+if IntKind.u64.wrap (IntKind.u64.wrap (t*977)+IntKind.u64.wrap (t*4294967296))<IntKind.u64.wrap (t*977) then 1 else 0) :: 0 :: 0 :: []
theorem as2 {t:Int} (h0:0≤t) (h1:t<1099511627776):Wn 4 (twF t)∧V (twF t)=t*4294968273:=by
 unfold twF;rw [Int.fdiv_eq_ediv_of_nonneg _ aa];simp only [H5];obtain ⟨q,r,rfl,hq,hr0,hr1⟩:∃ q r:Int,t=4294967296*q+r∧(0≤q∧q<256)∧0≤r∧r<4294967296:=⟨t / 4294967296,t % 4294967296,aa,aa,aa,aa⟩;have e1:(4294967296*q+r)*977 % 18446744073709551616=(4294967296*q+r)*977:=aa;have e2:(4294967296*q+r)*4294967296 % 18446744073709551616=r*4294967296:=aa;have e3:(4294967296*q+r) / 4294967296=q:=aa;rw [e1,e2,e3];refine ⟨⟨rfl,?_⟩,?_⟩
 ·intro y hy;simp only [aF,List.mem_nil_iff,or_false] at hy;rcases hy with rfl | rfl | rfl | rfl
  ·exact ⟨aa,aa⟩
  ·split <;> exact ⟨aa,aa⟩
  ·exact X7
  ·exact X7
 ·rw [V4];by_cases hs:(4294967296*q+r)*977+r*4294967296<18446744073709551616
  ·have e4:((4294967296*q+r)*977+r*4294967296) % 18446744073709551616=(4294967296*q+r)*977+r*4294967296:=aa;rw [e4,if_neg aa];omega
  ·have e4:((4294967296*q+r)*977+r*4294967296) % 18446744073709551616=(4294967296*q+r)*977+r*4294967296 - 18446744073709551616:=aa;rw [e4,if_pos aa];omega
theorem apA {d:List Int} (hd:YW 16 d):YW 10 (A4 (Yg d) (W4,0) 10).1∧R6 (A4 (Yg d) (W4,0) 10).1=R6 (d.take 8)+4294968273*R6 (d.drop 8)∧R6 (d.take 8)+115792089237316195423570985008687907853269984665640564039457584007913129639936*R6 (d.drop 8)=R6 d∧(0≤R6 (d.take 8)∧R6 (d.take 8)<115792089237316195423570985008687907853269984665640564039457584007913129639936)∧(0≤R6 (d.drop 8)∧R6 (d.drop 8)<115792089237316195423570985008687907853269984665640564039457584007913129639936):=by
 obtain ⟨h1,h2,h3,h4⟩:=aaS hd 10 aa;have b1:=adE 8 _ (amK (n:=8) 8 hd);have b2:=adE 8 _ (amL (n:=8) 8 hd);have b3:=adE 10 _ h1;have hdl:(d.drop 8).length=8:=by rw [aG,hd.1]
 have ea:=ail (d.take 8) (d.drop 8);rw [List.take_append_drop,List.length_take,hd.1,show min 8 16=8 by omega] at ea;rw [show min 10 8=8 by omega,show min (10 - 1) 8=8 by omega,aq (l:=d.drop 8) aa] at h4;have p8:(4294967296:Int) ^ 8=115792089237316195423570985008687907853269984665640564039457584007913129639936:=by decide
 have p10:(4294967296:Int) ^ 10=2135987035920910082395021706169552114602704522356652769947041607822219725780640550022962086936576:=by decide
 rw [p8] at b1 b2 ea;rw [p10] at b3 h4;generalize A4 (Yg d) (W4,0) 10=s at *;generalize R6 (d.take 8)=L at *;generalize R6 (d.drop 8)=H at *;refine ⟨h1,aa,aa,b1,b2⟩
theorem amN {T L H W t:Int} (h1:T=L+115792089237316195423570985008687907853269984665640564039457584007913129639936*H) (h2:W+115792089237316195423570985008687907853269984665640564039457584007913129639936*t=L+4294968273*H):(W+t*4294968273) % 115792089237316195423570985008687907853269984665640564039457584007908834671663=T % 115792089237316195423570985008687907853269984665640564039457584007908834671663:=by
 have:T=(W+t*4294968273)+115792089237316195423570985008687907853269984665640564039457584007908834671663*(H+t):=aa;rw [this,Int.add_mul_emod_self_left]
open Go.Am Go.Sha Go.Ec
theorem Tb (a b:List Int) (ha:Wn 4 a) (hb:Wn 4 b):∃ (s:List Int) (c:Int),Wn 4 s∧C1 c∧V s+115792089237316195423570985008687907853269984665640564039457584007913129639936*c=V a+V b∧m6 Tryz.prog 217 [.agg (cI a),.agg (cI b)] (fun r=>r=.tup [.agg (cI s),.d (.int .u64 c)]):=by
 have hS:∀ k,Wn 4 (A4 (Q3 adC a b) (zI,0) k).1∧C1 (A4 (Q3 adC a b) (zI,0) k).2:=O9 (P:=fun _ (s:List Int × Int)=>Wn 4 s.1∧C1 s.2) ⟨H4,ZD⟩ fun k s hs=>by
  obtain ⟨h1,h2,_⟩:=amH (gI a k,gI b k,s.2) ⟨x5 ha,x5 hb,hs.2⟩;exact ⟨Vi hs.1 h1,h2⟩
 refine ⟨(A4 (Q3 adC a b) (zI,0) 4).1,(A4 (Q3 adC a b) (zI,0) 4).2,(hS 4).1,(hS 4).2,auT amH ha hb,?_⟩;refine t6 Tryz.func217 Tryz.ntmps217 (rs:=[.cell 4 160,.tmp 5]) (d5 a b) ?_;have hal:=ha.1;have hbl:=hb.1;simp [go_sem,hal,hbl,a8 hal,a8 hbl];generalize hSS:A4 (Q3 adC a b) (zI,0)=S at *
 refine j9 (fun k:Nat=>⟨[(2,.ptr 0 0 0 1),(3,.ptr 32 0 0 1),(4,.ptr 64 0 0 1),(6,.ptr 160 0 0 1),(7,.d (.int .u64 (S k).2)),(8,.d (.int .i64 (k:Int)))],[(160,⟨160,4,[cI (S k).1]⟩),(64,⟨160,4,[cI zI]⟩),(32,⟨160,4,[cI b]⟩),(0,⟨160,4,[cI a]⟩)],1000⟩)
  (fun k=>k≤4) (fun k=>4 - k) 0 aa (by
   rw [← hSS];simp [m7,c6,fv,lk,AV.low,AV.low1,A4]
   and_intros <;> first | rfl | exact o9 _ _) ?_
 intro k hk;obtain ⟨hs1,hs2⟩:=hS k;have hsl:=hs1.1;have w3:=j6 (k:=k) aa;simp only [go_sem,Nat.reduceEqDiff,Nat.reduceAdd,Nat.reduceLT,↓reduceIte];by_cases h4:k<4
 ·refine ⟨fun h=>?_,fun h=>absurd (by exact_mod_cast h4) h⟩;have hka:=B9 (l:=a) (k:=k) aa;have hkb:=B9 (l:=b) (k:=k) aa;have hsn:S (k+1)=Q3 adC a b k (S k):=by rw [← hSS];rfl
  have hk4:(k:Int)<4:=aa;simp only [Q3,adC] at hsn;have hRa:=x5 (k:=k) ha;have hRb:=x5 (k:=k) hb;generalize (S k).2=c0 at *;generalize gI a k=x at *;generalize gI b k=y at *;generalize hs1e:IntKind.u64.wrap (x+y)=s1 at *;generalize hs2e:IntKind.u64.wrap (s1+c0)=s2 at *;refine B7 [0,1,2,3,4,5,6,7] [] 0 (k:=8) ?_;intro G hG;simp [go_sem,hka,hkb,hal,hbl,hsl,hk4,F8,w3,hs1e,hs2e]
  first | refine hG _ _ ?_ | refine ⟨aa,hG _ _ ?_⟩ | refine ⟨aa,aa,hG _ _ ?_⟩ | refine ⟨aa,aa,aa,hG _ _ ?_⟩ | refine ⟨aa,aa,aa,aa,hG _ _ ?_⟩
  clear hG G;by_cases h1:s1<x
  ·rw [if_pos (.inl h1)] at hsn;simp [go_sem,hka,hkb,hal,hbl,hsl,hk4,F8,w3,hs1e,hs2e,h1]
   first | refine c8 (k+1) aa aa ?_ | refine ⟨aa,c8 (k+1) aa aa ?_⟩ | refine ⟨aa,aa,c8 (k+1) aa aa ?_⟩
   rw [hsn];simp [m7,c6,fv,lk,AV.low,AV.low1];and_intros <;> exact o9 _ _
  ·by_cases h2:s2<s1
   ·rw [if_pos (.inr h2)] at hsn;simp [go_sem,hka,hkb,hal,hbl,hsl,hk4,F8,w3,hs1e,hs2e,h1,h2]
    first | refine c8 (k+1) aa aa ?_ | refine ⟨aa,c8 (k+1) aa aa ?_⟩ | refine ⟨aa,aa,c8 (k+1) aa aa ?_⟩
    rw [hsn];simp [m7,c6,fv,lk,AV.low,AV.low1];and_intros <;> exact o9 _ _
   ·rw [if_neg (fun h=>h.elim h1 h2)] at hsn;simp [go_sem,hka,hkb,hal,hbl,hsl,hk4,F8,w3,hs1e,hs2e,h1,h2]
    first | refine c8 (k+1) aa aa ?_ | refine ⟨aa,c8 (k+1) aa aa ?_⟩ | refine ⟨aa,aa,c8 (k+1) aa aa ?_⟩
    rw [hsn];simp [m7,c6,fv,lk,AV.low,AV.low1];and_intros <;> exact o9 _ _
 ·refine ⟨fun h=>absurd (by exact_mod_cast h) h4,fun h=>?_⟩;have hk4:k=4:=aa;subst hk4;simp [go_sem,hsl,a8 hsl,i9 (l:=zI) (n:=4) rfl,d7];exact WC rfl
theorem V6 (a b:List Int) (ha:Wn 4 a) (hb:Wn 4 b):∃ (s:List Int) (c:Int),Wn 4 s∧C1 c∧V s - 115792089237316195423570985008687907853269984665640564039457584007913129639936*c=V a - V b∧m6 Tryz.prog 238 [.agg (cI a),.agg (cI b)] (fun r=>r=.tup [.agg (cI s),.d (.int .u64 c)]):=by
 have hS:∀ k,Wn 4 (A4 (Q3 adD a b) (zI,0) k).1∧C1 (A4 (Q3 adD a b) (zI,0) k).2:=O9 (P:=fun _ (s:List Int × Int)=>Wn 4 s.1∧C1 s.2) ⟨H4,ZD⟩ fun k s hs=>by
  obtain ⟨h1,h2,_⟩:=amI (gI a k,gI b k,s.2) ⟨x5 ha,x5 hb,hs.2⟩;exact ⟨Vi hs.1 h1,h2⟩
 refine ⟨(A4 (Q3 adD a b) (zI,0) 4).1,(A4 (Q3 adD a b) (zI,0) 4).2,(hS 4).1,(hS 4).2,auU amI ha hb,?_⟩;refine t6 Tryz.func238 Tryz.ntmps238 (rs:=[.cell 4 160,.tmp 5]) (d5 a b) ?_;have hal:=ha.1;have hbl:=hb.1;simp [go_sem,hal,hbl,a8 hal,a8 hbl];generalize hSS:A4 (Q3 adD a b) (zI,0)=S at *
 refine j9 (fun k:Nat=>⟨[(2,.ptr 0 0 0 1),(3,.ptr 32 0 0 1),(4,.ptr 64 0 0 1),(6,.ptr 160 0 0 1),(7,.d (.int .u64 (S k).2)),(8,.d (.int .i64 (k:Int)))],[(160,⟨160,4,[cI (S k).1]⟩),(64,⟨160,4,[cI zI]⟩),(32,⟨160,4,[cI b]⟩),(0,⟨160,4,[cI a]⟩)],1000⟩)
  (fun k=>k≤4) (fun k=>4 - k) 0 aa (by
   rw [← hSS];simp [m7,c6,fv,lk,AV.low,AV.low1,A4]
   and_intros <;> first | rfl | exact o9 _ _) ?_
 intro k hk;obtain ⟨hs1,hs2⟩:=hS k;have hsl:=hs1.1;have w3:=j6 (k:=k) aa;simp only [go_sem,Nat.reduceEqDiff,Nat.reduceAdd,Nat.reduceLT,↓reduceIte];by_cases h4:k<4
 ·refine ⟨fun h=>?_,fun h=>absurd (by exact_mod_cast h4) h⟩;have hka:=B9 (l:=a) (k:=k) aa;have hkb:=B9 (l:=b) (k:=k) aa;have hsn:S (k+1)=Q3 adD a b k (S k):=by rw [← hSS];rfl
  have hk4:(k:Int)<4:=aa;simp only [Q3,adD] at hsn;have hRa:=x5 (k:=k) ha;have hRb:=x5 (k:=k) hb;generalize (S k).2=c0 at *;generalize gI a k=x at *;generalize gI b k=y at *;generalize hs1e:IntKind.u64.wrap (IntKind.u64.wrap (x - y) - c0)=s1 at *;refine B7 [0,1,2,3,4,5,6,7,8,9,10] [(11,[])] 0 (k:=12) ?_;intro G hG;simp [go_sem,hka,hkb,hal,hbl,hsl,hk4,F8,w3,hs1e]
  first | refine hG _ _ ?_ | refine ⟨aa,hG _ _ ?_⟩ | refine ⟨aa,aa,hG _ _ ?_⟩ | refine ⟨aa,aa,aa,hG _ _ ?_⟩ | refine ⟨aa,aa,aa,aa,hG _ _ ?_⟩
  clear hG G;by_cases h1:x<y
  ·rw [if_pos (.inl h1)] at hsn;refine B7 [0,1,2,3,4,5,6,7,8,9,10,11,12,13,14,15,16,17,18,19] [] 0 (k:=20) ?_;intro G hG;simp [go_sem,hka,hkb,hal,hbl,hsl,hk4,F8,w3,hs1e,h1]
   first | refine hG _ _ ?_ | refine ⟨aa,hG _ _ ?_⟩ | refine ⟨aa,aa,hG _ _ ?_⟩ | refine ⟨aa,aa,aa,hG _ _ ?_⟩ | refine ⟨aa,aa,aa,aa,hG _ _ ?_⟩
   clear hG G;simp [abr,go_sem,hka,hkb,hal,hbl,hsl,hk4,F8,w3,hs1e,h1]
   first | refine c8 (k+1) aa aa ?_ | refine ⟨aa,c8 (k+1) aa aa ?_⟩ | refine ⟨aa,aa,c8 (k+1) aa aa ?_⟩
   rw [hsn];simp [m7,c6,fv,lk,AV.low,AV.low1];and_intros <;> exact o9 _ _
  ·by_cases h2:x=y
   ·by_cases h3:c0=1
    ·rw [if_pos (.inr ⟨h2,h3⟩)] at hsn;refine B7 [0,1,2,3,4,5,6,7,8,9,10,11,12,13,14,15,16,17,18,19] [] 0 (k:=20) ?_;intro G hG;simp [go_sem,hka,hkb,hal,hbl,hsl,hk4,F8,w3,hs1e,h1,h2,h3]
     first | refine hG _ _ ?_ | refine ⟨aa,hG _ _ ?_⟩ | refine ⟨aa,aa,hG _ _ ?_⟩ | refine ⟨aa,aa,aa,hG _ _ ?_⟩ | refine ⟨aa,aa,aa,aa,hG _ _ ?_⟩
     clear hG G;simp [abr,go_sem,hka,hkb,hal,hbl,hsl,hk4,F8,w3,hs1e,h1,h2,h3]
     first | refine c8 (k+1) aa aa ?_ | refine ⟨aa,c8 (k+1) aa aa ?_⟩ | refine ⟨aa,aa,c8 (k+1) aa aa ?_⟩
     rw [hsn];simp [m7,c6,fv,lk,AV.low,AV.low1];and_intros <;> exact o9 _ _
    ·rw [if_neg (fun h=>h.elim h1 (fun h=>h3 h.2))] at hsn;refine B7 [0,1,2,3,4,5,6,7,8,9,10,11,12,13,14,15,16,17,18,19] [] 0 (k:=20) ?_;intro G hG;simp [go_sem,hka,hkb,hal,hbl,hsl,hk4,F8,w3,hs1e,h1,h2,h3]
     first | refine hG _ _ ?_ | refine ⟨aa,hG _ _ ?_⟩ | refine ⟨aa,aa,hG _ _ ?_⟩ | refine ⟨aa,aa,aa,hG _ _ ?_⟩ | refine ⟨aa,aa,aa,aa,hG _ _ ?_⟩
     clear hG G;simp [abr,go_sem,hka,hkb,hal,hbl,hsl,hk4,F8,w3,hs1e,h1,h2,h3]
     first | refine c8 (k+1) aa aa ?_ | refine ⟨aa,c8 (k+1) aa aa ?_⟩ | refine ⟨aa,aa,c8 (k+1) aa aa ?_⟩
     rw [hsn];simp [m7,c6,fv,lk,AV.low,AV.low1];and_intros <;> exact o9 _ _
   ·rw [if_neg (fun h=>h.elim h1 (fun h=>h2 h.1))] at hsn;refine B7 [0,1,2,3,4,5,6,7,8,9,10,11,12,13,14,15,16,17,18,19] [] 0 (k:=20) ?_;intro G hG;simp [go_sem,hka,hkb,hal,hbl,hsl,hk4,F8,w3,hs1e,h1,h2]
    first | refine hG _ _ ?_ | refine ⟨aa,hG _ _ ?_⟩ | refine ⟨aa,aa,hG _ _ ?_⟩ | refine ⟨aa,aa,aa,hG _ _ ?_⟩ | refine ⟨aa,aa,aa,aa,hG _ _ ?_⟩
    clear hG G;simp [abr,go_sem,hka,hkb,hal,hbl,hsl,hk4,F8,w3,hs1e,h1,h2]
    first | refine c8 (k+1) aa aa ?_ | refine ⟨aa,c8 (k+1) aa aa ?_⟩ | refine ⟨aa,aa,c8 (k+1) aa aa ?_⟩
    rw [hsn];simp [m7,c6,fv,lk,AV.low,AV.low1];and_intros <;> exact o9 _ _
 ·refine ⟨fun h=>absurd (by exact_mod_cast h) h4,fun h=>?_⟩;have hk4:k=4:=aa;subst hk4;simp [go_sem,hsl,a8 hsl,i9 (l:=zI) (n:=4) rfl,d7];exact WC rfl
theorem TM:m6 Tryz.prog 218 [] (fun r=>r=.agg (cI WF)):=by
 refine t6 Tryz.func218 Tryz.ntmps218 (rs:=[.cell 0 160]) ae ?_;simp [go_sem,cI,zI,d7];exact A7 (a:=WF) rfl
theorem acj:m6 Tryz.prog 225 [] (fun r=>r=.agg (cI odI)):=by
 refine t6 Tryz.func225 Tryz.ntmps225 (rs:=[.cell 0 160]) ae ?_;simp [go_sem,cI,zI,d7];exact A7 (a:=odI) rfl
theorem amO:V WF=115792089237316195423570985008687907853269984665640564039457584007908834671663:=by simp [V,WF]
theorem O0 (a:List Int) (ha:Wn 4 a):∃ r,Wn 4 r∧V r=V a % 115792089237316195423570985008687907853269984665640564039457584007908834671663∧W1 221 a r:=by
 obtain ⟨d,c,hd,hc,hv,hf⟩:=V6 a WF ha W7;have va:=G5 ha;have vd:=G5 hd;rw [amO] at hv;have hc1:=hc.1;have hc2:=hc.2;have hal:=ha.1;have hdl:=hd.1;by_cases h0:c=0
 ·refine ⟨d,hd,by subst h0;omega,?_⟩;unfold W1;refine t6 Tryz.func221 Tryz.ntmps221 (rs:=[.cell 2 160]) (m9 a) ?_;simp [go_sem,hal,a8 hal];refine C4 [0] [1,2,6,7] [0,3,4,5,8] (.alt (ah 1 (.alt (.step 2 [3,4,5] true (ah 6 (.step 7 [8] true .done))) (ah 6 (.step 2 [3,4,5] true (.step 7 [8] true .done))))) (ah 6 (ah 1 (.step 2 [3,4,5] true (.step 7 [8] true .done))))) ⟨[(1,.ptr 0 0 0 1),(2,.ptr 32 0 0 1),(3,.ptr 256 0 0 1),(4,.d (.int .u64 c))],[(256,⟨160,4,[cI d]⟩),(32,⟨160,4,[cI zI]⟩),(0,⟨160,4,[cI a]⟩)],9000⟩ (k:=9) ?h3 ?hq
  case h3 =>
   intro G hG
   have hW:∀ (fr:Fr) (hp:Hp),(fv 1 fr=.ptr 0 0 0 1∧fv 2 fr=.ptr 32 0 0 1∧fv 3 fr=.ptr 256 0 0 1∧fv 4 fr=.d (.int .u64 c)∧lk 256 hp=some ⟨160,4,[cI d]⟩∧lk 32 hp=some ⟨160,4,[cI zI]⟩∧lk 0 hp=some ⟨160,4,[cI a]⟩)→G fr hp:=by
    rintro fr hp ⟨q0,q1,q2,q3,q4,q5,q6⟩;exact hG _ _ Rz
   simp [go_sem,hal,a8 hal,hdl,a8 hdl,i9 (l:=zI) (n:=4) rfl,A6]
   repeat' first | exact hW _ _ ⟨rfl,rfl,rfl,rfl,rfl,rfl,rfl⟩ | (refine hW _ _ ?_;simp [fv,lk];done) | refine a9 TM ab ?_ | refine a9 hf (d5 _ _) ?_ | apply And.intro | simp [go_sem,hal,a8 hal,hdl,a8 hdl,i9 (l:=zI) (n:=4) rfl,A6]
  case hq =>
   simp [go_sem,h0,hdl,a8 hdl,i9 (l:=zI) (n:=4) rfl,d7];exact A7 rfl
 ·have h1:c=1:=aa;refine ⟨a,ha,aa,?_⟩;unfold W1;refine t6 Tryz.func221 Tryz.ntmps221 (rs:=[.cell 2 160]) (m9 a) ?_;simp [go_sem,hal,a8 hal];refine C4 [0] [1,2,6,7] [0,3,4,5,8] (.alt (ah 1 (.alt (.step 2 [3,4,5] true (ah 6 (.step 7 [8] true .done))) (ah 6 (.step 2 [3,4,5] true (.step 7 [8] true .done))))) (ah 6 (ah 1 (.step 2 [3,4,5] true (.step 7 [8] true .done))))) ⟨[(1,.ptr 0 0 0 1),(2,.ptr 32 0 0 1),(3,.ptr 256 0 0 1),(4,.d (.int .u64 c))],[(256,⟨160,4,[cI d]⟩),(32,⟨160,4,[cI zI]⟩),(0,⟨160,4,[cI a]⟩)],9000⟩ (k:=9) ?h3 ?hq
  case h3 =>
   intro G hG
   have hW:∀ (fr:Fr) (hp:Hp),(fv 1 fr=.ptr 0 0 0 1∧fv 2 fr=.ptr 32 0 0 1∧fv 3 fr=.ptr 256 0 0 1∧fv 4 fr=.d (.int .u64 c)∧lk 256 hp=some ⟨160,4,[cI d]⟩∧lk 32 hp=some ⟨160,4,[cI zI]⟩∧lk 0 hp=some ⟨160,4,[cI a]⟩)→G fr hp:=by
    rintro fr hp ⟨q0,q1,q2,q3,q4,q5,q6⟩;exact hG _ _ Rz
   simp [go_sem,hal,a8 hal,hdl,a8 hdl,i9 (l:=zI) (n:=4) rfl,A6]
   repeat' first | exact hW _ _ ⟨rfl,rfl,rfl,rfl,rfl,rfl,rfl⟩ | (refine hW _ _ ?_;simp [fv,lk];done) | refine a9 TM ab ?_ | refine a9 hf (d5 _ _) ?_ | apply And.intro | simp [go_sem,hal,a8 hal,hdl,a8 hdl,i9 (l:=zI) (n:=4) rfl,A6]
  case hq =>
   simp [go_sem,h1,hal,a8 hal,i9 (l:=zI) (n:=4) rfl,d7];exact A7 rfl
theorem apC (a b:List Int) (ha:Wn 4 a) (hb:Wn 4 b):∃ r,Wn 4 r∧V r=(V a+V b) % 115792089237316195423570985008687907853269984665640564039457584007908834671663∧W2 223 a b r:=by
 obtain ⟨a1,ha1,va1,f1⟩:=O0 a ha;obtain ⟨b1,hb1,vb1,f2⟩:=O0 b hb;obtain ⟨s,c,hs,hc,vs,f3⟩:=Tb a1 b1 ha1 hb1;obtain ⟨s2,c2,hs2,hc2,vs2,f4⟩:=Tb s [4294968273,0,0,0] hs (H8 asv);obtain ⟨r1,hr1,vr1,f5⟩:=O0 s hs;obtain ⟨r2,hr2,vr2,f6⟩:=O0 s2 hs2;have vo:V [4294968273,0,0,0]=4294968273:=by simp [V]
 rw [vo] at vs2;have q1:=G5 hs;have q2:=G5 hs2;have q3:=hc.1;have q4:=hc.2;have q5:=hc2.1;have q6:=hc2.2;unfold W1 at f5 f6;unfold W1 at f1 f2;have hal:=ha.1;have hbl:=hb.1;have hsl:=hs.1;have hz:List.drop 4 (cI zI)=[]:=i9 rfl;have h2l:=hs2.1;have r1l:=hr1.1;have r2l:=hr2.1;unfold W2;by_cases h0:c=0
 ·refine ⟨r1,hr1,by subst h0;rw [vr1];omega,?_⟩;refine t6 Tryz.func223 Tryz.ntmps223 (rs:=[.cell 4 160]) (d5 a b) ?_;simp [go_sem,hal,hbl,a8 hal,a8 hbl];refine C4 [0,2] [1,3,4,8,9] [0,2,5,6,7,10] (.alt (ah 1 (.alt (ah 3 (.alt (.step 4 [5,6,7] true (ah 8 (.step 9 [10] true .done))) (ah 8 (.step 4 [5,6,7] true (.step 9 [10] true .done))))) (ah 8 (ah 3 (.step 4 [5,6,7] true (.step 9 [10] true .done)))))) (ah 8 (ah 1 (ah 3 (.step 4 [5,6,7] true (.step 9 [10] true .done)))))) ⟨[(4,.ptr 64 0 0 1),(5,.ptr 352 0 0 1),(6,.d (.int .u64 c))],[(352,⟨160,4,[cI s]⟩),(64,⟨160,4,[cI zI]⟩)],9000⟩ (k:=11) ?h3 ?hq
  case h3 =>
   intro G hG
   have hW:∀ (fr:Fr) (hp:Hp),(fv 4 fr=.ptr 64 0 0 1∧fv 5 fr=.ptr 352 0 0 1∧fv 6 fr=.d (.int .u64 c)∧lk 352 hp=some ⟨160,4,[cI s]⟩∧lk 64 hp=some ⟨160,4,[cI zI]⟩)→G fr hp:=by
    rintro fr hp ⟨q0,q1,q2,q3,q4⟩;exact hG _ _ Rz
   simp [go_sem,hal,hbl,hsl,a8 hal,a8 hbl,a8 hsl,i9 (l:=zI) (n:=4) rfl,A6]
   repeat' first | exact hW _ _ ⟨rfl,rfl,rfl,rfl,rfl⟩ | (refine hW _ _ ?_;simp [fv,lk];done) | refine a9 f1 (m9 _) ?_ | refine a9 f2 (m9 _) ?_ | refine a9 f3 (d5 _ _) ?_ | apply And.intro | simp [go_sem,hal,hbl,hsl,a8 hal,a8 hbl,a8 hsl,i9 (l:=zI) (n:=4) rfl,A6]
  case hq =>
   simp [go_sem,h0,hsl,a8 hsl];refine a9 f5 (m9 _) ?_;simp [go_sem,r1l,a8 r1l,hz,d7];exact A7 rfl
 ·have h1:c=1:=aa;refine ⟨r2,hr2,by subst h1;rw [vr2];omega,?_⟩;refine t6 Tryz.func223 Tryz.ntmps223 (rs:=[.cell 4 160]) (d5 a b) ?_;simp [go_sem,hal,hbl,a8 hal,a8 hbl];refine C4 [0,2] [1,3,4,8,9] [0,2,5,6,7,10] (.alt (ah 1 (.alt (ah 3 (.alt (.step 4 [5,6,7] true (ah 8 (.step 9 [10] true .done))) (ah 8 (.step 4 [5,6,7] true (.step 9 [10] true .done))))) (ah 8 (ah 3 (.step 4 [5,6,7] true (.step 9 [10] true .done)))))) (ah 8 (ah 1 (ah 3 (.step 4 [5,6,7] true (.step 9 [10] true .done)))))) ⟨[(4,.ptr 64 0 0 1),(5,.ptr 352 0 0 1),(6,.d (.int .u64 c))],[(352,⟨160,4,[cI s]⟩),(64,⟨160,4,[cI zI]⟩)],9000⟩ (k:=11) ?h3 ?hq
  case h3 =>
   intro G hG
   have hW:∀ (fr:Fr) (hp:Hp),(fv 4 fr=.ptr 64 0 0 1∧fv 5 fr=.ptr 352 0 0 1∧fv 6 fr=.d (.int .u64 c)∧lk 352 hp=some ⟨160,4,[cI s]⟩∧lk 64 hp=some ⟨160,4,[cI zI]⟩)→G fr hp:=by
    rintro fr hp ⟨q0,q1,q2,q3,q4⟩;exact hG _ _ Rz
   simp [go_sem,hal,hbl,hsl,a8 hal,a8 hbl,a8 hsl,i9 (l:=zI) (n:=4) rfl,A6]
   repeat' first | exact hW _ _ ⟨rfl,rfl,rfl,rfl,rfl⟩ | (refine hW _ _ ?_;simp [fv,lk];done) | refine a9 f1 (m9 _) ?_ | refine a9 f2 (m9 _) ?_ | refine a9 f3 (d5 _ _) ?_ | apply And.intro | simp [go_sem,hal,hbl,hsl,a8 hal,a8 hbl,a8 hsl,i9 (l:=zI) (n:=4) rfl,A6]
  case hq =>
   simp [go_sem,h1,hsl,a8 hsl];refine a9 f4 (d5 s [4294968273,0,0,0]) ?_;simp [go_sem,h2l,hsl,a8 h2l,i9 hsl];refine a9 f6 (m9 _) ?_;simp [go_sem,r2l,a8 r2l,hz,d7];exact A7 rfl
theorem aim (a b:List Int) (ha:Wn 4 a) (hb:Wn 4 b):∃ r,Wn 4 r∧V r=(V a - V b) % 115792089237316195423570985008687907853269984665640564039457584007908834671663∧W2 226 a b r:=by
 obtain ⟨a1,ha1,va1,f1⟩:=O0 a ha;obtain ⟨b1,hb1,vb1,f2⟩:=O0 b hb;obtain ⟨s,c,hs,hc,vs,f3⟩:=V6 a1 b1 ha1 hb1;obtain ⟨s2,c2,hs2,hc2,vs2,f4⟩:=Tb s WF hs W7;rw [amO] at vs2;have q1:=G5 hs;have q2:=G5 hs2;have q3:=hc.1;have q4:=hc.2;have q5:=hc2.1;have q6:=hc2.2;unfold W1 at f1 f2;have hal:=ha.1;have hbl:=hb.1;have hsl:=hs.1;have hz:List.drop 4 (cI zI)=[]:=i9 rfl;have h2l:=hs2.1;unfold W2;by_cases h0:c=0
 ·refine ⟨s,hs,by subst h0;omega,?_⟩;refine t6 Tryz.func226 Tryz.ntmps226 (rs:=[.cell 4 160]) (d5 a b) ?_;simp [go_sem,hal,hbl,a8 hal,a8 hbl];refine C4 [0,2] [1,3,4,8,9] [0,2,5,6,7,10] (.alt (ah 1 (.alt (ah 3 (.alt (.step 4 [5,6,7] true (ah 8 (.step 9 [10] true .done))) (ah 8 (.step 4 [5,6,7] true (.step 9 [10] true .done))))) (ah 8 (ah 3 (.step 4 [5,6,7] true (.step 9 [10] true .done)))))) (ah 8 (ah 1 (ah 3 (.step 4 [5,6,7] true (.step 9 [10] true .done)))))) ⟨[(4,.ptr 64 0 0 1),(5,.ptr 352 0 0 1),(6,.d (.int .u64 c))],[(352,⟨160,4,[cI s]⟩),(64,⟨160,4,[cI zI]⟩)],9000⟩ (k:=11) ?h3 ?hq
  case h3 =>
   intro G hG
   have hW:∀ (fr:Fr) (hp:Hp),(fv 4 fr=.ptr 64 0 0 1∧fv 5 fr=.ptr 352 0 0 1∧fv 6 fr=.d (.int .u64 c)∧lk 352 hp=some ⟨160,4,[cI s]⟩∧lk 64 hp=some ⟨160,4,[cI zI]⟩)→G fr hp:=by
    rintro fr hp ⟨q0,q1,q2,q3,q4⟩;exact hG _ _ Rz
   simp [go_sem,hal,hbl,hsl,a8 hal,a8 hbl,a8 hsl,i9 (l:=zI) (n:=4) rfl,A6]
   repeat' first | exact hW _ _ ⟨rfl,rfl,rfl,rfl,rfl⟩ | (refine hW _ _ ?_;simp [fv,lk];done) | refine a9 f1 (m9 _) ?_ | refine a9 f2 (m9 _) ?_ | refine a9 f3 (d5 _ _) ?_ | apply And.intro | simp [go_sem,hal,hbl,hsl,a8 hal,a8 hbl,a8 hsl,i9 (l:=zI) (n:=4) rfl,A6]
  case hq =>
   simp [go_sem,h0,hsl,a8 hsl,hz,d7];exact A7 rfl
 ·have h1:c=1:=aa;refine ⟨s2,hs2,by subst h1;omega,?_⟩;refine t6 Tryz.func226 Tryz.ntmps226 (rs:=[.cell 4 160]) (d5 a b) ?_;simp [go_sem,hal,hbl,a8 hal,a8 hbl];refine C4 [0,2] [1,3,4,8,9] [0,2,5,6,7,10] (.alt (ah 1 (.alt (ah 3 (.alt (.step 4 [5,6,7] true (ah 8 (.step 9 [10] true .done))) (ah 8 (.step 4 [5,6,7] true (.step 9 [10] true .done))))) (ah 8 (ah 3 (.step 4 [5,6,7] true (.step 9 [10] true .done)))))) (ah 8 (ah 1 (ah 3 (.step 4 [5,6,7] true (.step 9 [10] true .done)))))) ⟨[(4,.ptr 64 0 0 1),(5,.ptr 352 0 0 1),(6,.d (.int .u64 c))],[(352,⟨160,4,[cI s]⟩),(64,⟨160,4,[cI zI]⟩)],9000⟩ (k:=11) ?h3 ?hq
  case h3 =>
   intro G hG
   have hW:∀ (fr:Fr) (hp:Hp),(fv 4 fr=.ptr 64 0 0 1∧fv 5 fr=.ptr 352 0 0 1∧fv 6 fr=.d (.int .u64 c)∧lk 352 hp=some ⟨160,4,[cI s]⟩∧lk 64 hp=some ⟨160,4,[cI zI]⟩)→G fr hp:=by
    rintro fr hp ⟨q0,q1,q2,q3,q4⟩;exact hG _ _ Rz
   simp [go_sem,hal,hbl,hsl,a8 hal,a8 hbl,a8 hsl,i9 (l:=zI) (n:=4) rfl,A6]
   repeat' first | exact hW _ _ ⟨rfl,rfl,rfl,rfl,rfl⟩ | (refine hW _ _ ?_;simp [fv,lk];done) | refine a9 f1 (m9 _) ?_ | refine a9 f2 (m9 _) ?_ | refine a9 f3 (d5 _ _) ?_ | apply And.intro | simp [go_sem,hal,hbl,hsl,a8 hal,a8 hbl,a8 hsl,i9 (l:=zI) (n:=4) rfl,A6]
  case hq =>
   simp [go_sem,h1,hsl,a8 hsl];refine C4 [0] [1,2,5,6] [0,3,4] (ah 1 (.step 2 [3,4] true (.alt (ah 5 (ag [6])) (ag [6,5])))) ⟨[(4,.ptr 64 0 0 1),(5,.ptr 352 0 0 1)],[(352,⟨160,4,[cI s2]⟩),(64,⟨160,4,[cI zI]⟩)],20000⟩ (k:=7) ?h3 ?hq
   case h3 =>
    intro G hG
    have hW:∀ (fr:Fr) (hp:Hp),(fv 4 fr=.ptr 64 0 0 1∧fv 5 fr=.ptr 352 0 0 1∧lk 352 hp=some ⟨160,4,[cI s2]⟩∧lk 64 hp=some ⟨160,4,[cI zI]⟩)→G fr hp:=by
     rintro fr hp ⟨q0,q1,q2,q3⟩;exact hG _ _ Rz
    simp [go_sem,hsl,h2l,a8 hsl,a8 h2l,i9 hsl,hz,A6]
    repeat' first | exact hW _ _ ⟨rfl,rfl,rfl,rfl⟩ | (refine hW _ _ ?_;simp [fv,lk];done) | refine a9 TM ab ?_ | refine a9 f4 (d5 _ _) ?_ | apply And.intro | simp [go_sem,hsl,h2l,a8 hsl,a8 h2l,i9 hsl,hz,A6]
   case hq =>
    simp [go_sem,h2l,a8 h2l,hz,d7];exact A7 rfl
theorem apD (a:List Int) (ha:Wn 4 a):∃ r,Wn 4 r∧V r=(0 - V a) % 115792089237316195423570985008687907853269984665640564039457584007908834671663∧W1 222 a r:=by
 obtain ⟨r,hr,vr,f1⟩:=aim zI a H4 ha;have v0:V zI=0:=by simp [V,zI]
 rw [v0] at vr;unfold W2 at f1;have hal:=ha.1;have hrl:=hr.1;have hz:List.drop 4 (cI zI)=[]:=i9 rfl;refine ⟨r,hr,vr,?_⟩;unfold W1;refine t6 Tryz.func222 Tryz.ntmps222 (rs:=[.cell 2 160]) (m9 a) ?_;simp [go_sem,hal,a8 hal];refine a9 f1 (d5 zI a) ?_;simp [go_sem,hrl,a8 hrl,hz,d7];exact A7 rfl
theorem gg {l:List Int} (hl:l.length=4) (j:Nat) (hj:j<4):∀ h,(cI l)[j]'h=.d (.int .u64 (gI l j)):=fun h=>(ak.1 (by rw [TX,B9 aa];rfl)).2
theorem ZS {a:List Int} (ha:Wn 4 a):gI a 0 % 2=V a % 2:=by
 obtain ⟨a0,a1,a2,a3,rfl,h0,h1,h2,h3⟩:=Rv ha;show a0 % 2=_;rw [V4];omega
theorem afg (a m:List Int) (ha:Wn 4 a) (hm:Wn 4 m):∃ r,Wn 4 r∧V r=(if V a % 2=0 then V a / 2 else (V a+V m) / 2)∧W2 239 a m r:=by
 obtain ⟨s,c,hs,hc,vs,f1⟩:=Tb a m ha hm;obtain ⟨h1,v1⟩:=amJ ha ZD;obtain ⟨h2,v2⟩:=amJ hs hc;have hal:=ha.1;have hml:=hm.1;have hsl:=hs.1;have h1l:=h1.1;have h2l:=h2.1;have hz:List.drop 4 (cI zI)=[]:=i9 rfl;have p2:=ZS ha;have ka0:=B9 (l:=a) (k:=0) aa;have ka1:=B9 (l:=a) (k:=1) aa;have ka2:=B9 (l:=a) (k:=2) aa;have ka3:=B9 (l:=a) (k:=3) aa;have ks0:=B9 (l:=s) (k:=0) aa;have ks1:=B9 (l:=s) (k:=1) aa;have ks2:=B9 (l:=s) (k:=2) aa;have ks3:=B9 (l:=s) (k:=3) aa;have hah:(cI a).head?=some (.d (.int .u64 (gI a 0))):=by rw [List.head?_eq_getElem?,TX,ka0];rfl
 have hsh:(cI s).head?=some (.d (.int .u64 (gI s 0))):=by rw [List.head?_eq_getElem?,TX,ks0];rfl
 have e1:cI (Yh a 0)=[AV.d (.int .u64 (Go.bits .or .u64 (Int.fdiv (gI a 0) 2) (IntKind.u64.wrap (gI a 1*9223372036854775808)))),AV.d (.int .u64 (Go.bits .or .u64 (Int.fdiv (gI a 1) 2) (IntKind.u64.wrap (gI a 2*9223372036854775808)))),AV.d (.int .u64 (Go.bits .or .u64 (Int.fdiv (gI a 2) 2) (IntKind.u64.wrap (gI a 3*9223372036854775808)))),AV.d (.int .u64 (Go.bits .or .u64 (Int.fdiv (gI a 3) 2) (IntKind.u64.wrap 0)))]:=rfl;have e2:cI (Yh s c)=[AV.d (.int .u64 (Go.bits .or .u64 (Int.fdiv (gI s 0) 2) (IntKind.u64.wrap (gI s 1*9223372036854775808)))),AV.d (.int .u64 (Go.bits .or .u64 (Int.fdiv (gI s 1) 2) (IntKind.u64.wrap (gI s 2*9223372036854775808)))),AV.d (.int .u64 (Go.bits .or .u64 (Int.fdiv (gI s 2) 2) (IntKind.u64.wrap (gI s 3*9223372036854775808)))),AV.d (.int .u64 (Go.bits .or .u64 (Int.fdiv (gI s 3) 2) (IntKind.u64.wrap (c*9223372036854775808))))]:=rfl;unfold W2;by_cases h0:V a % 2=0
 ·refine ⟨Yh a 0,h1,by rw [v1,if_pos h0];omega,?_⟩;refine t6 Tryz.func239 Tryz.ntmps239 (rs:=[.cell 4 160]) (d5 a m) ?_;have g0:gI a 0 % 2=0:=aa;have g0t:Int.tmod (gI a 0) 2=0:=by rw [Int.tmod_eq_emod_of_nonneg (x5 ha).1];exact g0
  simp [go_sem,hal,hml,a8 hal,a8 hml,ka0,ka1,ka2,ka3,gg hal 1 aa,gg hal 2 aa,gg hal 3 aa,hah,g0,g0t,IntKind.bits,hz,d7];exact A7 (a:=Yh a 0) (by rw [e1])
 ·refine ⟨Yh s c,h2,by rw [v2,vs,if_neg h0],?_⟩;refine t6 Tryz.func239 Tryz.ntmps239 (rs:=[.cell 4 160]) (d5 a m) ?_;have g0:gI a 0 % 2=1:=aa;have g0t:Int.tmod (gI a 0) 2=1:=by rw [Int.tmod_eq_emod_of_nonneg (x5 ha).1];exact g0
  simp [go_sem,hal,hml,a8 hal,a8 hml,ka0,hah,g0,g0t,IntKind.bits];refine a9 f1 (d5 _ _) ?_;simp [go_sem,hal,hml,hsl,a8 hal,a8 hml,a8 hsl,ks0,ks1,ks2,ks3,gg hsl 1 aa,gg hsl 2 aa,gg hsl 3 aa,hsh,IntKind.bits,hz,i9 hal,d7];exact A7 (a:=Yh s c) (by rw [e2])
def btN (a:List Int) (k:Nat):Nat:=(V a).toNat / 2 ^ k % 2
theorem avL (a:List Int) (k:Nat):C1 (btN a k:Int):=by
 have:=Nat.mod_two_eq_zero_or_one ((V a).toNat / 2 ^ k);unfold C1 btN;omega
theorem avM {a:List Int} (ha:Wn 4 a) {k:Nat} (hk:k<256):gI a (dq k) / (2:Int) ^ rq k % 2=(btN a k:Int):=by
 have hb:=alV ha hk;have hg:=x5 (k:=dq k) ha;have hp:(0:Int)<2 ^ rq k:=Int.pow_pos aa;have hf:Int.fdiv (gI a (dq k)) (2 ^ rq k)=gI a (dq k) / 2 ^ rq k:=Int.fdiv_eq_ediv_of_nonneg _ (Int.le_of_lt hp);have h0:0≤gI a (dq k) / (2:Int) ^ rq k:=Int.ediv_nonneg hg.1 (Int.le_of_lt hp);have h1:gI a (dq k) / (2:Int) ^ rq k<18446744073709551616:=Int.lt_of_le_of_lt (Int.ediv_le_self _ hg.1) hg.2;unfold abu at hb;rw [hf,ZM _ h0 h1] at hb;unfold btN;have:=Int.emod_two_eq (gI a (dq k) / 2 ^ rq k);rcases this with h | h
 ·rw [h,hb.1 h];rfl
 ·rw [h,hb.2 aa];rfl
theorem Yi (a:List Int) (k:Nat) (ha:Wn 4 a) (hk:k<256):m6 Tryz.prog 184 [.agg (cI a),.d (.int .i64 (k:Int))] (fun r=>r=.d (.int .u64 (btN a k:Int))):=by
 refine t6 Tryz.func184 Tryz.ntmps184 (rs:=[.tmp 4]) (SU _ _) ?_;have hal:=ha.1;have hdq:dq k=k / 64:=rfl;have hrq:rq k=k % 64:=rfl;have hnk:=B9 (l:=a) (k:=dq k) aa;have w4:IntKind.i64.wrap ((k:Int) / 64)=(dq k:Int):=by rw [IntWalk.i64_in _ aa];omega
 have w4b:IntKind.i64.wrap ((k:Int).tdiv 64)=(dq k:Int):=w4;have e2:(k:Int) % 64=(rq k:Int):=aa;have e2b:(k:Int).tmod 64=(rq k:Int):=e2;have i1:(dq k:Int)<4:=aa;have hm64:rq k<64:=aa;have hmn:min (rq k) 64=rq k:=aa;have w5:IntKind.u64.wrap (rq k:Int)=(rq k:Int):=by rw [H5];omega
 have hg:=x5 (k:=dq k) ha;have hp:(0:Int)<2 ^ rq k:=Int.pow_pos aa
 have hp2:(2:Int) ^ rq k<18446744073709551616:=by
  have h:=Nat.pow_lt_pow_right (a:=2) aa hm64;have h2:(((2 ^ rq k:Nat)):Int)<((2 ^ 64:Nat):Int):=Int.ofNat_lt.2 h;rw [Int.natCast_pow] at h2;exact Int.lt_of_lt_of_le h2 (Int.le_of_eq rfl)
 have hw:=avM ha hk;have h0:0≤gI a (dq k) / (2:Int) ^ rq k:=Int.ediv_nonneg hg.1 (Int.le_of_lt hp);have h1:gI a (dq k) / (2:Int) ^ rq k<18446744073709551616:=Int.lt_of_le_of_lt (Int.ediv_le_self _ hg.1) hg.2;have ht:(gI a (dq k)).tdiv (2 ^ rq k)=gI a (dq k) / 2 ^ rq k:=Int.tdiv_eq_ediv_of_nonneg hg.1;have hW:IntKind.u64.wrap ((2:Int) ^ rq k)=2 ^ rq k:=by rw [H5];exact Int.emod_eq_of_lt (Int.le_of_lt hp) hp2
 have hne:¬ ((2:Int) ^ rq k=0):=aa;have hWq:IntKind.u64.wrap (gI a (dq k) / 2 ^ rq k)=gI a (dq k) / 2 ^ rq k:=by rw [H5];exact Int.emod_eq_of_lt h0 h1
 have hm:(gI a (dq k) / 2 ^ rq k).tmod 2=(btN a k:Int):=by rw [Int.tmod_eq_emod_of_nonneg h0,hw]
 generalize hq:gI a (dq k) / (2:Int) ^ rq k=q at *;simp [go_sem,hal,a8 hal,hnk,e2,e2b,w4,w4b,i1,hm64,hmn,w5,IntKind.bits,hW,hne,ht,hq,hWq,hm,hw,d7];exact b7 ae rfl
def lnN (a:List Int):Nat→Nat
 | 0=>0
 | k+1=>if btN a k=0 then lnN a k else k+1
theorem amP (a:List Int):∀ k,lnN a k≤k
 | 0=>av _
 | k+1=>by
  unfold lnN
  split
  ·have:=amP a k;omega
  ·omega
theorem amQ (a:List Int):∀ k,(V a).toNat<2 ^ k→(V a).toNat<2 ^ lnN a k
 | 0,h=>h
 | k+1,h=>by
  unfold lnN
  split
  ·rename_i h0;refine amQ a k ?_;unfold btN at h0;rw [Nat.pow_succ] at h;have hlt:(V a).toNat / 2 ^ k<2:=Nat.div_lt_of_lt_mul h
   have h00:(V a).toNat / 2 ^ k=0:=by
    generalize (V a).toNat / 2 ^ k=z at *;omega
   exact (Nat.div_eq_zero_iff_lt (Nat.two_pow_pos k)).1 h00
  ·exact h
theorem ain {a:List Int} (ha:Wn 4 a):(V a).toNat<2 ^ 256:=by
 have h:=G5 ha;have:(2:Nat) ^ 256=115792089237316195423570985008687907853269984665640564039457584007913129639936:=by decide
 omega
theorem apG (a:List Int) (ha:Wn 4 a):∃ n:Nat,n≤256∧(V a).toNat<2 ^ n∧m6 Tryz.prog 182 [.agg (cI a)] (fun r=>r=.d (.int .i64 (n:Int))):=by
 refine ⟨lnN a 256,amP a 256,amQ a 256 (ain ha),?_⟩;refine t6 Tryz.func182 Tryz.ntmps182 (rs:=[.tmp 2]) (m9 a) ?_;have hal:=ha.1;generalize hF:lnN a 256=F;simp [go_sem,hal,a8 hal]
 refine j9 (fun k:Nat=>⟨[(1,.ptr 0 0 0 1),(3,.d (.int .i64 (k:Int)))],[(0,⟨160,4,[cI a]⟩)],500⟩)
  (fun k=>k≤256∧lnN a k=F) (fun k=>k) 256 ⟨aa,hF⟩ (by
   simp [m7,c6,fv,lk,AV.low,AV.low1]
   first | rfl | exact o9 _ _) ?_
 rintro k ⟨hk,hq⟩
 cases k with
 | zero =>
  have:F=0:=hq.symm;subst this;simp [go_sem,d7];exact b7 ae rfl
 | succ k =>
  have w3:IntKind.i64.wrap (((k+1:Nat):Int) - 1)=(k:Int):=by rw [IntWalk.i64_in _ aa];omega
  have w3b:IntKind.i64.wrap (((k:Int)+1) - 1)=(k:Int):=by rw [IntWalk.i64_in _ aa];omega
  have p0:(0:Int)<(k:Int)+1:=aa;have w3c:IntKind.i64.wrap (k:Int)=(k:Int):=IntWalk.i64_in _ aa;unfold lnN at hq;simp [go_sem,p0,w3,w3b,w3c,hal,a8 hal];refine a9 (Yi a k ha aa) (SU _ _) ?_;by_cases hb:btN a k=0
  ·rw [if_pos hb] at hq;simp [go_sem,p0,w3,w3b,w3c,hb];refine c8 k ⟨aa,hq⟩ aa ?_;simp [m7,c6,fv,lk,AV.low,AV.low1]
   first | rfl | exact o9 _ _
  ·rw [if_neg hb] at hq;subst hq;simp [go_sem,p0,w3,w3b,w3c,hb,d7];exact b7 ae rfl
theorem YX (b:List Nat) (i:Nat):(RJ b i).length=4:=by simp [RJ]
theorem amR (b:List Nat) (hb:b.length=32) (hby:∀ x,x ∈ b→x<256):m6 Tryz.prog 175 [.agg (cb b)] (fun r=>r=.agg (cW (RJ b 32))):=by
 refine t6 Tryz.func175 Tryz.ntmps175 (rs:=[.cell 2 160]) (by intro v hv;simp at hv;subst hv;exact Sk _) ?_;have hcl:(cb b).length=32:=by rw [d0];exact hb
 simp [go_sem,hcl]
 refine j9 (fun i:Nat=>⟨[(1,.ptr 0 0 0 1),(2,.ptr 32 0 0 1),(3,.ptr 96 0 0 1),(4,.d (.int .i64 (i:Int)))],[(0,⟨23,32,[cb b]⟩),(32,⟨160,4,[cW [0,0,0,0]]⟩),(96,⟨160,4,[cW (RJ b i)]⟩)],500⟩)
  (fun i=>i≤32) (fun i=>32 - i) 0 aa (by
   simp [m7,c6,fv,lk,AV.low,AV.low1,Sl,ajo]
   repeat' apply And.intro
   all_goals first | rfl | exact SE _ _ | exact o5 _ _) ?_
 intro i hi;simp only [go_sem,Nat.reduceEqDiff,Nat.reduceAdd,Nat.reduceLT,↓reduceIte,Nat.reduceMul];refine ⟨fun h=>?_,fun h=>?_⟩
 ·obtain ⟨c,hc,_⟩:=t5 (l:=b) (k:=i) aa;obtain ⟨w,hw1,hw2,hw4⟩:=ajp hb hby hc;have w3:=j6 (k:=i) aa;have hc8:=hby c (ao hc)
  have q3:IntKind.i64.wrap (3 - IntKind.i64.wrap ((i:Int) / 8))=((3 - i / 8:Nat):Int):=by
   rw [show IntKind.i64.wrap ((i:Int) / 8)=((i / 8:Nat):Int) by rw [IntWalk.i64_in _ aa];omega,IntWalk.i64_in _ aa];omega
  have q5:IntKind.u64.wrap (c:Int)=(c:Int):=by rw [L0];omega
  have q6:IntKind.u64.wrap (IntKind.u64.wrap ((w:Int)*256)+(c:Int))=((w*256+c:Nat):Int):=by
   rw [show IntKind.u64.wrap ((w:Int)*256)=(w:Int)*256 by rw [L0];omega,L0];omega
  have hj4:3 - i / 8<4:=aa;generalize 3 - i / 8=j at *;generalize w*256+c=z at *;refine B7 [0,1,2,3,4,5,6,7,8,9,10,11,12,13,14] [(15,[])] 0 (k:=16) ?_;intro G hG;simp [go_sem,q3,q5,q6,YO,ac6,hc,hw1,Sl,YX,alL,hw4];have hi32:(i:Int)<32:=h;have hj32:(j:Int)<4:=aa
  first
  | refine ⟨hj32,hi32,hj4,hG _ _ ?_⟩
  | refine ⟨hj32,hi32,hj32,hj4,hG _ _ ?_⟩
  | refine ⟨hj4,hG _ _ ?_⟩
  | refine ⟨hj32,hj4,hG _ _ ?_⟩
  | trace_state
  simp [go_sem,w3];refine c8 (i+1) aa aa ?_;simp [m7,c6,fv,lk,AV.low,AV.low1,Sl]
  repeat' apply And.intro
  all_goals first | rfl | exact SE _ _ | exact o5 _ _
 ·have h32:i=32:=aa;subst h32;have htk4:(cW (RJ b 32)).take 4=cW (RJ b 32):=aq (by rw [Sl,YX];omega);have d4:(cW [0,0,0,0]).drop 4=[]:=rfl;simp [go_sem,d7,Sl,YX,htk4,d4];exact b7 (ZL _) rfl
theorem ack (b:List Nat) (hb:b.length=32) (hby:bytes b):∃ a:List Int,Wn 4 a∧V a=(J2 b:Int)∧m6 Tryz.prog 175 [.agg (cb b)] (fun r=>r=.agg (cI a)):=by
 refine ⟨(RJ b 32).map fun (x:Nat)=>(x:Int),⟨by simp [RJ],fun x hx=>?_⟩,amA hb,?_⟩
 ·rw [List.mem_map] at hx;obtain ⟨y,hy,rfl⟩:=hx;unfold RJ at hy;rw [List.mem_map] at hy;obtain ⟨j,_,rfl⟩:=hy;have:=aaC (l:=Go.Sha.part b 32 j) (fun x hx=>hby x (List.mem_of_mem_take (List.mem_of_mem_drop (List.mem_of_mem_take hx)))) (by unfold Go.Sha.part;rw [List.length_take];omega);exact ⟨Int.natCast_nonneg _,aa⟩
 ·have e:cI ((RJ b 32).map fun (x:Nat)=>(x:Int))=cW (RJ b 32):=by unfold cI cW;rw [List.map_map];rfl
  rw [e];exact amR b hb hby
theorem acl (a:List Int) (ha:Wn 4 a):∃ b:List Nat,b.length=32∧bytes b∧J2 b=(V a).toNat∧m6 Tryz.prog 188 [.agg (cI a)] (fun r=>r=.agg (cb b)):=by
 refine ⟨A4 (bst a) z32 32,(YV a 32).1,(YV a 32).2,aqI ha,?_⟩;refine t6 Tryz.func188 Tryz.ntmps188 (rs:=[.cell 2 23]) (m9 a) ?_;have hal:=ha.1;simp [go_sem,hal,a8 hal];generalize hSS:A4 (bst a) z32=S at *;have hS:=YV a;rw [hSS] at hS
 refine j9 (fun k:Nat=>⟨[(1,.ptr 0 0 0 1),(2,.ptr 32 0 0 1),(3,.ptr 96 0 0 1),(4,.d (.int .i64 (k:Int)))],[(96,⟨23,32,[cb (S k)]⟩),(32,⟨23,32,[cb z32]⟩),(0,⟨160,4,[cI a]⟩)],20000⟩)
  (fun k=>k≤32) (fun k=>32 - k) 0 aa (by
   rw [← hSS];simp [m7,c6,fv,lk,AV.low,AV.low1,A4]
   and_intros <;> first | rfl | exact o9 _ _ | exact o5 _ _ | (rw [d0];exact av _)) ?_
 intro k hk;obtain ⟨hs1,hs2⟩:=hS k;have w3:=j6 (k:=k) aa;simp only [go_sem,Nat.reduceEqDiff,Nat.reduceAdd,Nat.reduceLT,↓reduceIte];by_cases h4:k<32
 ·refine ⟨fun h=>?_,fun h=>absurd (by exact_mod_cast h4) h⟩;have hsn:S (k+1)=bst a k (S k):=by rw [← hSS];rfl
  have hdq:d8 k=k / 8:=rfl;have hrq:r8 k=8*(k % 8):=rfl;have hnk:=B9 (l:=a) (k:=d8 k) aa;have w4:IntKind.i64.wrap ((k:Int) / 8)=(d8 k:Int):=by rw [IntWalk.i64_in _ aa];omega
  have w4b:IntKind.i64.wrap ((k:Int).tdiv 8)=(d8 k:Int):=w4;have e2:IntKind.i64.wrap (8*((k:Int) % 8))=(r8 k:Int):=by rw [IntWalk.i64_in _ aa];omega
  have e2b:IntKind.i64.wrap (8*((k:Int).tmod 8))=(r8 k:Int):=e2;have e3:IntKind.i64.wrap (31 - (k:Int))=((31 - k:Nat):Int):=by rw [IntWalk.i64_in _ aa];omega
  have i1:(d8 k:Int)<4:=aa;have hm64:r8 k<64:=aa;have hmn:min (r8 k) 64=r8 k:=aa;have i3:((31 - k:Nat):Int)<32:=aa;have i4:31 - k<32:=aa;have hg:=x5 (k:=d8 k) ha;have hp:(0:Int)<2 ^ r8 k:=Int.pow_pos aa
  have hp2:(2:Int) ^ r8 k<18446744073709551616:=by
   have h:=Nat.pow_lt_pow_right (a:=2) aa hm64;have h2:(((2 ^ r8 k:Nat)):Int)<((2 ^ 64:Nat):Int):=Int.ofNat_lt.2 h;rw [Int.natCast_pow] at h2;exact Int.lt_of_lt_of_le h2 (Int.le_of_eq rfl)
  have w5:IntKind.u64.wrap (r8 k:Int)=(r8 k:Int):=by rw [H5];omega
  have hW:IntKind.u64.wrap ((2:Int) ^ r8 k)=2 ^ r8 k:=by rw [H5];exact Int.emod_eq_of_lt (Int.le_of_lt hp) hp2
  have hne:¬ ((2:Int) ^ r8 k=0):=aa;have h0:0≤gI a (d8 k) / (2:Int) ^ r8 k:=Int.ediv_nonneg hg.1 (Int.le_of_lt hp);have h1:gI a (d8 k) / (2:Int) ^ r8 k<18446744073709551616:=Int.lt_of_le_of_lt (Int.ediv_le_self _ hg.1) hg.2;have ht:(gI a (d8 k)).tdiv (2 ^ r8 k)=gI a (d8 k) / 2 ^ r8 k:=Int.tdiv_eq_ediv_of_nonneg hg.1;have hWq:IntKind.u64.wrap (gI a (d8 k) / 2 ^ r8 k)=gI a (d8 k) / 2 ^ r8 k:=by rw [H5];exact Int.emod_eq_of_lt h0 h1
  have hB:=aic a k;rw [Int.fdiv_eq_ediv_of_nonneg _ (Int.le_of_lt hp)] at hB;generalize hqq:gI a (d8 k) / (2:Int) ^ r8 k=q at *;simp [go_sem,hnk,hal,e2,e2b,w4,w4b,e3,i1,i3,i4,hm64,hmn,w5,IntKind.bits,hW,hne,ht,hqq,hWq,hB,aan,d0,hs1,w3];refine c8 (k+1) aa aa ?_;rw [hsn];simp [m7,c6,fv,lk,AV.low,AV.low1,bst];and_intros <;> first | rfl | exact o9 _ _ | exact o5 _ _
 ·refine ⟨fun h=>absurd (by exact_mod_cast h) h4,fun h=>?_⟩;have hkl:k=32:=aa;subst hkl;simp [go_sem,d0,hs1,d6 hs1,K5 (l:=z32) rfl,d7];exact b7 (Sk _) rfl
theorem amS (a:List Int) (b:Int) (ha:Wn 4 a):m6 Tryz.prog 237 [.agg (cI a),.d (.int .u64 b)] (fun r=>r=.tup [.agg (cI (twW a b)),.d (.int .u64 (gI a 3 / 9223372036854775808))]):=by
 refine t6 Tryz.func237 Tryz.ntmps237 (rs:=[.cell 4 160,.tmp 5]) (Vj _ _) ?_;have hal:=ha.1;have hz:List.drop 4 (cI zI)=[]:=i9 rfl;have ka0:=B9 (l:=a) (k:=0) aa;have ka1:=B9 (l:=a) (k:=1) aa;have ka2:=B9 (l:=a) (k:=2) aa;have ka3:=B9 (l:=a) (k:=3) aa;have hah:(cI a).head?=some (.d (.int .u64 (gI a 0))):=by rw [List.head?_eq_getElem?,TX,ka0];rfl
 have h0:=x5 (k:=0) ha;have h1:=x5 (k:=1) ha;have h2:=x5 (k:=2) ha;have h3:=x5 (k:=3) ha
 have td:∀ x:Int,H1 x→IntKind.u64.wrap (x.tdiv 9223372036854775808)=x / 9223372036854775808:=by
  intro x hx;unfold H1 at hx;rw [Int.tdiv_eq_ediv_of_nonneg hx.1,H5];omega
 have t0:=td _ h0;have t1:=td _ h1;have t2:=td _ h2;have t3:=td _ h3;have e1:cI (twW a b)=[AV.d (.int .u64 (IntKind.u64.wrap (IntKind.u64.wrap (gI a 0*2)+b))),AV.d (.int .u64 (IntKind.u64.wrap (IntKind.u64.wrap (gI a 1*2)+gI a 0 / 9223372036854775808))),AV.d (.int .u64 (IntKind.u64.wrap (IntKind.u64.wrap (gI a 2*2)+gI a 1 / 9223372036854775808))),AV.d (.int .u64 (IntKind.u64.wrap (IntKind.u64.wrap (gI a 3*2)+gI a 2 / 9223372036854775808)))]:=rfl;simp [go_sem,hal,a8 hal,hah,ka0,ka1,ka2,ka3,gg hal 1 aa,gg hal 2 aa,gg hal 3 aa,t0,t1,t2,t3,hz,d7];exact WC (a:=twW a b) (by rw [e1])
def shB (a:List Int) (i:Nat):Int:=if i+2<256 then (btN a (i+2):Int) else 0
def agR (a:List Int) (j:Nat) (s:List Int):List Int:=twW s (shB a (255 - j))
theorem aqK (a:List Int) (i:Nat):C1 (shB a i):=by
 unfold shB
 split
 ·exact avL _ _
 ·exact ZD
theorem amT {a:List Int} (ha:Wn 4 a):∀ j,j≤256→Wn 4 (A4 (agR a) zI j)∧(V (A4 (agR a) zI j)).toNat=(V a).toNat / 4 / 2 ^ (256 - j)
 | 0,_=>by
  refine ⟨H4,?_⟩;have v0:V zI=0:=by simp [V,zI]
  have:=ain ha;show (V zI).toNat=_;rw [v0,Nat.div_eq_of_lt aa];rfl
 | j+1,hj=>by
  obtain ⟨h1,h2⟩:=amT ha j aa;rw [A4];generalize A4 (agR a) zI j=s at *;obtain ⟨k1,k2,k3⟩:=axY h1 (aqK a (255 - j));refine ⟨k1,?_⟩;have q1:=G5 h1;have q2:=G5 k1;have q3:=aqK a (255 - j);unfold agR;have hN:=ain ha;have e:256 - j=(255 - j)+1:=aa;have e2:256 - (j+1)=255 - j:=aa
  have hb:(V a).toNat / 4 / 2 ^ (255 - j)=2*((V a).toNat / 4 / 2 ^ (256 - j))+(shB a (255 - j)).toNat:=by
   have h3:(V a).toNat / 4 / 2 ^ (256 - j)=(V a).toNat / 4 / 2 ^ (255 - j) / 2:=by rw [e,Nat.pow_succ,← Nat.div_div_eq_div_mul]
   have h4:(shB a (255 - j)).toNat=(V a).toNat / 4 / 2 ^ (255 - j) % 2:=by
    have h5:(V a).toNat / 4 / 2 ^ (255 - j)=(V a).toNat / 2 ^ (255 - j+2):=by rw [Nat.div_div_eq_div_mul,Nat.pow_add,Nat.mul_comm]
    rw [h5];unfold shB
    split
    ·rw [Int.toNat_natCast];rfl
    ·rename_i hge;have:2 ^ 256≤2 ^ (255 - j+2):=Nat.pow_le_pow_right aa aa;rw [Nat.div_eq_of_lt aa];rfl
   rw [h3,h4];omega
  rw [e2,hb,← h2];have hs:(V s).toNat≤(V a).toNat / 4:=by rw [h2];exact Nat.div_le_self _ _
  have hM:(2:Nat) ^ 256=115792089237316195423570985008687907853269984665640564039457584007913129639936:=by decide
  have c1:=k2.1;have c2:=k2.2;have b1:=q3.1;have b2:=q3.2;generalize gI s 3 / 9223372036854775808=cc at *;generalize V (twW s (shB a (255 - j)))=X at *;generalize V s=Y at *;generalize shB a (255 - j)=B at *;omega
theorem apH (a:List Int) (ha:Wn 4 a):∃ r,Wn 4 r∧V r=V a / 4∧m6 Tryz.prog 220 [.agg (cI a),.d (.int .i64 2)] (fun x=>x=.agg (cI r)):=by
 have hS:=amT ha;refine ⟨A4 (agR a) zI 256,(hS 256 aa).1,?_,?_⟩
 ·obtain ⟨h1,h2⟩:=hS 256 aa;have q1:=G5 h1;have q2:=G5 ha;rw [Nat.sub_self,Nat.pow_zero,Nat.div_one] at h2;omega
 refine t6 Tryz.func220 Tryz.ntmps220 (rs:=[.cell 4 160]) (SU _ _) ?_;have hal:=ha.1;have hz:List.drop 4 (cI zI)=[]:=i9 rfl;have ix:(255:Int)=ixD 256:=rfl;simp [go_sem,hal,a8 hal];generalize hSS:A4 (agR a) zI=S at *
 refine j9 (fun k:Nat=>⟨[(1,.d (.int .i64 2)),(2,.ptr 0 0 0 1),(4,.ptr 32 0 0 1),(5,.ptr 96 0 0 1),(6,.d (.int .i64 (ixD k)))],[(96,⟨160,4,[cI (S (256 - k))]⟩),(32,⟨160,4,[cI zI]⟩),(0,⟨160,4,[cI a]⟩)],1000⟩)
  (fun k=>k≤256) (fun k=>k) 256 aa (by
   rw [← hSS];simp [m7,c6,fv,lk,AV.low,AV.low1,A4,ixD]
   first | (and_intros <;> first | rfl | exact o9 _ _) | skip) ?_
 intro k hk
 cases k with
 | zero =>
  have hl:=(hS 256 aa).1.1;simp [go_sem,X6,hl,a8 hl,hz,d7];exact A7 rfl
 | succ k =>
  obtain ⟨h1,_⟩:=hS (256 - (k+1)) aa;have hl:=h1.1
  have hsn:S (256 - k)=twW (S (256 - (k+1))) (shB a k):=by
   rw [show 256 - k=(256 - (k+1))+1 by omega,← hSS,A4];unfold agR;rw [show 255 - (256 - (k+1))=k by omega]
  have hl2:(S (256 - k)).length=4:=(hS (256 - k) aa).1.1;have hw:=TW k aa;have w2:IntKind.i64.wrap ((k:Int)+2)=((k+2:Nat):Int):=by rw [IntWalk.i64_in _ aa];omega
  have p0:¬ ((k:Int)<0):=aa;by_cases h2:k+2<256
  ·have hb:shB a k=(btN a (k+2):Int):=by unfold shB;rw [if_pos h2]
   have h2i:(k:Int)+2<256:=aa;have e255:256 - (k+1)=255 - k:=aa;rw [e255] at h1 hl hsn;have hb2:=Yi a (k+2) ha aa;have ec:((k+2:Nat):Int)=(k:Int)+2:=aa;rw [ec] at hb2;have w2b:IntKind.i64.wrap ((k:Int)+2)=(k:Int)+2:=IntWalk.i64_in _ aa;simp [go_sem,Ta,p0,hl,a8 hl,hal,a8 hal,w2b,h2i];refine a9 hb2 (SU _ _) ?_;simp [go_sem,hl,a8 hl];refine a9 (amS _ _ h1) (Vj _ _) ?_;rw [← hb,← hsn];simp [go_sem,Ta,hl,hl2,a8 hl2,i9 hl,hw];refine c8 k aa aa ?_;simp [m7,c6,fv,lk,AV.low,AV.low1];and_intros <;> first | rfl | exact o9 _ _
  ·have hb:shB a k=0:=by unfold shB;rw [if_neg h2]
   have h2i:¬ (k:Int)+2<256:=aa;have e255:256 - (k+1)=255 - k:=aa;rw [e255] at h1 hl hsn;have w2b:IntKind.i64.wrap ((k:Int)+2)=(k:Int)+2:=IntWalk.i64_in _ aa;simp [go_sem,Ta,p0,hl,a8 hl,hal,a8 hal,w2b,h2i];refine a9 (amS _ _ h1) (Vj _ _) ?_;rw [← hb,← hsn];simp [go_sem,Ta,hl,hl2,a8 hl2,i9 hl,hw];refine c8 k aa aa ?_;simp [m7,c6,fv,lk,AV.low,AV.low1];and_intros <;> first | rfl | exact o9 _ _
def agS:List Int:=[0,0,0,0,0,0,0,0,0,0,0,0,0,0,0,0]
theorem avN:O6 Tryz.prog 232=some (cI agS):=by kernel_rfl
theorem avO:O6 Tryz.prog 242=some (cI W4):=by kernel_rfl
theorem ax0:O6 Tryz.prog 230=some (cI YP):=by kernel_rfl
attribute [go_sem] avN avO ax0
theorem amU:agS.length=16:=rfl
theorem amV:W4.length=10:=rfl
theorem amW:YP.length=8:=rfl
attribute [go_sem] amU amV amW
theorem ggn {l:List Int} (j:Nat) (hj:j<l.length):∀ h,(cI l)[j]'h=.d (.int .u64 (gI l j)):=fun h=>(ak.1 (by rw [TX,B9 hj];rfl)).2
theorem amX (z:Int):Int.fdiv z 4294967296=z / 4294967296:=Int.fdiv_eq_ediv_of_nonneg _ aa
theorem aaT (a:List Int) (ha:Wn 4 a):m6 Tryz.prog 229 [.agg (cI a)] (fun r=>r=.agg (cI (A4 (abv a) YP 8))):=by
 refine t6 Tryz.func229 Tryz.ntmps229 (rs:=[.cell 2 230]) (m9 a) ?_;have hal:=ha.1;simp [go_sem,hal,a8 hal];generalize hSS:A4 (abv a) YP=S at *
 have hS:∀ k,(S k).length=8:=by
  intro k;rw [← hSS];exact O9 (P:=fun _ (s:List Int)=>s.length=8) rfl (fun k s hs=>by unfold abv;rw [List.length_set];exact hs) k
 refine j9 (fun k:Nat=>⟨[(1,.ptr 0 0 0 1),(2,.ptr 32 0 0 1),(3,.ptr 96 0 0 1),(4,.d (.int .i64 (k:Int)))],[(96,⟨230,8,[cI (S k)]⟩),(32,⟨230,8,[cI YP]⟩),(0,⟨160,4,[cI a]⟩)],1000⟩)
  (fun k=>k≤8) (fun k=>8 - k) 0 aa (by
   rw [← hSS];simp [m7,c6,fv,lk,AV.low,AV.low1,A4]
   and_intros <;> first | rfl | exact o9 _ _) ?_
 intro k hk;have hsl:=hS k;have w3:=j6 (k:=k) aa;simp only [go_sem,Nat.reduceEqDiff,Nat.reduceAdd,Nat.reduceLT,↓reduceIte];by_cases h4:k<8
 ·refine ⟨fun h=>?_,fun h=>absurd (by exact_mod_cast h4) h⟩;have hsn:S (k+1)=abv a k (S k):=by rw [← hSS];rfl
  generalize hdd:k / 2=d at *;generalize hrr:32*(k % 2)=r at *;have hka:=B9 (l:=a) (k:=d) aa;have hk8:(k:Int)<8:=aa;have w4:IntKind.i64.wrap ((k:Int) / 2)=(d:Int):=by rw [IntWalk.i64_in _ aa];omega
  have w4b:IntKind.i64.wrap ((k:Int).tdiv 2)=(d:Int):=w4;have e2:IntKind.i64.wrap (32*((k:Int) % 2))=(r:Int):=by rw [IntWalk.i64_in _ aa];omega
  have e2b:IntKind.i64.wrap (32*((k:Int).tmod 2))=(r:Int):=e2;have i1:(d:Int)<4:=aa;have hmn:min r 64=r:=aa;have w5:IntKind.u64.wrap (r:Int)=(r:Int):=by rw [H5];omega
  have hg:=x5 (k:=d) ha;have hp:(0:Int)<2 ^ r:=Int.pow_pos aa;have hf:Int.fdiv (gI a d) (2 ^ r)=gI a d / 2 ^ r:=Int.fdiv_eq_ediv_of_nonneg _ (Int.le_of_lt hp);have h0:0≤gI a d / (2:Int) ^ r:=Int.ediv_nonneg hg.1 (Int.le_of_lt hp);have h1:gI a d / (2:Int) ^ r<18446744073709551616:=Int.lt_of_le_of_lt (Int.ediv_le_self _ hg.1) hg.2;have ha32:=X8 _ h0 h1;have hv:hvI a k=gI a d / 2 ^ r % 4294967296:=by unfold hvI;rw [hdd,hrr,hf]
  unfold abv at hsn;rw [hv] at hsn;generalize hq:gI a d / (2:Int) ^ r=q at *;simp [go_sem,hka,hal,hsl,w4,w4b,e2,e2b,i1,hmn,w5,hf,hq,ha32,IntKind.bits,hk8,F8,w3]
  first | refine c8 (k+1) aa aa ?_ | refine ⟨aa,c8 (k+1) aa aa ?_⟩ | refine ⟨aa,aa,c8 (k+1) aa aa ?_⟩
  rw [hsn];simp [m7,c6,fv,lk,AV.low,AV.low1];and_intros <;> exact o9 _ _
 ·refine ⟨fun h=>absurd (by exact_mod_cast h) h4,fun h=>?_⟩;have hk4:k=8:=aa;subst hk4;simp [go_sem,hsl,a8 hsl,i9 (l:=YP) (n:=8) rfl,d7];exact A7 rfl
theorem apI (t:Int):m6 Tryz.prog 240 [.d (.int .u64 t)] (fun r=>r=.agg (cI (twF t))):=by
 refine t6 Tryz.func240 Tryz.ntmps240 (rs:=[.cell 2 160]) (aaK _) ?_;have hz:List.drop 4 (cI zI)=[]:=i9 rfl;generalize ha:IntKind.u64.wrap (t*977)=a at *;generalize hb:IntKind.u64.wrap (t*4294967296)=b at *;generalize hc:IntKind.u64.wrap (a+b)=c at *
 have e:∀ i:Int,(if c<a then (1:Int) else 0)=i→cI (twF t)=[AV.d (.int .u64 c),AV.d (.int .u64 (IntKind.u64.wrap (Int.fdiv t 4294967296+i))),AV.d (.int .u64 0),AV.d (.int .u64 0)]:=by
  intro i hi;unfold twF;rw [ha,hb,hc,hi];rfl
 by_cases h1:c<a
 ·simp [go_sem,IntKind.bits,ha,hb,hc,h1,hz,d7];rw [← e 1 (if_pos h1)];exact A7 rfl
 ·simp [go_sem,IntKind.bits,ha,hb,hc,h1,hz,d7];have e0:=e 0 (if_neg h1);rw [Int.add_zero] at e0;rw [← e0];exact A7 rfl
theorem agT (d:List Int) (hd:YW 16 d):∃ r,Wn 4 r∧V r=R6 d % 115792089237316195423570985008687907853269984665640564039457584007908834671663∧m6 Tryz.prog 230 [.agg (cI d)] (fun x=>x=.agg (cI r)):=by
 obtain ⟨hE,vE,vd,bL,bH⟩:=apA hd;have hI:=aaS hd;generalize hSS:A4 (Yg d) (W4,0)=S at *;generalize hEE:(S 10).1=E at *;obtain ⟨hW,hT,vW⟩:=ah2 hE;generalize hWW:A4 (agQ E) zI=U at *;generalize hTT:amM E=t at *;have bW:=G5 hW;have ht0:=hT.1;have ht1:t<1099511627776:=aa;obtain ⟨hF,vF⟩:=as2 ht0 ht1;obtain ⟨s,cc,hs,hcc,vs,f1⟩:=Tb (U 4) (twF t) hW hF;obtain ⟨s2,c2,hs2,hc2,vs2,f2⟩:=Tb s [4294968273,0,0,0] hs (H8 asv);obtain ⟨r1,hr1,vr1,f3⟩:=O0 s hs;obtain ⟨r2,hr2,vr2,f4⟩:=O0 s2 hs2;have vo:V [4294968273,0,0,0]=4294968273:=by simp [V]
 rw [vo] at vs2;have q1:=G5 hs;have q2:=G5 hs2;have q3:=hcc.1;have q4:=hcc.2;have q5:=hc2.1;have q6:=hc2.2;have hmod:=amN (T:=R6 d) (L:=R6 (d.take 8)) (H:=R6 (d.drop 8)) (W:=V (U 4)) (t:=t) aa aa;unfold W1 at f3 f4;have hdl:=hd.1;have hEl:=hE.1;have hwl:=hW.1;have hsl:=hs.1;have h2l:=hs2.1;have r1l:=hr1.1;have r2l:=hr2.1;have hz:List.drop 4 (cI zI)=[]:=i9 rfl
 have key:∀ r,Wn 4 r→(cc=0→r=r1)→(cc=1→r=r2)→m6 Tryz.prog 230 [.agg (cI d)] (fun x=>x=.agg (cI r)):=by
  intro r hr e0 e1;have hrl:=hr.1;refine t6 Tryz.func230 Tryz.ntmps230 (rs:=[.cell 2 160]) (m9 d) ?_;have hdt:List.take 16 (cI d)=cI d:=a8 hdl;simp [go_sem,hdl,hdt]
  refine j9 (fun k:Nat=>⟨[(1,.ptr 0 0 0 1),(2,.ptr 32 0 0 1),(3,.ptr 96 0 0 1),(4,.d (.int .u64 (S k).2)),(5,.d (.int .i64 (k:Int)))],[(96,⟨242,10,[cI (S k).1]⟩),(32,⟨160,4,[cI zI]⟩),(0,⟨232,16,[cI d]⟩)],2000⟩)
   (fun k=>k≤10) (fun k=>10 - k) 0 aa (by
    rw [← hSS];simp [m7,c6,fv,lk,AV.low,AV.low1,A4]
    and_intros <;> first | rfl | exact o9 _ _) ?_
  intro k hk;obtain ⟨hs1,hs2',_,_⟩:=hI k hk;have hkl:=hs1.1;have w3:=j6 (k:=k) aa;simp only [go_sem,Nat.reduceEqDiff,Nat.reduceAdd,Nat.reduceLT,↓reduceIte];by_cases h10:k<10
  ·refine ⟨fun h=>?_,fun h=>absurd (by exact_mod_cast h10) h⟩;have hsn:S (k+1)=Yg d k (S k):=by rw [← hSS];rfl
   have hk10:(k:Int)<10:=aa;have g1:=To hd k;have g2:=To hd (8+k);have g3:=To hd (7+k);have w8:IntKind.i64.wrap (8+(k:Int))=((8+k:Nat):Int):=by rw [IntWalk.i64_in _ aa];omega
   have w7:IntKind.i64.wrap (7+(k:Int))=((7+k:Nat):Int):=by rw [IntWalk.i64_in _ aa];omega
   unfold Yg at hsn;have YM:∀ (fr:Fr) (hp:Hp) (nx:Nat),True:=fun _ _ _=>trivial;generalize hcE:(S k).2=c at *;have a1:IntKind.u64.wrap (c+gI d k)=c+gI d k:=by rw [H5];omega
   have a2:IntKind.u64.wrap (gI d (8+k)*977)=gI d (8+k)*977:=by rw [H5];omega
   have a3:IntKind.u64.wrap (c+gI d k+gI d (8+k)*977)=c+gI d k+gI d (8+k)*977:=by rw [H5];omega
   have a4:IntKind.u64.wrap (c+gI d k+gI d (8+k)*977+gI d (7+k))=c+gI d k+gI d (8+k)*977+gI d (7+k):=by rw [H5];omega
   have a5:IntKind.u64.wrap (c+gI d (7+k))=c+gI d (7+k):=by rw [H5];omega
   have kd:=B9 (l:=d) (k:=k) aa;by_cases h8:k<8
   ·have k8:(k:Int)<8:=aa;have kd8:=B9 (l:=d) (k:=8+k) aa;have kd7:=B9 (l:=d) (k:=7+k) aa;have i8:((8+k:Nat):Int)<16:=aa;have i7:((7+k:Nat):Int)<16:=aa;have i16:(k:Int)<16:=aa;have ef:fm d k c=c+gI d k+gI d (8+k)*977+(if 1≤k∧k<9 then gI d (7+k) else 0):=by unfold fm;rw [if_pos h8]
    rw [ef] at hsn;clear ef;generalize 8+k=j8 at *;generalize 7+k=j7 at *;simp [go_sem,k8];refine B7 [0,1,2,3,4,5,6,7,8,9,10] [(11,[])] 0 (k:=12) ?_;intro G hG;simp [go_sem,hdl,kd,kd8,w8,i8,i16,a1,a2,a3]
    first | refine hG _ _ ?_ | refine ⟨aa,hG _ _ ?_⟩ | refine ⟨aa,aa,hG _ _ ?_⟩ | refine ⟨aa,aa,aa,hG _ _ ?_⟩ | refine ⟨aa,aa,aa,aa,hG _ _ ?_⟩
    clear hG G;by_cases h1:1≤k
    ·have k1:(1:Int)≤(k:Int):=aa;have k9:(k:Int)<9:=aa;rw [if_pos ⟨h1,aa⟩] at hsn;have b1:=X8 (c+gI d k+gI d j8*977+gI d j7) aa aa;generalize c+gI d k+gI d j8*977=y at *;simp [go_sem,k1,k9,hdl,kd7,w7,i7,a4,b1,amX,IntKind.bits,hkl,hk10,F8,w3]
     first | refine c8 (k+1) aa aa ?_ | refine ⟨aa,c8 (k+1) aa aa ?_⟩ | refine ⟨aa,aa,c8 (k+1) aa aa ?_⟩
     rw [hsn];simp [m7,c6,fv,lk,AV.low,AV.low1];and_intros <;> exact o9 _ _
    ·have k1:¬ (1:Int)≤(k:Int):=aa;have k1b:(k:Int)<1:=aa;rw [if_neg (fun h=>h1 h.1),Int.add_zero] at hsn;have b1:=X8 (c+gI d k+gI d j8*977) aa aa;generalize c+gI d k+gI d j8*977=z at *;simp [go_sem,k1,k1b,b1,amX,IntKind.bits,hkl,hk10,F8,w3]
     first | refine c8 (k+1) aa aa ?_ | refine ⟨aa,c8 (k+1) aa aa ?_⟩ | refine ⟨aa,aa,c8 (k+1) aa aa ?_⟩
     rw [hsn];simp [m7,c6,fv,lk,AV.low,AV.low1];and_intros <;> exact o9 _ _
   ·have k8:¬ (k:Int)<8:=aa;have k1:(1:Int)≤(k:Int):=aa;by_cases h9:k<9
    ·have k9:(k:Int)<9:=aa;have kd7:=B9 (l:=d) (k:=7+k) aa;have i7:((7+k:Nat):Int)<16:=aa;have e:fm d k c=c+gI d (7+k):=by unfold fm;rw [if_neg h8,if_pos ⟨aa,h9⟩]
     rw [e] at hsn;clear e;have b1:=X8 (c+gI d (7+k)) aa aa;generalize 7+k=j7 at *;simp [go_sem,k8,k1,k9,hdl,kd7,w7,i7,a5,b1,amX,IntKind.bits,hkl,hk10,F8,w3]
     first | refine c8 (k+1) aa aa ?_ | refine ⟨aa,c8 (k+1) aa aa ?_⟩ | refine ⟨aa,aa,c8 (k+1) aa aa ?_⟩
     rw [hsn];simp [m7,c6,fv,lk,AV.low,AV.low1];and_intros <;> exact o9 _ _
    ·have k9:¬ (k:Int)<9:=aa;have k9b:9≤(k:Int):=aa;have e:fm d k c=c:=by unfold fm;rw [if_neg h8,if_neg (fun h=>h9 h.2)];omega
     rw [e] at hsn;have b1:=X8 c aa aa;simp [go_sem,k8,k1,k9,k9b,b1,amX,IntKind.bits,hkl,hk10,F8,w3]
     first | refine c8 (k+1) aa aa ?_ | refine ⟨aa,c8 (k+1) aa aa ?_⟩ | refine ⟨aa,aa,c8 (k+1) aa aa ?_⟩
     rw [hsn];simp [m7,c6,fv,lk,AV.low,AV.low1];and_intros <;> exact o9 _ _
  refine ⟨fun h=>absurd (by exact_mod_cast h) h10,fun h=>?_⟩;have hk10:k=10:=aa;subst hk10;have k8:=B9 (l:=E) (k:=8) aa;have k9:=B9 (l:=E) (k:=9) aa;unfold amM at hTT;simp [go_sem,hEE,hEl,k8,k9,ggn (l:=E) 8 aa,ggn (l:=E) 9 aa,IntKind.bits,hTT]
  have hUl:∀ j,(U j).length=4:=by
   intro j;rw [← hWW];exact O9 (P:=fun _ (s:List Int)=>s.length=4) rfl (fun k s hs=>by unfold agQ;rw [List.length_set];exact hs) j
  refine j9 (fun j:Nat=>⟨[(2,.ptr 32 0 0 1),(3,.ptr 96 0 0 1),(6,.d (.int .u64 t)),(7,.ptr 2320 0 0 1),(8,.d (.int .i64 (j:Int)))],[(2320,⟨160,4,[cI (U j)]⟩),(96,⟨242,10,[cI E]⟩),(32,⟨160,4,[cI zI]⟩)],8000⟩)
   (fun k=>k≤4) (fun k=>4 - k) 0 aa (by
    rw [← hWW];simp [m7,c6,fv,lk,AV.low,AV.low1,A4]
    and_intros <;> first | rfl | exact o9 _ _) ?_
  intro k hk;have hul:=hUl k;have w3:=j6 (k:=k) aa;simp only [go_sem,Nat.reduceEqDiff,Nat.reduceAdd,Nat.reduceLT,↓reduceIte];by_cases h4:k<4
  ·refine ⟨fun h=>?_,fun h=>absurd (by exact_mod_cast h4) h⟩;have hsn:U (k+1)=agQ E k (U k):=by rw [← hWW];rfl
   have hk4:(k:Int)<4:=aa;have w1:IntKind.i64.wrap (2*(k:Int))=((2*k:Nat):Int):=by rw [IntWalk.i64_in _ aa];omega
   have w2:IntKind.i64.wrap (((2*k:Nat):Int)+1)=((2*k+1:Nat):Int):=by rw [IntWalk.i64_in _ aa];omega
   have kd:=B9 (l:=E) (k:=2*k) aa;have kd1:=B9 (l:=E) (k:=2*k+1) aa;have i1:((2*k:Nat):Int)<10:=aa;have i2:((2*k+1:Nat):Int)<10:=aa;unfold agQ pkI at hsn;generalize 2*k+1=j1 at *;generalize 2*k=j0 at *;refine B7 [0,1,2,3,4,5,6,7,8,9,10,11,12] [(13,[])] 0 (k:=14) ?_;intro G hG;simp only [go_sem,Nat.reduceEqDiff,Nat.reduceAdd,Nat.reduceLT,↓reduceIte,w1,w2];simp [go_sem,w1,w2,hEl,kd,kd1,i1,i2,IntKind.bits,hul,hk4,F8]
   first | refine hG _ _ ?_ | refine ⟨aa,hG _ _ ?_⟩ | refine ⟨aa,aa,hG _ _ ?_⟩ | refine ⟨aa,aa,aa,hG _ _ ?_⟩ | refine ⟨aa,aa,aa,aa,hG _ _ ?_⟩
   clear hG G;simp [go_sem,w3]
   first | refine c8 (k+1) aa aa ?_ | refine ⟨aa,c8 (k+1) aa aa ?_⟩ | refine ⟨aa,aa,c8 (k+1) aa aa ?_⟩
   rw [hsn];simp [m7,c6,fv,lk,AV.low,AV.low1];and_intros <;> exact o9 _ _
  ·refine ⟨fun h=>absurd (by exact_mod_cast h) h4,fun h=>?_⟩;have hk4:k=4:=aa;subst hk4;refine C4 [0,1] [2,3,7,8] [0,1,4,5,6,9] (.alt (ah 2 (.alt (.step 3 [4,5,6] true (ah 7 (.step 8 [9] true .done))) (ah 7 (.step 3 [4,5,6] true (.step 8 [9] true .done))))) (ah 7 (ah 2 (.step 3 [4,5,6] true (.step 8 [9] true .done))))) ⟨[(2,.ptr 32 0 0 1),(9,.ptr 8288 0 0 1),(10,.d (.int .u64 cc))],[(8288,⟨160,4,[cI s]⟩),(32,⟨160,4,[cI zI]⟩)],20000⟩ (k:=10) ?h3 ?hq
   case h3 =>
    intro G hG
    have hW:∀ (fr:Fr) (hp:Hp),(fv 2 fr=.ptr 32 0 0 1∧fv 9 fr=.ptr 8288 0 0 1∧fv 10 fr=.d (.int .u64 cc)∧lk 8288 hp=some ⟨160,4,[cI s]⟩∧lk 32 hp=some ⟨160,4,[cI zI]⟩)→G fr hp:=by
     rintro fr hp ⟨q0,q1,q2,q3,q4⟩;exact hG _ _ Rz
    simp [go_sem,hwl,a8 hwl,hsl,a8 hsl,hz,A6]
    repeat' first | exact hW _ _ ⟨rfl,rfl,rfl,rfl,rfl⟩ | (refine hW _ _ ?_;simp [fv,lk];done) | refine a9 (apI _) (aaK _) ?_ | refine a9 f1 (d5 _ _) ?_ | apply And.intro | simp [go_sem,hwl,a8 hwl,hsl,a8 hsl,hz,A6]
   case hq =>
    by_cases h0:cc=0
    ·obtain rfl:=e0 h0;simp [go_sem,h0,hsl,a8 hsl];refine a9 f3 (m9 _) ?_;simp [go_sem,r1l,a8 r1l,hz,d7];exact A7 rfl
    ·have h1:cc=1:=aa;obtain rfl:=e1 h1;simp [go_sem,h1,hsl,a8 hsl];refine a9 f2 (d5 s [4294968273,0,0,0]) ?_;simp [go_sem,h2l,hsl,a8 h2l,i9 hsl];refine a9 f4 (m9 _) ?_;simp [go_sem,r2l,a8 r2l,hz,d7];exact A7 rfl
 by_cases h0:cc=0
 ·refine ⟨r1,hr1,?_,key r1 hr1 (fun _=>rfl) (fun h=>absurd (h0.symm.trans h) (by decide))⟩;rw [vr1,← hmod];congr 1;subst h0;omega
 ·have h1:cc=1:=aa;refine ⟨r2,hr2,?_,key r2 hr2 (fun h=>absurd h h0) (fun _=>rfl)⟩;rw [vr2,← hmod];subst h1;have:V (U 4)+t*4294968273=V s2+115792089237316195423570985008687907853269984665640564039457584007908834671663:=aa;rw [this,Int.add_emod_right]
theorem adG (a b:List Int) (ha:Wn 4 a) (hb:Wn 4 b):∃ r,Wn 4 r∧V r=(V a*V b) % 115792089237316195423570985008687907853269984665640564039457584007908834671663∧W2 187 a b r:=by
 obtain ⟨hx,vx⟩:=aqJ ha;obtain ⟨hy,vy⟩:=aqJ hb;have f1:=aaT a ha;have f2:=aaT b hb;generalize A4 (abv a) YP 8=x at *;generalize A4 (abv b) YP 8=y at *;have hz16:YW 16 agS:=⟨rfl,by intro q hq;simp [agS] at hq;omega⟩
 have hg0:∀ j,gI agS j=0:=by
  intro j
  match j with
  | 0 | 1 | 2 | 3 | 4 | 5 | 6 | 7 | 8 | 9 | 10 | 11 | 12 | 13 | 14 | 15=>rfl
  | n+16=>rfl
 have hI:=aij hx hy hz16 hg0 (by simp [agS,R6]);obtain ⟨hD,vD,_⟩:=hI 8 aa;rw [aq (by rw [hx.1];omega),vx,vy] at vD;generalize hDD:A4 (aff x y) agS=D at *;obtain ⟨r,hr,vr,f3⟩:=agT (D 8) hD;refine ⟨r,hr,by rw [vr,vD],?_⟩;unfold W2;refine t6 Tryz.func187 Tryz.ntmps187 (rs:=[.cell 4 160]) (d5 a b) ?_;have hal:=ha.1;have hbl:=hb.1;have hxl:=hx.1;have hyl:=hy.1;have hrl:=hr.1;have hz:List.drop 4 (cI zI)=[]:=i9 rfl;simp [go_sem,hal,hbl,a8 hal,a8 hbl];refine C4 [0,2] [1,3,4,5,6,7] [0,2] (.alt (ah 1 (.alt (ai 3 (.alt (ag [4,5,6,7]) (ag [5,4,6,7]))) (.alt (ah 4 (.alt (ag [3,5,6,7]) (ah 5 (ag [3,6,7])))) (ah 5 (.alt (ag [3,4,6,7]) (ah 4 (ag [3,6,7]))))))) (.alt (ah 4 (.alt (ah 1 (.alt (ag [3,5,6,7]) (ah 5 (ag [3,6,7])))) (ah 5 (ah 1 (ag [3,6,7]))))) (ah 5 (.alt (ah 1 (.alt (ag [3,4,6,7]) (ah 4 (ag [3,6,7])))) (ah 4 (ah 1 (ag [3,6,7]))))))) ⟨[(4,.ptr 64 0 0 1),(5,.ptr 224 0 0 1),(6,.ptr 256 0 0 1)],[(256,⟨230,8,[cI y]⟩),(224,⟨230,8,[cI x]⟩),(64,⟨160,4,[cI zI]⟩)],1000⟩ (k:=8) ?h3 ?hq
 case h3 =>
  intro G hG
  have hW:∀ (fr:Fr) (hp:Hp),(fv 4 fr=.ptr 64 0 0 1∧fv 5 fr=.ptr 224 0 0 1∧fv 6 fr=.ptr 256 0 0 1∧lk 256 hp=some ⟨230,8,[cI y]⟩∧lk 224 hp=some ⟨230,8,[cI x]⟩∧lk 64 hp=some ⟨160,4,[cI zI]⟩)→G fr hp:=by
   rintro fr hp ⟨q0,q1,q2,q3,q4,q5⟩;exact hG _ _ Rz
  simp [go_sem,hal,hbl,a8 hal,a8 hbl,hxl,hyl,a8 hxl,a8 hyl,A6]
  repeat' first | exact hW _ _ ⟨rfl,rfl,rfl,rfl,rfl,rfl⟩ | (refine hW _ _ ?_;simp [fv,lk];done) | refine a9 f1 (m9 _) ?_ | refine a9 f2 (m9 _) ?_ | apply And.intro | simp [go_sem,hal,hbl,a8 hal,a8 hbl,hxl,hyl,a8 hxl,a8 hyl,A6]
 case hq =>
  simp [go_sem]
  refine j9 (fun i:Nat=>⟨[(4,.ptr 64 0 0 1),(5,.ptr 224 0 0 1),(6,.ptr 256 0 0 1),(7,.ptr 1032 0 0 1),(8,.d (.int .i64 (i:Int)))],[(1032,⟨232,16,[cI (D i)]⟩),(256,⟨230,8,[cI y]⟩),(224,⟨230,8,[cI x]⟩),(64,⟨160,4,[cI zI]⟩)],2000⟩)
   (fun k=>k≤8) (fun k=>8 - k) 0 aa (by
    rw [← hDD];simp [m7,c6,fv,lk,AV.low,AV.low1,A4]
    and_intros <;> first | rfl | exact o9 _ _ | (rw [J3];exact av _)) ?_
  intro i hi;obtain ⟨hd1,_,_⟩:=hI i hi;have w3:=j6 (k:=i) aa;simp only [go_sem,Nat.reduceEqDiff,Nat.reduceAdd,Nat.reduceLT,↓reduceIte];by_cases h8:i<8
  ·refine ⟨fun h=>?_,fun h=>absurd (by exact_mod_cast h8) h⟩;have hi8:(i:Int)<8:=aa;have hsn:D (i+1)=aff x y i (D i):=by rw [← hDD];rfl
   have hR:=adB hx hy hd1 (i:=i) h8;unfold aff at hsn;generalize hTT:A4 (Yf x y i) (D i,0)=T at *;have hT0:T 0=(D i,0):=by rw [← hTT];rfl
   have kx:=B9 (l:=x) (k:=i) aa
   refine j9 (fun k:Nat=>⟨[(4,.ptr 64 0 0 1),(5,.ptr 224 0 0 1),(6,.ptr 256 0 0 1),(7,.ptr 1032 0 0 1),(8,.d (.int .i64 (i:Int))),(9,.d (.int .u64 (T k).2)),(10,.d (.int .i64 (k:Int)))],[(1032,⟨232,16,[cI (T k).1]⟩),(256,⟨230,8,[cI y]⟩),(224,⟨230,8,[cI x]⟩),(64,⟨160,4,[cI zI]⟩)],4000⟩)
    (fun k=>k≤8) (fun k=>8 - k) 0 aa (by
     rw [hT0];simp [m7,c6,fv,lk,AV.low,AV.low1]
     and_intros <;> first | rfl | exact o9 _ _) ?_
   intro k hk;obtain ⟨ht1,ht2,_,_⟩:=hR k hk;have htl:=ht1.1;have w4:=j6 (k:=k) aa;simp only [go_sem,Nat.reduceEqDiff,Nat.reduceAdd,Nat.reduceLT,↓reduceIte];by_cases h5:k<8
   ·refine ⟨fun h=>?_,fun h=>absurd (by exact_mod_cast h5) h⟩;have hk8:(k:Int)<8:=aa;have htn:T (k+1)=Yf x y i k (T k):=by rw [← hTT];rfl
    have ky:=B9 (l:=y) (k:=k) aa;have kt:=B9 (l:=(T k).1) (k:=i+k) aa;have w5:IntKind.i64.wrap ((i:Int)+(k:Int))=((i+k:Nat):Int):=by rw [IntWalk.i64_in _ aa];omega
    have i16:((i+k:Nat):Int)<16:=aa;have i16n:i+k<16:=aa;have p1:=amG (To hx i) (To hy k);have p2:=To ht1 (i+k);have p3:=avK hx hy (i:=i) (k:=k) ht1 ht2;have ep:pm x y i k (T k)=(T k).2+gI (T k).1 (i+k)+gI x i*gI y k:=rfl;unfold Yf at htn;rw [ep] at htn p3;have b1:=X8 _ p3.1 p3.2;have a1:IntKind.u64.wrap ((T k).2+gI (T k).1 (i+k))=(T k).2+gI (T k).1 (i+k):=by rw [H5];omega
    have a2:IntKind.u64.wrap (gI x i*gI y k)=gI x i*gI y k:=by rw [H5];omega
    have a3:IntKind.u64.wrap ((T k).2+gI (T k).1 (i+k)+gI x i*gI y k)=(T k).2+gI (T k).1 (i+k)+gI x i*gI y k:=by rw [H5];omega
    generalize i+k=j at *;generalize hzz:(T k).2+gI (T k).1 j+gI x i*gI y k=z at *;refine B7 [0,1,2,3,4,5,6,7,8,9,10,11,12,13,14] [(15,[])] 0 (k:=16) ?_;intro G hG;simp only [go_sem,Nat.reduceEqDiff,Nat.reduceAdd,Nat.reduceLT,↓reduceIte,w5];simp [go_sem,w5,kx,ky,kt,hxl,hyl,htl,hi8,hk8,i16,a1,a2,a3,hzz]
    first | refine hG _ _ ?_ | refine ⟨aa,hG _ _ ?_⟩ | refine ⟨aa,aa,hG _ _ ?_⟩ | refine ⟨aa,aa,aa,hG _ _ ?_⟩ | refine ⟨aa,aa,aa,aa,hG _ _ ?_⟩
    clear hG G;simp only [go_sem,Nat.reduceEqDiff,Nat.reduceAdd,Nat.reduceLT,↓reduceIte,w5];simp [go_sem,w5,htl,i16,i16n,b1,amX,IntKind.bits,F8,w4]
    first | refine c8 (k+1) aa aa ?_ | refine ⟨aa,c8 (k+1) aa aa ?_⟩ | refine ⟨aa,aa,c8 (k+1) aa aa ?_⟩
    rw [htn];simp [m7,c6,fv,lk,AV.low,AV.low1];and_intros <;> exact o9 _ _
   ·refine ⟨fun h=>absurd (by exact_mod_cast h) h5,fun h=>?_⟩;have hk8:k=8:=aa;subst hk8;have w6:IntKind.i64.wrap ((i:Int)+8)=((i+8:Nat):Int):=by rw [IntWalk.i64_in _ aa];omega
    have i16:((i+8:Nat):Int)<16:=aa;have i16n:i+8<16:=aa;generalize i+8=j at *;simp only [go_sem,Nat.reduceEqDiff,Nat.reduceAdd,Nat.reduceLT,↓reduceIte,w6];simp [go_sem,w6,htl,i16,i16n,F8,w3]
    first | refine c8 (i+1) aa aa ?_ | refine ⟨aa,c8 (i+1) aa aa ?_⟩
    rw [hsn];simp [m7,c6,fv,lk,AV.low,AV.low1];and_intros <;> exact o9 _ _
  ·refine ⟨fun h=>absurd (by exact_mod_cast h) h8,fun h=>?_⟩;have hk4:i=8:=aa;subst hk4;have hdl:=hd1.1;simp [go_sem,hdl,a8 hdl];refine a9 f3 (m9 _) ?_;simp [go_sem,hrl,a8 hrl,hz,d7];exact A7 rfl
theorem avP:∃ M:List Int × List Int→List Int,∀ x,(Wn 4 x.1∧Wn 4 x.2)→Wn 4 (M x)∧V (M x)=(V x.1*V x.2) % 115792089237316195423570985008687907853269984665640564039457584007908834671663∧m6 Tryz.prog 187 [.agg (cI x.1),.agg (cI x.2)] (fun r=>r=.agg (cI (M x))) :=
 pick (α:=List Int × List Int) (β:=List Int) (A:=fun x=>Wn 4 x.1∧Wn 4 x.2) (B:=fun x y=>Wn 4 y∧V y=(V x.1*V x.2) % 115792089237316195423570985008687907853269984665640564039457584007908834671663∧m6 Tryz.prog 187 [.agg (cI x.1),.agg (cI x.2)] (fun r=>r=.agg (cI y))) (fun x hx=>by
  obtain ⟨r,h1,h2,h3⟩:=adG x.1 x.2 hx.1 hx.2
  exact ⟨r,h1,h2,h3⟩)
def afh (M:List Int × List Int→List Int) (a n:List Int) (j:Nat) (s:List Int):List Int:=if btN n (255 - j)=1 then M (M (s,s),a) else M (s,s)
theorem aio {M:List Int × List Int→List Int} (hM:∀ x,(Wn 4 x.1∧Wn 4 x.2)→Wn 4 (M x)∧V (M x)=(V x.1*V x.2) % 115792089237316195423570985008687907853269984665640564039457584007908834671663) {a n:List Int} (ha:Wn 4 a) (hn:Wn 4 n):∀ j,j≤256→Wn 4 (A4 (afh M a n) K1 j)∧V (A4 (afh M a n) K1 j)=V a ^ ((V n).toNat / 2 ^ (256 - j)) % 115792089237316195423570985008687907853269984665640564039457584007908834671663
 | 0,_=>by
  refine ⟨YU,?_⟩;have:=ain hn;show V K1=_;rw [acd,Nat.div_eq_of_lt aa,Int.pow_zero];rfl
 | j+1,hj=>by
  obtain ⟨h1,h2⟩:=aio hM ha hn j aa;rw [A4];generalize A4 (afh M a n) K1 j=s at *;obtain ⟨k1,k2⟩:=hM (s,s) ⟨h1,h1⟩;obtain ⟨k3,k4⟩:=hM (M (s,s),a) ⟨k1,ha⟩;dsimp only at k2 k4;have e:256 - j=(255 - j)+1:=aa;have e2:256 - (j+1)=255 - j:=aa;have h3:(V n).toNat / 2 ^ (256 - j)=(V n).toNat / 2 ^ (255 - j) / 2:=by rw [e,Nat.pow_succ,← Nat.div_div_eq_div_mul]
  have hb:btN n (255 - j)=(V n).toNat / 2 ^ (255 - j) % 2:=rfl;rw [h3] at h2;unfold afh;rw [e2,hb];generalize (V n).toNat / 2 ^ (255 - j)=N at *;have sq:V (M (s,s))=V a ^ (N / 2+N / 2) % 115792089237316195423570985008687907853269984665640564039457584007908834671663:=by rw [k2,h2,← Int.mul_emod,← Int.pow_add]
  by_cases h5:N % 2=1
  ·rw [if_pos h5];refine ⟨k3,?_⟩;rw [k4,sq,Int.mul_emod,Int.emod_emod,← Int.mul_emod,← Int.pow_succ];congr 2;omega
  ·rw [if_neg h5];refine ⟨k1,?_⟩;rw [sq];congr 2;omega
theorem apJ (a n:List Int) (ha:Wn 4 a) (hn:Wn 4 n):∃ r,Wn 4 r∧V r=V a ^ (V n).toNat % 115792089237316195423570985008687907853269984665640564039457584007908834671663∧W2 219 a n r:=by
 obtain ⟨M,hM⟩:=avP;have hS:=aio (fun x hx=>⟨(hM x hx).1,(hM x hx).2.1⟩) ha hn;refine ⟨A4 (afh M a n) K1 256,(hS 256 aa).1,by rw [(hS 256 aa).2,Nat.sub_self,Nat.pow_zero,Nat.div_one],?_⟩;unfold W2;refine t6 Tryz.func219 Tryz.ntmps219 (rs:=[.cell 4 160]) (d5 a n) ?_;have hal:=ha.1;have hnl:=hn.1;have hz:List.drop 4 (cI zI)=[]:=i9 rfl;simp [go_sem,hal,hnl,a8 hal,a8 hnl];generalize hSS:A4 (afh M a n) K1=S at *
 refine j9 (fun k:Nat=>⟨[(2,.ptr 0 0 0 1),(3,.ptr 32 0 0 1),(4,.ptr 64 0 0 1),(5,.ptr 128 0 0 1),(6,.d (.int .i64 (ixD k)))],[(128,⟨160,4,[cI (S (256 - k))]⟩),(64,⟨160,4,[cI zI]⟩),(32,⟨160,4,[cI n]⟩),(0,⟨160,4,[cI a]⟩)],1000⟩)
  (fun k=>k≤256) (fun k=>k) 256 aa (by
   rw [← hSS];simp [m7,c6,fv,lk,AV.low,AV.low1,A4,ixD]
   and_intros <;> first | rfl | exact o9 _ _) ?_
 intro k hk
 cases k with
 | zero =>
  have hl:=(hS 256 aa).1.1;simp [go_sem,X6,hl,a8 hl,hz,d7];exact A7 rfl
 | succ k =>
  obtain ⟨h1,_⟩:=hS (256 - (k+1)) aa;have e255:256 - (k+1)=255 - k:=aa
  have hsn:S (256 - k)=afh M a n (255 - k) (S (255 - k)):=by
   rw [show 256 - k=(255 - k)+1 by omega,← hSS,A4]
  rw [e255] at h1;have hl:=h1.1;have hw:=TW k aa;have p0:¬ ((k:Int)<0):=aa;obtain ⟨m1,_,m2⟩:=hM (S (255 - k),S (255 - k)) ⟨h1,h1⟩;obtain ⟨m3,_,m4⟩:=hM (M (S (255 - k),S (255 - k)),a) ⟨m1,ha⟩;unfold afh at hsn;rw [show 255 - (255 - k)=k by omega] at hsn;generalize M (S (255 - k),S (255 - k))=q at *;have hql:=m1.1;have hgl:=m3.1;simp [go_sem,Ta,p0,hl,a8 hl];refine a9 m2 (d5 _ _) ?_;simp [go_sem,hql,hl,a8 hql,i9 hl,hnl,a8 hnl];refine a9 (Yi n k hn aa) (SU _ _) ?_;by_cases hb:btN n k=1
  ·rw [if_pos hb] at hsn;simp [go_sem,hb,hql,a8 hql,hal,a8 hal];refine a9 m4 (d5 _ _) ?_;rw [← hsn] at *;simp [go_sem,Ta,hgl,hql,a8 hgl,i9 hql,hw];refine c8 k aa aa ?_;simp [m7,c6,fv,lk,AV.low,AV.low1];and_intros <;> first | rfl | exact o9 _ _
  ·have hb2:¬ ((btN n k:Int)=1):=aa;rw [if_neg hb] at hsn;simp [go_sem,hb,hb2,hw,Ta];refine c8 k aa aa ?_;rw [hsn];simp [m7,c6,fv,lk,AV.low,AV.low1];and_intros <;> first | rfl | exact o9 _ _
abbrev T4:=List Int × List Int × List Int × List Int
def W4q (s:T4):Prop:=Wn 4 s.1∧Wn 4 s.2.1∧Wn 4 s.2.2.1∧Wn 4 s.2.2.2
def N4 (s:T4):I4:=((V s.1).toNat,(V s.2.1).toNat,(V s.2.2.1).toNat,(V s.2.2.2).toNat)
theorem amY {m a:Nat} (hm:m<115792089237316195423570985008687907853269984665640564039457584007913129639936) (hodd:m % 2=1) {mw:List Int} (hmw:Wn 4 mw) (vm:V mw=(m:Int)) {s:T4} (hs:W4q s) (hI:ivI m a (N4 s)) (h0:s.1 ≠ zI) :
  ((V s.1 % 2=0→∃ u x,Wn 4 u∧Wn 4 x∧W2 239 s.1 mw u∧W2 239 s.2.2.1 mw x∧N4 (u,s.2.1,x,s.2.2.2)=ivS m (N4 s)) ∧
  (V s.1 % 2 ≠ 0→∃ (d:List Int) (c:Int),Wn 4 d∧C1 c∧(c=1→V s.1<V s.2.1)∧m6 Tryz.prog 238 [.agg (cI s.1),.agg (cI s.2.1)] (fun r=>r=.tup [.agg (cI d),.d (.int .u64 c)]) ∧
   ∀ (d' v' x' y':List Int),((c=1∧Wn 4 d'∧V d'=V s.2.1 - V s.1∧v'=s.1∧x'=s.2.2.2∧y'=s.2.2.1) ∨ (c=0∧d'=d∧v'=s.2.1∧x'=s.2.2.1∧y'=s.2.2.2)) →
    ∃ (z:List Int) (b:Int) (z2:List Int) (b2:Int),Wn 4 z∧C1 b∧Wn 4 z2∧m6 Tryz.prog 238 [.agg (cI x'),.agg (cI y')] (fun r=>r=.tup [.agg (cI z),.d (.int .u64 b)])∧m6 Tryz.prog 217 [.agg (cI z),.agg (cI mw)] (fun r=>r=.tup [.agg (cI z2),.d (.int .u64 b2)])∧N4 (d',v',if b=1 then z2 else z,y')=ivS m (N4 s))):=by
 obtain ⟨hu,hv,hx,hy⟩:=hs;obtain ⟨i1,i2,i3,i4,i5,_,_,_⟩:=hI;have q1:=G5 hu;have q2:=G5 hv;have q3:=G5 hx;have q4:=G5 hy;simp only [N4] at i1 i2 i3 i4 i5;refine ⟨fun he=>?_,fun ho=>?_⟩
 ·obtain ⟨u,hu1,vu,f1⟩:=afg s.1 mw hu hmw;obtain ⟨x,hx1,vx,f2⟩:=afg s.2.2.1 mw hx hmw;refine ⟨u,x,hu1,hx1,f1,f2,?_⟩;rw [if_pos he] at vu;unfold N4 ivS hf;dsimp only;rw [if_pos aa,vu,vx,vm];refine Prod.ext ?_ (Prod.ext rfl (Prod.ext ?_ rfl))
  ·dsimp only;omega
  ·dsimp only
   split
   ·rw [if_pos aa];omega
   ·rw [if_neg aa];omega
 ·obtain ⟨d,c,hd,hc,vd,f1⟩:=V6 s.1 s.2.1 hu hv;have qd:=G5 hd;have c1:=hc.1;have c2:=hc.2;refine ⟨d,c,hd,hc,fun h=>aa,f1,?_⟩;intro d' v' x' y' hcs
  have hW:Wn 4 x'∧Wn 4 y':=by
   rcases hcs with ⟨_,_,_,_,rfl,rfl⟩ | ⟨_,_,_,rfl,rfl⟩
   ·exact ⟨hy,hx⟩
   ·exact ⟨hx,hy⟩
  obtain ⟨z,b,hz,hb,vz,f2⟩:=V6 x' y' hW.1 hW.2;obtain ⟨z2,b2,hz2,hb2,vz2,f3⟩:=Tb z mw hz hmw;refine ⟨z,b,z2,b2,hz,hb,hz2,f2,f3,?_⟩;have qz:=G5 hz;have qz2:=G5 hz2;have b1:=hb.1;have b3:=hb.2;have b4:=hb2.1;have b5:=hb2.2;have qx:=G5 hW.1;have qy:=G5 hW.2;rw [vm] at vz2;unfold N4 ivS;dsimp only;rw [if_neg (show ¬ (V s.1).toNat % 2=0 by omega)];rcases hcs with ⟨e1,_,e4,rfl,rfl,rfl⟩ | ⟨e1,rfl,rfl,rfl,rfl⟩
  ·rw [if_pos (show (V s.1).toNat<(V s.2.1).toNat by omega)];refine Prod.ext (by dsimp only;omega) (Prod.ext rfl (Prod.ext ?_ rfl));dsimp only;by_cases hb1:b=1
   ·rw [if_pos hb1,if_pos (show (V s.2.2.2).toNat<(V s.2.2.1).toNat by omega)];omega
   ·rw [if_neg hb1,if_neg (show ¬ (V s.2.2.2).toNat<(V s.2.2.1).toNat by omega)];omega
  ·rw [if_neg (show ¬ (V s.1).toNat<(V s.2.1).toNat by omega)];refine Prod.ext (by dsimp only;omega) (Prod.ext rfl (Prod.ext ?_ rfl));dsimp only;by_cases hb1:b=1
   ·rw [if_pos hb1,if_pos (show (V s.2.2.1).toNat<(V s.2.2.2).toNat by omega)];omega
   ·rw [if_neg hb1,if_neg (show ¬ (V s.2.2.1).toNat<(V s.2.2.2).toNat by omega)];omega
theorem aaU:V zI=0:=by simp [V,zI]
theorem afi (a m:List Int) (ha:Wn 4 a) (hm:Wn 4 m) (hodd:V m % 2=1) (h1:1<V m) (hlt:V a<V m) (hg:V a ≠ 0→Nat.gcd (V a).toNat (V m).toNat=1):∃ r,Wn 4 r∧V r<V m∧(V a=0→V r=0)∧(V a ≠ 0→V r*V a % V m=1)∧W2 228 a m r:=by
 have qa:=G5 ha;have qm:=G5 hm;have hal:=ha.1;have hml:=hm.1;have hz:List.drop 4 (cI zI)=[]:=i9 rfl;have iz:C0 .u64 [AV.d (.int .u64 0),AV.d (.int .u64 0),AV.d (.int .u64 0),AV.d (.int .u64 0)]=some zI:=y6 zI;unfold W2;by_cases h0:a=zI
 ·have va:V a=0:=by rw [h0];exact aaU
  refine ⟨a,ha,hlt,fun _=>va,fun h=>absurd va h,?_⟩;refine t6 Tryz.func228 Tryz.ntmps228 (rs:=[.cell 4 160]) (d5 a m) ?_;simp [go_sem,hal,hml,a8 hal,a8 hml,y6,iz,h0,hz,Xm,a8 (l:=zI) (n:=4) rfl,d7];exact A7 (a:=zI) rfl
 have va:V a ≠ 0:=fun h=>h0 (Zl ha H4 (by rw [h,aaU]));have hg1:=hg va;obtain ⟨mN,vm⟩:∃ n:Nat,V m=(n:Int):=⟨(V m).toNat,aa⟩;obtain ⟨aN,van⟩:∃ n:Nat,V a=(n:Int):=⟨(V a).toNat,aa⟩;have hM:(2:Nat) ^ 256=115792089237316195423570985008687907853269984665640564039457584007913129639936:=by decide
 rw [vm,van,Int.toNat_natCast,Int.toNat_natCast] at hg1;have hok:=avx (m:=mN) (a:=aN) aa aa aa aa aa hg1;generalize hR:ivR mN 1100 (aN,mN,1,0)=R at hok;obtain ⟨hR1,hR2,hR3⟩:=hok;have hI0:ivI mN aN (aN,mN,1,0):=⟨by dsimp only;omega,av _,by dsimp only;omega,by dsimp only;omega,by dsimp only;omega,by dsimp only;rw [Nat.one_mul],by dsimp only;rw [Nat.zero_mul,Nat.mod_self,Nat.zero_mod],hg1⟩
 have hN0:N4 (a,m,K1,zI)=(aN,mN,1,0):=by
  unfold N4;dsimp only;rw [van,vm,acd,aaU];rfl
 -- the answer's words
 obtain ⟨r,hr,vr⟩:∃ r,Wn 4 r∧V r=(R.2.2.2:Int):=by
  refine ⟨[((R.2.2.2 % 18446744073709551616:Nat):Int),((R.2.2.2 / 18446744073709551616 % 18446744073709551616:Nat):Int),((R.2.2.2 / 340282366920938463463374607431768211456 % 18446744073709551616:Nat):Int),((R.2.2.2 / 6277101735386680763835789423207666416102355444464034512896:Nat):Int)],⟨rfl,?_⟩,?_⟩
  ·intro y hy;simp only [aF,List.mem_nil_iff,or_false] at hy;rcases hy with rfl | rfl | rfl | rfl <;> exact ⟨aa,aa⟩
  ·rw [V4];omega
 have hrl:=hr.1;refine ⟨r,hr,aa,fun h=>absurd h va,fun _=>?_,?_⟩
 ·rw [vr,van,vm,← Int.natCast_mul,← Int.natCast_emod,hR3];rfl
 refine t6 Tryz.func228 Tryz.ntmps228 (rs:=[.cell 4 160]) (d5 a m) ?_;simp [go_sem,hal,hml,a8 hal,a8 hml,y6,iz,h0];refine C4 [0,1] [2,3,4,5] [0,1] (.alt (ah 2 (ah 3 (ah 4 (ag [5])))) (ah 3 (ah 2 (ah 4 (ag [5]))))) ⟨[(2,.ptr 0 0 0 1),(3,.ptr 32 0 0 1),(4,.ptr 64 0 0 1),(5,.ptr 256 0 0 1),(6,.ptr 288 0 0 1)],[(288,⟨160,4,[cI m]⟩),(256,⟨160,4,[cI a]⟩),(64,⟨160,4,[cI zI]⟩),(32,⟨160,4,[cI m]⟩),(0,⟨160,4,[cI a]⟩)],1000⟩ (k:=6) ?h3 ?hq
 case h3 =>
  intro G hG
  have hW:∀ (fr:Fr) (hp:Hp),(fv 2 fr=.ptr 0 0 0 1∧fv 3 fr=.ptr 32 0 0 1∧fv 4 fr=.ptr 64 0 0 1∧fv 5 fr=.ptr 256 0 0 1∧fv 6 fr=.ptr 288 0 0 1∧lk 288 hp=some ⟨160,4,[cI m]⟩∧lk 256 hp=some ⟨160,4,[cI a]⟩∧lk 64 hp=some ⟨160,4,[cI zI]⟩∧lk 32 hp=some ⟨160,4,[cI m]⟩∧lk 0 hp=some ⟨160,4,[cI a]⟩)→G fr hp:=by
   rintro fr hp ⟨q0,q1,q2,q3,q4,q5,q6,q7,q8,q9⟩;exact hG _ _ Rz
  simp [go_sem,hal,hml,a8 hal,a8 hml,A6]
  repeat' first | exact hW _ _ ⟨rfl,rfl,rfl,rfl,rfl,rfl,rfl,rfl,rfl,rfl⟩ | (refine hW _ _ ?_;simp [fv,lk];done) | fail | apply And.intro | simp [go_sem,hal,hml,a8 hal,a8 hml,A6]
 case hq =>
  simp [go_sem]
  refine j9 (fun t:Nat × T4=>⟨[(3,.ptr 32 0 0 1),(4,.ptr 64 0 0 1),(5,.ptr 256 0 0 1),(6,.ptr 288 0 0 1),(7,.ptr 1064 0 0 1),(8,.ptr 1096 0 0 1),(9,.d (.int .i64 (t.1:Int)))],[(1096,⟨160,4,[cI t.2.2.2.2]⟩),(1064,⟨160,4,[cI t.2.2.2.1]⟩),(288,⟨160,4,[cI t.2.2.1]⟩),(256,⟨160,4,[cI t.2.1]⟩),(64,⟨160,4,[cI zI]⟩),(32,⟨160,4,[cI m]⟩)],4000⟩)
   (fun t=>t.1≤1100∧W4q t.2∧ivI mN aN (N4 t.2)∧ivR mN (1100 - t.1) (N4 t.2)=R) (fun t=>1100 - t.1) (0,(a,m,K1,zI)) ⟨by dsimp only;omega,⟨ha,hm,YU,H4⟩,by rw [hN0];exact hI0,by rw [hN0];exact hR⟩ (by
    simp [m7,c6,fv,lk,AV.low,AV.low1]
    and_intros <;> first | rfl | exact o9 _ _) ?_
  rintro ⟨k,u,v,x,y⟩ ⟨hk,⟨hu,hv,hx,hy⟩,hI,hq⟩;dsimp only at hk hu hv hx hy hI hq;have w3:=j6 (k:=k) aa;have hul:=hu.1;have hvl:=hv.1;have hxl:=hx.1;have hyl:=hy.1;have qu:=G5 hu;have qy:=G5 hy
  have YM:ivR mN (1100 - k) (N4 (u,v,x,y))=N4 (u,v,x,y)→y=r:=by
   intro h;rw [hq] at h;refine Zl hy hr ?_;have h4:=congrArg (fun s:I4=>s.2.2.2) h;simp only [N4] at h4;omega
  by_cases hk2:k<1100
  ·have hk2i:(k:Int)<1100:=aa;by_cases hu0:u=zI
   ·have hy2:y=r:=YM (by
     obtain ⟨j,hj⟩:∃ j,1100 - k=j+1:=⟨1099 - k,aa⟩
     rw [hj,ivR,if_pos (by unfold N4;dsimp only;rw [hu0,aaU];rfl)])
    subst hy2;simp [go_sem,hk2i,hul,a8 hul,y6,iz,hu0,Xm,a8 (l:=zI) (n:=4) rfl,hyl,a8 hyl,hz,d7];exact A7 rfl
   ·have hun:(V u).toNat ≠ 0:=fun h=>hu0 (Zl hu H4 (by rw [aaU];omega));have hst:=ah6 (m:=mN) (a:=aN) aa hI hun
    have hnx:ivR mN (1100 - (k+1)) (ivS mN (N4 (u,v,x,y)))=R:=by
     obtain ⟨j,hj⟩:∃ j,1100 - k=j+1:=⟨1099 - k,aa⟩;rw [hj,ivR,if_neg (show (N4 (u,v,x,y)).1 ≠ 0 from hun)] at hq;rw [show 1100 - (k+1)=j by omega];exact hq
    obtain ⟨we,wo⟩:=amY (m:=mN) (a:=aN) aa aa hm vm (s:=(u,v,x,y)) ⟨hu,hv,hx,hy⟩ hI hu0;dsimp only at we wo;have hg0:=ZS hu;have ku0:=B9 (l:=u) (k:=0) aa;have huh:(cI u).head?=some (.d (.int .u64 (gI u 0))):=by rw [List.head?_eq_getElem?,TX,ku0];rfl
    have hR0:=x5 (k:=0) hu;by_cases hev:V u % 2=0
    ·obtain ⟨u2,x2,hu2,hx2,f1,f2,hN⟩:=we hev;unfold W2 at f1 f2;have g0:gI u 0 % 2=0:=aa;have g0t:Int.tmod (gI u 0) 2=0:=by rw [Int.tmod_eq_emod_of_nonneg hR0.1];exact g0
     have l1:=hu2.1;have l2:=hx2.1;simp [go_sem,hk2i,hul,hxl,hml,a8 hul,a8 hxl,a8 hml,y6,iz,hu0,ku0,huh,g0,g0t];refine a9 f1 (d5 _ _) ?_;simp [go_sem,l1,hul,a8 l1,i9 hul,hxl,hml,a8 hxl,a8 hml];refine a9 f2 (d5 _ _) ?_;simp [go_sem,l2,hxl,a8 l2,i9 hxl,w3];refine c8 (k+1,(u2,v,x2,y)) ⟨by dsimp only;omega,⟨hu2,hv,hx2,hy⟩,by rw [hN];exact hst.1,by rw [hN];exact hnx⟩ (by dsimp only;omega) ?_;simp [m7,c6,fv,lk,AV.low,AV.low1];and_intros <;> first | rfl | exact o9 _ _
    ·obtain ⟨d,c,hd,hc,hcl,f1,hrest⟩:=wo hev;have g0:gI u 0 % 2=1:=aa;have g0t:Int.tmod (gI u 0) 2=1:=by rw [Int.tmod_eq_emod_of_nonneg hR0.1];exact g0
     have ld:=hd.1;simp [go_sem,hk2i,hul,hvl,a8 hul,a8 hvl,y6,iz,hu0,ku0,huh,g0,g0t];refine a9 f1 (d5 _ _) ?_;by_cases hc1:c=1
     ·obtain ⟨d',c',hd',hc',vd',f2⟩:=V6 v u hv hu;have qd':=G5 hd';have qv:=G5 hv
      have vdd:V d'=V v - V u:=by
       have:=hcl hc1;have:=hc'.1;have:=hc'.2;omega
      obtain ⟨z,b,z2,b2,hzw,hb,hz2w,f3,f4,hN⟩:=hrest d' u y x (.inl ⟨hc1,hd',vdd,rfl,rfl,rfl⟩);have ld':=hd'.1;have lz:=hzw.1;have lz2:=hz2w.1;simp [go_sem,hc1,ld,a8 ld,hul,hvl,a8 hul,a8 hvl,hz];refine a9 f2 (d5 _ _) ?_;simp [go_sem,ld,ld',a8 ld',i9 ld,hul,hvl,hxl,hyl,a8 hul,a8 hxl,a8 hyl,i9 hul,i9 hvl,i9 hxl,i9 hyl];refine a9 f3 (d5 _ _) ?_;by_cases hb1:b=1
      ·rw [if_pos hb1] at hN;simp [go_sem,hb1,lz,a8 lz,hz,hml,a8 hml];refine a9 f4 (d5 _ _) ?_;simp [go_sem,lz,lz2,a8 lz2,i9 lz,hyl,i9 hyl,w3];refine c8 (k+1,(d',u,z2,x)) ⟨by dsimp only;omega,⟨hd',hu,hz2w,hx⟩,by rw [hN];exact hst.1,by rw [hN];exact hnx⟩ (by dsimp only;omega) ?_;simp [m7,c6,fv,lk,AV.low,AV.low1];and_intros <;> first | rfl | exact o9 _ _
      ·rw [if_neg hb1] at hN;simp [go_sem,hb1,lz,a8 lz,hz,hyl,i9 hyl,w3];refine c8 (k+1,(d',u,z,x)) ⟨by dsimp only;omega,⟨hd',hu,hzw,hx⟩,by rw [hN];exact hst.1,by rw [hN];exact hnx⟩ (by dsimp only;omega) ?_;simp [m7,c6,fv,lk,AV.low,AV.low1];and_intros <;> first | rfl | exact o9 _ _
     ·have hc0:c=0:=by have:=hc.1;have:=hc.2;omega
      obtain ⟨z,b,z2,b2,hzw,hb,hz2w,f3,f4,hN⟩:=hrest d v x y (.inr ⟨hc0,rfl,rfl,rfl,rfl⟩);have lz:=hzw.1;have lz2:=hz2w.1;simp [go_sem,hc0,ld,a8 ld,hul,hxl,hyl,a8 hxl,a8 hyl,i9 hul,hz];refine a9 f3 (d5 _ _) ?_;by_cases hb1:b=1
      ·rw [if_pos hb1] at hN;simp [go_sem,hb1,lz,a8 lz,hz,hml,a8 hml];refine a9 f4 (d5 _ _) ?_;simp [go_sem,lz,lz2,a8 lz2,i9 lz,hxl,i9 hxl,w3];refine c8 (k+1,(d,v,z2,y)) ⟨by dsimp only;omega,⟨hd,hv,hz2w,hy⟩,by rw [hN];exact hst.1,by rw [hN];exact hnx⟩ (by dsimp only;omega) ?_;simp [m7,c6,fv,lk,AV.low,AV.low1];and_intros <;> first | rfl | exact o9 _ _
      ·rw [if_neg hb1] at hN;simp [go_sem,hb1,lz,a8 lz,hz,hxl,i9 hxl,w3];refine c8 (k+1,(d,v,z,y)) ⟨by dsimp only;omega,⟨hd,hv,hzw,hy⟩,by rw [hN];exact hst.1,by rw [hN];exact hnx⟩ (by dsimp only;omega) ?_;simp [m7,c6,fv,lk,AV.low,AV.low1];and_intros <;> first | rfl | exact o9 _ _
  ·have hk3:k=1100:=aa;have hk2i:¬ (k:Int)<1100:=aa;have hy2:y=r:=YM (by rw [hk3];rfl);subst hy2;simp [go_sem,hk2i,hyl,a8 hyl,hz,d7];exact A7 rfl
theorem K7 (a b:List Int) (ha:Wn 4 a) (hb:Wn 4 b):∃ r,Wn 4 r∧(V r<pZ∧FV r=FV a*FV b)∧W2 187 a b r:=by
 obtain ⟨r,h1,h2,h3⟩:=adG a b ha hb;exact ⟨r,h1,amt h2,h3⟩
theorem as3 (a b:List Int) (ha:Wn 4 a) (hb:Wn 4 b):∃ r,Wn 4 r∧(V r<pZ∧FV r=FV a+FV b)∧W2 223 a b r:=by
 obtain ⟨r,h1,h2,h3⟩:=apC a b ha hb;exact ⟨r,h1,amu h2,h3⟩
theorem Vn (a b:List Int) (ha:Wn 4 a) (hb:Wn 4 b):∃ r,Wn 4 r∧(V r<pZ∧FV r=FV a - FV b)∧W2 226 a b r:=by
 obtain ⟨r,h1,h2,h3⟩:=aim a b ha hb;exact ⟨r,h1,amv h2,h3⟩
theorem amZ {n:Nat} [NeZero n] (f:Go.Ec.Fd n) {r a:Fin n} (h:r*a=1) (ha:a ≠ 0):r=f.inv a:=by
 have h2:=f.hinv a ha;generalize f.inv a=i at *
 have:r=(r*a)*i:=by
  have e:(r*a)*i=r*(a*i):=by clear h h2;grobner
  rw [e,h2];clear h h2 e;grobner
 rw [this,h];clear this h h2;grobner
theorem ajC:(((1:F).val:Nat):Int)=1:=by
 show ((1 % pP:Nat):Int)=1;rw [Nat.mod_eq_of_lt (by have:=apk;omega)];rfl
theorem as4 {n:Nat} [NeZero n] (f:Go.Ec.Fd n) {r a:Fin n} (h0:a=0→r=0) (h1:a ≠ 0→r*a=1):r=f.inv a:=by
 by_cases hz:a=0
 ·rw [hz,f.inv0];exact h0 hz
 ·exact amZ f (h1 hz) hz
theorem apK {r a a1:List Int} (hl:V r<pZ) (e1:V a1=V a % pZ) (h0:V a1=0→V r=0) (h1:V a1 ≠ 0→V r*V a1 % pZ=1):V r<pZ∧FV r=fd.inv (FV a):=by
 refine ⟨hl,?_⟩;have ea:FV a1=FV a:=ams (by rw [e1,Int.emod_emod]);have hmod:V a1 % pZ=V a1:=by rw [e1,Int.emod_emod]
 have hv:(((FV a1).val:Nat):Int)=V a1:=by rw [G3,hmod]
 have z0:(((0:F).val:Nat):Int)=0:=by rw [← Xp,G3,aaU];rfl
 have k0:FV a1=0→FV r=0:=fun h=>by
  have:V a1=0:=by rw [← hv,h,z0]
  rw [← Xp];exact ams (by rw [h0 this,aaU])
 have k1:FV a1 ≠ 0→FV r*FV a1=1:=fun h=>by
  have:V a1 ≠ 0:=fun q=>h (by rw [← Xp];exact ams (by rw [q,aaU]));have h2:=h1 this;exact VY (by rw [ajC,YR,Int.natCast_emod,Int.natCast_mul,G3,G3,Rp,← Int.mul_emod,h2])
 rw [← ea];exact as4 fd k0 k1
theorem as5 (a:List Int) (ha:Wn 4 a):∃ r,Wn 4 r∧(V r<pZ∧FV r=fd.inv (FV a))∧W1 186 a r:=by
 obtain ⟨a1,ha1,va1,f1⟩:=O0 a ha;have vp:=amO;have q:=G5 ha1
 obtain ⟨r,hr,v1,v2,v3,f2⟩:=afi a1 WF ha1 W7 (by rw [vp];decide) (by rw [vp];decide) (by rw [vp,va1];exact Int.emod_lt_of_pos _ (by decide)) (fun h=>by
  have hp:=ah3
  have hn:¬ 115792089237316195423570985008687907853269984665640564039457584007908834671663 ∣ (V a1).toNat:=by
   intro hd;have:=Nat.le_of_dvd aa hd;have hlt:V a1<115792089237316195423570985008687907853269984665640564039457584007908834671663:=by rw [va1];exact Int.emod_lt_of_pos _ (by decide)
   omega
  have hc:=hp.cop hn;have e:(V WF).toNat=115792089237316195423570985008687907853269984665640564039457584007908834671663:=by rw [vp];rfl
  rw [e,Nat.gcd_comm]
  exact hc)
 rw [vp] at v1 v3;unfold W1 at f1;unfold W2 at f2;have hal:=ha.1;have h1l:=ha1.1;have hrl:=hr.1;have hz:List.drop 4 (cI zI)=[]:=i9 rfl;refine ⟨r,hr,apK v1 va1 v2 v3,?_⟩;unfold W1;refine t6 Tryz.func186 Tryz.ntmps186 (rs:=[.cell 2 160]) (m9 a) ?_;simp [go_sem,hal,a8 hal];refine a9 f1 (m9 _) ?_;simp [go_sem];refine a9 TM ab ?_;simp [go_sem];refine a9 f2 (d5 _ _) ?_;simp [go_sem,hrl,a8 hrl,hz,d7];exact A7 rfl
theorem avQ (a:List Int) (ha:Wn 4 a):∃ (r:List Int) (ok:Bool),Wn 4 r∧(ok=true ↔ (V a ^ 28948022309329048855892746252171976963317496166410141009864396001977208667916 % 115792089237316195423570985008687907853269984665640564039457584007908834671663)*(V a ^ 28948022309329048855892746252171976963317496166410141009864396001977208667916 % 115792089237316195423570985008687907853269984665640564039457584007908834671663) % 115792089237316195423570985008687907853269984665640564039457584007908834671663=V a % 115792089237316195423570985008687907853269984665640564039457584007908834671663)∧(ok=true→V r=if V a ^ 28948022309329048855892746252171976963317496166410141009864396001977208667916 % 115792089237316195423570985008687907853269984665640564039457584007908834671663 % 2=0 then V a ^ 28948022309329048855892746252171976963317496166410141009864396001977208667916 % 115792089237316195423570985008687907853269984665640564039457584007908834671663 else (0 - V a ^ 28948022309329048855892746252171976963317496166410141009864396001977208667916 % 115792089237316195423570985008687907853269984665640564039457584007908834671663) % 115792089237316195423570985008687907853269984665640564039457584007908834671663)∧(ok=false→r=zI)∧m6 Tryz.prog 176 [.agg (cI a)] (fun x=>x=.tup [.agg (cI r),.d (.bool ok)]):=by
 obtain ⟨n0,c,hn0,hc,vn0,f1⟩:=Tb WF [1,0,0,0] W7 (H8 ⟨aa,aa⟩);obtain ⟨n,hn,vn,f2⟩:=apH n0 hn0;obtain ⟨r,hr,vr,f3⟩:=apJ a n ha hn;obtain ⟨m,hm,vm,f4⟩:=adG r r hr hr;obtain ⟨a1,ha1,va1,f5⟩:=O0 a ha;obtain ⟨q,hq,vq,f6⟩:=apD r hr;have vp:V WF=115792089237316195423570985008687907853269984665640564039457584007908834671663:=by simp [V,WF]
 have v1:V [1,0,0,0]=1:=by simp [V]
 rw [vp,v1] at vn0;have b1:=G5 hn0;have b2:=hc.1;have b3:=hc.2;have vN:(V n).toNat=28948022309329048855892746252171976963317496166410141009864396001977208667916:=aa;rw [vN] at vr
 have hmV:m=a1 ↔ (V a ^ 28948022309329048855892746252171976963317496166410141009864396001977208667916 % 115792089237316195423570985008687907853269984665640564039457584007908834671663)*(V a ^ 28948022309329048855892746252171976963317496166410141009864396001977208667916 % 115792089237316195423570985008687907853269984665640564039457584007908834671663) % 115792089237316195423570985008687907853269984665640564039457584007908834671663=V a % 115792089237316195423570985008687907853269984665640564039457584007908834671663:=by
  rw [← vr,← vm,← va1];exact ⟨fun h=>by rw [h],fun h=>Zl hm ha1 h⟩
 have hr00:=x5 (k:=0) hr;have hmg:=ZS hr;have hmt:Int.tmod (gI r 0) 2=gI r 0 % 2:=Int.tmod_eq_emod_of_nonneg hr00.1;have hpar:gI r 0 % 2=0 ↔ V r % 2=0:=by rw [hmg]
 rw [← vr] at hmV;unfold W1 at f5 f6;unfold W2 at f3 f4;have hal:=ha.1;have h0l:=hn0.1;have hrl:=hr.1;have hml:=hm.1;have h1l:=ha1.1;have hql:=hq.1;have hz:List.drop 4 (cI zI)=[]:=i9 rfl;have hr0:=B9 (l:=r) (k:=0) aa
 have hrh:(cI r).head?=some (.d (.int .u64 (gI r 0))):=by
  rw [List.head?_eq_getElem?,TX,hr0];rfl
 have key:∀ (x:List Int) (ok:Bool),Wn 4 x→(m ≠ a1→x=zI∧ok=false)→(m=a1→ok=true∧x=(if gI r 0 % 2=0 then r else q))→m6 Tryz.prog 176 [.agg (cI a)] (fun y=>y=.tup [.agg (cI x),.d (.bool ok)]):=by
  intro x ok hx hno hyes;refine t6 Tryz.func176 Tryz.ntmps176 (rs:=[.cell 2 160,.tmp 3]) (m9 a) ?_;simp [go_sem,hal,a8 hal];refine a9 TM ab ?_;simp [go_sem];refine a9 f1 (d5 WF [1,0,0,0]) ?_;simp [go_sem,h0l,a8 h0l,hz];refine C4 [0,1] [2,3,4,5] [0,1] (.alt (ah 2 (.alt (ag [3,4,5]) (ah 4 (ag [3,5])))) (ah 4 (ah 2 (ag [3,5])))) ⟨[(1,.ptr 0 0 0 1),(2,.ptr 32 0 0 1),(6,.ptr 512 0 0 1)],[(512,⟨160,4,[cI r]⟩),(32,⟨160,4,[cI zI]⟩),(0,⟨160,4,[cI a]⟩)],9000⟩ (k:=6) ?h3 ?hq
  case h3 =>
   intro G hG
   have hW:∀ (fr:Fr) (hp:Hp),(fv 1 fr=.ptr 0 0 0 1∧fv 2 fr=.ptr 32 0 0 1∧fv 6 fr=.ptr 512 0 0 1∧lk 512 hp=some ⟨160,4,[cI r]⟩∧lk 32 hp=some ⟨160,4,[cI zI]⟩∧lk 0 hp=some ⟨160,4,[cI a]⟩)→G fr hp:=by
    rintro fr hp ⟨q0,q1,q2,q3,q4,q5⟩;exact hG _ _ Rz
   simp [go_sem,hal,a8 hal,h0l,a8 h0l,hrl,a8 hrl,hz,A6]
   repeat' first | exact hW _ _ ⟨rfl,rfl,rfl,rfl,rfl,rfl⟩ | (refine hW _ _ ?_;simp [fv,lk];done) | refine a9 f2 (SU _ _) ?_ | refine a9 f3 (d5 _ _) ?_ | apply And.intro | simp [go_sem,hal,a8 hal,h0l,a8 h0l,hrl,a8 hrl,hz,A6]
  case hq =>
   simp [go_sem];refine B7 [0,1,3] [(2,[]),(4,[5])] 2 (k:=6) ?_;intro G hG;simp [go_sem,hrl,a8 hrl,hal,a8 hal];refine a9 f4 (d5 _ _) ?_;simp [go_sem,hrl,a8 hrl,hal,a8 hal];refine a9 f5 (m9 _) ?_;simp [go_sem,y6,hml,h1l];refine hG _ _ ?_;by_cases h1:m=a1
   ·obtain ⟨rfl,hx2⟩:=hyes h1;by_cases h2:gI r 0 % 2=0
    ·rw [if_pos h2] at hx2;subst hx2;simp [go_sem,h1,hr0,hrh,hmt,h2,hrl,a8 hrl,hz,d7];exact RB rfl
    ·rw [if_neg h2] at hx2;subst hx2;have h2b:gI r 0 % 2=1:=aa;simp [go_sem,h1,hr0,hrh,hmt,h2,h2b,hrl,a8 hrl,hz];refine a9 f6 (m9 _) ?_;simp [go_sem,hql,hrl,a8 hql,i9 hrl,hz,d7];exact RB rfl
   ·obtain ⟨rfl,rfl⟩:=hno h1;simp [go_sem,h1,hz,a8 (l:=zI) (n:=4) rfl,d7];exact RB (a:=zI) rfl
 rw [← vr];by_cases h1:m=a1
 ·refine ⟨if gI r 0 % 2=0 then r else q,true,?_,⟨fun _=>hmV.1 h1,fun _=>rfl⟩,fun _=>?_,fun h=>(Bool.noConfusion h),key _ _ ?_ (fun h=>absurd h1 h) (fun _=>⟨rfl,rfl⟩)⟩
  ·split
   ·exact hr
   ·exact hq
  ·by_cases h2:V r % 2=0
   ·rw [if_pos (hpar.2 h2),if_pos h2]
   ·rw [if_neg (fun h=>h2 (hpar.1 h)),if_neg h2,vq]
  ·split
   ·exact hr
   ·exact hq
 ·exact ⟨zI,false,H4,⟨fun h=>(Bool.noConfusion h),fun h=>absurd (hmV.2 h) h1⟩,fun h=>(Bool.noConfusion h),fun _=>rfl,key _ _ H4 (fun _=>⟨rfl,rfl⟩) (fun h=>absurd h h1)⟩
theorem am0 (a:List Int) (ha:Wn 4 a):∃ r,Wn 4 r∧(V r<pZ∧FV r=FV a*FV a*FV a+7)∧W1 177 a r:=by
 obtain ⟨s,hs,vs,f1⟩:=K7 a a ha ha;obtain ⟨m,hm,vm,f2⟩:=K7 a s ha hs;obtain ⟨r,hr,vr,f3⟩:=as3 m [7,0,0,0] hm (H8 ⟨aa,aa⟩);have v7:FV [7,0,0,0]=7:=YS 7 aa;rw [v7,vm.2,vs.2] at vr
 have e:FV a*(FV a*FV a)=FV a*FV a*FV a:=by
  generalize FV a=z
  grobner
 rw [e] at vr;unfold W2 at f1 f2 f3;have hal:=ha.1;have hrl:=hr.1;have hz:List.drop 4 (cI zI)=[]:=i9 rfl;refine ⟨r,hr,vr,?_⟩;unfold W1;refine t6 Tryz.func177 Tryz.ntmps177 (rs:=[.cell 2 160]) (m9 a) ?_;simp [go_sem,hal,a8 hal];refine B7 [0,1,2,5] [(3,[]),(4,[]),(6,[]),(7,[])] 2 (k:=8) ?_;intro G hG;simp [go_sem,hal,a8 hal];refine a9 f1 (d5 _ _) ?_;simp [go_sem,hal,a8 hal];refine a9 f2 (d5 _ _) ?_;simp [go_sem];refine a9 f3 (d5 m [7,0,0,0]) ?_;simp [go_sem,hrl,a8 hrl,hz,A6];refine hG _ _ ?_;simp [go_sem,hrl,a8 hrl,d7];exact A7 rfl
theorem am1 (a b:List Nat) (ha:a.length=4) (hb:b.length=4):m6 Tryz.prog 224 [.agg (cW a),.agg (cW b)] (fun r=>r=.d (.int .i64 (YN a b 4))):=by
 refine t6 Tryz.func224 Tryz.ntmps224 (rs:=[.tmp 4]) (by intro v hv;simp at hv;rcases hv with rfl | rfl <;> exact ZL _) ?_;generalize hF:YN a b 4=F;simp [go_sem]
 refine j9 (fun k:Nat=>⟨[(2,.ptr 0 0 0 1),(3,.ptr 32 0 0 1),(5,.d (.int .i64 (ixD k)))],[(32,⟨160,4,[cW b]⟩),(0,⟨160,4,[cW a]⟩)],500⟩)
  (fun k=>k≤4∧YN a b k=F) (fun k=>k) 4 ⟨aa,hF⟩ (by
   simp [m7,c6,fv,lk,AV.low,AV.low1,Sl,ha,hb,ixD]
   exact ⟨SE _ _,SE _ _⟩) ?_
 rintro k ⟨hk,hq⟩
 cases k with
 | zero =>
  simp only [YN] at hq;subst hq;simp [go_sem,X6,d7];exact b7 ae rfl
 | succ k =>
  obtain ⟨x,hx,_⟩:=t5 (l:=a) (k:=k) aa;obtain ⟨y,hy,_⟩:=t5 (l:=b) (k:=k) aa;have ex:a.getD k 0=x:=by rw [aw,hx];rfl
  have ey:b.getD k 0=y:=by rw [aw,hy];rfl
  simp only [YN,ex,ey] at hq;have hw:=TW k aa;simp [go_sem,Ta];refine B7 [0,1,2,3,4,5,6] [] 0 (k:=7) ?_;intro G hG;simp [go_sem,YO,hx,hy];refine ⟨aa,hG _ _ ?_⟩;by_cases h1:x<y
  ·rw [if_pos h1] at hq;subst hq;simp [go_sem,h1,d7];exact b7 ae rfl
  ·rw [if_neg h1] at hq;simp [go_sem,h1];refine B7 [0,1,2,3,4,5,6] [] 0 (k:=7) ?_;intro G hG;simp [go_sem,YO,hx,hy];refine ⟨aa,hG _ _ ?_⟩;by_cases h2:y<x
   ·rw [if_pos h2] at hq;subst hq;simp [go_sem,h2,d7];exact b7 ae rfl
   ·rw [if_neg h2] at hq;simp [go_sem,h2,hw];refine c8 k ⟨aa,hq⟩ aa ?_;simp [m7,c6,fv,lk,AV.low,AV.low1,Sl,ha,hb];exact ⟨SE _ _,SE _ _⟩
theorem afj (a b:List Int) (ha:Wn 4 a) (hb:Wn 4 b):∃ c:Int,(c<0 ↔ V a<V b)∧m6 Tryz.prog 224 [.agg (cI a),.agg (cI b)] (fun r=>r=.d (.int .i64 c)):=by
 obtain ⟨hl,e1⟩:=ah7 ha;obtain ⟨hm,e2⟩:=ah7 hb;rw [e1,e2];exact ⟨_,avA ha hb,am1 _ _ hl hm⟩
theorem agU (a:List Int) (ha:Wn 4 a):∃ b:Bool,(b=true ↔ V a<pZ)∧m6 Tryz.prog 178 [.agg (cI a)] (fun r=>r=.d (.bool b)):=by
 obtain ⟨c,vc,f1⟩:=afj a WF ha W7;have vp:V WF=pZ:=by simp [V,WF]
 rw [vp] at vc;have hal:=ha.1;refine ⟨decide (c<0),by rw [decide_eq_true_iff];exact vc,?_⟩;refine t6 Tryz.func178 Tryz.ntmps178 (rs:=[.tmp 2]) (m9 a) ?_;simp [go_sem,hal,a8 hal];refine B7 [0] [(1,[]),(2,[3,4])] 2 (k:=5) ?_;intro G hG;simp [go_sem,hal,a8 hal];refine a9 TM ab ?_;simp [go_sem];refine a9 f1 (d5 _ _) ?_;simp [go_sem,A6];refine hG _ _ ?_;simp [go_sem,d7];exact b7 ae rfl
theorem ron (x y:List Int) (b:Bool) (hx:Wn 4 x) (hy:Wn 4 y):∃ c:Bool,(c=true ↔ L2 x y b)∧m6 Tryz.prog 227 [.agg (cP x y b)] (fun r=>r=.d (.bool c)):=by
 have hxl:=hx.1;have hyl:=hy.1
 cases b
 ·obtain ⟨b1,vb1,f1⟩:=agU x hx;obtain ⟨b2,vb2,f2⟩:=agU y hy;obtain ⟨s,hs,vs,f3⟩:=K7 y y hy hy;obtain ⟨r,hr,vr,f4⟩:=am0 x hx;unfold W2 at f3;unfold W1 at f4;have hsl:=hs.1;have hrl:=hr.1;have e1:∀ c:Bool,(cP x y c).take 4=cI x:=ae6 hxl;have e2:∀ c:Bool,((cP x y c).drop 4).take 4=cI y:=ajv hxl hyl
  have hv:(b1 && (b2 && decide (s=r)))=true ↔ L2 x y false:=by
   rw [Bool.and_eq_true,Bool.and_eq_true,decide_eq_true_iff,vb1,vb2];refine ⟨fun ⟨h1,h2,h3⟩=>.inr ⟨rfl,h1,h2,by rw [← vs.2,h3,vr.2]⟩,fun h=>?_⟩;rcases h with ⟨h,_⟩ | ⟨_,h1,h2,h3⟩
   ·cases h
   ·exact ⟨h1,h2,aaJ hs hr vs.1 vr.1 (by rw [vs.2,vr.2,h3])⟩
  refine ⟨b1 && (b2 && decide (s=r)),hv,?_⟩;refine t6 Tryz.func227 Tryz.ntmps227 (rs:=[.tmp 2]) (B4 _ _ _) ?_;simp [go_sem,rP hxl hyl,t4 hxl hyl,VG hxl hyl,V1 hxl hyl]
  cases b1
  ·skip;refine B7 [0,1] [(2,[3,4,5]),(6,[7,8,9,10,11,12,14,15]),(13,[]),(16,[17,18,19])] 4 (k:=20) ?_;intro G hG;simp [go_sem,rP hxl hyl,e1,e2];refine a9 f1 (m9 _) ?_;simp [go_sem,A6];refine hG _ _ ?_;simp [go_sem,d7];exact b7 ae rfl
  ·cases b2
   ·skip;refine B7 [0,1] [(2,[3,4,5]),(6,[7,8,9,10,11,12,14,15]),(13,[]),(16,[17,18,19])] 4 (k:=20) ?_;intro G hG;simp [go_sem,rP hxl hyl,e1,e2];refine a9 f1 (m9 _) ?_;simp [go_sem,rP hxl hyl,e1,e2,A6];refine a9 f2 (m9 _) ?_;simp [go_sem,A6];refine hG _ _ ?_;simp [go_sem,d7];exact b7 ae rfl
   ·skip;refine B7 [0,1] [(2,[3,4,5]),(6,[7,8,9,10,11,12,14,15]),(13,[]),(16,[17,18,19])] 4 (k:=20) ?_;intro G hG;simp [go_sem,rP hxl hyl,e1,e2];refine a9 f1 (m9 _) ?_;simp [go_sem,rP hxl hyl,e1,e2,A6];refine a9 f2 (m9 _) ?_;simp [go_sem,rP hxl hyl,e1,e2,A6];refine a9 f3 (d5 _ _) ?_;simp [go_sem,rP hxl hyl,e1,e2,A6];refine a9 f4 (m9 _) ?_;simp [go_sem,y6,hsl,hrl,A6];refine hG _ _ ?_;simp [go_sem,d7];exact b7 ae rfl
 ·have hv:decide (lP x y true=lP zI zI true)=true ↔ L2 x y true:=by
   rw [decide_eq_true_iff];refine ⟨fun h=>.inl ⟨rfl,?_⟩,fun h=>?_⟩
   ·match x,y,hxl,hyl with
    | [a,b,c,d],[e,f,g,i],_,_ =>
     simp [lP,zI] at h;obtain ⟨rfl,rfl,rfl,rfl,rfl,rfl,rfl,rfl⟩:=h;exact ⟨rfl,rfl⟩
   ·rcases h with ⟨_,rfl,rfl⟩ | ⟨h,_⟩
    ·rfl
    ·cases h
  refine ⟨decide (lP x y true=lP zI zI true),hv,?_⟩;refine t6 Tryz.func227 Tryz.ntmps227 (rs:=[.tmp 2]) (B4 _ _ _) ?_;have k1:=adu hxl hyl true;have k2:=adu (x:=zI) (y:=zI) rfl rfl true;have l1:=ZN x y true;have l2:=ZN zI zI true;generalize lP x y true=u at *;have zz:cP zI zI true=[AV.d (.int .u64 0),AV.d (.int .u64 0),AV.d (.int .u64 0),AV.d (.int .u64 0),AV.d (.int .u64 0),AV.d (.int .u64 0),AV.d (.int .u64 0),AV.d (.int .u64 0),AV.d (.bool true)]:=rfl;have kk:=Option.some.inj (k1.symm.trans ksP);simp [go_sem,rP hxl hyl,t4 hxl hyl,VG hxl hyl,V1 hxl hyl,l1,egP,ksP,d7];exact ⟨kk.symm,⟨rfl,rfl⟩,b7 ae rfl⟩
theorem am2 (x y:List Int) (b:Bool) (hx:Wn 4 x) (hy:Wn 4 y):∃ (u v:List Int) (c:Bool),Wn 4 u∧Wn 4 v∧(L2 u v c∧(L2 x y b→u=x∧v=y∧c=b)∧(¬ L2 x y b→u=zI∧v=zI∧c=true))∧m6 Tryz.prog 181 [.agg (cP x y b)] (fun r=>r=.agg (cP u v c)):=by
 obtain ⟨o,vo,f1⟩:=ron x y b hx hy;have hxl:=hx.1;have hyl:=hy.1;have zd:(cP zI zI false).drop 9=[]:=L5 rfl rfl _;have zl:(cP zI zI true).length=9:=rfl;have zt:(cP zI zI true).take 9=cP zI zI true:=t4 rfl rfl _;have zl2:(cP zI zI false).length=9:=rfl
 cases o
 ·refine ⟨zI,zI,true,H4,H4,⟨VZ,fun h=>absurd (vo.2 h) (by decide),fun _=>⟨rfl,rfl,rfl⟩⟩,?_⟩;refine t6 Tryz.func181 Tryz.ntmps181 (rs:=[.cell 2 162]) (B4 _ _ _) ?_;simp [go_sem,rP hxl hyl,t4 hxl hyl];refine a9 f1 (B4 _ _ _) ?_;simp [go_sem,zl,zt,zd,zl2,d7];exact L9 (x:=zI) (y:=zI) (b:=true) rfl
 ·refine ⟨x,y,b,hx,hy,⟨vo.1 rfl,fun _=>⟨rfl,rfl,rfl⟩,fun h=>absurd (vo.1 rfl) h⟩,?_⟩;refine t6 Tryz.func181 Tryz.ntmps181 (rs:=[.cell 2 162]) (B4 _ _ _) ?_;simp [go_sem,rP hxl hyl,t4 hxl hyl];refine a9 f1 (B4 _ _ _) ?_;simp [go_sem,rP hxl hyl,t4 hxl hyl,zd,zl2,d7];exact L9 rfl
theorem acm {x1 y1 x2 y2 d i X Y s up:F} (hi:d*i=1) (es:s=up*i) (eX:X=s*s - x1 - x2) (eY:Y=s*(x1 - X) - y1):X*(d*d)=up*up - (x1+x2)*(d*d)∧Y*d=up*(x1 - X) - y1*d:=by
 have e1:s*d=up:=by
  have:s*d=up*(d*i):=by rw [es];clear hi es eX eY;grobner
  rw [this,hi];clear hi es eX eY this;grobner
 refine ⟨?_,?_⟩
 ·have:X*(d*d)=(s*d)*(s*d) - (x1+x2)*(d*d):=by rw [eX];clear hi es eX eY e1;grobner
  rw [this,e1]
 ·have:Y*d=(s*d)*(x1 - X) - y1*d:=by rw [eY];clear hi es eX eY e1;grobner
  rw [this,e1]
theorem apL {x y X Y:F} (h1:X*((y+y)*(y+y))=3*(x*x)*(3*(x*x)) - (x+x)*((y+y)*(y+y))) (h2:Y*(y+y)=3*(x*x)*(x - X) - y*(y+y)):X*(4*(y*y))=3*(x*x)*(3*(x*x)) - 8*(x*(y*y))∧Y*(2*y)=3*(x*x)*(x - X) - y*(2*y):=by
 refine ⟨?_,?_⟩
 ·have e:X*(4*(y*y))=X*((y+y)*(y+y)):=by clear h1 h2;grobner
  rw [e,h1];clear h1 h2 e;grobner
 ·have e:Y*(2*y)=Y*(y+y):=by clear h1 h2;grobner
  rw [e,h2];clear h1 h2 e;grobner
theorem as6 {x y y':F} (h1:RZ (some (x,y))) (h2:RZ (some (x,y'))) (hne:y ≠ y'):y'=-y:=by
 have e1:y*y=x*x*x+7:=h1;have e2:y'*y'=x*x*x+7:=h2
 have h3:(y' - y)*(y'+y)=0:=by
  have:(y' - y)*(y'+y)=y'*y' - y*y:=by clear h1 h2 hne e1 e2;grobner
  rw [this,e1,e2];clear h1 h2 hne e1 e2 this;grobner
 rcases fd.nzd h3 with h | h
 ·exact absurd (VA h).symm hne
 ·clear h1 h2 hne e1 e2 h3;grobner
theorem Vo (x y:List Int) (b:Bool) (x' y':List Int) (b':Bool):∀ v,v ∈ [AV.agg (cP x y b),AV.agg (cP x' y' b')]→v.deep:=by
 intro v hv;simp at hv;rcases hv with rfl | rfl <;> exact Vl _ _ _
theorem ax1 (x y x' y':List Int) (b b':Bool) (hx:Wn 4 x) (hy:Wn 4 y) (hx':Wn 4 x') (hy':Wn 4 y') (hp:L2 x y b) (hp':L2 x' y' b'):∃ (u v:List Int) (o:Bool),Wn 4 u∧Wn 4 v∧L2 u v o∧PV u v o=sum fd (PV x y b) (PV x' y' b')∧m6 Tryz.prog 180 [.agg (cP x y b),.agg (cP x' y' b')] (fun r=>r=.agg (cP u v o)):=by
 have hxl:=hx.1;have hyl:=hy.1;have hxl':=hx'.1;have hyl':=hy'.1;have z4:List.drop 4 (cI zI)=[]:=i9 rfl;have pd:(cP zI zI false).drop 9=[]:=L5 rfl rfl _;have zl2:(cP zI zI false).length=9:=rfl;have iz:C0 .u64 [AV.d (.int .u64 0),AV.d (.int .u64 0),AV.d (.int .u64 0),AV.d (.int .u64 0)]=some zI:=y6 zI;have on1:=TA hp;have on2:=TA hp'
 cases b
 case true =>
  refine ⟨x',y',b',hx',hy',hp',(K6 fd on2).symm,?_⟩;refine t6 Tryz.func180 Tryz.ntmps180 (rs:=[.cell 4 162]) (Vo _ _ _ _ _ _) ?_;simp [go_sem,rP hxl hyl,t4 hxl hyl,VG hxl hyl,V1 hxl hyl,rP hxl' hyl',t4 hxl' hyl',zl2,pd,d7];exact L9 rfl
 cases b'
 case true =>
  refine ⟨x,y,false,hx,hy,hp,(Sp fd on1).symm,?_⟩;refine t6 Tryz.func180 Tryz.ntmps180 (rs:=[.cell 4 162]) (Vo _ _ _ _ _ _) ?_;simp [go_sem,rP hxl hyl,t4 hxl hyl,VG hxl hyl,V1 hxl hyl,rP hxl' hyl',t4 hxl' hyl',VG hxl' hyl',V1 hxl' hyl',zl2,pd,d7];exact L9 rfl
 have bx:V x<pZ∧V y<pZ:=by
  rcases hp with ⟨h,_⟩ | ⟨_,h1,h2,_⟩
  ·cases h
  ·exact ⟨h1,h2⟩
 have bx':V x'<pZ∧V y'<pZ:=by
  rcases hp' with ⟨h,_⟩ | ⟨_,h1,h2,_⟩
  ·cases h
  ·exact ⟨h1,h2⟩
 have on1':RZ (some (FV x,FV y)):=on1;have on2':RZ (some (FV x',FV y')):=on2;obtain ⟨up,h1,g1,f1⟩:=Vn y' y hy' hy;obtain ⟨dn,h2,g2,f2⟩:=Vn x' x hx' hx;unfold W2 at f1 f2;have l1:=h1.1;have l2:=h2.1;have pl:=rP hxl hyl false;have pt:=t4 hxl hyl false;have ql:=rP hxl' hyl' false;have qt:=t4 hxl' hyl' false;have pb:=VG hxl hyl false;have pg:=V1 hxl hyl false;have qb:=VG hxl' hyl' false;have qg:=V1 hxl' hyl' false;have e1:(cP x y false).take 4=cI x:=ae6 hxl _;have e2:((cP x y false).drop 4).take 4=cI y:=ajv hxl hyl _;have e1b:(cP x' y' false).take 4=cI x':=ae6 hxl' _;have e2b:((cP x' y' false).drop 4).take 4=cI y':=ajv hxl' hyl' _;by_cases hxx:x=x'
 ·by_cases hyy:y=y'
  ·have hy0:y ≠ zI:=fun h=>fd.y_ne on1' (by rw [h];exact Xp);obtain ⟨x2,h11,g11,f11⟩:=K7 x x hx hx;obtain ⟨u,hu,gu,f12⟩:=K7 [3,0,0,0] x2 (H8 ⟨aa,aa⟩) h11;obtain ⟨y2,h13,g13,f13⟩:=as3 y y hy hy;obtain ⟨v,hv,g3,f3⟩:=as5 y2 h13;unfold W2 at f11 f12 f13;have l11:=h11.1;have lu:=hu.1;have l13:=h13.1;obtain ⟨s,h4,g4,f4⟩:=K7 u v hu hv;obtain ⟨ss,h5,g5,f5⟩:=K7 s s h4 h4;obtain ⟨e5,h6,g6,f6⟩:=Vn ss x h5 hx;obtain ⟨X,h7,g7,f7⟩:=Vn e5 x' h6 hx';obtain ⟨e8,h8,g8,f8⟩:=Vn x X hx h7;obtain ⟨e9,h9,g9,f9⟩:=K7 s e8 h4 h8;obtain ⟨Y,h10,g10,f10⟩:=Vn e9 y h9 hy;unfold W1 at f3;unfold W2 at f4 f5 f6 f7 f8 f9 f10;have l4:=h4.1;have l7:=h7.1;have l10:=h10.1;have n3:FV [3,0,0,0]=3:=YS 3 aa
   have hval:PV X Y false=sum fd (PV x y false) (PV x' y' false):=by
    rw [← hxx,← hyy]
    have hd0:FV y+FV y ≠ 0:=by
     have e:FV y+FV y=2*FV y:=by generalize FV y=z;grobner
     rw [e];exact fd.mul_ne fd.two (fd.y_ne on1')
    have hi:=fd.hinv _ hd0;have q:=acm (x1:=FV x) (y1:=FV y) (x2:=FV x) (y2:=FV y) (d:=FV y+FV y) (i:=fd.inv (FV y+FV y)) (X:=FV X) (Y:=FV Y) (s:=FV s) (up:=3*(FV x*FV x)) hi (by rw [g4.2,g3.2,g13.2,gu.2,g11.2,n3]) (by rw [g7.2,g6.2,g5.2,← hxx]) (by rw [g10.2,g9.2,g8.2]);have q2:=apL q.1 q.2;exact (aaF fd on1' q2.1 q2.2).symm
   refine ⟨X,Y,false,h7,h10,.inr ⟨rfl,g7.1,g10.1,?_⟩,hval,?_⟩
   ·have:=TY fd on1 on2;rw [← hval] at this;exact this
   subst hxx hyy;refine t6 Tryz.func180 Tryz.ntmps180 (rs:=[.cell 4 162]) (Vo _ _ _ _ _ _) ?_;simp [go_sem,pl,pt,pb,pg,ql,qt,qb,qg];refine C4 [0,1,2,3,5,6,7,8] [4,9,10,11,12,13] [0,1,2,3,5,6,7,8] (.alt (ah 4 (.alt (ai 9 (.alt (ag [10,11,12,13]) (ag [11,10,12,13]))) (.alt (ah 10 (.alt (ag [9,11,12,13]) (ah 11 (ag [9,12,13])))) (ah 11 (.alt (ag [9,10,12,13]) (ah 10 (ag [9,12,13]))))))) (.alt (ah 10 (.alt (ah 4 (.alt (ag [9,11,12,13]) (ah 11 (ag [9,12,13])))) (ah 11 (ah 4 (ag [9,12,13]))))) (ah 11 (.alt (ah 4 (.alt (ag [9,10,12,13]) (ah 10 (ag [9,12,13])))) (ah 10 (ah 4 (ag [9,12,13]))))))) ⟨[(2,.ptr 0 0 0 1),(3,.ptr 32 0 0 1),(4,.ptr 64 0 0 1),(5,.ptr 544 0 0 1),(6,.ptr 576 0 0 1)],[(576,⟨160,4,[cI dn]⟩),(544,⟨160,4,[cI up]⟩),(64,⟨162,9,[cP zI zI false]⟩),(32,⟨162,9,[cP x y false]⟩),(0,⟨162,9,[cP x y false]⟩)],4000⟩ (k:=14) ?h3 ?hq
   case h3 =>
    intro G hG
    have hW:∀ (fr:Fr) (hp:Hp),(fv 2 fr=.ptr 0 0 0 1∧fv 3 fr=.ptr 32 0 0 1∧fv 4 fr=.ptr 64 0 0 1∧fv 5 fr=.ptr 544 0 0 1∧fv 6 fr=.ptr 576 0 0 1∧lk 576 hp=some ⟨160,4,[cI dn]⟩∧lk 544 hp=some ⟨160,4,[cI up]⟩∧lk 64 hp=some ⟨162,9,[cP zI zI false]⟩∧lk 32 hp=some ⟨162,9,[cP x y false]⟩∧lk 0 hp=some ⟨162,9,[cP x y false]⟩)→G fr hp:=by
     rintro fr hp ⟨q0,q1,q2,q3,q4,q5,q6,q7,q8,q9⟩;exact hG _ _ Rz
    simp [go_sem,e1,e2,pl,l1,l2,a8 l1,a8 l2,z4,A6]
    repeat' first | exact hW _ _ ⟨rfl,rfl,rfl,rfl,rfl,rfl,rfl,rfl,rfl,rfl⟩ | (refine hW _ _ ?_;simp [fv,lk];done) | refine a9 f1 (d5 _ _) ?_ | refine a9 f2 (d5 _ _) ?_ | apply And.intro | simp [go_sem,e1,e2,pl,l1,l2,a8 l1,a8 l2,z4,A6]
   case hq =>
    simp [go_sem,e1,e2,pl,y6,hxl,hyl,hy0,iz];refine a9 f11 (d5 _ _) ?_;simp [go_sem];refine a9 f12 (d5 [3,0,0,0] _) ?_;simp [go_sem,lu,l1,a8 lu,i9 l1,e1,e2,pl];refine a9 f13 (d5 _ _) ?_;simp [go_sem,l13,l2,a8 l13,i9 l2];refine C4 [0,1] [2,3,4,5] [0,1] (.alt (ah 2 (.alt (ag [3,4,5]) (ah 4 (ag [3,5])))) (ah 4 (ah 2 (ag [3,5])))) ⟨[(2,.ptr 0 0 0 1),(3,.ptr 32 0 0 1),(4,.ptr 64 0 0 1),(7,.ptr 5088 0 0 1)],[(5088,⟨160,4,[cI s]⟩),(64,⟨162,9,[cP zI zI false]⟩),(32,⟨162,9,[cP x y false]⟩),(0,⟨162,9,[cP x y false]⟩)],9000⟩ (k:=6) ?h3 ?hq
    case h3 =>
     intro G hG
     have hW:∀ (fr:Fr) (hp:Hp),(fv 2 fr=.ptr 0 0 0 1∧fv 3 fr=.ptr 32 0 0 1∧fv 4 fr=.ptr 64 0 0 1∧fv 7 fr=.ptr 5088 0 0 1∧lk 5088 hp=some ⟨160,4,[cI s]⟩∧lk 64 hp=some ⟨162,9,[cP zI zI false]⟩∧lk 32 hp=some ⟨162,9,[cP x y false]⟩∧lk 0 hp=some ⟨162,9,[cP x y false]⟩)→G fr hp:=by
      rintro fr hp ⟨q0,q1,q2,q3,q4,q5,q6,q7⟩;exact hG _ _ Rz
     simp [go_sem,lu,l13,a8 lu,a8 l13,l4,a8 l4,z4,A6]
     repeat' first | exact hW _ _ ⟨rfl,rfl,rfl,rfl,rfl,rfl,rfl,rfl⟩ | (refine hW _ _ ?_;simp [fv,lk];done) | refine a9 f3 (m9 _) ?_ | refine a9 f4 (d5 _ _) ?_ | apply And.intro | simp [go_sem,lu,l13,a8 lu,a8 l13,l4,a8 l4,z4,A6]
    case hq =>
     simp [go_sem];refine C4 [0,1,3,4,6,7] [2,5,8,9,10] [0,1,3,4,6,7] (.alt (ah 2 (.alt (ah 5 (.alt (ag [8,9,10]) (ah 9 (ag [8,10])))) (ah 9 (ah 5 (ag [8,10]))))) (ah 9 (ah 2 (ah 5 (ag [8,10]))))) ⟨[(2,.ptr 0 0 0 1),(3,.ptr 32 0 0 1),(4,.ptr 64 0 0 1),(7,.ptr 5088 0 0 1),(8,.ptr 9288 0 0 1)],[(9288,⟨160,4,[cI X]⟩),(5088,⟨160,4,[cI s]⟩),(64,⟨162,9,[cP zI zI false]⟩),(32,⟨162,9,[cP x y false]⟩),(0,⟨162,9,[cP x y false]⟩)],20000⟩ (k:=11) ?h3 ?hq
     case h3 =>
      intro G hG
      have hW:∀ (fr:Fr) (hp:Hp),(fv 2 fr=.ptr 0 0 0 1∧fv 3 fr=.ptr 32 0 0 1∧fv 4 fr=.ptr 64 0 0 1∧fv 7 fr=.ptr 5088 0 0 1∧fv 8 fr=.ptr 9288 0 0 1∧lk 9288 hp=some ⟨160,4,[cI X]⟩∧lk 5088 hp=some ⟨160,4,[cI s]⟩∧lk 64 hp=some ⟨162,9,[cP zI zI false]⟩∧lk 32 hp=some ⟨162,9,[cP x y false]⟩∧lk 0 hp=some ⟨162,9,[cP x y false]⟩)→G fr hp:=by
       rintro fr hp ⟨q0,q1,q2,q3,q4,q5,q6,q7,q8,q9⟩;exact hG _ _ Rz
      simp [go_sem,e1,e2,pl,l4,l7,a8 l4,a8 l7,z4,A6]
      repeat' first | exact hW _ _ ⟨rfl,rfl,rfl,rfl,rfl,rfl,rfl,rfl,rfl,rfl⟩ | (refine hW _ _ ?_;simp [fv,lk];done) | refine a9 f5 (d5 _ _) ?_ | refine a9 f6 (d5 _ _) ?_ | refine a9 f7 (d5 _ _) ?_ | apply And.intro | simp [go_sem,e1,e2,pl,l4,l7,a8 l4,a8 l7,z4,A6]
     case hq =>
      simp [go_sem];refine C4 [0,1,2,3,6,7] [4,5,8,9,10] [0,1,2,3,6,7] (.alt (ah 4 (.alt (ah 5 (.alt (ag [8,9,10]) (ah 9 (ag [8,10])))) (ah 9 (ah 5 (ag [8,10]))))) (ah 9 (ah 4 (ah 5 (ag [8,10]))))) ⟨[(4,.ptr 64 0 0 1),(8,.ptr 9288 0 0 1),(9,.ptr 20288 0 0 1)],[(20288,⟨160,4,[cI Y]⟩),(9288,⟨160,4,[cI X]⟩),(64,⟨162,9,[cP zI zI false]⟩)],30000⟩ (k:=11) ?h3 ?hq
      case h3 =>
       intro G hG
       have hW:∀ (fr:Fr) (hp:Hp),(fv 4 fr=.ptr 64 0 0 1∧fv 8 fr=.ptr 9288 0 0 1∧fv 9 fr=.ptr 20288 0 0 1∧lk 20288 hp=some ⟨160,4,[cI Y]⟩∧lk 9288 hp=some ⟨160,4,[cI X]⟩∧lk 64 hp=some ⟨162,9,[cP zI zI false]⟩)→G fr hp:=by
        rintro fr hp ⟨q0,q1,q2,q3,q4,q5⟩;exact hG _ _ Rz
       simp [go_sem,e1,e2,pl,l4,l7,l10,a8 l4,a8 l7,a8 l10,z4,A6]
       repeat' first | exact hW _ _ ⟨rfl,rfl,rfl,rfl,rfl,rfl⟩ | (refine hW _ _ ?_;simp [fv,lk];done) | refine a9 f8 (d5 _ _) ?_ | refine a9 f9 (d5 _ _) ?_ | refine a9 f10 (d5 _ _) ?_ | apply And.intro | simp [go_sem,e1,e2,pl,l4,l7,l10,a8 l4,a8 l7,a8 l10,z4,A6]
      case hq =>
       have mp:=mkP l7 l10;simp [go_sem,l7,l10,a8 l7,a8 l10,z4,mp,rP l7 l10,t4 l7 l10,zl2,pd,d7];exact L9 rfl
  ·have hval:PV zI zI true=sum fd (PV x y false) (PV x' y' false):=by
    have hne:FV y ≠ FV y':=fun h=>hyy (aaJ hy hy' bx.2 bx'.2 h);subst hxx;have e:=as6 on1' on2' hne;show none=sum fd (some (FV x,FV y)) (some (FV x,FV y'));rw [e];exact (ado fd on1').symm
   refine ⟨zI,zI,true,H4,H4,VZ,hval,?_⟩;subst hxx;refine t6 Tryz.func180 Tryz.ntmps180 (rs:=[.cell 4 162]) (Vo _ _ _ _ _ _) ?_;simp [go_sem,pl,pt,pb,pg,ql,qt,qb,qg];refine C4 [0,1,2,3,5,6,7,8] [4,9,10,11,12,13] [0,1,2,3,5,6,7,8] (.alt (ah 4 (.alt (ai 9 (.alt (ag [10,11,12,13]) (ag [11,10,12,13]))) (.alt (ah 10 (.alt (ag [9,11,12,13]) (ah 11 (ag [9,12,13])))) (ah 11 (.alt (ag [9,10,12,13]) (ah 10 (ag [9,12,13]))))))) (.alt (ah 10 (.alt (ah 4 (.alt (ag [9,11,12,13]) (ah 11 (ag [9,12,13])))) (ah 11 (ah 4 (ag [9,12,13]))))) (ah 11 (.alt (ah 4 (.alt (ag [9,10,12,13]) (ah 10 (ag [9,12,13])))) (ah 10 (ah 4 (ag [9,12,13]))))))) ⟨[(2,.ptr 0 0 0 1),(3,.ptr 32 0 0 1),(4,.ptr 64 0 0 1),(5,.ptr 544 0 0 1),(6,.ptr 576 0 0 1)],[(576,⟨160,4,[cI dn]⟩),(544,⟨160,4,[cI up]⟩),(64,⟨162,9,[cP zI zI false]⟩),(32,⟨162,9,[cP x y' false]⟩),(0,⟨162,9,[cP x y false]⟩)],4000⟩ (k:=14) ?h3 ?hq
   case h3 =>
    intro G hG
    have hW:∀ (fr:Fr) (hp:Hp),(fv 2 fr=.ptr 0 0 0 1∧fv 3 fr=.ptr 32 0 0 1∧fv 4 fr=.ptr 64 0 0 1∧fv 5 fr=.ptr 544 0 0 1∧fv 6 fr=.ptr 576 0 0 1∧lk 576 hp=some ⟨160,4,[cI dn]⟩∧lk 544 hp=some ⟨160,4,[cI up]⟩∧lk 64 hp=some ⟨162,9,[cP zI zI false]⟩∧lk 32 hp=some ⟨162,9,[cP x y' false]⟩∧lk 0 hp=some ⟨162,9,[cP x y false]⟩)→G fr hp:=by
     rintro fr hp ⟨q0,q1,q2,q3,q4,q5,q6,q7,q8,q9⟩;exact hG _ _ Rz
    simp [go_sem,e1,e2,e1b,e2b,pl,ql,l1,l2,a8 l1,a8 l2,z4,A6]
    repeat' first | exact hW _ _ ⟨rfl,rfl,rfl,rfl,rfl,rfl,rfl,rfl,rfl,rfl⟩ | (refine hW _ _ ?_;simp [fv,lk];done) | refine a9 f1 (d5 _ _) ?_ | refine a9 f2 (d5 _ _) ?_ | apply And.intro | simp [go_sem,e1,e2,e1b,e2b,pl,ql,l1,l2,a8 l1,a8 l2,z4,A6]
   case hq =>
    simp [go_sem,e1,e2,e1b,e2b,pl,ql,y6,hxl,hyl,hyl',hyy,iz,zl2,pd,d7];exact L9 (x:=zI) (y:=zI) (b:=true) rfl
 ·obtain ⟨v,hv,g3,f3⟩:=as5 dn h2;have hu:=h1;obtain ⟨s,h4,g4,f4⟩:=K7 up v hu hv;obtain ⟨ss,h5,g5,f5⟩:=K7 s s h4 h4;obtain ⟨e5,h6,g6,f6⟩:=Vn ss x h5 hx;obtain ⟨X,h7,g7,f7⟩:=Vn e5 x' h6 hx';obtain ⟨e8,h8,g8,f8⟩:=Vn x X hx h7;obtain ⟨e9,h9,g9,f9⟩:=K7 s e8 h4 h8;obtain ⟨Y,h10,g10,f10⟩:=Vn e9 y h9 hy;unfold W1 at f3;unfold W2 at f4 f5 f6 f7 f8 f9 f10;have l4:=h4.1;have l7:=h7.1;have l10:=h10.1
  have hval:PV X Y false=sum fd (PV x y false) (PV x' y' false):=by
   have hd0:FV x' - FV x ≠ 0:=fun h=>hxx (aaJ hx hx' bx.1 bx'.1 (VA h).symm);have hi:=fd.hinv _ hd0;have q:=acm (x1:=FV x) (y1:=FV y) (x2:=FV x') (y2:=FV y') (d:=FV x' - FV x) (i:=fd.inv (FV x' - FV x)) (X:=FV X) (Y:=FV Y) (s:=FV s) (up:=FV y' - FV y) hi (by rw [g4.2,g3.2,g1.2,g2.2]) (by rw [g7.2,g6.2,g5.2]) (by rw [g10.2,g9.2,g8.2]);exact (acb fd on1' on2' hd0 q.1 q.2).symm
  refine ⟨X,Y,false,h7,h10,.inr ⟨rfl,g7.1,g10.1,?_⟩,hval,?_⟩
  ·have:=TY fd on1 on2;rw [← hval] at this;exact this
  refine t6 Tryz.func180 Tryz.ntmps180 (rs:=[.cell 4 162]) (Vo _ _ _ _ _ _) ?_;simp [go_sem,pl,pt,pb,pg,ql,qt,qb,qg];refine C4 [0,1,2,3,5,6,7,8] [4,9,10,11,12,13] [0,1,2,3,5,6,7,8] (.alt (ah 4 (.alt (ai 9 (.alt (ag [10,11,12,13]) (ag [11,10,12,13]))) (.alt (ah 10 (.alt (ag [9,11,12,13]) (ah 11 (ag [9,12,13])))) (ah 11 (.alt (ag [9,10,12,13]) (ah 10 (ag [9,12,13]))))))) (.alt (ah 10 (.alt (ah 4 (.alt (ag [9,11,12,13]) (ah 11 (ag [9,12,13])))) (ah 11 (ah 4 (ag [9,12,13]))))) (ah 11 (.alt (ah 4 (.alt (ag [9,10,12,13]) (ah 10 (ag [9,12,13])))) (ah 10 (ah 4 (ag [9,12,13]))))))) ⟨[(2,.ptr 0 0 0 1),(3,.ptr 32 0 0 1),(4,.ptr 64 0 0 1),(5,.ptr 544 0 0 1),(6,.ptr 576 0 0 1)],[(576,⟨160,4,[cI dn]⟩),(544,⟨160,4,[cI up]⟩),(64,⟨162,9,[cP zI zI false]⟩),(32,⟨162,9,[cP x' y' false]⟩),(0,⟨162,9,[cP x y false]⟩)],4000⟩ (k:=14) ?h3 ?hq
  case h3 =>
   intro G hG
   have hW:∀ (fr:Fr) (hp:Hp),(fv 2 fr=.ptr 0 0 0 1∧fv 3 fr=.ptr 32 0 0 1∧fv 4 fr=.ptr 64 0 0 1∧fv 5 fr=.ptr 544 0 0 1∧fv 6 fr=.ptr 576 0 0 1∧lk 576 hp=some ⟨160,4,[cI dn]⟩∧lk 544 hp=some ⟨160,4,[cI up]⟩∧lk 64 hp=some ⟨162,9,[cP zI zI false]⟩∧lk 32 hp=some ⟨162,9,[cP x' y' false]⟩∧lk 0 hp=some ⟨162,9,[cP x y false]⟩)→G fr hp:=by
    rintro fr hp ⟨q0,q1,q2,q3,q4,q5,q6,q7,q8,q9⟩;exact hG _ _ Rz
   simp [go_sem,e1,e2,e1b,e2b,pl,ql,l1,l2,a8 l1,a8 l2,z4,A6]
   repeat' first | exact hW _ _ ⟨rfl,rfl,rfl,rfl,rfl,rfl,rfl,rfl,rfl,rfl⟩ | (refine hW _ _ ?_;simp [fv,lk];done) | refine a9 f1 (d5 _ _) ?_ | refine a9 f2 (d5 _ _) ?_ | apply And.intro | simp [go_sem,e1,e2,e1b,e2b,pl,ql,l1,l2,a8 l1,a8 l2,z4,A6]
  case hq =>
   simp [go_sem,e1,e2,e1b,e2b,pl,ql,y6,hxl,hxl',hxx];refine C4 [0,1] [2,3,4,5] [0,1] (.alt (ah 2 (.alt (ag [3,4,5]) (ah 4 (ag [3,5])))) (ah 4 (ah 2 (ag [3,5])))) ⟨[(2,.ptr 0 0 0 1),(3,.ptr 32 0 0 1),(4,.ptr 64 0 0 1),(7,.ptr 4288 0 0 1)],[(4288,⟨160,4,[cI s]⟩),(64,⟨162,9,[cP zI zI false]⟩),(32,⟨162,9,[cP x' y' false]⟩),(0,⟨162,9,[cP x y false]⟩)],9000⟩ (k:=6) ?h3 ?hq
   case h3 =>
    intro G hG
    have hW:∀ (fr:Fr) (hp:Hp),(fv 2 fr=.ptr 0 0 0 1∧fv 3 fr=.ptr 32 0 0 1∧fv 4 fr=.ptr 64 0 0 1∧fv 7 fr=.ptr 4288 0 0 1∧lk 4288 hp=some ⟨160,4,[cI s]⟩∧lk 64 hp=some ⟨162,9,[cP zI zI false]⟩∧lk 32 hp=some ⟨162,9,[cP x' y' false]⟩∧lk 0 hp=some ⟨162,9,[cP x y false]⟩)→G fr hp:=by
     rintro fr hp ⟨q0,q1,q2,q3,q4,q5,q6,q7⟩;exact hG _ _ Rz
    simp [go_sem,l1,l2,a8 l1,a8 l2,l4,a8 l4,z4,A6]
    repeat' first | exact hW _ _ ⟨rfl,rfl,rfl,rfl,rfl,rfl,rfl,rfl⟩ | (refine hW _ _ ?_;simp [fv,lk];done) | refine a9 f3 (m9 _) ?_ | refine a9 f4 (d5 _ _) ?_ | apply And.intro | simp [go_sem,l1,l2,a8 l1,a8 l2,l4,a8 l4,z4,A6]
   case hq =>
    simp [go_sem];refine C4 [0,1,3,4,6,7] [2,5,8,9,10] [0,1,3,4,6,7] (.alt (ah 2 (.alt (ah 5 (.alt (ag [8,9,10]) (ah 9 (ag [8,10])))) (ah 9 (ah 5 (ag [8,10]))))) (ah 9 (ah 2 (ah 5 (ag [8,10]))))) ⟨[(2,.ptr 0 0 0 1),(3,.ptr 32 0 0 1),(4,.ptr 64 0 0 1),(7,.ptr 4288 0 0 1),(8,.ptr 9288 0 0 1)],[(9288,⟨160,4,[cI X]⟩),(4288,⟨160,4,[cI s]⟩),(64,⟨162,9,[cP zI zI false]⟩),(32,⟨162,9,[cP x' y' false]⟩),(0,⟨162,9,[cP x y false]⟩)],20000⟩ (k:=11) ?h3 ?hq
    case h3 =>
     intro G hG
     have hW:∀ (fr:Fr) (hp:Hp),(fv 2 fr=.ptr 0 0 0 1∧fv 3 fr=.ptr 32 0 0 1∧fv 4 fr=.ptr 64 0 0 1∧fv 7 fr=.ptr 4288 0 0 1∧fv 8 fr=.ptr 9288 0 0 1∧lk 9288 hp=some ⟨160,4,[cI X]⟩∧lk 4288 hp=some ⟨160,4,[cI s]⟩∧lk 64 hp=some ⟨162,9,[cP zI zI false]⟩∧lk 32 hp=some ⟨162,9,[cP x' y' false]⟩∧lk 0 hp=some ⟨162,9,[cP x y false]⟩)→G fr hp:=by
      rintro fr hp ⟨q0,q1,q2,q3,q4,q5,q6,q7,q8,q9⟩;exact hG _ _ Rz
     simp [go_sem,e1,e2,e1b,e2b,pl,ql,l4,l7,a8 l4,a8 l7,z4,A6]
     repeat' first | exact hW _ _ ⟨rfl,rfl,rfl,rfl,rfl,rfl,rfl,rfl,rfl,rfl⟩ | (refine hW _ _ ?_;simp [fv,lk];done) | refine a9 f5 (d5 _ _) ?_ | refine a9 f6 (d5 _ _) ?_ | refine a9 f7 (d5 _ _) ?_ | apply And.intro | simp [go_sem,e1,e2,e1b,e2b,pl,ql,l4,l7,a8 l4,a8 l7,z4,A6]
    case hq =>
     simp [go_sem];refine C4 [0,1,2,3,6,7] [4,5,8,9,10] [0,1,2,3,6,7] (.alt (ah 4 (.alt (ah 5 (.alt (ag [8,9,10]) (ah 9 (ag [8,10])))) (ah 9 (ah 5 (ag [8,10]))))) (ah 9 (ah 4 (ah 5 (ag [8,10]))))) ⟨[(4,.ptr 64 0 0 1),(8,.ptr 9288 0 0 1),(9,.ptr 20288 0 0 1)],[(20288,⟨160,4,[cI Y]⟩),(9288,⟨160,4,[cI X]⟩),(64,⟨162,9,[cP zI zI false]⟩)],30000⟩ (k:=11) ?h3 ?hq
     case h3 =>
      intro G hG
      have hW:∀ (fr:Fr) (hp:Hp),(fv 4 fr=.ptr 64 0 0 1∧fv 8 fr=.ptr 9288 0 0 1∧fv 9 fr=.ptr 20288 0 0 1∧lk 20288 hp=some ⟨160,4,[cI Y]⟩∧lk 9288 hp=some ⟨160,4,[cI X]⟩∧lk 64 hp=some ⟨162,9,[cP zI zI false]⟩)→G fr hp:=by
       rintro fr hp ⟨q0,q1,q2,q3,q4,q5⟩;exact hG _ _ Rz
      simp [go_sem,e1,e2,e1b,e2b,pl,ql,l4,l7,l10,a8 l4,a8 l7,a8 l10,z4,A6]
      repeat' first | exact hW _ _ ⟨rfl,rfl,rfl,rfl,rfl,rfl⟩ | (refine hW _ _ ?_;simp [fv,lk];done) | refine a9 f8 (d5 _ _) ?_ | refine a9 f9 (d5 _ _) ?_ | refine a9 f10 (d5 _ _) ?_ | apply And.intro | simp [go_sem,e1,e2,e1b,e2b,pl,ql,l4,l7,l10,a8 l4,a8 l7,a8 l10,z4,A6]
     case hq =>
      have mp:=mkP l7 l10;simp [go_sem,l7,l10,a8 l7,a8 l10,z4,mp,rP l7 l10,t4 l7 l10,zl2,pd,d7];exact L9 rfl
theorem avR (x y x' y':List Int) (b b':Bool) (hx:Wn 4 x) (hy:Wn 4 y) (hx':Wn 4 x') (hy':Wn 4 y') (hp:L2 x y b) (hp':L2 x' y' b'):∃ (u v:List Int) (o:Bool),Wn 4 u∧Wn 4 v∧L2 u v o∧PV u v o=sum fd (PV x y b) (PV x' y' b')∧m6 Tryz.prog 130 [.agg (cP x y b),.agg (cP x' y' b')] (fun r=>r=.agg (cP u v o)):=by
 obtain ⟨x1,y1,b1,hx1,hy1,t1,f1⟩:=am2 x y b hx hy;obtain ⟨x2,y2,b2,hx2,hy2,t2,f2⟩:=am2 x' y' b' hx' hy';obtain ⟨rfl,rfl,rfl⟩:=t1.2.1 hp;obtain ⟨rfl,rfl,rfl⟩:=t2.2.1 hp';obtain ⟨u,v,o,hu,hv,hpt,vs,f3⟩:=ax1 x1 y1 x2 y2 b1 b2 hx hy hx' hy' hp hp';refine ⟨u,v,o,hu,hv,hpt,vs,?_⟩;have pd:(cP zI zI false).drop 9=[]:=L5 rfl rfl _;have zl2:(cP zI zI false).length=9:=rfl;have pl:=rP hx.1 hy.1 b1;have pt:=t4 hx.1 hy.1 b1;have ql:=rP hx'.1 hy'.1 b2;have qt:=t4 hx'.1 hy'.1 b2;have ul:=rP hu.1 hv.1 o;have ut:=t4 hu.1 hv.1 o;refine t6 Tryz.func130 Tryz.ntmps130 (rs:=[.cell 4 162]) (Vo _ _ _ _ _ _) ?_;simp [go_sem,pl,pt,ql,qt];refine B7 [0,2] [(1,[]),(3,[]),(4,[]),(5,[])] 1 (k:=6) ?_;intro G hG;simp [go_sem,pl,pt,ql,qt];refine a9 f1 (B4 _ _ _) ?_;simp [go_sem,pl,pt,ql,qt];refine a9 f2 (B4 _ _ _) ?_;simp [go_sem];refine a9 f3 (Vo _ _ _ _ _ _) ?_;simp [go_sem,ul,ut,pd,zl2,A6];refine hG _ _ ?_;simp [go_sem,ul,ut,pd,zl2,d7];exact L9 rfl
theorem ax2:O6 Tryz.prog 208=some (cV zI zI zI):=by kernel_rfl
attribute [go_sem] ax2
noncomputable def FrV (x y z:List Int):Pt pP:=fr fd (FV x) (FV y) (FV z)
def isF (x y z:List Int):Prop:=(V x<pZ∧V y<pZ∧V z<pZ)∧RZ (FrV x y z)
theorem acn (x y:List Int):FrV x y zI=none:=by
 show fr fd _ _ (FV zI)=none;rw [Xp];exact apo fd _ _
theorem am3:isF zI zI zI:=⟨⟨by rw [aaU];decide,by rw [aaU];decide,by rw [aaU];decide⟩,by rw [acn];trivial⟩
theorem Xr (x y z x' y' z':List Int):∀ v,v ∈ [AV.agg (cV x y z),AV.agg (cV x' y' z')]→v.deep:=by
 intro v hv;simp at hv;rcases hv with rfl | rfl
 ·exact WH _ _ _
 ·exact WH _ _ _
theorem abx {y z:F} (hz:z=0):8*(y*z*(y*z*(y*z)))=0:=by rw [hz];clear hz;grobner
theorem am4 (x y z:List Int) (hx:Wn 4 x) (hy:Wn 4 y) (hz:Wn 4 z):∃ (X Y Z:List Int),Wn 4 X∧Wn 4 Y∧Wn 4 Z∧(isF x y z→isF X Y Z∧FrV X Y Z=sum fd (FrV x y z) (FrV x y z))∧m6 Tryz.prog 183 [.agg (cV x y z)] (fun r=>r=.agg (cV X Y Z)):=by
 obtain ⟨x2,h1,g1,f1⟩:=K7 x x hx hx;obtain ⟨w,h2,g2,f2⟩:=K7 [3,0,0,0] x2 (H8 ⟨aa,aa⟩) h1;obtain ⟨s,h3,g3,f3⟩:=K7 y z hy hz;obtain ⟨xy,h4,g4,f4⟩:=K7 x y hx hy;obtain ⟨b,h5,g5,f5⟩:=K7 xy s h4 h3;obtain ⟨ww,h6,g6,f6⟩:=K7 w w h2 h2;obtain ⟨b8,h7,g7,f7⟩:=K7 [8,0,0,0] b (H8 ⟨aa,aa⟩) h5;obtain ⟨h,h8,g8,f8⟩:=Vn ww b8 h6 h7;obtain ⟨ys,h9,g9,f9⟩:=K7 y s hy h3;obtain ⟨hs,h10,g10,f10⟩:=K7 h s h8 h3;obtain ⟨X,h11,g11,f11⟩:=K7 [2,0,0,0] hs (H8 ⟨aa,aa⟩) h10;obtain ⟨b4,h12,g12,f12⟩:=K7 [4,0,0,0] b (H8 ⟨aa,aa⟩) h5;obtain ⟨d,h13,g13,f13⟩:=Vn b4 h h12 h8;obtain ⟨wd,h14,g14,f14⟩:=K7 w d h2 h13;obtain ⟨y2,h15,g15,f15⟩:=K7 ys ys h9 h9;obtain ⟨y8,h16,g16,f16⟩:=K7 [8,0,0,0] y2 (H8 ⟨aa,aa⟩) h15;obtain ⟨Y,h17,g17,f17⟩:=Vn wd y8 h14 h16;obtain ⟨s2,h18,g18,f18⟩:=K7 s s h3 h3;obtain ⟨s3,h19,g19,f19⟩:=K7 s s2 h3 h18;obtain ⟨Z,h20,g20,f20⟩:=K7 [8,0,0,0] s3 (H8 ⟨aa,aa⟩) h19;unfold W2 at f1 f2 f3 f4 f5 f6 f7 f8 f9 f10 f11 f12 f13 f14 f15 f16 f17 f18 f19 f20;have l2:=h2.1;have l3:=h3.1;have l5:=h5.1;have l8:=h8.1;have l9:=h9.1;have l11:=h11.1;have l17:=h17.1;have l20:=h20.1;have hxl:=hx.1;have hyl:=hy.1;have hzl:=hz.1;have z4:List.drop 4 (cI zI)=[]:=i9 rfl;have vl:=B5 hxl hyl hzl;have vt:=y7 hxl hyl hzl;have v1:(cV x y z).take 4=cI x:=adv hxl;have v2:=adw (z:=z) hxl hyl;have v3:=ZE hxl hyl hzl;have wd:(cV zI zI zI).drop 12=[]:=P0 rfl rfl rfl;have wl:(cV zI zI zI).length=12:=rfl
 have vv:isF x y z→isF X Y Z∧FrV X Y Z=sum fd (FrV x y z) (FrV x y z):=by
  intro hj;have n2:FV [2,0,0,0]=2:=YS 2 aa;have n3:FV [3,0,0,0]=3:=YS 3 aa;have n4:FV [4,0,0,0]=4:=YS 4 aa;have n8:FV [8,0,0,0]=8:=YS 8 aa;have eZ:FV Z=8*(FV y*FV z*(FV y*FV z*(FV y*FV z))):=by rw [g20.2,g19.2,g18.2,g3.2,n8]
  have e2:FrV X Y Z=sum fd (FrV x y z) (FrV x y z):=by
   by_cases hz0:FV z=0
   ·have e0:FrV x y z=none:=by show fr fd _ _ (FV z)=none;rw [hz0];exact apo fd _ _
    have eZ0:FV Z=0:=by rw [eZ];exact abx hz0
    have e1:FrV X Y Z=none:=by show fr fd _ _ (FV Z)=none;rw [eZ0];exact apo fd _ _
    rw [e0,e1];exact (K6 fd (Q:=none) True.intro).symm
   ·obtain ⟨_,e⟩:=amr fd hz0 hj.2;have eX:FV X=2*((3*(FV x*FV x)*(3*(FV x*FV x)) - 8*(FV x*FV y*(FV y*FV z)))*(FV y*FV z)):=by rw [g11.2,g10.2,g8.2,g6.2,g7.2,g2.2,g1.2,g5.2,g4.2,g3.2,n2,n3,n8]
    have eY:FV Y=3*(FV x*FV x)*(4*(FV x*FV y*(FV y*FV z)) - (3*(FV x*FV x)*(3*(FV x*FV x)) - 8*(FV x*FV y*(FV y*FV z)))) - 8*(FV y*(FV y*FV z)*(FV y*(FV y*FV z))):=by rw [g17.2,g14.2,g13.2,g12.2,g8.2,g6.2,g7.2,g2.2,g1.2,g5.2,g4.2,g16.2,g15.2,g9.2,g3.2,n3,n4,n8]
    show fr fd (FV X) (FV Y) (FV Z)=_;rw [eX,eY,eZ];exact e
  exact ⟨⟨⟨g11.1,g17.1,g20.1⟩,by rw [e2];exact TY fd hj.2 hj.2⟩,e2⟩
 refine ⟨X,Y,Z,h11,h17,h20,vv,?_⟩;refine t6 Tryz.func183 Tryz.ntmps183 (rs:=[.cell 2 208]) (L3 _ _ _) ?_;simp [go_sem,vl,vt,v1,v2,v3];refine a9 f1 (d5 _ _) ?_;simp [go_sem];refine a9 f2 (d5 [3,0,0,0] _) ?_;simp [go_sem,l2,a8 l2,z4,vl,v1,v2,v3];refine a9 f3 (d5 _ _) ?_;simp [go_sem,l3,a8 l3,z4];refine C4 [0,1,2,3,5] [4,6,7,8] [0,1,2,3,5] (.alt (ah 4 (.alt (ag [6,7,8]) (ah 7 (ag [6,8])))) (ah 7 (ah 4 (ag [6,8])))) ⟨[(1,.ptr 0 0 0 1),(2,.ptr 32 0 0 1),(3,.ptr 288 0 0 1),(4,.ptr 512 0 0 1),(5,.ptr 800 0 0 1)],[(800,⟨160,4,[cI b]⟩),(512,⟨160,4,[cI s]⟩),(288,⟨160,4,[cI w]⟩),(32,⟨208,12,[cV zI zI zI]⟩),(0,⟨208,12,[cV x y z]⟩)],4000⟩ (k:=9) ?h3 ?hq
 case h3 =>
  intro G hG
  have hW:∀ (fr:Fr) (hp:Hp),(fv 1 fr=.ptr 0 0 0 1∧fv 2 fr=.ptr 32 0 0 1∧fv 3 fr=.ptr 288 0 0 1∧fv 4 fr=.ptr 512 0 0 1∧fv 5 fr=.ptr 800 0 0 1∧lk 800 hp=some ⟨160,4,[cI b]⟩∧lk 512 hp=some ⟨160,4,[cI s]⟩∧lk 288 hp=some ⟨160,4,[cI w]⟩∧lk 32 hp=some ⟨208,12,[cV zI zI zI]⟩∧lk 0 hp=some ⟨208,12,[cV x y z]⟩)→G fr hp:=by
   rintro fr hp ⟨q0,q1,q2,q3,q4,q5,q6,q7,q8,q9⟩;exact hG _ _ Rz
  simp [go_sem,l3,l5,a8 l3,a8 l5,z4,v1,v2,v3,vl,A6]
  repeat' first | exact hW _ _ ⟨rfl,rfl,rfl,rfl,rfl,rfl,rfl,rfl,rfl,rfl⟩ | (refine hW _ _ ?_;simp [fv,lk];done) | refine a9 f4 (d5 _ _) ?_ | refine a9 f5 (d5 _ _) ?_ | apply And.intro | simp [go_sem,l3,l5,a8 l3,a8 l5,z4,v1,v2,v3,vl,A6]
 case hq =>
  simp [go_sem];refine C4 [0,1,3,4] [2,5,6,7,8] [0,1,3,4] (.alt (ah 2 (.alt (ai 5 (.alt (ag [6,7,8]) (ag [7,6,8]))) (ah 7 (ag [5,6,8])))) (ah 7 (ah 2 (ag [5,6,8])))) ⟨[(1,.ptr 0 0 0 1),(2,.ptr 32 0 0 1),(3,.ptr 288 0 0 1),(4,.ptr 512 0 0 1),(5,.ptr 800 0 0 1),(6,.ptr 4224 0 0 1)],[(4224,⟨160,4,[cI h]⟩),(800,⟨160,4,[cI b]⟩),(512,⟨160,4,[cI s]⟩),(288,⟨160,4,[cI w]⟩),(32,⟨208,12,[cV zI zI zI]⟩),(0,⟨208,12,[cV x y z]⟩)],9000⟩ (k:=9) ?h3 ?hq
  case h3 =>
   intro G hG
   have hW:∀ (fr:Fr) (hp:Hp),(fv 1 fr=.ptr 0 0 0 1∧fv 2 fr=.ptr 32 0 0 1∧fv 3 fr=.ptr 288 0 0 1∧fv 4 fr=.ptr 512 0 0 1∧fv 5 fr=.ptr 800 0 0 1∧fv 6 fr=.ptr 4224 0 0 1∧lk 4224 hp=some ⟨160,4,[cI h]⟩∧lk 800 hp=some ⟨160,4,[cI b]⟩∧lk 512 hp=some ⟨160,4,[cI s]⟩∧lk 288 hp=some ⟨160,4,[cI w]⟩∧lk 32 hp=some ⟨208,12,[cV zI zI zI]⟩∧lk 0 hp=some ⟨208,12,[cV x y z]⟩)→G fr hp:=by
    rintro fr hp ⟨q0,q1,q2,q3,q4,q5,q6,q7,q8,q9,q10,q11⟩;exact hG _ _ Rz
   simp [go_sem,l2,l5,l8,a8 l2,a8 l5,a8 l8,z4,A6]
   repeat' first | exact hW _ _ ⟨rfl,rfl,rfl,rfl,rfl,rfl,rfl,rfl,rfl,rfl,rfl,rfl⟩ | (refine hW _ _ ?_;simp [fv,lk];done) | refine a9 f6 (d5 _ _) ?_ | refine a9 f7 (d5 [8,0,0,0] _) ?_ | refine a9 f8 (d5 _ _) ?_ | apply And.intro | simp [go_sem,l2,l5,l8,a8 l2,a8 l5,a8 l8,z4,A6]
  case hq =>
   simp [go_sem,vl,v2,l3,a8 l3];refine a9 f9 (d5 _ _) ?_;simp [go_sem,l9,a8 l9,z4,l3,l8,a8 l3,a8 l8];refine a9 f10 (d5 _ _) ?_;simp [go_sem];refine a9 f11 (d5 [2,0,0,0] _) ?_;simp [go_sem,l11,a8 l11,z4];refine C4 [0,1,2,4,7,8,9] [3,5,6,10,11,12,13,14] [0,1,2,4,7,8,9] (.alt (ah 3 (.alt (ah 5 (.alt (ah 6 (.alt (ah 10 (.alt (ai 11 (.alt (ag [12,13,14]) (ag [13,12,14]))) (ah 13 (ag [11,12,14])))) (ah 13 (ah 10 (ag [11,12,14]))))) (ah 13 (ah 6 (ah 10 (ag [11,12,14])))))) (ah 13 (ah 5 (ah 6 (ah 10 (ag [11,12,14]))))))) (ah 13 (ah 3 (ah 5 (ah 6 (ah 10 (ag [11,12,14]))))))) ⟨[(2,.ptr 32 0 0 1),(4,.ptr 512 0 0 1),(8,.ptr 9352 0 0 1),(9,.ptr 9832 0 0 1)],[(9832,⟨160,4,[cI Y]⟩),(9352,⟨160,4,[cI X]⟩),(512,⟨160,4,[cI s]⟩),(32,⟨208,12,[cV zI zI zI]⟩)],20000⟩ (k:=15) ?h3 ?hq
   case h3 =>
    intro G hG
    have hW:∀ (fr:Fr) (hp:Hp),(fv 2 fr=.ptr 32 0 0 1∧fv 4 fr=.ptr 512 0 0 1∧fv 8 fr=.ptr 9352 0 0 1∧fv 9 fr=.ptr 9832 0 0 1∧lk 9832 hp=some ⟨160,4,[cI Y]⟩∧lk 9352 hp=some ⟨160,4,[cI X]⟩∧lk 512 hp=some ⟨160,4,[cI s]⟩∧lk 32 hp=some ⟨208,12,[cV zI zI zI]⟩)→G fr hp:=by
     rintro fr hp ⟨q0,q1,q2,q3,q4,q5,q6,q7⟩;exact hG _ _ Rz
    simp [go_sem,l2,l5,l8,l9,l17,a8 l2,a8 l5,a8 l8,a8 l9,a8 l17,z4,A6]
    repeat' first | exact hW _ _ ⟨rfl,rfl,rfl,rfl,rfl,rfl,rfl,rfl⟩ | (refine hW _ _ ?_;simp [fv,lk];done) | refine a9 f12 (d5 [4,0,0,0] _) ?_ | refine a9 f13 (d5 _ _) ?_ | refine a9 f14 (d5 _ _) ?_ | refine a9 f15 (d5 _ _) ?_ | refine a9 f16 (d5 [8,0,0,0] _) ?_ | refine a9 f17 (d5 _ _) ?_ | apply And.intro | simp [go_sem,l2,l5,l8,l9,l17,a8 l2,a8 l5,a8 l8,a8 l9,a8 l17,z4,A6]
   case hq =>
    simp [go_sem];refine C4 [0,1,2,3] [4,5,6,7,8] [0,1,2,3] (.alt (ah 4 (.alt (ah 5 (.alt (ag [6,7,8]) (ah 7 (ag [6,8])))) (ah 7 (ah 5 (ag [6,8]))))) (ah 7 (ah 4 (ah 5 (ag [6,8]))))) ⟨[(2,.ptr 32 0 0 1),(8,.ptr 9352 0 0 1),(9,.ptr 9832 0 0 1),(10,.ptr 20224 0 0 1)],[(20224,⟨160,4,[cI Z]⟩),(9832,⟨160,4,[cI Y]⟩),(9352,⟨160,4,[cI X]⟩),(32,⟨208,12,[cV zI zI zI]⟩)],30000⟩ (k:=9) ?h3 ?hq
    case h3 =>
     intro G hG
     have hW:∀ (fr:Fr) (hp:Hp),(fv 2 fr=.ptr 32 0 0 1∧fv 8 fr=.ptr 9352 0 0 1∧fv 9 fr=.ptr 9832 0 0 1∧fv 10 fr=.ptr 20224 0 0 1∧lk 20224 hp=some ⟨160,4,[cI Z]⟩∧lk 9832 hp=some ⟨160,4,[cI Y]⟩∧lk 9352 hp=some ⟨160,4,[cI X]⟩∧lk 32 hp=some ⟨208,12,[cV zI zI zI]⟩)→G fr hp:=by
      rintro fr hp ⟨q0,q1,q2,q3,q4,q5,q6,q7⟩;exact hG _ _ Rz
     simp [go_sem,l3,l20,a8 l3,a8 l20,z4,A6]
     repeat' first | exact hW _ _ ⟨rfl,rfl,rfl,rfl,rfl,rfl,rfl,rfl⟩ | (refine hW _ _ ?_;simp [fv,lk];done) | refine a9 f18 (d5 _ _) ?_ | refine a9 f19 (d5 _ _) ?_ | refine a9 f20 (d5 [8,0,0,0] _) ?_ | apply And.intro | simp [go_sem,l3,l20,a8 l3,a8 l20,z4,A6]
    case hq =>
     have ev:cI X ++ (cI Y ++ cI Z)=cV X Y Z:=rfl;have xl:=B5 l11 l17 l20;have xt:=y7 l11 l17 l20;simp [go_sem,l11,l17,l20,a8 l11,a8 l17,a8 l20,wl,wd,mk8 l11 l17,aps l11 l17,ev,xl,xt,d7];exact Rq rfl
end Go.Proofs.YtldccnbokbieiaaGreat
