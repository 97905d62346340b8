/-
 Part 16 of what the claim rests on.
-/
import Derived.Test.YtldccnbokbieiaaGreatO2
import Derived.Test.YtldccnbokbieiaaGreatO3
import Derived.Test.YtldccnbokbieiaaGreatO5
import Derived.Test.YtldccnbokbieiaaGreatO11
import Derived.Test.YtldccnbokbieiaaGreatO12
import Derived.Test.YtldccnbokbieiaaGreatO13
set_option linter.unusedVariables false
set_option linter.unusedSimpArgs false
set_option maxRecDepth 100000
set_option maxHeartbeats 16000000
namespace Go.Ec
open CR
section
variable {n:Nat} [NeZero n]
abbrev N3:=Nat × Nat × Nat
def ajI (p:Nat) (u v:N3):N3 :=
 ZA (u.1*v.2.1+v.1*u.2.1) fun xy=>ZA (u.2.1*v.2.2+v.2.1*u.2.2) fun yz=>ZA (u.1*v.2.2+v.1*u.2.2) fun xz =>
 ZA (u.2.1*v.2.1 % p) fun yy=>ZA (u.2.2*v.2.2*21 % p) fun zz=>ZA (u.1*v.1) fun xx =>
 ZA (yy+(p - zz)) fun d=>ZA (yy+zz) fun e =>
 ZA ((xy*d+(p - 21*(yz*xz) % p)) % p) fun X=>ZA ((e*d+63*(xx*xz)) % p) fun Y=>ZA ((yz*e+3*(xx*xy)) % p) fun Z=>(X,Y,Z)
def toF (n:Nat) [NeZero n] (u:N3):Tr3 n:=(Fin.ofNat n u.1,Fin.ofNat n u.2.1,Fin.ofNat n u.2.2)
theorem Z0 (a b:Nat):Fin.ofNat n (a+b)=Fin.ofNat n a+Fin.ofNat n b:=Fin.ext (by rw [Fin.val_add];show (a+b) % n=(a % n+b % n) % n;rw [← Nat.add_mod])
theorem adT (a b:Nat):Fin.ofNat n (a*b)=Fin.ofNat n a*Fin.ofNat n b:=Fin.ext (by rw [Fin.val_mul];show a*b % n=(a % n)*(b % n) % n;rw [← Nat.mul_mod])
theorem adU (a:Nat):Fin.ofNat n (a % n)=Fin.ofNat n a:=Fin.ext (by show a % n % n=a % n;rw [Nat.mod_mod])
theorem adV {a:Nat} (h:a≤n):Fin.ofNat n (n - a)=- Fin.ofNat n a:=by
 have e:Fin.ofNat n (n - a)+Fin.ofNat n a=0:=by
  rw [← Z0,Nat.sub_add_cancel h];exact Fin.ext (by show n % n=0 % n;rw [Nat.mod_self,Nat.zero_mod])
 generalize Fin.ofNat n (n - a)=x at *;generalize Fin.ofNat n a=y at *
 grobner
theorem anj (hp:0<n) (u v:N3):toF n (ajI n u v)=G6 (toF n u) (toF n v):=by
 obtain ⟨a,b,c⟩:=u;obtain ⟨d,e,f⟩:=v;simp only [ajI,TV,toF,G6,adF,muF,W0,ae1,agG,ic3];have l1:c*f*21 % n≤n:=Nat.le_of_lt (Nat.mod_lt _ hp);have l2:∀ z,z % n≤n:=fun z=>Nat.le_of_lt (Nat.mod_lt _ hp);have k21:Fin.ofNat n 21=(21:Fin n):=rfl;have k63:Fin.ofNat n 63=(63:Fin n):=rfl;have k3:Fin.ofNat n 3=(3:Fin n):=rfl;refine Prod.ext ?_ (Prod.ext ?_ ?_)
 ·dsimp only;simp only [adU,Z0,adT,adV l1,adV (l2 _),k21]
  grobner
 ·dsimp only;simp only [adU,Z0,adT,adV l1,k21,k63]
  grobner
 ·dsimp only;simp only [adU,Z0,adT,k21,k3]
  grobner
def rep (f:Fd n) (t:Tr3 n) (P:Pt n):Prop:=∃ k,k ≠ 0∧t=sc k (pr P)
theorem aiD (f:Fd n) {s t:Tr3 n} {P Q:Pt n} (hP:RZ P) (hQ:RZ Q) (hs:rep f s P) (ht:rep f t Q):rep f (G6 s t) (sum f P Q):=by
 obtain ⟨k,hk,rfl⟩:=hs;obtain ⟨l,hl,rfl⟩:=ht;obtain ⟨m,hm,e⟩:=aaE f hP hQ;exact ⟨k*k*(l*l)*m,f.mul_ne (f.mul_ne (f.mul_ne hk hk) (f.mul_ne hl hl)) hm,by rw [agH,e,amb]⟩
def ank (p:Nat) (g:N3):Nat→Nat→N3→N3
 | 0,_,acc=>acc
 | j+1,k,acc=>bif (k / 2 ^ j % 2).beq 1 then ank p g j k (ajI p (ajI p acc acc) g) else ank p g j k (ajI p acc acc)
theorem aa6 (f:Fd n) (hp:0<n) {g:N3} {P:Pt n} (hP:RZ P) (hg:rep f (toF n g) P) (k:Nat):∀ (j:Nat) (acc:N3),rep f (toF n acc) (mp f (k / 2 ^ j) P)→rep f (toF n (ank n g j k acc)) (mp f k P)
 | 0,acc,h=>by rw [Nat.pow_zero,Nat.div_one] at h;exact h
 | j+1,acc,h=>by
  have hd:k / 2 ^ j=2*(k / 2 ^ (j+1))+k / 2 ^ j % 2:=by rw [Nat.pow_succ,← Nat.div_div_eq_div_mul];omega
  have o1:=W8 f hP (k / 2 ^ (j+1))
  have h2:rep f (toF n (ajI n acc acc)) (mp f (2*(k / 2 ^ (j+1))) P):=by
   rw [anj hp,adq f hP];exact aiD f o1 o1 h h
  rw [ank]
  cases hb:(k / 2 ^ j % 2).beq 1 with
  | true =>
   rw [cond_true];refine aa6 f hp hP hg k j _ ?_;have h1:=Nat.eq_of_beq_eq_true hb;rw [hd,h1,mp,anj hp];exact aiD f (W8 f hP _) hP h2 hg
  | false =>
   rw [cond_false];refine aa6 f hp hP hg k j _ ?_
   have h0:k / 2 ^ j % 2=0:=by
    have:=Nat.ne_of_beq_eq_false hb;omega
   rw [hd,h0,Nat.add_zero];exact h2
theorem anl (f:Fd n) {t:Tr3 n} {P:Pt n} (h:rep f t P) (hz:t.2.2 ≠ 0):P ≠ none:=by
 rintro rfl;obtain ⟨k,hk,rfl⟩:=h;refine hz ?_;show k*ic 0=0;rw [icz]
 grobner
end
end Go.Ec
namespace Go.Sha
def EF {α:Type}:Nat→S8→List Nat→(S8→α)→α
 | 0,s,_,C=>C s
 | n+1,s,b,C=>aly s (b.take 64) fun s'=>EF n s' (b.drop 64) C
theorem aqO {α:Type}:∀ (n:Nat) (s:S8) (b:List Nat) (C:S8→α),b.length=64*n→EF n s b C=C (E s b).1
 | 0,s,b,C,h=>by rw [VU aa];rfl
 | n+1,s,b,C,h=>by rw [EF,alz,aqO n _ _ C (by rw [aG];omega),← Xk aa]
theorem Tq (b:List Nat) (n:Nat) (h:(Go.Proofs.YtldccnbokbieiaaGreat.lastOf b b.length).length=64*n):aeN (Go.Proofs.YtldccnbokbieiaaGreat.lastOf b b.length) (fun l=>EF n H0 l dig)=z7 b:=by
 rw [aau,aqO n _ _ _ h,agv b.length b.length H0 b (av _)];rfl
def dRe:List Nat:=(53 :: 61 :: 94 :: 253 :: 190 :: 113 :: 247 :: 57 :: 66 :: 161 :: 185 :: 17 :: 45 :: 254 :: 199 :: 124 :: 103 :: 226 :: 249 :: 163 :: 120 :: 195 :: 190 :: 87 :: 55 :: 214 :: 250 :: 73 :: 198 :: 85 :: 133 :: 208 :: [])
def av0:List Nat:=(86 :: 97 :: 117 :: 108 :: 116 :: 82 :: 101 :: 99 :: 111 :: 118 :: 101 :: 114 :: 121 :: [])
theorem atd:z7 (av0)=dRe:=by
 rw [← Tq (av0) 1 (by kernel_rfl)]
 kernel_rfl
def dLe:List Nat:=(174 :: 234 :: 143 :: 220 :: 66 :: 8 :: 152 :: 49 :: 5 :: 115 :: 75 :: 88 :: 8 :: 29 :: 30 :: 38 :: 56 :: 211 :: 95 :: 28 :: 181 :: 64 :: 8 :: 212 :: 211 :: 87 :: 202 :: 3 :: 190 :: 120 :: 233 :: 238 :: [])
def av1:List Nat:=(84 :: 97 :: 112 :: 76 :: 101 :: 97 :: 102 :: [])
theorem ate:z7 (av1)=dLe:=by
 rw [← Tq (av1) 1 (by kernel_rfl)]
 kernel_rfl
def dBr:List Nat:=(25 :: 65 :: 161 :: 242 :: 229 :: 110 :: 185 :: 95 :: 162 :: 169 :: 241 :: 148 :: 190 :: 92 :: 1 :: 247 :: 33 :: 111 :: 51 :: 237 :: 130 :: 176 :: 145 :: 70 :: 52 :: 144 :: 208 :: 91 :: 245 :: 22 :: 160 :: 21 :: [])
def av2:List Nat:=(84 :: 97 :: 112 :: 66 :: 114 :: 97 :: 110 :: 99 :: 104 :: [])
theorem anm:z7 (av2)=dBr:=by
 rw [← Tq (av2) 1 (by kernel_rfl)]
 kernel_rfl
def dTu:List Nat:=(232 :: 15 :: 225 :: 99 :: 156 :: 156 :: 160 :: 80 :: 227 :: 175 :: 27 :: 57 :: 193 :: 67 :: 198 :: 62 :: 66 :: 156 :: 188 :: 235 :: 21 :: 217 :: 64 :: 251 :: 181 :: 197 :: 161 :: 244 :: 175 :: 87 :: 197 :: 233 :: [])
def av3:List Nat:=(84 :: 97 :: 112 :: 84 :: 119 :: 101 :: 97 :: 107 :: [])
theorem ann:z7 (av3)=dTu:=by
 rw [← Tq (av3) 1 (by kernel_rfl)]
 kernel_rfl
def dR0:List Nat:=(189 :: 152 :: 121 :: 193 :: 58 :: 236 :: 75 :: 153 :: 122 :: 243 :: 17 :: 30 :: 133 :: 43 :: 55 :: 145 :: 168 :: 204 :: 221 :: 212 :: 128 :: 76 :: 17 :: 134 :: 159 :: 142 :: 251 :: 34 :: 161 :: 5 :: 209 :: 59 :: [])
theorem atf:z7 (dRe ++ (dRe ++ (0 :: [])))=dR0:=by
 rw [← Tq (dRe ++ (dRe ++ (0 :: []))) 2 (by kernel_rfl)]
 kernel_rfl
def scX:List Nat:=(32 :: 189 :: 152 :: 121 :: 193 :: 58 :: 236 :: 75 :: 153 :: 122 :: 243 :: 17 :: 30 :: 133 :: 43 :: 55 :: 145 :: 168 :: 204 :: 221 :: 212 :: 128 :: 76 :: 17 :: 134 :: 159 :: 142 :: 251 :: 34 :: 161 :: 5 :: 209 :: 59 :: 188 :: [])
def ano:List Nat:=(32 :: 0 :: 0 :: 0 :: 0 :: 0 :: 0 :: 0 :: 0 :: 0 :: 0 :: 0 :: 0 :: 0 :: 0 :: 0 :: 0 :: 0 :: 0 :: 0 :: 0 :: 0 :: 0 :: 0 :: 0 :: 0 :: 0 :: 0 :: 0 :: 0 :: 0 :: 0 :: 0 :: 173 :: 4 :: 83 :: 178 :: 117 :: 179 :: 81 :: 187 :: [])
def abA:List Nat:=(32 :: 9 :: 0 :: 0 :: 0 :: 0 :: 0 :: 0 :: 0 :: 0 :: 0 :: 0 :: 0 :: 0 :: 0 :: 0 :: 0 :: 0 :: 0 :: 0 :: 0 :: 0 :: 0 :: 0 :: 0 :: 0 :: 0 :: 0 :: 0 :: 0 :: 0 :: 0 :: 0 :: 83 :: 178 :: 117 :: 179 :: [])
def bG:List Nat:=(121 :: 190 :: 102 :: 126 :: 249 :: 220 :: 187 :: 172 :: 85 :: 160 :: 98 :: 149 :: 206 :: 135 :: 11 :: 7 :: 2 :: 155 :: 252 :: 219 :: 45 :: 206 :: 40 :: 217 :: 89 :: 242 :: 129 :: 91 :: 22 :: 248 :: 23 :: 152 :: [])
def dX:List Nat:=(251 :: 255 :: 171 :: 80 :: 118 :: 245 :: 250 :: 144 :: 87 :: 15 :: 24 :: 166 :: 210 :: 84 :: 52 :: 117 :: 148 :: 127 :: 52 :: 144 :: 68 :: 199 :: 31 :: 12 :: 209 :: 106 :: 209 :: 21 :: 214 :: 95 :: 92 :: 182 :: [])
theorem av4:z7 (dLe ++ (dLe ++ (192 :: 34 :: scX)))=dX:=by
 rw [← Tq (dLe ++ (dLe ++ (192 :: 34 :: scX))) 2 (by kernel_rfl)]
 kernel_rfl
def dY1:List Nat:=(19 :: 6 :: 206 :: 238 :: 128 :: 236 :: 162 :: 250 :: 80 :: 202 :: 182 :: 106 :: 0 :: 179 :: 158 :: 213 :: 127 :: 57 :: 234 :: 176 :: 91 :: 142 :: 57 :: 191 :: 101 :: 17 :: 44 :: 135 :: 204 :: 198 :: 249 :: 4 :: [])
theorem atg:z7 (dLe ++ (dLe ++ (192 :: 41 :: ano)))=dY1:=by
 rw [← Tq (dLe ++ (dLe ++ (192 :: 41 :: ano))) 2 (by kernel_rfl)]
 kernel_rfl
def dY2:List Nat:=(171 :: 174 :: 215 :: 172 :: 224 :: 121 :: 165 :: 87 :: 203 :: 160 :: 248 :: 177 :: 70 :: 224 :: 77 :: 193 :: 3 :: 205 :: 50 :: 173 :: 167 :: 234 :: 209 :: 141 :: 7 :: 74 :: 140 :: 29 :: 143 :: 83 :: 189 :: 46 :: [])
theorem ath:z7 (dLe ++ (dLe ++ (192 :: 37 :: abA)))=dY2:=by
 rw [← Tq (dLe ++ (dLe ++ (192 :: 37 :: abA))) 2 (by kernel_rfl)]
 kernel_rfl
def dB1:List Nat:=(89 :: 211 :: 248 :: 89 :: 95 :: 4 :: 123 :: 31 :: 133 :: 170 :: 29 :: 17 :: 173 :: 17 :: 123 :: 176 :: 22 :: 143 :: 236 :: 70 :: 146 :: 10 :: 251 :: 25 :: 227 :: 240 :: 180 :: 5 :: 62 :: 146 :: 169 :: 246 :: [])
theorem ati:z7 (dBr ++ (dBr ++ (dY1 ++ dX)))=dB1:=by
 rw [← Tq (dBr ++ (dBr ++ (dY1 ++ dX))) 3 (by kernel_rfl)]
 kernel_rfl
def dT1:List Nat:=(20 :: 212 :: 211 :: 23 :: 126 :: 240 :: 124 :: 59 :: 195 :: 144 :: 104 :: 231 :: 190 :: 253 :: 191 :: 133 :: 168 :: 75 :: 233 :: 181 :: 62 :: 195 :: 202 :: 75 :: 34 :: 216 :: 7 :: 68 :: 160 :: 102 :: 148 :: 182 :: [])
theorem atj:z7 (dTu ++ (dTu ++ (bG ++ dB1)))=dT1:=by
 rw [← Tq (dTu ++ (dTu ++ (bG ++ dB1))) 3 (by kernel_rfl)]
 kernel_rfl
def dB2:List Nat:=(143 :: 143 :: 109 :: 45 :: 225 :: 67 :: 67 :: 97 :: 216 :: 90 :: 193 :: 220 :: 57 :: 140 :: 111 :: 162 :: 227 :: 169 :: 253 :: 128 :: 179 :: 169 :: 249 :: 191 :: 164 :: 187 :: 92 :: 79 :: 147 :: 129 :: 79 :: 95 :: [])
theorem atk:z7 (dBr ++ (dBr ++ (dY2 ++ dX)))=dB2:=by
 rw [← Tq (dBr ++ (dBr ++ (dY2 ++ dX))) 3 (by kernel_rfl)]
 kernel_rfl
def dT2:List Nat:=(9 :: 214 :: 53 :: 3 :: 89 :: 7 :: 10 :: 110 :: 242 :: 225 :: 59 :: 183 :: 117 :: 47 :: 204 :: 209 :: 59 :: 63 :: 101 :: 133 :: 12 :: 199 :: 183 :: 84 :: 40 :: 106 :: 18 :: 30 :: 18 :: 189 :: 131 :: 84 :: [])
theorem atl:z7 (dTu ++ (dTu ++ (bG ++ dB2)))=dT2:=by
 rw [← Tq (dTu ++ (dTu ++ (bG ++ dB2))) 3 (by kernel_rfl)]
 kernel_rfl
end Go.Sha
namespace Go.Proofs.YtldccnbokbieiaaGreat
open Go.Am Go.Sha
def Y6:Nat→Nat→List Nat
 | 0,_=>[]
 | k+1,m=>if m=0 then [] else m % 256 :: Y6 k (m / 256)
theorem WU:∀ (k m:Nat),bytes (Y6 k m)
 | 0,_=>fun x h=>by simp [Y6] at h
 | k+1,m=>by
  rw [Y6]
  split
  ·exact fun x h=>by simp at h
  ·intro x h;rcases aF.1 h with rfl | h
   ·omega
   ·exact WU k _ x h
theorem aiE:∀ (k m:Nat),(Y6 k m).length≤k
 | 0,_=>by simp [Y6]
 | k+1,m=>by
  rw [Y6]
  split
  ·simp
  ·have:=aiE k (m / 256);simp;omega
theorem apY {k m:Nat} (hk:0<k) (h:Y6 k m=[]):m=0:=by
 cases k with
 | zero=>omega
 | succ k =>
  rw [Y6] at h
  split at h
  ·assumption
  ·simp at h
def M2 (neg:Bool) (a:List Nat) (x:Nat):List Nat :=
 if 128≤x then (if neg then a ++ [x,128] else a ++ [x,0]) else (if neg then a ++ [x+128] else a ++ [x])
def ag9 (neg:Bool) (b:List Nat):List Nat:=match b.reverse with
 | []=>[]
 | x :: r=>M2 neg r.reverse x
def Uz (n:Int):List Nat:=ag9 (decide (n<0)) (Y6 8 n.natAbs)
theorem WV (neg:Bool) (a:List Nat) (x:Nat):ag9 neg (a ++ [x])=M2 neg a x:=by simp [ag9]
theorem Vs (b:List Nat):b=[] ∨ ∃ a x,b=a ++ [x]:=by
 rcases h:b.reverse with _ | ⟨x,r⟩
 ·exact .inl (by simpa using h)
 ·exact .inr ⟨r.reverse,x,by rw [← List.reverse_reverse b,h,List.reverse_cons]⟩
theorem Vt (n:Int):bytes (Uz n):=by
 unfold Uz;rcases Vs (Y6 8 n.natAbs) with h | ⟨a,x,h⟩
 ·rw [h];exact fun x hx=>by simp [ag9] at hx
 ·have hb:=WU 8 n.natAbs;rw [h] at hb ⊢;rw [WV];have hx:=hb x ab;have ha:bytes a:=fun z hz=>hb z (by simp [hz]);unfold M2;intro z hz
  split at hz <;> split at hz <;> simp at hz
  all_goals
   rcases hz with h | h
   ·exact ha z h
   ·omega
theorem Wg (n:Int):(Uz n).length≤9:=by
 unfold Uz;have hl:=aiE 8 n.natAbs;rcases Vs (Y6 8 n.natAbs) with h | ⟨a,x,h⟩
 ·rw [h];simp [ag9]
 ·rw [h] at hl ⊢;rw [WV];unfold M2;simp at hl
  split <;> split <;> simp <;> omega
theorem atm:∀ x:Nat,x<256→bits .and .u8 (x:Int) 128=if 128≤x then 128 else 0:=by decide +kernel
theorem av7:∀ x:Nat,x<128→bits .or .u8 (x:Int) 128=((x+128:Nat):Int):=by decide +kernel
theorem atn (n:Int) (h1:-9223372036854775808≤n) (h2:n<9223372036854775808):m6 Tryz.prog 81 [.d (.int .i64 n)] (fun r=>r=.d (nb (Uz n))):=by
  refine t6 Tryz.func81 Tryz.ntmps81 (rs:=[.tmp 2]) ae ?_;have hM:n.natAbs<18446744073709551616:=aa;simp [go_sem];have hpw:(256:Nat) ^ 8=18446744073709551616:=by decide
  have L0:∀ x:Int,IntKind.u64.wrap x=x % 18446744073709551616:=fun x=>by simp [IntKind.wrap,IntKind.bits,IntKind.signed]
  have wA:n<0→IntKind.u64.wrap (-IntKind.u64.wrap n)=(n.natAbs:Int):=fun h=>by rw [L0,L0];omega
  have wB:0≤n→IntKind.u64.wrap n=(n.natAbs:Int):=fun h=>by rw [L0];omega
  have fd:∀ m:Nat,Int.fdiv (m:Int) 256=((m / 256:Nat):Int):=fun m=>by rw [Int.fdiv_eq_ediv_of_nonneg _ (by decide)];omega
  have leF0:∀ k,Y6 k 0=[]:=fun k=>by cases k <;> simp [Y6]
  have hnn:Uz n=ag9 (decide (n<0)) (Y6 8 n.natAbs):=rfl;refine ⟨fun hneg=>?_,fun hneg=>?_⟩
  all_goals
    refine j9 (fun t:Nat × List Nat × Nat=>⟨[(3,.d (.bool (decide (n<0)))),(4,.d (.int .u64 (t.2.2:Int))),(5,.own 5000 0 t.2.1.length t.2.1.length)],[(5000,⟨5,1,rb t.2.1⟩)],6000⟩)
      (fun t=>t.2.2<256 ^ t.1∧t.1≤8∧t.2.1.length+t.1≤8∧t.2.1 ++ Y6 t.1 t.2.2=Y6 8 n.natAbs) (fun t=>t.1) (8,[],n.natAbs) ⟨by rw [hpw];exact hM,ab,ab,rfl⟩ (by
        first
          | (have w:=wA hneg
             simp [m7,c6,fv,lk,AV.low,AV.low1,w,rb])
          | (have w:=wB hneg
             simp [m7,c6,fv,lk,AV.low,AV.low1,w,rb])) ?_
    rintro ⟨k,b,m⟩ ⟨p1,p2,p4,p3⟩;simp only at p1 p2 p3 p4;simp only;simp [go_sem];refine ⟨fun hm=>?_,fun hm=>?_⟩
    · match k,p1,p2,p3,p4 with
      | 0,p1,_,_,_=>simp at p1;omega
      | k+1,p1,p2,p3,p4 =>
        refine ⟨o6 b,aa,?_⟩;rw [Y6,if_neg aa] at p3;rw [Nat.pow_succ] at p1;have hd:m / 256<256 ^ k:=Nat.div_lt_of_lt_mul aa;have w8:IntKind.u8.wrap (m:Int)=((m % 256:Nat):Int):=by rw [u8w];omega
        refine c8 (k,b ++ [m % 256],m / 256) ⟨hd,by show k≤8;omega,by simp;omega,by rw [← p3];simp⟩ (by show k<k+1;omega) ⟨?_,?_,ab⟩
        · simp [c6,fv,lk,AV.low,AV.low1,fd]
        · intro p hp
          simp only [aF,List.mem_nil_iff,or_false] at hp;subst hp;exact ⟨.inl (by rw [w8];simp [lk,rb]),by show 5000<6000;omega,s7 _ _⟩
    · subst hm
      rw [leF0,List.append_nil] at p3;subst p3;rw [hnn];have hbb:=WU 8 n.natAbs;generalize Y6 8 n.natAbs=b at *;refine ⟨fun hb=>?_,fun hb=>?_⟩
      · subst hb
        exact F3 (d9 (n9 rfl rfl trivial)) trivial rfl
      · rcases Vs b with h | ⟨a,x,rfl⟩
        · exact absurd h hb
        rw [WV]
        have wl:IntKind.i64.wrap (((a ++ [x]).length:Int) - 1)=(a.length:Int):=by
          have hal:(a ++ [x]).length=a.length+1:=by simp
          rw [hal] at p4 ⊢;rw [IntWalk.i64_in _ aa];omega
        have hx:x<256:=hbb x ab;have hrow:(rb (a ++ [x]))[a.length]?=some [.d (.int .u8 (x:Int))]:=by simp [rb]
        have hrowg:∀ h,(rb (a ++ [x]))[a.length]'h=[.d (.int .u8 (x:Int))]:=fun h=>by rw [am h] at hrow;exact Option.some.inj hrow
        have hal:a.length≤7:=by simp at p4;omega
        have w1:IntKind.i64.wrap ((a.length:Int)+1)=((a.length+1:Nat):Int):=by rw [IntWalk.i64_in _ aa];omega
        have w2:IntKind.i64.wrap (a.length:Int)=(a.length:Int):=IntWalk.i64_in _ aa;have R1:(rb (a ++ [x]) ++ [[AV.d (.int .u8 0)]])[a.length+1]?=some [.d (.int .u8 0)]:=by simp [rb]
        have R1g:∀ h,(rb (a ++ [x]) ++ [[AV.d (.int .u8 0)]])[a.length+1]'h=[.d (.int .u8 0)]:=fun h=>by rw [am h] at R1;exact Option.some.inj R1
        have S1:(rb (a ++ [x]) ++ [[AV.d (.int .u8 0)]]).set (a.length+1) [.d (.int .u8 128)]=rb (a ++ [x,128]):=by
          have:rb (a ++ [x])=rb a ++ [[.d (.int .u8 (x:Int))]]:=(N1 a x).symm;rw [this,ar,List.set_append_right _ _ (by rw [o6];omega),o6,show a.length+1 - a.length=1 by omega];simp [rb]
        have o0:bits .or .u8 0 128=128:=by decide
        have S2:∀ y:Nat,(rb (a ++ [x])).set a.length [.d (.int .u8 (y:Int))]=rb (a ++ [y]):=fun y=>by
          have:rb (a ++ [x])=rb a ++ [[.d (.int .u8 (x:Int))]]:=(N1 a x).symm;rw [this,List.set_append_right _ _ (by rw [o6];omega),o6,Nat.sub_self];simp [rb]
        have hA:=atm x hx;rw [wl];by_cases h128:128≤x
        · rw [if_pos h128] at hA
          simp [go_sem,hrow,hrowg,o6,hA];by_cases hs:n<0
          · simp [go_sem,hs,o6,w1,R1,R1g,o0,S1]
            repeat' apply And.intro
            all_goals first
              | omega
              | exact fun h=>absurd hs aa
              | exact F3 (d9 (n9 (L:=M2 true a x) (by simp [M2,h128]) (by simp [lk,M2,h128,rb]) trivial)) trivial rfl
              | exact fun _=>F3 (d9 (n9 (L:=M2 true a x) (by simp [M2,h128]) (by simp [lk,M2,h128,rb]) trivial)) trivial rfl
          · simp [go_sem,hs]
            repeat' apply And.intro
            all_goals first
              | omega
              | exact fun h=>absurd hs aa
              | exact F3 (d9 (n9 (L:=M2 false a x) (by simp [M2,h128]) (by simp [lk,M2,h128,rb]) trivial)) trivial rfl
              | exact fun _=>F3 (d9 (n9 (L:=M2 false a x) (by simp [M2,h128]) (by simp [lk,M2,h128,rb]) trivial)) trivial rfl
        · rw [if_neg h128] at hA
          have hO:=av7 x aa;simp [go_sem,hrow,hrowg,o6,hA];by_cases hs:n<0
          · simp [go_sem,hs,o6,w2,hrowg,hO,S2,-Int.natCast_add]
            repeat' apply And.intro
            all_goals first
              | omega
              | exact fun h=>absurd hs aa
              | exact F3 (d9 (n9 (L:=M2 true a x) (by simp [M2,h128]) (by simp [lk,M2,h128,rb]) trivial)) trivial rfl
              | exact fun _=>F3 (d9 (n9 (L:=M2 true a x) (by simp [M2,h128]) (by simp [lk,M2,h128,rb]) trivial)) trivial rfl
          · simp [go_sem,hs]
            repeat' apply And.intro
            all_goals first
              | omega
              | exact fun h=>absurd hs aa
              | exact F3 (d9 (n9 (L:=M2 false a x) (by simp [M2,h128]) (by simp [lk,M2,h128,rb]) trivial)) trivial rfl
              | exact fun _=>F3 (d9 (n9 (L:=M2 false a x) (by simp [M2,h128]) (by simp [lk,M2,h128,rb]) trivial)) trivial rfl
theorem av8 {σ:Int} (h:σ=1 ∨ σ=-1) (M:Nat):(σ*(M:Int)).tmod 256=σ*((M % 256:Nat):Int)∧(σ*(M:Int)).tdiv 256=σ*((M / 256:Nat):Int):=by
 have e1:((M:Int)).tmod 256=((M % 256:Nat):Int):=by rw [Int.tmod_eq_emod_of_nonneg aa];omega
 have e2:((M:Int)).tdiv 256=((M / 256:Nat):Int):=by rw [Int.tdiv_eq_ediv_of_nonneg aa];omega
 rcases h with rfl | rfl
 ·rw [Int.one_mul,Int.one_mul,Int.one_mul];exact ⟨e1,e2⟩
 ·rw [Int.neg_one_mul,Int.neg_one_mul,Int.neg_one_mul,Int.neg_tmod,Int.neg_tdiv,e1,e2];exact ⟨rfl,rfl⟩
theorem apZ (n:Int) (h1:-9223372036854775808≤n) (h2:n<9223372036854775808):m6 Tryz.prog 83 [.d (.int .i64 n)] (fun r=>r=.d (nb (Uz n))):=by
 refine t6 Tryz.func83 Tryz.ntmps83 (rs:=[.tmp 2]) ae ?_;have hM:n.natAbs<18446744073709551616:=aa;have hpw:(256:Nat) ^ 8=18446744073709551616:=by decide
 have leF0:∀ k,Y6 k 0=[]:=fun k=>by cases k <;> simp [Y6]
 have hnn:Uz n=ag9 (decide (n<0)) (Y6 8 n.natAbs):=rfl
 obtain ⟨σ,hσ,hnσ,hlt⟩:∃ σ:Int,(σ=1 ∨ σ=-1)∧n=σ*(n.natAbs:Int)∧(n<0→σ=-1):=by
  by_cases h:n<0
  ·exact ⟨-1,.inr rfl,aa,fun _=>rfl⟩
  ·exact ⟨1,.inl rfl,aa,fun h'=>absurd h' h⟩
 have hs0:n=0→n.natAbs=0:=aa;simp [go_sem]
 refine j9 (fun t:Nat × List Nat × Nat=>⟨[(0,.d (.int .i64 n)),(3,.own 32 0 t.2.1.length t.2.1.length),(4,.d (.int .i64 (σ*(t.2.2:Int))))],[(32,⟨5,1,rb t.2.1⟩)],6000⟩)
   (fun t=>t.2.2<256 ^ t.1∧t.1≤8∧t.2.2≤n.natAbs∧t.2.1.length+t.1≤8∧t.2.1 ++ Y6 t.1 t.2.2=Y6 8 n.natAbs) (fun t=>t.1) (8,[],n.natAbs) ⟨by rw [hpw];exact hM,ab,av _,ab,rfl⟩ (by
    refine ⟨?_,?_,ab⟩
    ·simp [c6,fv,lk,AV.low,AV.low1];exact hnσ.symm
    ·intro p hp;simp only [aF,List.mem_nil_iff,or_false] at hp;subst hp
     exact ⟨.inl (by simp [lk,rb]),by show 32<6000;omega,s7 _ _⟩) ?_
 rintro ⟨k,b,m⟩ ⟨p1,p2,p5,p4,p3⟩;simp only at p1 p2 p3 p4 p5;simp only;have tm:=av8 hσ m
 have hz:(σ*(m:Int)=0)=(m=0):=by
  rcases hσ with rfl | rfl <;> (apply propext;constructor <;> intro h <;> omega)
 have hq1:m / 256≤36028797018963968:=aa;have hd1:m % 256<256:=aa
 have hkk:∀ k',k=k'+1→m / 256<256 ^ k':=fun k' e=>by
  subst e;rw [Nat.pow_succ] at p1;exact Nat.div_lt_of_lt_mul aa
 have hle:∀ k',k=k'+1→m ≠ 0→Y6 k m=m % 256 :: Y6 k' (m / 256):=fun k' e h=>by
  subst e;rw [Y6,if_neg h]
 have hmq:m / 256≤n.natAbs:=aa;generalize m / 256=q at *;generalize m % 256=d at *
 have wq:IntKind.i64.wrap (σ*(q:Int))=σ*(q:Int):=by
  rcases hσ with rfl | rfl <;> rw [IntWalk.i64_in _ aa]
 have w8:IntKind.u8.wrap (d:Int)=(d:Int):=by rw [u8w];omega
 by_cases hm:m=0
 ·have hz':σ*(m:Int)=0:=by rw [hm];simp
  rw [hm,leF0,List.append_nil] at p3;have hbb:=WU 8 n.natAbs;have hnil:=@apY 8 n.natAbs aa;rw [← p3] at hnn hbb hnil;rw [hnn];rcases Vs b with h | ⟨a,x,rfl⟩
  ·have hn0:=hnil h;have hn1:n=0:=aa;subst h;simp [go_sem,hz',hn1];exact F3 (d9 (n9 rfl rfl trivial)) trivial rfl
  ·rw [WV];have hal:a.length≤7:=by simp at p4;omega
   have hx:x<256:=hbb x ab;have hrow:(rb (a ++ [x]))[a.length]?=some [.d (.int .u8 (x:Int))]:=by simp [rb]
   have hrowg:∀ h,(rb (a ++ [x]))[a.length]'h=[.d (.int .u8 (x:Int))]:=fun h=>by rw [am h] at hrow;exact Option.some.inj hrow
   have w1:IntKind.i64.wrap ((a.length:Int)+1)=((a.length+1:Nat):Int):=by rw [IntWalk.i64_in _ aa];omega
   have w2:IntKind.i64.wrap (a.length:Int)=(a.length:Int):=IntWalk.i64_in _ aa;have R1:(rb (a ++ [x]) ++ [[AV.d (.int .u8 0)]])[a.length+1]?=some [.d (.int .u8 0)]:=by simp [rb]
   have R1g:∀ h,(rb (a ++ [x]) ++ [[AV.d (.int .u8 0)]])[a.length+1]'h=[.d (.int .u8 0)]:=fun h=>by rw [am h] at R1;exact Option.some.inj R1
   have S1:(rb (a ++ [x]) ++ [[AV.d (.int .u8 0)]]).set (a.length+1) [.d (.int .u8 128)]=rb (a ++ [x,128]):=by
    have:rb (a ++ [x])=rb a ++ [[.d (.int .u8 (x:Int))]]:=(N1 a x).symm;rw [this,ar,List.set_append_right _ _ (by rw [o6];omega),o6,show a.length+1 - a.length=1 by omega];simp [rb]
   have S2:∀ y:Nat,(rb (a ++ [x])).set a.length [.d (.int .u8 (y:Int))]=rb (a ++ [y]):=fun y=>by
    have:rb (a ++ [x])=rb a ++ [[.d (.int .u8 (x:Int))]]:=(N1 a x).symm;rw [this,List.set_append_right _ _ (by rw [o6];omega),o6,Nat.sub_self];simp [rb]
   have o0:IntKind.u8.wrap 128=128:=by decide
   by_cases h128:128≤x
   ·have h128':(128:Int)≤(x:Int):=aa;by_cases hs:n<0
    ·simp [go_sem,hz',hrow,hrowg,o6,h128,h128',hs,w1,w2,R1,R1g,o0,S1]
     repeat' apply And.intro
     all_goals first
      | omega
      | exact F3 (d9 (n9 (L:=M2 true a x) (by simp [M2,h128]) (by simp [lk,M2,h128,rb]) trivial)) trivial rfl
    ·simp [go_sem,hz',hrow,hrowg,o6,h128,h128',hs,w1,w2,R1,R1g,o0,S1]
     repeat' apply And.intro
     all_goals first
      | omega
      | exact F3 (d9 (n9 (L:=M2 false a x) (by simp [M2,h128]) (by simp [lk,M2,h128,rb]) trivial)) trivial rfl
   ·have h128':¬ (128:Int)≤(x:Int):=aa;have w4:IntKind.i64.wrap (((a.length+1:Nat):Int) - 1)=(a.length:Int):=by rw [IntWalk.i64_in _ aa];omega
    have w3:IntKind.u8.wrap ((x:Int)+128)=((x+128:Nat):Int):=by rw [u8w];omega
    by_cases hs:n<0
    ·simp [go_sem,hz',hrow,hrowg,o6,h128,h128',hs,w1,w2,w3,w4,S2,-Int.natCast_add]
     repeat' apply And.intro
     all_goals first
      | omega
      | exact F3 (d9 (n9 (L:=M2 true a x) (by simp [M2,h128]) (by simp [lk,M2,h128,rb]) trivial)) trivial rfl
    ·simp [go_sem,hz',hrow,hrowg,o6,h128,h128',hs,w1,w2,w3,w4,S2,-Int.natCast_add]
     repeat' apply And.intro
     all_goals first
      | omega
      | exact F3 (d9 (n9 (L:=M2 false a x) (by simp [M2,h128]) (by simp [lk,M2,h128,rb]) trivial)) trivial rfl
 simp [go_sem,tm.1,tm.2,hz,wq,hm]
 ·match k,p1,p2,p4,p3,hkk,hle with
  | 0,p1,_,_,_,_,_=>simp at p1;omega
  | k+1,p1,p2,p4,p3,hkk,hle =>
   have hdq:=hkk k rfl;rw [hle k rfl hm] at p3;refine ⟨fun hs=>?_,fun hs=>?_⟩
   ·have wd:IntKind.i64.wrap (-(σ*(d:Int)))=(d:Int):=by
     rcases hσ with rfl | rfl
     ·omega
     ·rw [IntWalk.i64_in _ aa];omega
    refine ⟨o6 b,aa,?_⟩;refine c8 (k,b ++ [d],q) ⟨hdq,by show k≤8;omega,hmq,by simp;omega,by rw [← p3];simp⟩ (by show k<k+1;omega) ⟨?_,?_,ab⟩
    ·simp [c6,fv,lk,AV.low,AV.low1]
    ·intro p hp;simp only [aF,List.mem_nil_iff,or_false] at hp;subst hp;exact ⟨.inl (by rw [wd,w8];simp [lk,rb]),by show 32<6000;omega,s7 _ _⟩
   ·have wd:σ*(d:Int)=(d:Int):=by
     rcases hσ with rfl | rfl <;> omega
    refine ⟨o6 b,aa,?_⟩;refine c8 (k,b ++ [d],q) ⟨hdq,by show k≤8;omega,hmq,by simp;omega,by rw [← p3];simp⟩ (by show k<k+1;omega) ⟨?_,?_,ab⟩
    ·simp [c6,fv,lk,AV.low,AV.low1]
    ·intro p hp;simp only [aF,List.mem_nil_iff,or_false] at hp;subst hp;exact ⟨.inl (by rw [wd,w8];simp [lk,rb]),by show 32<6000;omega,s7 _ _⟩
theorem afE:∀ (ws:List Wd) (out:List Nat),(∀ w,w ∈ ws→(K8 w).2=true)→ZF out ws=(out ++ r5 ws,0)
 | [],out,_=>by simp [ZF,r5]
 | w :: r,out,h=>by
  have hw:=h w ab;rw [ZF,if_pos hw,afE r _ (fun v hv=>h v (by simp [hv])),← adI hw];simp [r5]
theorem adW {n:Nat} (h1:n=0 ∨ 77<n):(K8 (n,[])).2=true:=by
 unfold K8;rw [if_neg (by simp;omega),if_neg (by simp;omega),if_neg (by simp;omega)];rfl
theorem aiF {n:Nat} (h:n<256):aaW (n,[]):=⟨ab,h⟩
def J8 (d:Int):List Wd:=[D4 (Uz d),(178,[]),(117,[]),(179,[])]
def I3 (rec:List Nat):List Wd:=[D4 (VI rec),(188,[])]
def E0 (trig:List Nat) (d:Int):List Wd:=[D4 trig,(173,[]),D4 (r5 (J8 d)),(81,[]),(187,[])]
theorem Vu (x:List Nat):bytes (VI x):=D3 _
theorem aa7 (d:Int):∀ w,w ∈ J8 d→aaW w∧(K8 w).2=true:=by
 intro w hw;have hl:=Wg d;simp [J8] at hw;rcases hw with rfl | rfl | rfl | rfl
 ·exact ⟨V9 aa (Vt d),WL aa⟩
 all_goals exact ⟨aiF aa,adW aa⟩
theorem Xy {ws:List Wd} (h:∀ w,w ∈ ws→(K8 w).2=true∧w.1<256∧bytes w.2):bytes (r5 ws):=by
 unfold r5;intro z hz;rw [List.mem_flatten] at hz;obtain ⟨l,hl,hz⟩:=hz;obtain ⟨w,hw,rfl⟩:=List.mem_map.1 hl;obtain ⟨h1,h2,h3⟩:=h w hw;rw [adI h1] at hz;exact ag2 h2 h3 z hz
theorem TN:∀ (ws:List Wd) (n:Nat),(∀ w,w ∈ ws→w.2.length≤n)→(r5 ws).length≤(n+3)*ws.length
 | [],n,_=>by simp [r5]
 | w :: r,n,h=>by
  have h1:=afl w;have h2:=h w ab;have h3:=TN r n (fun v hv=>h v (by simp [hv]));simp only [r5,List.map_cons,List.flatten_cons,aj,List.length_cons] at h3 ⊢;rw [Nat.mul_succ];omega
theorem TO (d:Int):(r5 (J8 d)).length≤48:=by
 have hl:=Wg d
 have:=TN (J8 d) 9 (by
  intro w hw;simp [J8] at hw;rcases hw with rfl | rfl | rfl | rfl
  ·have:=R4 (Uz d);omega
  all_goals simp)
 simpa [J8] using this
theorem Up (d:Int):bytes (r5 (J8 d)):=Xy (fun w hw=>by
 have:=aa7 d w hw;refine ⟨this.2,this.1.2,?_⟩;simp [J8] at hw;rcases hw with rfl | rfl | rfl | rfl
 ·exact Um (Vt d)
 all_goals exact fun z hz=>by simp at hz)
theorem adX (rec:List Nat):∀ w,w ∈ I3 rec→aaW w∧(K8 w).2=true:=by
 intro w hw;have hl:=T0 rec;simp [I3] at hw;rcases hw with rfl | rfl
 ·exact ⟨V9 aa (Vu _),WL aa⟩
 ·exact ⟨aiF aa,adW aa⟩
theorem aa8 {trig:List Nat} (d:Int) (ht:trig.length=32) (hb:bytes trig):∀ w,w ∈ E0 trig d→aaW w∧(K8 w).2=true:=by
 intro w hw;have hl:=TO d;simp [E0] at hw;rcases hw with rfl | rfl | rfl | rfl | rfl
 ·exact ⟨V9 aa hb,WL aa⟩
 ·exact ⟨aiF aa,adW aa⟩
 ·exact ⟨V9 aa (Up d),WL aa⟩
 all_goals exact ⟨aiF aa,adW aa⟩
theorem ap0 (n:Int) (h1:-9223372036854775808≤n) (h2:n<9223372036854775808):m6 Tryz.prog 136 [.d (.int .i64 n)] (fun r=>r=.agg (Ti (D4 (Uz n)))):=by
 refine t6 Tryz.func136 Tryz.ntmps136 (rs:=[.cell 2 130]) ae ?_;have hl:=Wg n;simp [go_sem];refine a9 (atn n h1 h2) ae ?_;simp [go_sem];refine a9 (Yj (Uz n) aa (Vt n)) ae ?_;generalize D4 (Uz n)=w;simp [go_sem,Ti,d7];exact b7 ae rfl
theorem anp (n:Int) (h1:-9223372036854775808≤n) (h2:n<9223372036854775808):m6 Tryz.prog 139 [.d (.int .i64 n)] (fun r=>r=.agg (Ti (D4 (Uz n)))):=by
 refine t6 Tryz.func139 Tryz.ntmps139 (rs:=[.cell 2 130]) ae ?_;have hl:=Wg n;simp [go_sem];refine a9 (apZ n h1 h2) ae ?_;simp [go_sem];refine a9 (Yk (Uz n) aa (Vt n)) ae ?_;generalize D4 (Uz n)=w;simp [go_sem,Ti,d7];exact b7 ae rfl
theorem aa9 (n:Nat):m6 Tryz.prog 97 [.d (.int .u8 (n:Int))] (fun r=>r=.agg (Ti (n,[]))):=by
 refine t6 Tryz.func97 Tryz.ntmps97 (rs:=[.cell 2 130]) ae ?_;simp [go_sem,Ti,d7];refine Ru (cs':=[.d (.int .u8 (n:Int)),.d (nb [])]) (fun i c c' h1 h2=>?_) rfl ae rfl
 match i,h1,h2 with
 | 0,h1,h2=>simp at h1 h2;subst h1 h2;exact F6 trivial
 | 1,h1,h2=>simp at h1 h2;subst h1 h2;exact d9 (.nil 1)
 | k+2,h1,_=>simp at h1
theorem Y7 (ws:List Wd) (hw:∀ w,w ∈ ws→aaW w∧(K8 w).2=true) (hl:ws.length≤10000):m6 Tryz.prog 95 [.d (.ro 2 (ws.map SG))] (fun r=>r=.d (nb (r5 ws))):=by
 refine t6 Tryz.func95 Tryz.ntmps95 (rs:=[.tmp 2]) ae ?_;have hb:=afm ws (fun w h=>(hw w h).1) hl;rw [afE ws [] (fun w h=>(hw w h).2),List.nil_append] at hb;simp [go_sem];refine a9 hb ae ?_;simp [go_sem,d7];exact b7 ae rfl
def A8 (inner rec:List Nat) (d:Int) (trig:List Nat):List AV:=cb inner ++ ([.d (nb rec),.d (.int .i64 d)] ++ cb trig)
theorem D2 {inner trig:List Nat} (hi:inner.length=32) (ht:trig.length=32) (rec:List Nat) (d:Int):(A8 inner rec d trig).length=66:=by simp [A8,d0,hi,ht]
theorem o4 {inner trig:List Nat} (hi:inner.length=32) (ht:trig.length=32) (rec:List Nat) (d:Int):List.take 66 (A8 inner rec d trig)=A8 inner rec d trig:=aq (by rw [D2 hi ht];exact av _)
theorem UT {inner:List Nat} (hi:inner.length=32) (rec:List Nat) (d:Int) (trig:List Nat):(A8 inner rec d trig)[32]?=some (.d (nb rec)):=by
 unfold A8;rw [aB (by rw [d0];omega),d0,hi];rfl
theorem UU {inner:List Nat} (hi:inner.length=32) (rec:List Nat) (d:Int) (trig:List Nat):(A8 inner rec d trig)[33]?=some (.d (.int .i64 d)):=by
 unfold A8;rw [aB (by rw [d0];omega),d0,hi];rfl
theorem UV {inner:List Nat} (hi:inner.length=32) (rec:List Nat) (d:Int) (trig:List Nat) (hl:32<(A8 inner rec d trig).length):(A8 inner rec d trig)[32]=.d (nb rec):=by
 have:=UT hi rec d trig;rw [am hl] at this;exact Option.some.inj this
theorem UW {inner:List Nat} (hi:inner.length=32) (rec:List Nat) (d:Int) (trig:List Nat) (hl:33<(A8 inner rec d trig).length):(A8 inner rec d trig)[33]=.d (.int .i64 d):=by
 have:=UU hi rec d trig;rw [am hl] at this;exact Option.some.inj this
theorem aba {inner:List Nat} (hi:inner.length=32) (rec:List Nat) (d:Int) (trig:List Nat):List.take 32 (A8 inner rec d trig)=cb inner:=by
 unfold A8;rw [List.take_append_of_le_length (by rw [d0,hi];exact av _),d6 hi]
theorem Ud (inner rec:List Nat) (d:Int) (trig:List Nat):(AV.agg (A8 inner rec d trig)).deep:=by
 intro c hc;unfold A8 at hc;rcases au.1 hc with h | h
 ·exact r6 _ _ h
 ·rcases au.1 h with h | h
  ·simp at h;rcases h with rfl | rfl <;> trivial
  ·exact r6 _ _ h
theorem z6 (inner rec:List Nat) (d:Int) (trig:List Nat):∀ v,v ∈ [AV.agg (A8 inner rec d trig)]→v.deep:=by
 intro v hv;simp at hv;subst hv;exact Ud _ _ _ _
theorem ato (inner rec:List Nat) (d:Int) (trig:List Nat) (hi:inner.length=32) (ht:trig.length=32):m6 Tryz.prog 62 [.agg (A8 inner rec d trig)] (fun r=>r=.d (.bool (decide (0≤d∧d≤65535∧rec.length≤1000)))):=by
 refine t6 Tryz.func62 Tryz.ntmps62 (rs:=[.tmp 2]) (z6 _ _ _ _) ?_;have hl:=D2 hi ht rec d;have g32:=UV hi rec d trig;have g33:=UW hi rec d trig;have e32:=UT hi rec d trig;have e33:=UU hi rec d trig;by_cases h1:0≤d
 ·by_cases h2:d≤65535
  ·by_cases h3:rec.length≤1000
   ·have i3:(rec.length:Int)≤1000:=aa;simp [go_sem,hl,o4 hi ht,e32,e33,g32,g33,h1,h2,h3,i3,nb,d7];exact b7 ae rfl
   ·have i3:¬ (rec.length:Int)≤1000:=aa;simp [go_sem,hl,o4 hi ht,e32,e33,g32,g33,h1,h2,h3,i3,nb,d7];exact b7 ae rfl
  ·simp [go_sem,hl,o4 hi ht,e32,e33,g32,g33,h1,h2,nb,d7];exact b7 ae rfl
 ·simp [go_sem,hl,o4 hi ht,e32,e33,g32,g33,h1,nb,d7];exact b7 ae rfl
theorem Yr (inner rec:List Nat) (d:Int) (trig:List Nat) (hi:inner.length=32) (ht:trig.length=32) (hr:rec.length≤100000):m6 Tryz.prog 63 [.agg (A8 inner rec d trig)] (fun r=>r=.d (nb (r5 (I3 rec)))):=by
 refine t6 Tryz.func63 Tryz.ntmps63 (rs:=[.tmp 2]) (z6 _ _ _ _) ?_;have hl:=D2 hi ht rec d;have g32:=UV hi rec d trig;have e32:=UT hi rec d trig;have hL:=T0 rec;simp [go_sem,hl,o4 hi ht,e32,g32];refine a9 (ag1 rec hr) ae ?_;simp [go_sem,d0,hL,d6 hL,s9];refine u7 [160] (Yj (VI rec) aa (Vu rec)) rfl (c7 (.one (d9 (Si rfl ab hL))) n7) ?_;have hok:=adX rec;have hRW:I3 rec=[D4 (VI rec),(188,[])]:=rfl;rw [hRW] at hok ⊢;generalize D4 (VI rec)=w at *;simp [go_sem,p9];refine a9 (aa9 188) ae ?_;simp [go_sem,Ti];refine u7 [320] (Y7 [w,(188,[])] hok ab) rfl (c7 (.one (d9 (H2 (ty:=130) (e:=2) (es:=[w,(188,[])].map SG) (by simp [lk,SG,Ti]) ab rfl (by simp [SG])))) n7) ?_;simp [go_sem,d7];exact b7 ae rfl
theorem afF (inner rec:List Nat) (d:Int) (trig:List Nat) (hi:inner.length=32) (ht:trig.length=32) (h1:-9223372036854775808≤d) (h2:d<9223372036854775808):m6 Tryz.prog 98 [.agg (A8 inner rec d trig)] (fun r=>r=.d (nb (r5 (J8 d)))):=by
 refine t6 Tryz.func98 Tryz.ntmps98 (rs:=[.tmp 2]) (z6 _ _ _ _) ?_;have hl:=D2 hi ht rec d;have g33:=UW hi rec d trig;have e33:=UU hi rec d trig;simp [go_sem,hl,o4 hi ht,e33,g33];refine a9 (ap0 d h1 h2) ae ?_;have hok:=aa7 d;have hRW:J8 d=[D4 (Uz d),(178,[]),(117,[]),(179,[])]:=rfl;rw [hRW] at hok ⊢;generalize D4 (Uz d)=w at *;simp [go_sem];refine a9 (aa9 178) ae ?_;simp [go_sem];refine a9 (aa9 117) ae ?_;simp [go_sem];refine a9 (aa9 179) ae ?_;simp [go_sem,Ti];refine u7 [256] (Y7 [w,(178,[]),(117,[]),(179,[])] hok ab) rfl (c7 (.one (d9 (H2 (ty:=130) (e:=2) (es:=[w,(178,[]),(117,[]),(179,[])].map SG) (by simp [lk,SG,Ti]) ab rfl (by simp [SG])))) n7) ?_;simp [go_sem,d7];exact b7 ae rfl
def Xa (inner rec:List Nat) (d:Int) (trig:List Nat):List DV:=cd inner ++ ([nb rec,.int .i64 d] ++ cd trig)
theorem UX (inner rec:List Nat) (d:Int) (trig:List Nat):(Xa inner rec d trig).map AV.d=A8 inner rec d trig:=by simp [Xa,A8,Tj]
theorem acx {inner trig:List Nat} (hi:inner.length=32) (ht:trig.length=32) (rec:List Nat) (d:Int):(Xa inner rec d trig).length=66:=by simp [Xa,H3,hi,ht]
theorem afG {inner trig:List Nat} (hi:inner.length=32) (ht:trig.length=32) (rec:List Nat) (d:Int):List.drop 34 (Xa inner rec d trig)=cd trig:=by
 unfold Xa;rw [← ar,List.drop_append,az (by simp [H3,hi]),List.nil_append];simp [H3,hi]
theorem Zu (inner rec:List Nat) (d:Int) (trig:List Nat) (hi:inner.length=32) (ht:trig.length=32) (hb:bytes trig) (h1:-9223372036854775808≤d) (h2:d<9223372036854775808):m6 Tryz.prog 64 [.agg (A8 inner rec d trig)] (fun r=>r=.d (nb (r5 (E0 trig d)))):=by
 refine YI Tryz.func64 (by kernel_rfl) rfl Tryz.ntmps64 (rs:=[.tmp 2]) rfl (Ut rfl) (z6 _ _ _ _) ?_;have hl:=D2 hi ht rec d;refine ac2 (SA ?_);simp [go_sem,hl,o4 hi ht];simp only [abr];refine agn (st':=⟨[(1,.rop (Xa inner rec d trig))],[],9000⟩) (VR [0] [(1,.rop (Xa inner rec d trig))] ?_ ?_) ?_
 ·intro p hp;simp only [aF,List.mem_nil_iff,or_false] at hp;subst hp;exact .ptr ab rfl rfl rfl (by rw [List.drop_zero,← UX];exact TF _)
 ·simp [m7,c6,fv,lk,p9,AV.low,AV.low1]
 refine SA ?_;have hdl:=acx hi ht rec d;have hdt:=afG hi ht rec d;have hcl:=TO d;simp [go_sem];refine B7 [0,1,4] [(2,[]),(3,[]),(5,[]),(6,[]),(7,[]),(8,[]),(9,[]),(10,[11])] 8 (k:=12) ?_;intro G hG
 have hts:List.map (fun c=>[c]) (List.take 32 (cd trig))=trig.map fun (b:Nat)=>[DV.int .u8 (b:Int)]:=by
  rw [aq (by simp [H3,ht])];simp [cd]
 simp [go_sem,hdl,hdt,H3,ht,UX,o4 hi ht,hts,hl];have p1:=Yj trig aa hb;have p2:=Yj (r5 (J8 d)) aa (Up d);have hok:=aa8 d ht hb;have hRW:E0 trig d=[D4 trig,(173,[]),D4 (r5 (J8 d)),(81,[]),(187,[])]:=rfl;rw [hRW] at hok;rw [hRW] at hG;have hw:=afF inner rec d trig hi ht h1 h2;generalize r5 (J8 d)=W at *;generalize D4 trig=w at *;generalize D4 W=v at *;simp only [nb] at p1;refine a9 p1 ae ?_;simp [go_sem];refine a9 (aa9 173) ae ?_;simp [go_sem];refine a9 hw (z6 _ _ _ _) ?_;simp [go_sem];refine a9 p2 ae ?_;simp [go_sem];refine a9 (aa9 81) ae ?_;simp [go_sem];refine a9 (aa9 187) ae ?_;simp [go_sem,Ti];refine u7 [9288] (Y7 [w,(173,[]),v,(81,[]),(187,[])] hok ab) rfl (c7 (.one (d9 (H2 (ty:=130) (e:=2) (es:=[w,(173,[]),v,(81,[]),(187,[])].map SG) (by simp [lk,SG,Ti]) ab rfl (by simp [SG])))) n7) ?_;simp [go_sem];refine hG _ _ ?_;clear hG G;simp [go_sem,d7];exact b7 ae rfl
def Td (t:List Nat) (d:Int):List Wd:=D4 t :: J8 d
theorem anq (t:List Nat) (d:Int) (ht:t.length=32):am8 [t] (r5 (J8 d))=(r5 (Td t d),0):=by
 have hl:=TO d;have h1:=afn [t] [] (by intro x hx;simp at hx;subst hx;omega);have h2:r5 (adK [t]) ++ r5 (J8 d)=r5 (Td t d):=by simp [r5,adK,Td]
 have h3:(r5 (adK [t])).length≤35:=by
  have:=TN (adK [t]) 32 (by
   intro w hw;simp [adK] at hw;subst hw;have:=R4 t
   omega)
  simpa [adK] using this
 unfold am8;rw [h1];simp only [List.nil_append];rw [if_neg (by simp only [aj];omega),h2]
theorem abb (inner rec:List Nat) (d:Int) (trig t:List Nat):∀ v,v ∈ [AV.agg (A8 inner rec d trig),.agg (cb t)]→v.deep:=by
 intro v hv;simp at hv;rcases hv with rfl | rfl
 ·exact Ud _ _ _ _
 ·exact r6 _
theorem ajJ (inner rec:List Nat) (d:Int) (trig:List Nat) (n:Nat):∀ c,c ∈ A8 inner rec d trig→AV.low1 n c:=by
 rw [← UX];intro c hc;obtain ⟨x,_,rfl⟩:=List.mem_map.1 hc
 trivial
theorem abB (inner rec:List Nat) (d:Int) (trig t:List Nat) (hi:inner.length=32) (ht:trig.length=32) (htl:t.length=32) (htb:bytes t) (h1:-9223372036854775808≤d) (h2:d<9223372036854775808) :
  m6 Tryz.prog 67 [.agg (A8 inner rec d trig),.agg (cb t)] (fun r=>r=.tup [.d (nb (r5 (Td t d))),.d (.int .i64 0)]):=by
 refine YI Tryz.func67 (by kernel_rfl) rfl Tryz.ntmps67 (rs:=[.tmp 4,.tmp 5]) rfl (Ut rfl) (abb _ _ _ _ _) ?_;have hl:=D2 hi ht rec d;refine ac2 (SA ?_);simp [go_sem,hl,o4 hi ht,d0,htl,d6 htl];simp only [abr];refine agn (st':=⟨[(2,.ptr 0 0 0 1),(3,.rop (cd t))],[(0,⟨47,66,[A8 inner rec d trig]⟩)],9000⟩) (VR [32] [(3,.rop (cd t))] ?_ ?_) ?_
 ·intro p hp;simp only [aF,List.mem_nil_iff,or_false] at hp;subst hp;exact .ptr ab rfl rfl rfl (by rw [List.drop_zero,← Tj];exact TF _)
 ·simp [m7,c6,fv,lk,p9,AV.low,AV.low1];exact ajJ _ _ _ _ _
 refine SA ?_;simp [go_sem]
 have hts:List.map (fun c=>[c]) (List.take 32 (cd t))=t.map fun (b:Nat)=>[DV.int .u8 (b:Int)]:=by
  rw [aq (by simp [H3,htl])];simp [cd]
 have hw:=afF inner rec d trig hi ht h1 h2;have hu:=agZ [t] (r5 (J8 d)) ab (by intro x hx;simp at hx;subst hx;exact ⟨aa,htb⟩) (by have:=TO d;omega);rw [anq t d htl] at hu;generalize r5 (J8 d)=W at *;generalize r5 (Td t d)=Y at *;refine C4 [0,2] [1,3,4] [0,2,5,6,7,8] (.alt (ah 1 (ah 3 (.step 4 [5,6,7,8] true .done))) (ah 3 (ah 1 (.step 4 [5,6,7,8] true .done)))) ⟨[(4,.d (nb Y)),(5,.d (.int .i64 0))],[],20000⟩ (k:=9) ?h3 ?hq
 case h3 =>
  intro G hG
  have hW:∀ (fr:Fr) (hp:Hp),(fv 4 fr=.d (nb Y)∧fv 5 fr=.d (.int .i64 0))→G fr hp:=by
   rintro fr hp ⟨q0,q1⟩;refine hG _ _ (E5 ⟨?_,ab,ab⟩);simp [c6,AV.low,AV.low1,q0,q1]
  have hr:∀ hp,lk 9032 hp=some ⟨22,1,[[.d (nb t)]]⟩→Tt hp (fun i=>i ∈ [9032]) (.own 9032 0 1 1) (.d (.ro 1 ([t].map RL))):=fun hp h=>d9 (H2 (ty:=22) (e:=1) (es:=[t].map RL) (by simp [h,RL,nb]) ab rfl (by simp [RL]));simp [go_sem,H3,htl,hts,hl,o4 hi ht];refine ⟨?_,?_⟩
  all_goals
   refine a9 hw (z6 _ _ _ _) ?_;simp [go_sem];refine u7 [9032] hu rfl (c7 (.one (hr _ (by simp [lk,nb]))) (c7 (.deep ae) n7)) ?_;simp [go_sem,p9];refine hW _ _ ?_;simp [fv,lk]
 case hq =>
  simp [go_sem,d7];exact b7 ae rfl
theorem Vv (inner:List Nat) (xs:List (List Nat)) (E:Lf→Int):F9 inner xs E=.tup [.nil,.d (.int .i64 1)] ∨ ∃ es,F9 inner xs E=.tup [.d (.ro 34 es),.d (.int .i64 0)]:=by
 unfold F9
 split
 ·exact .inl rfl
 ·exact .inr ⟨_,rfl⟩
def Q5 (inner rec:List Nat) (d:Int) (trig:List Nat) (E:Lf→Int):AV :=
 if 0≤d∧d≤65535∧rec.length≤1000 then F9 inner [r5 (I3 rec),r5 (E0 trig d)] E else .tup [.nil,.d (.int .i64 1)]
theorem Wh (rec:List Nat):(r5 (I3 rec)).length≤70:=by
 have hL:=T0 rec
 have:=TN (I3 rec) 32 (by
  intro w hw;simp [I3] at hw;rcases hw with rfl | rfl
  ·have:=R4 (VI rec);omega
  ·simp)
 simpa [I3] using this
theorem ajK {t:List Nat} (d:Int) (ht:t.length=32):(r5 (Td t d)).length≤175:=by
 have hl:=Wg d
 have:=TN (Td t d) 32 (by
  intro w hw;simp [Td,J8] at hw;rcases hw with rfl | rfl | rfl | rfl | rfl
  ·have:=R4 t;omega
  ·have:=R4 (Uz d);omega
  all_goals simp)
 simpa [Td,J8] using this
theorem TP {trig:List Nat} (d:Int) (ht:trig.length=32):(r5 (E0 trig d)).length≤255:=by
 have hl:=TO d
 have:=TN (E0 trig d) 48 (by
  intro w hw;simp [E0] at hw;rcases hw with rfl | rfl | rfl | rfl | rfl
  ·have:=R4 trig;omega
  ·simp
  ·have:=R4 (r5 (J8 d));omega
  all_goals simp)
 simpa [E0] using this
theorem Xz (inner rec:List Nat) (d:Int) (trig:List Nat) (hi:inner.length=32) (ht:trig.length=32) (hb:bytes trig) (h1:-9223372036854775808≤d) (h2:d<9223372036854775808) (O:Lf→List Nat) (E:Lf→Int)
  (hout:∀ l,l ∈ Uo (D1 [r5 (I3 rec),r5 (E0 trig d)]) [r5 (I3 rec),r5 (E0 trig d)]→m6 Tryz.prog 18 [.agg (s5 inner (.d (J1 l.1)) (.d (nb l.2)))] (fun r=>r=.tup [.d (nb (O l)),.d (.int .i64 (E l))])) :
  m6 Tryz.prog 27 [.agg (A8 inner rec d trig)] (fun r=>r=Q5 inner rec d trig E):=by
 refine t6 Tryz.func27 Tryz.ntmps27 (rs:=[.tmp 2,.tmp 3]) (z6 _ _ _ _) ?_;have hl:=D2 hi ht rec d;unfold Q5;simp [go_sem,hl,o4 hi ht];refine a9 (ato inner rec d trig hi ht) (z6 _ _ _ _) ?_;by_cases hm:0≤d∧d≤65535∧rec.length≤1000
 ·rw [if_pos hm]
  have hpl:=afz inner [r5 (I3 rec),r5 (E0 trig d)] hi (by
   intro x hx;simp at hx;rcases hx with rfl | rfl
   ·have:=Wh rec;omega
   ·have:=TP d ht;omega) UO O E hout
  have p1:=Yr inner rec d trig hi ht aa;have p2:=Zu inner rec d trig hi ht hb h1 h2;simp only [decide_eq_true hm];generalize r5 (I3 rec)=x at *;generalize r5 (E0 trig d)=y at *;have hPV:=Vv inner [x,y] E;generalize F9 inner [x,y] E=PV at *;simp [go_sem];refine B7 [0,1,2,4] [(3,[]),(5,[]),(6,[]),(7,[8,9,10,11])] 4 (k:=12) ?_;intro G hG;simp [go_sem,hl,o4 hi ht,aba hi];refine a9 p1 (z6 _ _ _ _) ?_;simp [go_sem,hl,o4 hi ht];refine a9 p2 (z6 _ _ _ _) ?_;simp [go_sem];refine u7 [384] hpl rfl (c7 (.deep (r6 _)) (c7 (.one (d9 (H2 (ty:=22) (e:=1) (es:=[x,y].map W5) (by simp [lk,W5,nb]) ab rfl (by simp [W5])))) n7)) ?_;rcases hPV with rfl | ⟨es,rfl⟩
  ·simp [go_sem,p9];refine hG _ _ ?_;clear hG G;simp [go_sem,d7];exact b7 ae rfl
  ·simp [go_sem,p9];refine hG _ _ ?_;clear hG G;simp [go_sem,d7];exact b7 ae rfl
 ·rw [if_neg hm];simp only [decide_eq_false hm];simp [go_sem,d7];exact b7 ae rfl
def okV (v:AV):Bool:=match v with
 | .tup [.d _,_]=>true
 | _=>false
def erV (v:AV):AV:=match v with
 | .tup [_,e]=>e
 | _=>v
theorem Xb (inner rec:List Nat) (d:Int) (trig:List Nat) (E:Lf→Int):Q5 inner rec d trig E=.tup [.nil,.d (.int .i64 1)] ∨
  (0≤d∧d≤65535∧rec.length≤1000∧Q5 inner rec d trig E=.tup [.d (.ro 34 ((Uo (D1 [r5 (I3 rec),r5 (E0 trig d)]) [r5 (I3 rec),r5 (E0 trig d)]).map (Q0 inner))),.d (.int .i64 0)]):=by
 unfold Q5;by_cases hm:0≤d∧d≤65535∧rec.length≤1000
 ·rw [if_pos hm];unfold F9
  split
  ·exact .inl rfl
  ·exact .inr ⟨hm.1,hm.2.1,hm.2.2,rfl⟩
 ·rw [if_neg hm];exact .inl rfl
theorem Y8 (inner rec:List Nat) (d:Int) (trig:List Nat) (hi:inner.length=32) (ht:trig.length=32) (V:AV) (hV:V=.tup [.nil,.d (.int .i64 1)] ∨ ∃ es,V=.tup [.d (.ro 34 es),.d (.int .i64 0)])
  (hp:m6 Tryz.prog 27 [.agg (A8 inner rec d trig)] (fun r=>r=V)) :
  m6 Tryz.prog 32 [.agg (A8 inner rec d trig)] (fun r=>r=erV V):=by
 refine t6 Tryz.func32 Tryz.ntmps32 (rs:=[.tmp 2]) (z6 _ _ _ _) ?_;have hl:=D2 hi ht rec d;rcases hV with rfl | ⟨es,rfl⟩
 ·simp [go_sem,hl,o4 hi ht];refine a9 hp (z6 _ _ _ _) ?_;simp [go_sem,d7];exact b7 ae rfl
 ·simp [go_sem,hl,o4 hi ht];refine a9 hp (z6 _ _ _ _) ?_;simp [go_sem,d7];exact b7 ae rfl
theorem afH (inner rec:List Nat) (d:Int) (trig t:List Nat) (hi:inner.length=32) (ht:trig.length=32) (htl:t.length=32) (htb:bytes t) (h1:-9223372036854775808≤d) (h2:d<9223372036854775808) (V:AV) (hr:V=.tup [.nil,.d (.int .i64 1)] ∨ rec.length≤1000∧∃ es,V=.tup [.d (.ro 34 es),.d (.int .i64 0)])
  (hp:m6 Tryz.prog 27 [.agg (A8 inner rec d trig)] (fun r=>r=V)) (O:Lf→List Nat) (E:Lf→Int)
  (hout:∀ l,l ∈ Uo (D1 [r5 (I3 rec),r5 (Td t d)]) [r5 (I3 rec),r5 (Td t d)]→m6 Tryz.prog 18 [.agg (s5 inner (.d (J1 l.1)) (.d (nb l.2)))] (fun r=>r=.tup [.d (nb (O l)),.d (.int .i64 (E l))])) :
  m6 Tryz.prog 29 [.agg (A8 inner rec d trig),.agg (cb t)] (fun r=>r=if okV V then F9 inner [r5 (I3 rec),r5 (Td t d)] E else .tup [.nil,.d (.int .i64 1)]):=by
 refine t6 Tryz.func29 Tryz.ntmps29 (rs:=[.tmp 4,.tmp 5]) (abb _ _ _ _ _) ?_;have hl:=D2 hi ht rec d;have hc:=Y8 inner rec d trig hi ht V (hr.imp id (fun h=>h.2)) hp;have hwd:=abB inner rec d trig t hi ht htl htb h1 h2;rcases hr with rfl | ⟨hrl,es,rfl⟩
 ·simp [go_sem,hl,o4 hi ht,d0,htl,d6 htl];refine a9 hc (z6 _ _ _ _) ?_;simp [go_sem,erV,okV,d7];exact b7 ae rfl
 ·have hpl:=afz inner [r5 (I3 rec),r5 (Td t d)] hi (by
   intro x hx;simp at hx;rcases hx with rfl | rfl
   ·have:=Wh rec;omega
   ·have:=ajK d htl;omega) UO O E hout
  have p1:=Yr inner rec d trig hi ht aa;generalize r5 (I3 rec)=x at *;generalize r5 (Td t d)=y at *;have hPV:=Vv inner [x,y] E;generalize F9 inner [x,y] E=PV at *;simp [go_sem,hl,o4 hi ht,d0,htl,d6 htl];refine a9 hc (z6 _ _ _ _) ?_;simp [go_sem,erV,okV,hl,o4 hi ht,d0,htl,d6 htl];refine a9 hwd (abb _ _ _ _ _) ?_;simp [go_sem];refine B7 [0,1,2,4] [(3,[]),(5,[]),(6,[7,8,9,10])] 3 (k:=11) ?_;intro G hG;simp [go_sem,hl,o4 hi ht,aba hi];refine a9 p1 (z6 _ _ _ _) ?_;simp [go_sem,hl,o4 hi ht];refine u7 [768] hpl rfl (c7 (.deep (r6 _)) (c7 (.one (d9 (H2 (ty:=22) (e:=1) (es:=[x,y].map W5) (by simp [lk,W5,nb]) ab rfl (by simp [W5])))) n7)) ?_;rcases hPV with rfl | ⟨es,rfl⟩
  ·simp [go_sem,p9];refine hG _ _ ?_;clear hG G;simp [go_sem,d7];exact b7 ae rfl
  ·simp [go_sem,p9];refine hG _ _ ?_;clear hG G;simp [go_sem,d7];exact b7 ae rfl
theorem ap1 {hp:Hp} {I:Nat→Prop} {rows:List (List AV)} {es:List (List DV)} (w:Wd) (t:RowsR hp I rows es):RowsR hp I ([.d (.int .u8 (w.1:Int)),.d (nb w.2)] :: rows) (SG w :: es):=.cons (.cons (.d _) (.cons (.d _) .nil)) t
theorem abc {hp:Hp} {I:Nat→Prop} {rows:List (List AV)} {es:List (List DV)} (n:Nat) (t:RowsR hp I rows es):RowsR hp I ([.d (.int .u8 (n:Int)),.nil] :: rows) (SG (n,[]) :: es):=.cons (.cons (.d _) (.cons (.nil 1) .nil)) t
theorem abd {hp:Hp} {I:Nat→Prop} {id n:Nat} {rows:List (List AV)} {ws:List Wd} (hb:lk id hp=some ⟨130,2,rows⟩) (hI:I id) (hn:rows.length=n) (hR:RowsR hp I rows (ws.map SG)):SnapD hp I (.own id 0 n n) (.ro 2 (ws.map SG)):=by
 have hlen:(ws.map SG).length=n:=by rw [← hn,hR.len]
 refine aag hb hI hn (by rw [List.drop_zero,aq aa];exact hR) hlen (fun r hr=>?_);obtain ⟨w,_,rfl⟩:=List.mem_map.1 hr;rfl
theorem XA (ws:List Wd) (hw:∀ w,w ∈ ws→aaW w∧(K8 w).2=true) (hl:ws.length≤10000):m6 Tryz.prog 100 [.d (.ro 2 (ws.map SG))] (fun r=>r=.d (nb (r5 ws))):=by
 refine t6 Tryz.func100 Tryz.ntmps100 (rs:=[.tmp 2]) ae ?_;simp [go_sem];refine J5 [] (ag0 ws hw hl) rfl (c7 (.deep ae) n7) (fun ρ=>by simp [AV.renL,AV.ren]) ?_;rintro r hp' ⟨rfl,h0⟩;refine ⟨[(65,0)],rfl,?_⟩;generalize r5 ws=L at *;simp [go_sem,D8,C8,h0,Blk.ren,x7,C7,AV.renL,AV.ren,D9,p9,d7];exact F3 (d9 (n9 rfl rfl trivial)) trivial rfl
theorem adY (inner rec:List Nat) (d:Int) (trig:List Nat) (hi:inner.length=32) (ht:trig.length=32) (hr:rec.length≤100000) (hrb:bytes rec):m6 Tryz.prog 99 [.agg (A8 inner rec d trig)] (fun r=>r=.d (nb (r5 (I3 rec)))):=by
 refine t6 Tryz.func99 Tryz.ntmps99 (rs:=[.tmp 2]) (z6 _ _ _ _) ?_;have hl:=D2 hi ht rec d;have g32:=UV hi rec d trig;have e32:=UT hi rec d trig;have hL:=T0 rec;simp [go_sem,hl,o4 hi ht,e32,g32];refine a9 (afo rec hr hrb) ae ?_;simp [go_sem,d0,hL,d6 hL,s9];refine u7 [160] (Yk (VI rec) aa (Vu rec)) rfl (c7 (.one (d9 (Si rfl ab hL))) n7) ?_;have hok:=adX rec;have hRW:I3 rec=[D4 (VI rec),(188,[])]:=rfl;rw [hRW] at hok ⊢;generalize D4 (VI rec)=w at *;simp [go_sem,p9,Ti];refine u7 [320] (XA [w,(188,[])] hok ab) rfl (c7 (.one (d9 (abd (ws:=[w,(188,[])]) rfl ab rfl (ap1 w (abc 188 .nil))))) n7) ?_;simp [go_sem,d7];exact b7 ae rfl
theorem afI (inner rec:List Nat) (d:Int) (trig:List Nat) (hi:inner.length=32) (ht:trig.length=32) (h1:-9223372036854775808≤d) (h2:d<9223372036854775808):m6 Tryz.prog 102 [.agg (A8 inner rec d trig)] (fun r=>r=.d (.ro 2 ((J8 d).map SG))):=by
 refine t6 Tryz.func102 Tryz.ntmps102 (rs:=[.tmp 2]) (z6 _ _ _ _) ?_;have hl:=D2 hi ht rec d;have g33:=UW hi rec d trig;have e33:=UU hi rec d trig;simp [go_sem,hl,o4 hi ht,e33,g33];refine a9 (anp d h1 h2) ae ?_;have hRW:J8 d=[D4 (Uz d),(178,[]),(117,[]),(179,[])]:=rfl;rw [hRW];generalize D4 (Uz d)=w at *;simp [go_sem,Ti,d7];exact F3 (d9 (abd (ws:=[w,(178,[]),(117,[]),(179,[])]) rfl trivial rfl (ap1 w (abc 178 (abc 117 (abc 179 .nil)))))) trivial rfl
theorem Zv (inner rec:List Nat) (d:Int) (trig:List Nat) (hi:inner.length=32) (ht:trig.length=32) (hb:bytes trig) (h1:-9223372036854775808≤d) (h2:d<9223372036854775808):m6 Tryz.prog 66 [.agg (A8 inner rec d trig)] (fun r=>r=.d (nb (r5 (E0 trig d)))):=by
 refine YI Tryz.func66 (by kernel_rfl) rfl Tryz.ntmps66 (rs:=[.tmp 2]) rfl (Ut rfl) (z6 _ _ _ _) ?_;have hl:=D2 hi ht rec d;refine ac2 (SA ?_);simp [go_sem,hl,o4 hi ht];simp only [abr];refine agn (st':=⟨[(1,.rop (Xa inner rec d trig))],[],9000⟩) (VR [0] [(1,.rop (Xa inner rec d trig))] ?_ ?_) ?_
 ·intro p hp;simp only [aF,List.mem_nil_iff,or_false] at hp;subst hp;exact .ptr ab rfl rfl rfl (by rw [List.drop_zero,← UX];exact TF _)
 ·simp [m7,c6,fv,lk,p9,AV.low,AV.low1]
 refine SA ?_;have hdl:=acx hi ht rec d;have hdt:=afG hi ht rec d;have hcl:=TO d;simp [go_sem];refine B7 [0,1,3,4,8,9] [(2,[]),(5,[]),(6,[]),(7,[]),(10,[]),(11,[12])] 6 (k:=13) ?_;intro G hG
 have hts:List.map (fun c=>[c]) (List.take 32 (cd trig))=trig.map fun (b:Nat)=>[DV.int .u8 (b:Int)]:=by
  rw [aq (by simp [H3,ht])];simp [cd]
 simp [go_sem,hdl,hdt,H3,ht,UX,o4 hi ht,hts,hl];have p1:=Yk trig aa hb;have p2:=Yk (r5 (J8 d)) aa (Up d);have hok:=aa8 d ht hb;have hRW:E0 trig d=[D4 trig,(173,[]),D4 (r5 (J8 d)),(81,[]),(187,[])]:=rfl;rw [hRW] at hok;rw [hRW] at hG;have hw:=afI inner rec d trig hi ht h1 h2;have hs:=XA (J8 d) (aa7 d) (by simp [J8]);generalize r5 (J8 d)=W at *;generalize (J8 d).map SG=WW at *;generalize D4 trig=w at *;generalize D4 W=v at *;simp only [nb] at p1;refine a9 p1 ae ?_;simp [go_sem];refine a9 hw (z6 _ _ _ _) ?_;simp [go_sem];refine a9 hs ae ?_;simp [go_sem];refine a9 p2 ae ?_;simp [go_sem,Ti];refine u7 [9320] (XA [w,(173,[]),v,(81,[]),(187,[])] hok ab) rfl (c7 (.one (d9 (abd (ws:=[w,(173,[]),v,(81,[]),(187,[])]) rfl ab rfl (ap1 w (abc 173 (ap1 v (abc 81 (abc 187 .nil)))))))) n7) ?_;simp [go_sem];refine hG _ _ ?_;clear hG G;simp [go_sem,d7];exact b7 ae rfl
theorem XB (rec:List Nat):bytes (r5 (I3 rec)):=Xy (fun w hw=>by
 have:=adX rec w hw;have hL:=T0 rec;refine ⟨this.2,this.1.2,?_⟩;simp [I3] at hw;rcases hw with rfl | rfl
 ·exact Um (Vu rec)
 ·exact fun z hz=>by simp at hz)
theorem Uq {trig:List Nat} (d:Int) (ht:trig.length=32) (hb:bytes trig):bytes (r5 (E0 trig d)):=Xy (fun w hw=>by
 have:=aa8 d ht hb w hw;refine ⟨this.2,this.1.2,?_⟩;simp [E0] at hw;rcases hw with rfl | rfl | rfl | rfl | rfl
 ·exact Um hb
 ·exact fun z hz=>by simp at hz
 ·exact Um (Up d)
 all_goals exact fun z hz=>by simp at hz)
theorem afJ (inner rec:List Nat) (d:Int) (trig y:List Nat) (hi:inner.length=32) (hib:bytes inner) (ht:trig.length=32) (hrb:bytes rec) (hrl:rec.length≤100000) (hyb:bytes y) (hyl:y.length≤100000) (O:Lf→List Nat) (E:Lf→Int)
  (hE:∀ l,l ∈ Uo (D1 [r5 (I3 rec),y]) [r5 (I3 rec),y]→E l=0 ∨ E l=1)
  (hout:∀ l,l ∈ Uo (D1 [r5 (I3 rec),y]) [r5 (I3 rec),y]→m6 Tryz.prog 19 [.agg (s5 inner (.d (J1 l.1)) (.d (nb l.2)))] (fun r=>r=.tup [.d (nb (O l)),.d (.int .i64 (E l))])) :
  m6 Tryz.prog 65 [.agg (A8 inner rec d trig),.d (nb y)] (fun r=>r=if 0≤d∧d≤65535∧rec.length≤1000 then F9 inner [r5 (I3 rec),y] E else .tup [.nil,.d (.int .i64 1)]):=by
 refine t6 Tryz.func65 Tryz.ntmps65 (rs:=[.tmp 4,.tmp 5]) (by
  intro v hv;simp at hv;rcases hv with rfl | rfl
  ·exact Ud _ _ _ _
  ·trivial) ?_
 have hl:=D2 hi ht rec d;have g32:=UV hi rec d trig;have g33:=UW hi rec d trig;have e32:=UT hi rec d trig;have e33:=UU hi rec d trig;have p1:=adY inner rec d trig hi ht hrl hrb
 have hpl:=ajG inner [r5 (I3 rec),y] hi hib (by
  intro x hx;simp at hx;rcases hx with rfl | rfl
  ·exact XB rec
  ·exact hyb) (by
  intro x hx;simp at hx;rcases hx with rfl | rfl
  ·have:=Wh rec;omega
  ·omega) O E hE hout
 have hPV:=Vv inner [r5 (I3 rec),y] E;generalize F9 inner [r5 (I3 rec),y] E=PV at *;generalize r5 (I3 rec)=x at *;by_cases h1:d<0
 ·rw [if_neg aa];simp [go_sem,hl,o4 hi ht,e32,e33,g32,g33,h1,nb,d7];exact b7 ae rfl
 by_cases h2:65535<d
 ·rw [if_neg aa];simp [go_sem,hl,o4 hi ht,e32,e33,g32,g33,h1,h2,nb,d7];exact b7 ae rfl
 by_cases h3:1000<rec.length
 ·have i3:(1000:Int)<(rec.length:Int):=aa;rw [if_neg aa];simp [go_sem,hl,o4 hi ht,e32,e33,g32,g33,h1,h2,h3,i3,nb,d7];exact b7 ae rfl
 have i3:¬ (1000:Int)<(rec.length:Int):=aa;rw [if_pos aa];simp [go_sem,hl,o4 hi ht,e32,e33,g32,g33,h1,h2,h3,i3,nb];refine B7 [0,1,2,4] [(3,[]),(5,[]),(6,[7,8,9,10])] 3 (k:=11) ?_;intro G hG;simp [go_sem,hl,o4 hi ht,aba hi];refine a9 p1 (z6 _ _ _ _) ?_;simp [go_sem,hl,o4 hi ht];refine u7 [704] hpl rfl (c7 (.deep (r6 _)) (c7 (.one (d9 (H2 (ty:=22) (e:=1) (es:=[x,y].map W5) (by simp [lk,W5,nb]) ab rfl (by simp [W5])))) n7)) ?_;rcases hPV with rfl | ⟨es,rfl⟩
 ·simp [go_sem,p9];refine hG _ _ ?_;clear hG G;simp [go_sem,d7];exact b7 ae rfl
 ·simp [go_sem,p9];refine hG _ _ ?_;clear hG G;simp [go_sem,d7];exact b7 ae rfl
theorem aha (inner rec:List Nat) (d:Int) (trig:List Nat) (hi:inner.length=32) (hib:bytes inner) (ht:trig.length=32) (hb:bytes trig) (hrb:bytes rec) (hrl:rec.length≤100000) (h1:-9223372036854775808≤d) (h2:d<9223372036854775808) (O:Lf→List Nat) (E:Lf→Int)
  (hE:∀ l,l ∈ Uo (D1 [r5 (I3 rec),r5 (E0 trig d)]) [r5 (I3 rec),r5 (E0 trig d)]→E l=0 ∨ E l=1)
  (hout:∀ l,l ∈ Uo (D1 [r5 (I3 rec),r5 (E0 trig d)]) [r5 (I3 rec),r5 (E0 trig d)]→m6 Tryz.prog 19 [.agg (s5 inner (.d (J1 l.1)) (.d (nb l.2)))] (fun r=>r=.tup [.d (nb (O l)),.d (.int .i64 (E l))])) :
  m6 Tryz.prog 28 [.agg (A8 inner rec d trig)] (fun r=>r=Q5 inner rec d trig E):=by
 refine t6 Tryz.func28 Tryz.ntmps28 (rs:=[.tmp 2,.tmp 3]) (z6 _ _ _ _) ?_;have hl:=D2 hi ht rec d;have g33:=UW hi rec d trig;have e33:=UU hi rec d trig;have hpl:=afJ inner rec d trig (r5 (E0 trig d)) hi hib ht hrb hrl (Uq d ht hb) (by have:=TP d ht;omega) O E hE hout;have p2:=Zv inner rec d trig hi ht hb h1 h2
 have hPV:Q5 inner rec d trig E=.tup [.nil,.d (.int .i64 1)] ∨ ∃ es,Q5 inner rec d trig E=.tup [.d (.ro 34 es),.d (.int .i64 0)]:=by
  rcases Xb inner rec d trig E with h | ⟨_,_,_,h⟩
  ·exact .inl h
  ·exact .inr ⟨_,h⟩
 have hVd:(if 0≤d∧d≤65535∧rec.length≤1000 then F9 inner [r5 (I3 rec),r5 (E0 trig d)] E else .tup [.nil,.d (.int .i64 1)])=Q5 inner rec d trig E:=rfl;rw [hVd] at hpl;have hbad:¬ (0≤d∧d≤65535)→Q5 inner rec d trig E=.tup [.nil,.d (.int .i64 1)]:=fun h=>if_neg aa;generalize Q5 inner rec d trig E=PV at *;generalize r5 (E0 trig d)=y at *;by_cases c1:d<0
 ·rw [hbad aa];simp [go_sem,hl,o4 hi ht,e33,g33,c1,nb,d7];exact b7 ae rfl
 by_cases c2:65535<d
 ·rw [hbad aa];simp [go_sem,hl,o4 hi ht,e33,g33,c1,c2,nb,d7];exact b7 ae rfl
 simp [go_sem,hl,o4 hi ht,e33,g33,c1,c2];refine B7 [0,1] [(2,[]),(3,[4,5,6,7])] 2 (k:=8) ?_;intro G hG;simp [go_sem,hl,o4 hi ht];refine a9 p2 (z6 _ _ _ _) ?_;simp [go_sem,hl,o4 hi ht]
 refine a9 hpl (by
  intro v hv;simp at hv;rcases hv with rfl | rfl
  ·exact Ud _ _ _ _
  ·trivial) ?_
 rcases hPV with rfl | ⟨es,rfl⟩
 ·simp [go_sem];refine hG _ _ ?_;clear hG G;simp [go_sem,d7];exact b7 ae rfl
 ·simp [go_sem];refine hG _ _ ?_;clear hG G;simp [go_sem,d7];exact b7 ae rfl
theorem acy (inner rec:List Nat) (d:Int) (trig:List Nat) (hi:inner.length=32) (ht:trig.length=32) (V:AV) (hV:V=.tup [.nil,.d (.int .i64 1)] ∨ ∃ es,V=.tup [.d (.ro 34 es),.d (.int .i64 0)])
  (hp:m6 Tryz.prog 28 [.agg (A8 inner rec d trig)] (fun r=>r=V)) :
  m6 Tryz.prog 33 [.agg (A8 inner rec d trig)] (fun r=>r=erV V):=by
 refine t6 Tryz.func33 Tryz.ntmps33 (rs:=[.tmp 2]) (z6 _ _ _ _) ?_;have hl:=D2 hi ht rec d;rcases hV with rfl | ⟨es,rfl⟩
 ·simp [go_sem,hl,o4 hi ht];refine a9 hp (z6 _ _ _ _) ?_;simp [go_sem,d7];exact b7 ae rfl
 ·simp [go_sem,hl,o4 hi ht];refine a9 hp (z6 _ _ _ _) ?_;simp [go_sem,d7];exact b7 ae rfl
end Go.Proofs.YtldccnbokbieiaaGreat
