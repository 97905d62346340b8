/-
 Part 16 of what the claim rests on.
-/
import Derived.Test.YtldccnbokbieiaaGreatN2
import Derived.Test.YtldccnbokbieiaaGreatN3
import Derived.Test.YtldccnbokbieiaaGreatN5
import Derived.Test.YtldccnbokbieiaaGreatN11
import Derived.Test.YtldccnbokbieiaaGreatN12
import Derived.Test.YtldccnbokbieiaaGreatN13
set_option linter.unusedVariables false
set_option linter.unusedSimpArgs false
set_option maxRecDepth 100000
set_option maxHeartbeats 16000000
namespace Go.Ec
open CR
section
variable {n:Nat} [NeZero n]
abbrev N3:=Nat × Nat × Nat
def aiT (p:Nat) (u v:N3):N3 :=
 YZ (u.1*v.2.1+v.1*u.2.1) fun xy=>YZ (u.2.1*v.2.2+v.2.1*u.2.2) fun yz=>YZ (u.1*v.2.2+v.1*u.2.2) fun xz =>
 YZ (u.2.1*v.2.1 % p) fun yy=>YZ (u.2.2*v.2.2*21 % p) fun zz=>YZ (u.1*v.1) fun xx =>
 YZ (yy+(p - zz)) fun d=>YZ (yy+zz) fun e =>
 YZ ((xy*d+(p - 21*(yz*xz) % p)) % p) fun X=>YZ ((e*d+63*(xx*xz)) % p) fun Y=>YZ ((yz*e+3*(xx*xy)) % p) fun Z=>(X,Y,Z)
def toF (n:Nat) [NeZero n] (u:N3):Tr3 n:=(Fin.ofNat n u.1,Fin.ofNat n u.2.1,Fin.ofNat n u.2.2)
theorem Zs (a b:Nat):Fin.ofNat n (a+b)=Fin.ofNat n a+Fin.ofNat n b:=Fin.ext (by rw [Fin.val_add];show (a+b) % n=(a % n+b % n) % n;rw [← Nat.add_mod])
theorem adb (a b:Nat):Fin.ofNat n (a*b)=Fin.ofNat n a*Fin.ofNat n b:=Fin.ext (by rw [Fin.val_mul];show a*b % n=(a % n)*(b % n) % n;rw [← Nat.mul_mod])
theorem adc (a:Nat):Fin.ofNat n (a % n)=Fin.ofNat n a:=Fin.ext (by show a % n % n=a % n;rw [Nat.mod_mod])
theorem ade {a:Nat} (h:a≤n):Fin.ofNat n (n - a)=- Fin.ofNat n a:=by
 have e:Fin.ofNat n (n - a)+Fin.ofNat n a=0:=by
  rw [← Zs,Nat.sub_add_cancel h];exact Fin.ext (by show n % n=0 % n;rw [Nat.mod_self,Nat.zero_mod])
 generalize Fin.ofNat n (n - a)=x at *;generalize Fin.ofNat n a=y at *
 grobner
theorem amf (hp:0<n) (u v:N3):toF n (aiT n u v)=F0 (toF n u) (toF n v):=by
 obtain ⟨a,b,c⟩:=u;obtain ⟨d,e,f⟩:=v;simp only [aiT,To,toF,F0,adF,muF,Ws,aej,afX,ic3];have l1:c*f*21 % n≤n:=Nat.le_of_lt (Nat.mod_lt _ hp);have l2:∀ z,z % n≤n:=fun z=>Nat.le_of_lt (Nat.mod_lt _ hp);have k21:Fin.ofNat n 21=(21:Fin n):=rfl;have k63:Fin.ofNat n 63=(63:Fin n):=rfl;have k3:Fin.ofNat n 3=(3:Fin n):=rfl;refine Prod.ext ?_ (Prod.ext ?_ ?_)
 ·dsimp only;simp only [adc,Zs,adb,ade l1,ade (l2 _),k21]
  grobner
 ·dsimp only;simp only [adc,Zs,adb,ade l1,k21,k63]
  grobner
 ·dsimp only;simp only [adc,Zs,adb,k21,k3]
  grobner
def rep (f:Fd n) (t:Tr3 n) (P:Pt n):Prop:=∃ k,k ≠ 0∧t=sc k (pr P)
theorem ahU (f:Fd n) {s t:Tr3 n} {P Q:Pt n} (hP:Rz P) (hQ:Rz Q) (hs:rep f s P) (ht:rep f t Q):rep f (F0 s t) (sum f P Q):=by
 obtain ⟨k,hk,rfl⟩:=hs;obtain ⟨l,hl,rfl⟩:=ht;obtain ⟨m,hm,e⟩:=Z6 f hP hQ;exact ⟨k*k*(l*l)*m,f.mul_ne (f.mul_ne (f.mul_ne hk hk) (f.mul_ne hl hl)) hm,by rw [afY,e,ak3]⟩
def amg (p:Nat) (g:N3):Nat→Nat→N3→N3
 | 0,_,acc=>acc
 | j+1,k,acc=>bif (k / 2 ^ j % 2).beq 1 then amg p g j k (aiT p (aiT p acc acc) g) else amg p g j k (aiT p acc acc)
theorem aaz (f:Fd n) (hp:0<n) {g:N3} {P:Pt n} (hP:Rz P) (hg:rep f (toF n g) P) (k:Nat):∀ (j:Nat) (acc:N3),rep f (toF n acc) (mp f (k / 2 ^ j) P)→rep f (toF n (amg n g j k acc)) (mp f k P)
 | 0,acc,h=>by rw [Nat.pow_zero,Nat.div_one] at h;exact h
 | j+1,acc,h=>by
  have hd:k / 2 ^ j=2*(k / 2 ^ (j+1))+k / 2 ^ j % 2:=by rw [Nat.pow_succ,← Nat.div_div_eq_div_mul];omega
  have o1:=Ww f hP (k / 2 ^ (j+1))
  have h2:rep f (toF n (aiT n acc acc)) (mp f (2*(k / 2 ^ (j+1))) P):=by
   rw [amf hp,acK f hP];exact ahU f o1 o1 h h
  rw [amg]
  cases hb:(k / 2 ^ j % 2).beq 1 with
  | true =>
   rw [cond_true];refine aaz f hp hP hg k j _ ?_;have h1:=Nat.eq_of_beq_eq_true hb;rw [hd,h1,mp,amf hp];exact ahU f (Ww f hP _) hP h2 hg
  | false =>
   rw [cond_false];refine aaz f hp hP hg k j _ ?_
   have h0:k / 2 ^ j % 2=0:=by
    have:=Nat.ne_of_beq_eq_false hb;omega
   rw [hd,h0,Nat.add_zero];exact h2
theorem amh (f:Fd n) {t:Tr3 n} {P:Pt n} (h:rep f t P) (hz:t.2.2 ≠ 0):P ≠ none:=by
 rintro rfl;obtain ⟨k,hk,rfl⟩:=h;refine hz ?_;show k*ic 0=0;rw [icz]
 grobner
end
end Go.Ec
namespace Go.Sha
def EF {α:Type}:Nat→S8→List Nat→(S8→α)→α
 | 0,s,_,C=>C s
 | n+1,s,b,C=>akt s (b.take 64) fun s'=>EF n s' (b.drop 64) C
theorem apz {α:Type}:∀ (n:Nat) (s:S8) (b:List Nat) (C:S8→α),b.length=64*n→EF n s b C=C (E s b).1
 | 0,s,b,C,h=>by rw [Vu aa];rfl
 | n+1,s,b,C,h=>by rw [EF,aku,apz n _ _ C (by rw [List.length_drop];omega),← WJ aa]
theorem SS (b:List Nat) (n:Nat) (h:(Go.Proofs.YtldccnbokbieiaaGreat.lastOf b b.length).length=64*n):ad3 (Go.Proofs.YtldccnbokbieiaaGreat.lastOf b b.length) (fun l=>EF n H0 l dig)=L7 b:=by
 rw [ZW,apz n _ _ _ h,afM b.length b.length H0 b (Nat.le_refl _)];rfl
def dRe:List Nat:=(53 :: 61 :: 94 :: 253 :: 190 :: 113 :: 247 :: 57 :: 66 :: 161 :: 185 :: 17 :: 45 :: 254 :: 199 :: 124 :: 103 :: 226 :: 249 :: 163 :: 120 :: 195 :: 190 :: 87 :: 55 :: 214 :: 250 :: 73 :: 198 :: 85 :: 133 :: 208 :: [])
def auy:List Nat:=(86 :: 97 :: 117 :: 108 :: 116 :: 82 :: 101 :: 99 :: 111 :: 118 :: 101 :: 114 :: 121 :: [])
theorem arS:L7 (auy)=dRe:=by
 rw [← SS (auy) 1 (by kernel_rfl)]
 kernel_rfl
def dLe:List Nat:=(174 :: 234 :: 143 :: 220 :: 66 :: 8 :: 152 :: 49 :: 5 :: 115 :: 75 :: 88 :: 8 :: 29 :: 30 :: 38 :: 56 :: 211 :: 95 :: 28 :: 181 :: 64 :: 8 :: 212 :: 211 :: 87 :: 202 :: 3 :: 190 :: 120 :: 233 :: 238 :: [])
def auz:List Nat:=(84 :: 97 :: 112 :: 76 :: 101 :: 97 :: 102 :: [])
theorem arT:L7 (auz)=dLe:=by
 rw [← SS (auz) 1 (by kernel_rfl)]
 kernel_rfl
def dBr:List Nat:=(25 :: 65 :: 161 :: 242 :: 229 :: 110 :: 185 :: 95 :: 162 :: 169 :: 241 :: 148 :: 190 :: 92 :: 1 :: 247 :: 33 :: 111 :: 51 :: 237 :: 130 :: 176 :: 145 :: 70 :: 52 :: 144 :: 208 :: 91 :: 245 :: 22 :: 160 :: 21 :: [])
def auA:List Nat:=(84 :: 97 :: 112 :: 66 :: 114 :: 97 :: 110 :: 99 :: 104 :: [])
theorem ami:L7 (auA)=dBr:=by
 rw [← SS (auA) 1 (by kernel_rfl)]
 kernel_rfl
def dTu:List Nat:=(232 :: 15 :: 225 :: 99 :: 156 :: 156 :: 160 :: 80 :: 227 :: 175 :: 27 :: 57 :: 193 :: 67 :: 198 :: 62 :: 66 :: 156 :: 188 :: 235 :: 21 :: 217 :: 64 :: 251 :: 181 :: 197 :: 161 :: 244 :: 175 :: 87 :: 197 :: 233 :: [])
def auB:List Nat:=(84 :: 97 :: 112 :: 84 :: 119 :: 101 :: 97 :: 107 :: [])
theorem amj:L7 (auB)=dTu:=by
 rw [← SS (auB) 1 (by kernel_rfl)]
 kernel_rfl
def dR0:List Nat:=(189 :: 152 :: 121 :: 193 :: 58 :: 236 :: 75 :: 153 :: 122 :: 243 :: 17 :: 30 :: 133 :: 43 :: 55 :: 145 :: 168 :: 204 :: 221 :: 212 :: 128 :: 76 :: 17 :: 134 :: 159 :: 142 :: 251 :: 34 :: 161 :: 5 :: 209 :: 59 :: [])
theorem arU:L7 (dRe ++ (dRe ++ (0 :: [])))=dR0:=by
 rw [← SS (dRe ++ (dRe ++ (0 :: []))) 2 (by kernel_rfl)]
 kernel_rfl
def scX:List Nat:=(32 :: 189 :: 152 :: 121 :: 193 :: 58 :: 236 :: 75 :: 153 :: 122 :: 243 :: 17 :: 30 :: 133 :: 43 :: 55 :: 145 :: 168 :: 204 :: 221 :: 212 :: 128 :: 76 :: 17 :: 134 :: 159 :: 142 :: 251 :: 34 :: 161 :: 5 :: 209 :: 59 :: 188 :: [])
def amk:List Nat:=(32 :: 0 :: 0 :: 0 :: 0 :: 0 :: 0 :: 0 :: 0 :: 0 :: 0 :: 0 :: 0 :: 0 :: 0 :: 0 :: 0 :: 0 :: 0 :: 0 :: 0 :: 0 :: 0 :: 0 :: 0 :: 0 :: 0 :: 0 :: 0 :: 0 :: 0 :: 0 :: 0 :: 173 :: 4 :: 83 :: 178 :: 117 :: 179 :: 81 :: 187 :: [])
def aaY:List Nat:=(32 :: 9 :: 0 :: 0 :: 0 :: 0 :: 0 :: 0 :: 0 :: 0 :: 0 :: 0 :: 0 :: 0 :: 0 :: 0 :: 0 :: 0 :: 0 :: 0 :: 0 :: 0 :: 0 :: 0 :: 0 :: 0 :: 0 :: 0 :: 0 :: 0 :: 0 :: 0 :: 0 :: 83 :: 178 :: 117 :: 179 :: [])
def bG:List Nat:=(121 :: 190 :: 102 :: 126 :: 249 :: 220 :: 187 :: 172 :: 85 :: 160 :: 98 :: 149 :: 206 :: 135 :: 11 :: 7 :: 2 :: 155 :: 252 :: 219 :: 45 :: 206 :: 40 :: 217 :: 89 :: 242 :: 129 :: 91 :: 22 :: 248 :: 23 :: 152 :: [])
def dX:List Nat:=(251 :: 255 :: 171 :: 80 :: 118 :: 245 :: 250 :: 144 :: 87 :: 15 :: 24 :: 166 :: 210 :: 84 :: 52 :: 117 :: 148 :: 127 :: 52 :: 144 :: 68 :: 199 :: 31 :: 12 :: 209 :: 106 :: 209 :: 21 :: 214 :: 95 :: 92 :: 182 :: [])
theorem auC:L7 (dLe ++ (dLe ++ (192 :: 34 :: scX)))=dX:=by
 rw [← SS (dLe ++ (dLe ++ (192 :: 34 :: scX))) 2 (by kernel_rfl)]
 kernel_rfl
def dY1:List Nat:=(19 :: 6 :: 206 :: 238 :: 128 :: 236 :: 162 :: 250 :: 80 :: 202 :: 182 :: 106 :: 0 :: 179 :: 158 :: 213 :: 127 :: 57 :: 234 :: 176 :: 91 :: 142 :: 57 :: 191 :: 101 :: 17 :: 44 :: 135 :: 204 :: 198 :: 249 :: 4 :: [])
theorem arV:L7 (dLe ++ (dLe ++ (192 :: 41 :: amk)))=dY1:=by
 rw [← SS (dLe ++ (dLe ++ (192 :: 41 :: amk))) 2 (by kernel_rfl)]
 kernel_rfl
def dY2:List Nat:=(171 :: 174 :: 215 :: 172 :: 224 :: 121 :: 165 :: 87 :: 203 :: 160 :: 248 :: 177 :: 70 :: 224 :: 77 :: 193 :: 3 :: 205 :: 50 :: 173 :: 167 :: 234 :: 209 :: 141 :: 7 :: 74 :: 140 :: 29 :: 143 :: 83 :: 189 :: 46 :: [])
theorem arW:L7 (dLe ++ (dLe ++ (192 :: 37 :: aaY)))=dY2:=by
 rw [← SS (dLe ++ (dLe ++ (192 :: 37 :: aaY))) 2 (by kernel_rfl)]
 kernel_rfl
def dB1:List Nat:=(89 :: 211 :: 248 :: 89 :: 95 :: 4 :: 123 :: 31 :: 133 :: 170 :: 29 :: 17 :: 173 :: 17 :: 123 :: 176 :: 22 :: 143 :: 236 :: 70 :: 146 :: 10 :: 251 :: 25 :: 227 :: 240 :: 180 :: 5 :: 62 :: 146 :: 169 :: 246 :: [])
theorem arX:L7 (dBr ++ (dBr ++ (dY1 ++ dX)))=dB1:=by
 rw [← SS (dBr ++ (dBr ++ (dY1 ++ dX))) 3 (by kernel_rfl)]
 kernel_rfl
def dT1:List Nat:=(20 :: 212 :: 211 :: 23 :: 126 :: 240 :: 124 :: 59 :: 195 :: 144 :: 104 :: 231 :: 190 :: 253 :: 191 :: 133 :: 168 :: 75 :: 233 :: 181 :: 62 :: 195 :: 202 :: 75 :: 34 :: 216 :: 7 :: 68 :: 160 :: 102 :: 148 :: 182 :: [])
theorem arY:L7 (dTu ++ (dTu ++ (bG ++ dB1)))=dT1:=by
 rw [← SS (dTu ++ (dTu ++ (bG ++ dB1))) 3 (by kernel_rfl)]
 kernel_rfl
def dB2:List Nat:=(143 :: 143 :: 109 :: 45 :: 225 :: 67 :: 67 :: 97 :: 216 :: 90 :: 193 :: 220 :: 57 :: 140 :: 111 :: 162 :: 227 :: 169 :: 253 :: 128 :: 179 :: 169 :: 249 :: 191 :: 164 :: 187 :: 92 :: 79 :: 147 :: 129 :: 79 :: 95 :: [])
theorem arZ:L7 (dBr ++ (dBr ++ (dY2 ++ dX)))=dB2:=by
 rw [← SS (dBr ++ (dBr ++ (dY2 ++ dX))) 3 (by kernel_rfl)]
 kernel_rfl
def dT2:List Nat:=(9 :: 214 :: 53 :: 3 :: 89 :: 7 :: 10 :: 110 :: 242 :: 225 :: 59 :: 183 :: 117 :: 47 :: 204 :: 209 :: 59 :: 63 :: 101 :: 133 :: 12 :: 199 :: 183 :: 84 :: 40 :: 106 :: 18 :: 30 :: 18 :: 189 :: 131 :: 84 :: [])
theorem ar0:L7 (dTu ++ (dTu ++ (bG ++ dB2)))=dT2:=by
 rw [← SS (dTu ++ (dTu ++ (bG ++ dB2))) 3 (by kernel_rfl)]
 kernel_rfl
end Go.Sha
namespace Go.Proofs.YtldccnbokbieiaaGreat
open Go.Am Go.Sha
def Yx:Nat→Nat→List Nat
 | 0,_=>[]
 | k+1,m=>if m=0 then [] else m % 256 :: Yx k (m / 256)
theorem Wo:∀ (k m:Nat),bytes (Yx k m)
 | 0,_=>fun x h=>by simp [Yx] at h
 | k+1,m=>by
  rw [Yx]
  split
  ·exact fun x h=>by simp at h
  ·intro x h;rcases List.mem_cons.1 h with rfl | h
   ·omega
   ·exact Wo k _ x h
theorem ahV:∀ (k m:Nat),(Yx k m).length≤k
 | 0,_=>by simp [Yx]
 | k+1,m=>by
  rw [Yx]
  split
  ·simp
  ·have:=ahV k (m / 256);simp;omega
theorem aoP {k m:Nat} (hk:0<k) (h:Yx k m=[]):m=0:=by
 cases k with
 | zero=>omega
 | succ k =>
  rw [Yx] at h
  split at h
  ·assumption
  ·simp at h
def K7 (neg:Bool) (a:List Nat) (x:Nat):List Nat :=
 if 128≤x then (if neg then a ++ [x,128] else a ++ [x,0]) else (if neg then a ++ [x+128] else a ++ [x])
def ags (neg:Bool) (b:List Nat):List Nat:=match b.reverse with
 | []=>[]
 | x :: r=>K7 neg r.reverse x
def H2 (n:Int):List Nat:=ags (decide (n<0)) (Yx 8 n.natAbs)
theorem Wp (neg:Bool) (a:List Nat) (x:Nat):ags neg (a ++ [x])=K7 neg a x:=by simp [ags]
theorem UX (b:List Nat):b=[] ∨ ∃ a x,b=a ++ [x]:=by
 rcases h:b.reverse with _ | ⟨x,r⟩
 ·exact .inl (by simpa using h)
 ·exact .inr ⟨r.reverse,x,by rw [← List.reverse_reverse b,h,List.reverse_cons]⟩
theorem L9 (n:Int):bytes (H2 n):=by
 unfold H2;rcases UX (Yx 8 n.natAbs) with h | ⟨a,x,h⟩
 ·rw [h];exact fun x hx=>by simp [ags] at hx
 ·have hb:=Wo 8 n.natAbs;rw [h] at hb ⊢;rw [Wp];have hx:=hb x ab;have ha:bytes a:=fun z hz=>hb z (by simp [hz]);unfold K7;intro z hz
  split at hz <;> split at hz <;> simp at hz
  all_goals
   rcases hz with h | h
   ·exact ha z h
   ·omega
theorem M3 (n:Int):(H2 n).length≤9:=by
 unfold H2;have hl:=ahV 8 n.natAbs;rcases UX (Yx 8 n.natAbs) with h | ⟨a,x,h⟩
 ·rw [h];simp [ags]
 ·rw [h] at hl ⊢;rw [Wp];unfold K7;simp at hl
  split <;> split <;> simp <;> omega
theorem ar1:∀ x:Nat,x<256→bits .and .u8 (x:Int) 128=if 128≤x then 128 else 0:=by decide +kernel
theorem auF:∀ x:Nat,x<128→bits .or .u8 (x:Int) 128=((x+128:Nat):Int):=by decide +kernel
theorem aaA (n:Int) (h1:-9223372036854775808≤n) (h2:n<9223372036854775808):d9 Tryz.prog 81 [.d (.int .i64 n)] (fun r=>r=.d (nb (H2 n))):=by
  refine s8 Tryz.func81 Tryz.ntmps81 (rs:=[.tmp 2]) ae ?_;have hM:n.natAbs<18446744073709551616:=aa;simp [go_sem];have hpw:(256:Nat) ^ 8=18446744073709551616:=by decide
  have R3:∀ x:Int,IntKind.u64.wrap x=x % 18446744073709551616:=fun x=>by simp [IntKind.wrap,IntKind.bits,IntKind.signed]
  have wA:n<0→IntKind.u64.wrap (-IntKind.u64.wrap n)=(n.natAbs:Int):=fun h=>by rw [R3,R3];omega
  have wB:0≤n→IntKind.u64.wrap n=(n.natAbs:Int):=fun h=>by rw [R3];omega
  have fd:∀ m:Nat,Int.fdiv (m:Int) 256=((m / 256:Nat):Int):=fun m=>by rw [Int.fdiv_eq_ediv_of_nonneg _ (by decide)];omega
  have leF0:∀ k,Yx k 0=[]:=fun k=>by cases k <;> simp [Yx]
  have hnn:H2 n=ags (decide (n<0)) (Yx 8 n.natAbs):=rfl;refine ⟨fun hneg=>?_,fun hneg=>?_⟩
  all_goals
    refine j6 (fun t:Nat × List Nat × Nat=>⟨[(3,.d (.bool (decide (n<0)))),(4,.d (.int .u64 (t.2.2:Int))),(5,.own 5000 0 t.2.1.length t.2.1.length)],[(5000,⟨5,1,rb t.2.1⟩)],6000⟩)
      (fun t=>t.2.2<256 ^ t.1∧t.1≤8∧t.2.1.length+t.1≤8∧t.2.1 ++ Yx t.1 t.2.2=Yx 8 n.natAbs) (fun t=>t.1) (8,[],n.natAbs) ⟨by rw [hpw];exact hM,ab,ab,rfl⟩ (by
        first
          | (have w:=wA hneg
             simp [m6,c6,fv,lk,AV.low,AV.low1,w,rb])
          | (have w:=wB hneg
             simp [m6,c6,fv,lk,AV.low,AV.low1,w,rb])) ?_
    rintro ⟨k,b,m⟩ ⟨p1,p2,p4,p3⟩;simp only at p1 p2 p3 p4;simp only;simp [go_sem];refine ⟨fun hm=>?_,fun hm=>?_⟩
    · match k,p1,p2,p3,p4 with
      | 0,p1,_,_,_=>simp at p1;omega
      | k+1,p1,p2,p3,p4 =>
        refine ⟨n9 b,aa,?_⟩;rw [Yx,if_neg aa] at p3;rw [Nat.pow_succ] at p1;have hd:m / 256<256 ^ k:=Nat.div_lt_of_lt_mul aa;have w8:IntKind.u8.wrap (m:Int)=((m % 256:Nat):Int):=by rw [u8w];omega
        refine c8 (k,b ++ [m % 256],m / 256) ⟨hd,by show k≤8;omega,by simp;omega,by rw [← p3];simp⟩ (by show k<k+1;omega) ⟨?_,?_,ab⟩
        · simp [c6,fv,lk,AV.low,AV.low1,fd]
        · intro p hp
          simp only [List.mem_cons,List.mem_nil_iff,or_false] at hp;subst hp;exact ⟨.inl (by rw [w8];simp [lk,rb]),by show 5000<6000;omega,r5 _ _⟩
    · subst hm
      rw [leF0,List.append_nil] at p3;subst p3;rw [hnn];have hbb:=Wo 8 n.natAbs;generalize Yx 8 n.natAbs=b at *;refine ⟨fun hb=>?_,fun hb=>?_⟩
      · subst hb
        exact D1 (m8 (s9 rfl rfl trivial)) trivial rfl
      · rcases UX b with h | ⟨a,x,rfl⟩
        · exact absurd h hb
        rw [Wp]
        have wl:IntKind.i64.wrap (((a ++ [x]).length:Int) - 1)=(a.length:Int):=by
          have hal:(a ++ [x]).length=a.length+1:=by simp
          rw [hal] at p4 ⊢;rw [IntWalk.i64_in _ aa];omega
        have hx:x<256:=hbb x ab;have hrow:(rb (a ++ [x]))[a.length]?=some [.d (.int .u8 (x:Int))]:=by simp [rb]
        have hrowg:∀ h,(rb (a ++ [x]))[a.length]'h=[.d (.int .u8 (x:Int))]:=fun h=>by rw [List.getElem?_eq_getElem h] at hrow;exact Option.some.inj hrow
        have hal:a.length≤7:=by simp at p4;omega
        have w1:IntKind.i64.wrap ((a.length:Int)+1)=((a.length+1:Nat):Int):=by rw [IntWalk.i64_in _ aa];omega
        have w2:IntKind.i64.wrap (a.length:Int)=(a.length:Int):=IntWalk.i64_in _ aa;have R1:(rb (a ++ [x]) ++ [[AV.d (.int .u8 0)]])[a.length+1]?=some [.d (.int .u8 0)]:=by simp [rb]
        have R1g:∀ h,(rb (a ++ [x]) ++ [[AV.d (.int .u8 0)]])[a.length+1]'h=[.d (.int .u8 0)]:=fun h=>by rw [List.getElem?_eq_getElem h] at R1;exact Option.some.inj R1
        have S1:(rb (a ++ [x]) ++ [[AV.d (.int .u8 0)]]).set (a.length+1) [.d (.int .u8 128)]=rb (a ++ [x,128]):=by
          have:rb (a ++ [x])=rb a ++ [[.d (.int .u8 (x:Int))]]:=(M7 a x).symm;rw [this,List.append_assoc,List.set_append_right _ _ (by rw [n9];omega),n9,show a.length+1 - a.length=1 by omega];simp [rb]
        have o0:bits .or .u8 0 128=128:=by decide
        have S2:∀ y:Nat,(rb (a ++ [x])).set a.length [.d (.int .u8 (y:Int))]=rb (a ++ [y]):=fun y=>by
          have:rb (a ++ [x])=rb a ++ [[.d (.int .u8 (x:Int))]]:=(M7 a x).symm;rw [this,List.set_append_right _ _ (by rw [n9];omega),n9,Nat.sub_self];simp [rb]
        have hA:=ar1 x hx;rw [wl];by_cases h128:128≤x
        · rw [if_pos h128] at hA
          simp [go_sem,hrow,hrowg,n9,hA];by_cases hs:n<0
          · simp [go_sem,hs,n9,w1,R1,R1g,o0,S1]
            repeat' apply And.intro
            all_goals first
              | omega
              | exact fun h=>absurd hs aa
              | exact D1 (m8 (s9 (L:=K7 true a x) (by simp [K7,h128]) (by simp [lk,K7,h128,rb]) trivial)) trivial rfl
              | exact fun _=>D1 (m8 (s9 (L:=K7 true a x) (by simp [K7,h128]) (by simp [lk,K7,h128,rb]) trivial)) trivial rfl
          · simp [go_sem,hs]
            repeat' apply And.intro
            all_goals first
              | omega
              | exact fun h=>absurd hs aa
              | exact D1 (m8 (s9 (L:=K7 false a x) (by simp [K7,h128]) (by simp [lk,K7,h128,rb]) trivial)) trivial rfl
              | exact fun _=>D1 (m8 (s9 (L:=K7 false a x) (by simp [K7,h128]) (by simp [lk,K7,h128,rb]) trivial)) trivial rfl
        · rw [if_neg h128] at hA
          have hO:=auF x aa;simp [go_sem,hrow,hrowg,n9,hA];by_cases hs:n<0
          · simp [go_sem,hs,n9,w2,hrowg,hO,S2,-Int.natCast_add]
            repeat' apply And.intro
            all_goals first
              | omega
              | exact fun h=>absurd hs aa
              | exact D1 (m8 (s9 (L:=K7 true a x) (by simp [K7,h128]) (by simp [lk,K7,h128,rb]) trivial)) trivial rfl
              | exact fun _=>D1 (m8 (s9 (L:=K7 true a x) (by simp [K7,h128]) (by simp [lk,K7,h128,rb]) trivial)) trivial rfl
          · simp [go_sem,hs]
            repeat' apply And.intro
            all_goals first
              | omega
              | exact fun h=>absurd hs aa
              | exact D1 (m8 (s9 (L:=K7 false a x) (by simp [K7,h128]) (by simp [lk,K7,h128,rb]) trivial)) trivial rfl
              | exact fun _=>D1 (m8 (s9 (L:=K7 false a x) (by simp [K7,h128]) (by simp [lk,K7,h128,rb]) trivial)) trivial rfl
theorem auG {σ:Int} (h:σ=1 ∨ σ=-1) (M:Nat):(σ*(M:Int)).tmod 256=σ*((M % 256:Nat):Int)∧(σ*(M:Int)).tdiv 256=σ*((M / 256:Nat):Int):=by
 have e1:((M:Int)).tmod 256=((M % 256:Nat):Int):=by rw [Int.tmod_eq_emod_of_nonneg aa];omega
 have e2:((M:Int)).tdiv 256=((M / 256:Nat):Int):=by rw [Int.tdiv_eq_ediv_of_nonneg aa];omega
 rcases h with rfl | rfl
 ·rw [Int.one_mul,Int.one_mul,Int.one_mul];exact ⟨e1,e2⟩
 ·rw [Int.neg_one_mul,Int.neg_one_mul,Int.neg_one_mul,Int.neg_tmod,Int.neg_tdiv,e1,e2];exact ⟨rfl,rfl⟩
theorem XQ (n:Int) (h1:-9223372036854775808≤n) (h2:n<9223372036854775808):d9 Tryz.prog 83 [.d (.int .i64 n)] (fun r=>r=.d (nb (H2 n))):=by
 refine s8 Tryz.func83 Tryz.ntmps83 (rs:=[.tmp 2]) ae ?_;have hM:n.natAbs<18446744073709551616:=aa;have hpw:(256:Nat) ^ 8=18446744073709551616:=by decide
 have leF0:∀ k,Yx k 0=[]:=fun k=>by cases k <;> simp [Yx]
 have hnn:H2 n=ags (decide (n<0)) (Yx 8 n.natAbs):=rfl
 obtain ⟨σ,hσ,hnσ,hlt⟩:∃ σ:Int,(σ=1 ∨ σ=-1)∧n=σ*(n.natAbs:Int)∧(n<0→σ=-1):=by
  by_cases h:n<0
  ·exact ⟨-1,.inr rfl,aa,fun _=>rfl⟩
  ·exact ⟨1,.inl rfl,aa,fun h'=>absurd h' h⟩
 have hs0:n=0→n.natAbs=0:=aa;simp [go_sem]
 refine j6 (fun t:Nat × List Nat × Nat=>⟨[(0,.d (.int .i64 n)),(3,.own 32 0 t.2.1.length t.2.1.length),(4,.d (.int .i64 (σ*(t.2.2:Int))))],[(32,⟨5,1,rb t.2.1⟩)],6000⟩)
   (fun t=>t.2.2<256 ^ t.1∧t.1≤8∧t.2.2≤n.natAbs∧t.2.1.length+t.1≤8∧t.2.1 ++ Yx t.1 t.2.2=Yx 8 n.natAbs) (fun t=>t.1) (8,[],n.natAbs) ⟨by rw [hpw];exact hM,ab,Nat.le_refl _,ab,rfl⟩ (by
    refine ⟨?_,?_,ab⟩
    ·simp [c6,fv,lk,AV.low,AV.low1];exact hnσ.symm
    ·intro p hp;simp only [List.mem_cons,List.mem_nil_iff,or_false] at hp;subst hp
     exact ⟨.inl (by simp [lk,rb]),by show 32<6000;omega,r5 _ _⟩) ?_
 rintro ⟨k,b,m⟩ ⟨p1,p2,p5,p4,p3⟩;simp only at p1 p2 p3 p4 p5;simp only;have tm:=auG hσ m
 have hz:(σ*(m:Int)=0)=(m=0):=by
  rcases hσ with rfl | rfl <;> (apply propext;constructor <;> intro h <;> omega)
 have hq1:m / 256≤36028797018963968:=aa;have hd1:m % 256<256:=aa
 have hkk:∀ k',k=k'+1→m / 256<256 ^ k':=fun k' e=>by
  subst e;rw [Nat.pow_succ] at p1;exact Nat.div_lt_of_lt_mul aa
 have hle:∀ k',k=k'+1→m ≠ 0→Yx k m=m % 256 :: Yx k' (m / 256):=fun k' e h=>by
  subst e;rw [Yx,if_neg h]
 have hmq:m / 256≤n.natAbs:=aa;generalize m / 256=q at *;generalize m % 256=d at *
 have wq:IntKind.i64.wrap (σ*(q:Int))=σ*(q:Int):=by
  rcases hσ with rfl | rfl <;> rw [IntWalk.i64_in _ aa]
 have w8:IntKind.u8.wrap (d:Int)=(d:Int):=by rw [u8w];omega
 by_cases hm:m=0
 ·have hz':σ*(m:Int)=0:=by rw [hm];simp
  rw [hm,leF0,List.append_nil] at p3;have hbb:=Wo 8 n.natAbs;have hnil:=@aoP 8 n.natAbs aa;rw [← p3] at hnn hbb hnil;rw [hnn];rcases UX b with h | ⟨a,x,rfl⟩
  ·have hn0:=hnil h;have hn1:n=0:=aa;subst h;simp [go_sem,hz',hn1];exact D1 (m8 (s9 rfl rfl trivial)) trivial rfl
  ·rw [Wp];have hal:a.length≤7:=by simp at p4;omega
   have hx:x<256:=hbb x ab;have hrow:(rb (a ++ [x]))[a.length]?=some [.d (.int .u8 (x:Int))]:=by simp [rb]
   have hrowg:∀ h,(rb (a ++ [x]))[a.length]'h=[.d (.int .u8 (x:Int))]:=fun h=>by rw [List.getElem?_eq_getElem h] at hrow;exact Option.some.inj hrow
   have w1:IntKind.i64.wrap ((a.length:Int)+1)=((a.length+1:Nat):Int):=by rw [IntWalk.i64_in _ aa];omega
   have w2:IntKind.i64.wrap (a.length:Int)=(a.length:Int):=IntWalk.i64_in _ aa;have R1:(rb (a ++ [x]) ++ [[AV.d (.int .u8 0)]])[a.length+1]?=some [.d (.int .u8 0)]:=by simp [rb]
   have R1g:∀ h,(rb (a ++ [x]) ++ [[AV.d (.int .u8 0)]])[a.length+1]'h=[.d (.int .u8 0)]:=fun h=>by rw [List.getElem?_eq_getElem h] at R1;exact Option.some.inj R1
   have S1:(rb (a ++ [x]) ++ [[AV.d (.int .u8 0)]]).set (a.length+1) [.d (.int .u8 128)]=rb (a ++ [x,128]):=by
    have:rb (a ++ [x])=rb a ++ [[.d (.int .u8 (x:Int))]]:=(M7 a x).symm;rw [this,List.append_assoc,List.set_append_right _ _ (by rw [n9];omega),n9,show a.length+1 - a.length=1 by omega];simp [rb]
   have S2:∀ y:Nat,(rb (a ++ [x])).set a.length [.d (.int .u8 (y:Int))]=rb (a ++ [y]):=fun y=>by
    have:rb (a ++ [x])=rb a ++ [[.d (.int .u8 (x:Int))]]:=(M7 a x).symm;rw [this,List.set_append_right _ _ (by rw [n9];omega),n9,Nat.sub_self];simp [rb]
   have o0:IntKind.u8.wrap 128=128:=by decide
   by_cases h128:128≤x
   ·have h128':(128:Int)≤(x:Int):=aa;by_cases hs:n<0
    ·simp [go_sem,hz',hrow,hrowg,n9,h128,h128',hs,w1,w2,R1,R1g,o0,S1]
     repeat' apply And.intro
     all_goals first
      | omega
      | exact D1 (m8 (s9 (L:=K7 true a x) (by simp [K7,h128]) (by simp [lk,K7,h128,rb]) trivial)) trivial rfl
    ·simp [go_sem,hz',hrow,hrowg,n9,h128,h128',hs,w1,w2,R1,R1g,o0,S1]
     repeat' apply And.intro
     all_goals first
      | omega
      | exact D1 (m8 (s9 (L:=K7 false a x) (by simp [K7,h128]) (by simp [lk,K7,h128,rb]) trivial)) trivial rfl
   ·have h128':¬ (128:Int)≤(x:Int):=aa;have w4:IntKind.i64.wrap (((a.length+1:Nat):Int) - 1)=(a.length:Int):=by rw [IntWalk.i64_in _ aa];omega
    have w3:IntKind.u8.wrap ((x:Int)+128)=((x+128:Nat):Int):=by rw [u8w];omega
    by_cases hs:n<0
    ·simp [go_sem,hz',hrow,hrowg,n9,h128,h128',hs,w1,w2,w3,w4,S2,-Int.natCast_add]
     repeat' apply And.intro
     all_goals first
      | omega
      | exact D1 (m8 (s9 (L:=K7 true a x) (by simp [K7,h128]) (by simp [lk,K7,h128,rb]) trivial)) trivial rfl
    ·simp [go_sem,hz',hrow,hrowg,n9,h128,h128',hs,w1,w2,w3,w4,S2,-Int.natCast_add]
     repeat' apply And.intro
     all_goals first
      | omega
      | exact D1 (m8 (s9 (L:=K7 false a x) (by simp [K7,h128]) (by simp [lk,K7,h128,rb]) trivial)) trivial rfl
 simp [go_sem,tm.1,tm.2,hz,wq,hm]
 ·match k,p1,p2,p4,p3,hkk,hle with
  | 0,p1,_,_,_,_,_=>simp at p1;omega
  | k+1,p1,p2,p4,p3,hkk,hle =>
   have hdq:=hkk k rfl;rw [hle k rfl hm] at p3;refine ⟨fun hs=>?_,fun hs=>?_⟩
   ·have wd:IntKind.i64.wrap (-(σ*(d:Int)))=(d:Int):=by
     rcases hσ with rfl | rfl
     ·omega
     ·rw [IntWalk.i64_in _ aa];omega
    refine ⟨n9 b,aa,?_⟩;refine c8 (k,b ++ [d],q) ⟨hdq,by show k≤8;omega,hmq,by simp;omega,by rw [← p3];simp⟩ (by show k<k+1;omega) ⟨?_,?_,ab⟩
    ·simp [c6,fv,lk,AV.low,AV.low1]
    ·intro p hp;simp only [List.mem_cons,List.mem_nil_iff,or_false] at hp;subst hp;exact ⟨.inl (by rw [wd,w8];simp [lk,rb]),by show 32<6000;omega,r5 _ _⟩
   ·have wd:σ*(d:Int)=(d:Int):=by
     rcases hσ with rfl | rfl <;> omega
    refine ⟨n9 b,aa,?_⟩;refine c8 (k,b ++ [d],q) ⟨hdq,by show k≤8;omega,hmq,by simp;omega,by rw [← p3];simp⟩ (by show k<k+1;omega) ⟨?_,?_,ab⟩
    ·simp [c6,fv,lk,AV.low,AV.low1]
    ·intro p hp;simp only [List.mem_cons,List.mem_nil_iff,or_false] at hp;subst hp;exact ⟨.inl (by rw [wd,w8];simp [lk,rb]),by show 32<6000;omega,r5 _ _⟩
theorem aeZ:∀ (ws:List Wd) (out:List Nat),(∀ w,w ∈ ws→(J0 w).2=true)→Y6 out ws=(out ++ o4 ws,0)
 | [],out,_=>by simp [Y6,o4]
 | w :: r,out,h=>by
  have hw:=h w ab;rw [Y6,if_pos hw,aeZ r _ (fun v hv=>h v (by simp [hv])),← ac1 hw];simp [o4]
theorem adf {n:Nat} (h1:n=0 ∨ 77<n):(J0 (n,[])).2=true:=by
 unfold J0;rw [if_neg (by simp;omega),if_neg (by simp;omega),if_neg (by simp;omega)];rfl
theorem ahW {n:Nat} (h:n<256):Y7 (n,[]):=⟨ab,h⟩
def F3 (d:Int):List Wd:=[B1 (H2 d),(178,[]),(117,[]),(179,[])]
def D0 (rec:List Nat):List Wd:=[B1 (Vg rec),(188,[])]
def D8 (trig:List Nat) (d:Int):List Wd:=[B1 trig,(173,[]),B1 (o4 (F3 d)),(81,[]),(187,[])]
theorem UY (x:List Nat):bytes (Vg x):=G8 _
theorem XR (d:Int):∀ w,w ∈ F3 d→Y7 w∧(J0 w).2=true:=by
 intro w hw;have hl:=M3 d;simp [F3] at hw;rcases hw with rfl | rfl | rfl | rfl
 ·exact ⟨Un aa (L9 d),UU aa⟩
 all_goals exact ⟨ahW aa,adf aa⟩
theorem UZ {ws:List Wd} (h:∀ w,w ∈ ws→(J0 w).2=true∧w.1<256∧bytes w.2):bytes (o4 ws):=by
 unfold o4;intro z hz;rw [List.mem_flatten] at hz;obtain ⟨l,hl,hz⟩:=hz;obtain ⟨w,hw,rfl⟩:=List.mem_map.1 hl;obtain ⟨h1,h2,h3⟩:=h w hw;rw [ac1 h1] at hz;exact agl h2 h3 z hz
theorem Td:∀ (ws:List Wd) (n:Nat),(∀ w,w ∈ ws→w.2.length≤n)→(o4 ws).length≤(n+3)*ws.length
 | [],n,_=>by simp [o4]
 | w :: r,n,h=>by
  have h1:=aeF w;have h2:=h w ab;have h3:=Td r n (fun v hv=>h v (by simp [hv]));simp only [o4,List.map_cons,List.flatten_cons,List.length_append,List.length_cons] at h3 ⊢;rw [Nat.mul_succ];omega
theorem Te (d:Int):(o4 (F3 d)).length≤48:=by
 have hl:=M3 d
 have:=Td (F3 d) 9 (by
  intro w hw;simp [F3] at hw;rcases hw with rfl | rfl | rfl | rfl
  ·have:=RD (H2 d);omega
  all_goals simp)
 simpa [F3] using this
theorem TV (d:Int):bytes (o4 (F3 d)):=UZ (fun w hw=>by
 have:=XR d w hw;refine ⟨this.2,this.1.2,?_⟩;simp [F3] at hw;rcases hw with rfl | rfl | rfl | rfl
 ·exact RE (L9 d)
 all_goals exact fun z hz=>by simp at hz)
theorem adg (rec:List Nat):∀ w,w ∈ D0 rec→Y7 w∧(J0 w).2=true:=by
 intro w hw;have hl:=Tv rec;simp [D0] at hw;rcases hw with rfl | rfl
 ·exact ⟨Un aa (UY _),UU aa⟩
 ·exact ⟨ahW aa,adf aa⟩
theorem aaB {trig:List Nat} (d:Int) (ht:trig.length=32) (hb:bytes trig):∀ w,w ∈ D8 trig d→Y7 w∧(J0 w).2=true:=by
 intro w hw;have hl:=Te d;simp [D8] at hw;rcases hw with rfl | rfl | rfl | rfl | rfl
 ·exact ⟨Un aa hb,UU aa⟩
 ·exact ⟨ahW aa,adf aa⟩
 ·exact ⟨Un aa (TV d),UU aa⟩
 all_goals exact ⟨ahW aa,adf aa⟩
theorem aoQ (n:Int) (h1:-9223372036854775808≤n) (h2:n<9223372036854775808):d9 Tryz.prog 136 [.d (.int .i64 n)] (fun r=>r=.agg (SI (B1 (H2 n)))):=by
 refine s8 Tryz.func136 Tryz.ntmps136 (rs:=[.cell 2 130]) ae ?_;have hl:=M3 n;simp [go_sem];refine a9 (aaA n h1 h2) ae ?_;simp [go_sem];refine a9 (XI (H2 n) aa (L9 n)) ae ?_;generalize B1 (H2 n)=w;simp [go_sem,SI,d6];exact b7 ae rfl
theorem aml (n:Int) (h1:-9223372036854775808≤n) (h2:n<9223372036854775808):d9 Tryz.prog 139 [.d (.int .i64 n)] (fun r=>r=.agg (SI (B1 (H2 n)))):=by
 refine s8 Tryz.func139 Tryz.ntmps139 (rs:=[.cell 2 130]) ae ?_;have hl:=M3 n;simp [go_sem];refine a9 (XQ n h1 h2) ae ?_;simp [go_sem];refine a9 (VE (H2 n) aa (L9 n)) ae ?_;generalize B1 (H2 n)=w;simp [go_sem,SI,d6];exact b7 ae rfl
theorem aaC (n:Nat):d9 Tryz.prog 97 [.d (.int .u8 (n:Int))] (fun r=>r=.agg (SI (n,[]))):=by
 refine s8 Tryz.func97 Tryz.ntmps97 (rs:=[.cell 2 130]) ae ?_;simp [go_sem,SI,d6];refine Q2 (cs':=[.d (.int .u8 (n:Int)),.d (nb [])]) (fun i c c' h1 h2=>?_) rfl ae rfl
 match i,h1,h2 with
 | 0,h1,h2=>simp at h1 h2;subst h1 h2;exact C7 trivial
 | 1,h1,h2=>simp at h1 h2;subst h1 h2;exact m8 (.nil 1)
 | k+2,h1,_=>simp at h1
theorem Yy (ws:List Wd) (hw:∀ w,w ∈ ws→Y7 w∧(J0 w).2=true) (hl:ws.length≤10000):d9 Tryz.prog 95 [.d (.ro 2 (ws.map N6))] (fun r=>r=.d (nb (o4 ws))):=by
 refine s8 Tryz.func95 Tryz.ntmps95 (rs:=[.tmp 2]) ae ?_;have hb:=aeG ws (fun w h=>(hw w h).1) hl;rw [aeZ ws [] (fun w h=>(hw w h).2),List.nil_append] at hb;simp [go_sem];refine a9 hb ae ?_;simp [go_sem,d6];exact b7 ae rfl
def t5 (inner rec:List Nat) (d:Int) (trig:List Nat):List AV:=cb inner ++ ([.d (nb rec),.d (.int .i64 d)] ++ cb trig)
theorem x9 {inner trig:List Nat} (hi:inner.length=32) (ht:trig.length=32) (rec:List Nat) (d:Int):(t5 inner rec d trig).length=66:=by simp [t5,d0,hi,ht]
theorem i9 {inner trig:List Nat} (hi:inner.length=32) (ht:trig.length=32) (rec:List Nat) (d:Int):List.take 66 (t5 inner rec d trig)=t5 inner rec d trig:=List.take_of_length_le (by rw [x9 hi ht];exact Nat.le_refl _)
theorem Ur {inner:List Nat} (hi:inner.length=32) (rec:List Nat) (d:Int) (trig:List Nat):(t5 inner rec d trig)[32]?=some (.d (nb rec)):=by
 unfold t5;rw [List.getElem?_append_right (by rw [d0];omega),d0,hi];rfl
theorem Us {inner:List Nat} (hi:inner.length=32) (rec:List Nat) (d:Int) (trig:List Nat):(t5 inner rec d trig)[33]?=some (.d (.int .i64 d)):=by
 unfold t5;rw [List.getElem?_append_right (by rw [d0];omega),d0,hi];rfl
theorem Ut {inner:List Nat} (hi:inner.length=32) (rec:List Nat) (d:Int) (trig:List Nat) (hl:32<(t5 inner rec d trig).length):(t5 inner rec d trig)[32]=.d (nb rec):=by
 have:=Ur hi rec d trig;rw [List.getElem?_eq_getElem hl] at this;exact Option.some.inj this
theorem Uu {inner:List Nat} (hi:inner.length=32) (rec:List Nat) (d:Int) (trig:List Nat) (hl:33<(t5 inner rec d trig).length):(t5 inner rec d trig)[33]=.d (.int .i64 d):=by
 have:=Us hi rec d trig;rw [List.getElem?_eq_getElem hl] at this;exact Option.some.inj this
theorem aaD {inner:List Nat} (hi:inner.length=32) (rec:List Nat) (d:Int) (trig:List Nat):List.take 32 (t5 inner rec d trig)=cb inner:=by
 unfold t5;rw [List.take_append_of_le_length (by rw [d0,hi];exact Nat.le_refl _),d5 hi]
theorem Rt (inner rec:List Nat) (d:Int) (trig:List Nat):(AV.agg (t5 inner rec d trig)).deep:=by
 intro c hc;unfold t5 at hc;rcases List.mem_append.1 hc with h | h
 ·exact s6 _ _ h
 ·rcases List.mem_append.1 h with h | h
  ·simp at h;rcases h with rfl | rfl <;> trivial
  ·exact s6 _ _ h
theorem x4 (inner rec:List Nat) (d:Int) (trig:List Nat):∀ v,v ∈ [AV.agg (t5 inner rec d trig)]→v.deep:=by
 intro v hv;simp at hv;subst hv;exact Rt _ _ _ _
theorem ar2 (inner rec:List Nat) (d:Int) (trig:List Nat) (hi:inner.length=32) (ht:trig.length=32):d9 Tryz.prog 62 [.agg (t5 inner rec d trig)] (fun r=>r=.d (.bool (decide (0≤d∧d≤65535∧rec.length≤1000)))):=by
 refine s8 Tryz.func62 Tryz.ntmps62 (rs:=[.tmp 2]) (x4 _ _ _ _) ?_;have hl:=x9 hi ht rec d;have g32:=Ut hi rec d trig;have g33:=Uu hi rec d trig;have e32:=Ur hi rec d trig;have e33:=Us hi rec d trig;by_cases h1:0≤d
 ·by_cases h2:d≤65535
  ·by_cases h3:rec.length≤1000
   ·have i3:(rec.length:Int)≤1000:=aa;simp [go_sem,hl,i9 hi ht,e32,e33,g32,g33,h1,h2,h3,i3,nb,d6];exact b7 ae rfl
   ·have i3:¬ (rec.length:Int)≤1000:=aa;simp [go_sem,hl,i9 hi ht,e32,e33,g32,g33,h1,h2,h3,i3,nb,d6];exact b7 ae rfl
  ·simp [go_sem,hl,i9 hi ht,e32,e33,g32,g33,h1,h2,nb,d6];exact b7 ae rfl
 ·simp [go_sem,hl,i9 hi ht,e32,e33,g32,g33,h1,nb,d6];exact b7 ae rfl
theorem XS (inner rec:List Nat) (d:Int) (trig:List Nat) (hi:inner.length=32) (ht:trig.length=32) (hr:rec.length≤100000):d9 Tryz.prog 63 [.agg (t5 inner rec d trig)] (fun r=>r=.d (nb (o4 (D0 rec)))):=by
 refine s8 Tryz.func63 Tryz.ntmps63 (rs:=[.tmp 2]) (x4 _ _ _ _) ?_;have hl:=x9 hi ht rec d;have g32:=Ut hi rec d trig;have e32:=Ur hi rec d trig;have hL:=Tv rec;simp [go_sem,hl,i9 hi ht,e32,g32];refine a9 (agk rec hr) ae ?_;simp [go_sem,d0,hL,d5 hL,B4];refine B2 [160] (XI (Vg rec) aa (UY rec)) rfl (m7 (.one (m8 (Tm rfl ab hL))) t4) ?_;have hok:=adg rec;have hRW:D0 rec=[B1 (Vg rec),(188,[])]:=rfl;rw [hRW] at hok ⊢;generalize B1 (Vg rec)=w at *;simp [go_sem,s7];refine a9 (aaC 188) ae ?_;simp [go_sem,SI];refine B2 [320] (Yy [w,(188,[])] hok ab) rfl (m7 (.one (m8 (C4 (ty:=130) (e:=2) (es:=[w,(188,[])].map N6) (by simp [lk,N6,SI]) ab rfl (by simp [N6])))) t4) ?_;simp [go_sem,d6];exact b7 ae rfl
theorem ae0 (inner rec:List Nat) (d:Int) (trig:List Nat) (hi:inner.length=32) (ht:trig.length=32) (h1:-9223372036854775808≤d) (h2:d<9223372036854775808):d9 Tryz.prog 98 [.agg (t5 inner rec d trig)] (fun r=>r=.d (nb (o4 (F3 d)))):=by
 refine s8 Tryz.func98 Tryz.ntmps98 (rs:=[.tmp 2]) (x4 _ _ _ _) ?_;have hl:=x9 hi ht rec d;have g33:=Uu hi rec d trig;have e33:=Us hi rec d trig;simp [go_sem,hl,i9 hi ht,e33,g33];refine a9 (aoQ d h1 h2) ae ?_;have hok:=XR d;have hRW:F3 d=[B1 (H2 d),(178,[]),(117,[]),(179,[])]:=rfl;rw [hRW] at hok ⊢;generalize B1 (H2 d)=w at *;simp [go_sem];refine a9 (aaC 178) ae ?_;simp [go_sem];refine a9 (aaC 117) ae ?_;simp [go_sem];refine a9 (aaC 179) ae ?_;simp [go_sem,SI];refine B2 [256] (Yy [w,(178,[]),(117,[]),(179,[])] hok ab) rfl (m7 (.one (m8 (C4 (ty:=130) (e:=2) (es:=[w,(178,[]),(117,[]),(179,[])].map N6) (by simp [lk,N6,SI]) ab rfl (by simp [N6])))) t4) ?_;simp [go_sem,d6];exact b7 ae rfl
def Wz (inner rec:List Nat) (d:Int) (trig:List Nat):List DV:=cd inner ++ ([nb rec,.int .i64 d] ++ cd trig)
theorem Uv (inner rec:List Nat) (d:Int) (trig:List Nat):(Wz inner rec d trig).map AV.d=t5 inner rec d trig:=by simp [Wz,t5,K4]
theorem abV {inner trig:List Nat} (hi:inner.length=32) (ht:trig.length=32) (rec:List Nat) (d:Int):(Wz inner rec d trig).length=66:=by simp [Wz,C8,hi,ht]
theorem ae1 {inner trig:List Nat} (hi:inner.length=32) (ht:trig.length=32) (rec:List Nat) (d:Int):List.drop 34 (Wz inner rec d trig)=cd trig:=by
 unfold Wz;rw [← List.append_assoc,List.drop_append,List.drop_eq_nil_of_le (by simp [C8,hi]),List.nil_append];simp [C8,hi]
theorem ae2 (inner rec:List Nat) (d:Int) (trig:List Nat) (hi:inner.length=32) (ht:trig.length=32) (hb:bytes trig) (h1:-9223372036854775808≤d) (h2:d<9223372036854775808):d9 Tryz.prog 64 [.agg (t5 inner rec d trig)] (fun r=>r=.d (nb (o4 (D8 trig d)))):=by
 refine S6 Tryz.func64 (by kernel_rfl) rfl Tryz.ntmps64 (rs:=[.tmp 2]) rfl (TG rfl) (x4 _ _ _ _) ?_;have hl:=x9 hi ht rec d;refine VW (G7 ?_);simp [go_sem,hl,i9 hi ht];simp only [X4];refine Ya (st':=⟨[(1,.rop (Wz inner rec d trig))],[],9000⟩) (SD [0] [(1,.rop (Wz inner rec d trig))] ?_ ?_) ?_
 ·intro p hp;simp only [List.mem_cons,List.mem_nil_iff,or_false] at hp;subst hp;exact .ptr ab rfl rfl rfl (by rw [List.drop_zero,← Uv];exact O7 _)
 ·simp [m6,c6,fv,lk,s7,AV.low,AV.low1]
 refine G7 ?_;have hdl:=abV hi ht rec d;have hdt:=ae1 hi ht rec d;have hcl:=Te d;simp [go_sem];refine z6 [0,1,4] [(2,[]),(3,[]),(5,[]),(6,[]),(7,[]),(8,[]),(9,[]),(10,[11])] 8 (k:=12) ?_;intro G hG
 have hts:List.map (fun c=>[c]) (List.take 32 (cd trig))=trig.map fun (b:Nat)=>[DV.int .u8 (b:Int)]:=by
  rw [List.take_of_length_le (by simp [C8,ht])];simp [cd]
 simp [go_sem,hdl,hdt,C8,ht,Uv,i9 hi ht,hts,hl];have p1:=XI trig aa hb;have p2:=XI (o4 (F3 d)) aa (TV d);have hok:=aaB d ht hb;have hRW:D8 trig d=[B1 trig,(173,[]),B1 (o4 (F3 d)),(81,[]),(187,[])]:=rfl;rw [hRW] at hok;rw [hRW] at hG;have hw:=ae0 inner rec d trig hi ht h1 h2;generalize o4 (F3 d)=W at *;generalize B1 trig=w at *;generalize B1 W=v at *;simp only [nb] at p1;refine a9 p1 ae ?_;simp [go_sem];refine a9 (aaC 173) ae ?_;simp [go_sem];refine a9 hw (x4 _ _ _ _) ?_;simp [go_sem];refine a9 p2 ae ?_;simp [go_sem];refine a9 (aaC 81) ae ?_;simp [go_sem];refine a9 (aaC 187) ae ?_;simp [go_sem,SI];refine B2 [9288] (Yy [w,(173,[]),v,(81,[]),(187,[])] hok ab) rfl (m7 (.one (m8 (C4 (ty:=130) (e:=2) (es:=[w,(173,[]),v,(81,[]),(187,[])].map N6) (by simp [lk,N6,SI]) ab rfl (by simp [N6])))) t4) ?_;simp [go_sem];refine hG _ _ ?_;clear hG G;simp [go_sem,d6];exact b7 ae rfl
def D2 (t:List Nat) (d:Int):List Wd:=B1 t :: F3 d
theorem amm (t:List Nat) (d:Int) (ht:t.length=32):al5 [t] (o4 (F3 d))=(o4 (D2 t d),0):=by
 have hl:=Te d;have h1:=aeI [t] [] (by intro x hx;simp at hx;subst hx;omega);have h2:o4 (ac3 [t]) ++ o4 (F3 d)=o4 (D2 t d):=by simp [o4,ac3,D2]
 have h3:(o4 (ac3 [t])).length≤35:=by
  have:=Td (ac3 [t]) 32 (by
   intro w hw;simp [ac3] at hw;subst hw;have:=RD t
   omega)
  simpa [ac3] using this
 unfold al5;rw [h1];simp only [List.nil_append];rw [if_neg (by simp only [List.length_append];omega),h2]
theorem H3 (inner rec:List Nat) (d:Int) (trig t:List Nat):∀ v,v ∈ [AV.agg (t5 inner rec d trig),.agg (cb t)]→v.deep:=by
 intro v hv;simp at hv;rcases hv with rfl | rfl
 ·exact Rt _ _ _ _
 ·exact s6 _
theorem Wq (inner rec:List Nat) (d:Int) (trig:List Nat) (n:Nat):∀ c,c ∈ t5 inner rec d trig→AV.low1 n c:=by
 rw [← Uv];intro c hc;obtain ⟨x,_,rfl⟩:=List.mem_map.1 hc
 trivial
theorem aaZ (inner rec:List Nat) (d:Int) (trig t:List Nat) (hi:inner.length=32) (ht:trig.length=32) (htl:t.length=32) (htb:bytes t) (h1:-9223372036854775808≤d) (h2:d<9223372036854775808) :
  d9 Tryz.prog 67 [.agg (t5 inner rec d trig),.agg (cb t)] (fun r=>r=.tup [.d (nb (o4 (D2 t d))),.d (.int .i64 0)]):=by
 refine S6 Tryz.func67 (by kernel_rfl) rfl Tryz.ntmps67 (rs:=[.tmp 4,.tmp 5]) rfl (TG rfl) (H3 _ _ _ _ _) ?_;have hl:=x9 hi ht rec d;refine VW (G7 ?_);simp [go_sem,hl,i9 hi ht,d0,htl,d5 htl];simp only [X4];refine Ya (st':=⟨[(2,.ptr 0 0 0 1),(3,.rop (cd t))],[(0,⟨47,66,[t5 inner rec d trig]⟩)],9000⟩) (SD [32] [(3,.rop (cd t))] ?_ ?_) ?_
 ·intro p hp;simp only [List.mem_cons,List.mem_nil_iff,or_false] at hp;subst hp;exact .ptr ab rfl rfl rfl (by rw [List.drop_zero,← K4];exact O7 _)
 ·simp [m6,c6,fv,lk,s7,AV.low,AV.low1];exact Wq _ _ _ _ _
 refine G7 ?_;simp [go_sem]
 have hts:List.map (fun c=>[c]) (List.take 32 (cd t))=t.map fun (b:Nat)=>[DV.int .u8 (b:Int)]:=by
  rw [List.take_of_length_le (by simp [C8,htl])];simp [cd]
 have hw:=ae0 inner rec d trig hi ht h1 h2;have hu:=agi [t] (o4 (F3 d)) ab (by intro x hx;simp at hx;subst hx;exact ⟨aa,htb⟩) (by have:=Te d;omega);rw [amm t d htl] at hu;generalize o4 (F3 d)=W at *;generalize o4 (D2 t d)=Y at *;refine B3 [0,2] [1,3,4] [0,2,5,6,7,8] (.alt (ah 1 (ah 3 (.step 4 [5,6,7,8] true .done))) (ah 3 (ah 1 (.step 4 [5,6,7,8] true .done)))) ⟨[(4,.d (nb Y)),(5,.d (.int .i64 0))],[],20000⟩ (k:=9) ?h3 ?hq
 case h3 =>
  intro G hG
  have hW:∀ (fr:Fr) (hp:Hp),(fv 4 fr=.d (nb Y)∧fv 5 fr=.d (.int .i64 0))→G fr hp:=by
   rintro fr hp ⟨q0,q1⟩;refine hG _ _ (G2 ⟨?_,ab,ab⟩);simp [c6,AV.low,AV.low1,q0,q1]
  have hr:∀ hp,lk 9032 hp=some ⟨22,1,[[.d (nb t)]]⟩→SV hp (fun i=>i ∈ [9032]) (.own 9032 0 1 1) (.d (.ro 1 ([t].map aeH))):=fun hp h=>m8 (C4 (ty:=22) (e:=1) (es:=[t].map aeH) (by simp [h,aeH,nb]) ab rfl (by simp [aeH]));simp [go_sem,C8,htl,hts,hl,i9 hi ht];refine ⟨?_,?_⟩
  all_goals
   refine a9 hw (x4 _ _ _ _) ?_;simp [go_sem];refine B2 [9032] hu rfl (m7 (.one (hr _ (by simp [lk,nb]))) (m7 (.deep ae) t4)) ?_;simp [go_sem,s7];refine hW _ _ ?_;simp [fv,lk]
 case hq =>
  simp [go_sem,d6];exact b7 ae rfl
theorem S5 (inner:List Nat) (xs:List (List Nat)) (E:Lf→Int):C6 inner xs E=.tup [.nil,.d (.int .i64 1)] ∨ ∃ es,C6 inner xs E=.tup [.d (.ro 34 es),.d (.int .i64 0)]:=by
 unfold C6
 split
 ·exact .inl rfl
 ·exact .inr ⟨_,rfl⟩
def P1 (inner rec:List Nat) (d:Int) (trig:List Nat) (E:Lf→Int):AV :=
 if 0≤d∧d≤65535∧rec.length≤1000 then C6 inner [o4 (D0 rec),o4 (D8 trig d)] E else .tup [.nil,.d (.int .i64 1)]
theorem Uw (rec:List Nat):(o4 (D0 rec)).length≤70:=by
 have hL:=Tv rec
 have:=Td (D0 rec) 32 (by
  intro w hw;simp [D0] at hw;rcases hw with rfl | rfl
  ·have:=RD (Vg rec);omega
  ·simp)
 simpa [D0] using this
theorem Yz {t:List Nat} (d:Int) (ht:t.length=32):(o4 (D2 t d)).length≤175:=by
 have hl:=M3 d
 have:=Td (D2 t d) 32 (by
  intro w hw;simp [D2,F3] at hw;rcases hw with rfl | rfl | rfl | rfl | rfl
  ·have:=RD t;omega
  ·have:=RD (H2 d);omega
  all_goals simp)
 simpa [D2,F3] using this
theorem Ux {trig:List Nat} (d:Int) (ht:trig.length=32):(o4 (D8 trig d)).length≤255:=by
 have hl:=Te d
 have:=Td (D8 trig d) 48 (by
  intro w hw;simp [D8] at hw;rcases hw with rfl | rfl | rfl | rfl | rfl
  ·have:=RD trig;omega
  ·simp
  ·have:=RD (o4 (F3 d));omega
  all_goals simp)
 simpa [D8] using this
theorem U0 (inner rec:List Nat) (d:Int) (trig:List Nat) (hi:inner.length=32) (ht:trig.length=32) (hb:bytes trig) (h1:-9223372036854775808≤d) (h2:d<9223372036854775808) (O:Lf→List Nat) (E:Lf→Int)
  (hout:∀ l,l ∈ Tc (A7 [o4 (D0 rec),o4 (D8 trig d)]) [o4 (D0 rec),o4 (D8 trig d)]→d9 Tryz.prog 18 [.agg (n7 inner (.d (r6 l.1)) (.d (nb l.2)))] (fun r=>r=.tup [.d (nb (O l)),.d (.int .i64 (E l))])) :
  d9 Tryz.prog 27 [.agg (t5 inner rec d trig)] (fun r=>r=P1 inner rec d trig E):=by
 refine s8 Tryz.func27 Tryz.ntmps27 (rs:=[.tmp 2,.tmp 3]) (x4 _ _ _ _) ?_;have hl:=x9 hi ht rec d;unfold P1;simp [go_sem,hl,i9 hi ht];refine a9 (ar2 inner rec d trig hi ht) (x4 _ _ _ _) ?_;by_cases hm:0≤d∧d≤65535∧rec.length≤1000
 ·rw [if_pos hm]
  have hpl:=aeU inner [o4 (D0 rec),o4 (D8 trig d)] hi (by
   intro x hx;simp at hx;rcases hx with rfl | rfl
   ·have:=Uw rec;omega
   ·have:=Ux d ht;omega) Sc O E hout
  have p1:=XS inner rec d trig hi ht aa;have p2:=ae2 inner rec d trig hi ht hb h1 h2;simp only [decide_eq_true hm];generalize o4 (D0 rec)=x at *;generalize o4 (D8 trig d)=y at *;have hPV:=S5 inner [x,y] E;generalize C6 inner [x,y] E=PV at *;simp [go_sem];refine z6 [0,1,2,4] [(3,[]),(5,[]),(6,[]),(7,[8,9,10,11])] 4 (k:=12) ?_;intro G hG;simp [go_sem,hl,i9 hi ht,aaD hi];refine a9 p1 (x4 _ _ _ _) ?_;simp [go_sem,hl,i9 hi ht];refine a9 p2 (x4 _ _ _ _) ?_;simp [go_sem];refine B2 [384] hpl rfl (m7 (.deep (s6 _)) (m7 (.one (m8 (C4 (ty:=22) (e:=1) (es:=[x,y].map L8) (by simp [lk,L8,nb]) ab rfl (by simp [L8])))) t4)) ?_;rcases hPV with rfl | ⟨es,rfl⟩
  ·simp [go_sem,s7];refine hG _ _ ?_;clear hG G;simp [go_sem,d6];exact b7 ae rfl
  ·simp [go_sem,s7];refine hG _ _ ?_;clear hG G;simp [go_sem,d6];exact b7 ae rfl
 ·rw [if_neg hm];simp only [decide_eq_false hm];simp [go_sem,d6];exact b7 ae rfl
def okV (v:AV):Bool:=match v with
 | .tup [.d _,_]=>true
 | _=>false
def erV (v:AV):AV:=match v with
 | .tup [_,e]=>e
 | _=>v
theorem T9 (inner rec:List Nat) (d:Int) (trig:List Nat) (E:Lf→Int):P1 inner rec d trig E=.tup [.nil,.d (.int .i64 1)] ∨
  (0≤d∧d≤65535∧rec.length≤1000∧P1 inner rec d trig E=.tup [.d (.ro 34 ((Tc (A7 [o4 (D0 rec),o4 (D8 trig d)]) [o4 (D0 rec),o4 (D8 trig d)]).map (I3 inner))),.d (.int .i64 0)]):=by
 unfold P1;by_cases hm:0≤d∧d≤65535∧rec.length≤1000
 ·rw [if_pos hm];unfold C6
  split
  ·exact .inl rfl
  ·exact .inr ⟨hm.1,hm.2.1,hm.2.2,rfl⟩
 ·rw [if_neg hm];exact .inl rfl
theorem aiU (inner rec:List Nat) (d:Int) (trig:List Nat) (hi:inner.length=32) (ht:trig.length=32) (V:AV) (hV:V=.tup [.nil,.d (.int .i64 1)] ∨ ∃ es,V=.tup [.d (.ro 34 es),.d (.int .i64 0)])
  (hp:d9 Tryz.prog 27 [.agg (t5 inner rec d trig)] (fun r=>r=V)) :
  d9 Tryz.prog 32 [.agg (t5 inner rec d trig)] (fun r=>r=erV V):=by
 refine s8 Tryz.func32 Tryz.ntmps32 (rs:=[.tmp 2]) (x4 _ _ _ _) ?_;have hl:=x9 hi ht rec d;rcases hV with rfl | ⟨es,rfl⟩
 ·simp [go_sem,hl,i9 hi ht];refine a9 hp (x4 _ _ _ _) ?_;simp [go_sem,d6];exact b7 ae rfl
 ·simp [go_sem,hl,i9 hi ht];refine a9 hp (x4 _ _ _ _) ?_;simp [go_sem,d6];exact b7 ae rfl
theorem VJ (inner rec:List Nat) (d:Int) (trig t:List Nat) (hi:inner.length=32) (ht:trig.length=32) (htl:t.length=32) (htb:bytes t) (h1:-9223372036854775808≤d) (h2:d<9223372036854775808) (V:AV) (hr:V=.tup [.nil,.d (.int .i64 1)] ∨ rec.length≤1000∧∃ es,V=.tup [.d (.ro 34 es),.d (.int .i64 0)])
  (hp:d9 Tryz.prog 27 [.agg (t5 inner rec d trig)] (fun r=>r=V)) (O:Lf→List Nat) (E:Lf→Int)
  (hout:∀ l,l ∈ Tc (A7 [o4 (D0 rec),o4 (D2 t d)]) [o4 (D0 rec),o4 (D2 t d)]→d9 Tryz.prog 18 [.agg (n7 inner (.d (r6 l.1)) (.d (nb l.2)))] (fun r=>r=.tup [.d (nb (O l)),.d (.int .i64 (E l))])) :
  d9 Tryz.prog 29 [.agg (t5 inner rec d trig),.agg (cb t)] (fun r=>r=if okV V then C6 inner [o4 (D0 rec),o4 (D2 t d)] E else .tup [.nil,.d (.int .i64 1)]):=by
 refine s8 Tryz.func29 Tryz.ntmps29 (rs:=[.tmp 4,.tmp 5]) (H3 _ _ _ _ _) ?_;have hl:=x9 hi ht rec d;have hc:=aiU inner rec d trig hi ht V (hr.imp id (fun h=>h.2)) hp;have hwd:=aaZ inner rec d trig t hi ht htl htb h1 h2;rcases hr with rfl | ⟨hrl,es,rfl⟩
 ·simp [go_sem,hl,i9 hi ht,d0,htl,d5 htl];refine a9 hc (x4 _ _ _ _) ?_;simp [go_sem,erV,okV,d6];exact b7 ae rfl
 ·have hpl:=aeU inner [o4 (D0 rec),o4 (D2 t d)] hi (by
   intro x hx;simp at hx;rcases hx with rfl | rfl
   ·have:=Uw rec;omega
   ·have:=Yz d htl;omega) Sc O E hout
  have p1:=XS inner rec d trig hi ht aa;generalize o4 (D0 rec)=x at *;generalize o4 (D2 t d)=y at *;have hPV:=S5 inner [x,y] E;generalize C6 inner [x,y] E=PV at *;simp [go_sem,hl,i9 hi ht,d0,htl,d5 htl];refine a9 hc (x4 _ _ _ _) ?_;simp [go_sem,erV,okV,hl,i9 hi ht,d0,htl,d5 htl];refine a9 hwd (H3 _ _ _ _ _) ?_;simp [go_sem];refine z6 [0,1,2,4] [(3,[]),(5,[]),(6,[7,8,9,10])] 3 (k:=11) ?_;intro G hG;simp [go_sem,hl,i9 hi ht,aaD hi];refine a9 p1 (x4 _ _ _ _) ?_;simp [go_sem,hl,i9 hi ht];refine B2 [768] hpl rfl (m7 (.deep (s6 _)) (m7 (.one (m8 (C4 (ty:=22) (e:=1) (es:=[x,y].map L8) (by simp [lk,L8,nb]) ab rfl (by simp [L8])))) t4)) ?_;rcases hPV with rfl | ⟨es,rfl⟩
  ·simp [go_sem,s7];refine hG _ _ ?_;clear hG G;simp [go_sem,d6];exact b7 ae rfl
  ·simp [go_sem,s7];refine hG _ _ ?_;clear hG G;simp [go_sem,d6];exact b7 ae rfl
theorem aoS {hp:Hp} {I:Nat→Prop} {rows:List (List AV)} {es:List (List DV)} (w:Wd) (t:RowsR hp I rows es):RowsR hp I ([.d (.int .u8 (w.1:Int)),.d (nb w.2)] :: rows) (N6 w :: es):=.cons (.cons (.d _) (.cons (.d _) .nil)) t
theorem aaE {hp:Hp} {I:Nat→Prop} {rows:List (List AV)} {es:List (List DV)} (n:Nat) (t:RowsR hp I rows es):RowsR hp I ([.d (.int .u8 (n:Int)),.nil] :: rows) (N6 (n,[]) :: es):=.cons (.cons (.d _) (.cons (.nil 1) .nil)) t
theorem aaF {hp:Hp} {I:Nat→Prop} {id n:Nat} {rows:List (List AV)} {ws:List Wd} (hb:lk id hp=some ⟨130,2,rows⟩) (hI:I id) (hn:rows.length=n) (hR:RowsR hp I rows (ws.map N6)):SnapD hp I (.own id 0 n n) (.ro 2 (ws.map N6)):=by
 have hlen:(ws.map N6).length=n:=by rw [← hn,hR.len]
 refine ZL hb hI hn (by rw [List.drop_zero,List.take_of_length_le aa];exact hR) hlen (fun r hr=>?_);obtain ⟨w,_,rfl⟩:=List.mem_map.1 hr;rfl
theorem U3 (ws:List Wd) (hw:∀ w,w ∈ ws→Y7 w∧(J0 w).2=true) (hl:ws.length≤10000):d9 Tryz.prog 100 [.d (.ro 2 (ws.map N6))] (fun r=>r=.d (nb (o4 ws))):=by
 refine s8 Tryz.func100 Tryz.ntmps100 (rs:=[.tmp 2]) ae ?_;simp [go_sem];refine anC [] (agj ws hw hl) rfl (m7 (.deep ae) t4) (fun ρ=>by simp [AV.renL,AV.ren]) ?_;rintro r hp' ⟨rfl,h0⟩;refine ⟨[(65,0)],rfl,?_⟩;generalize o4 ws=L at *;simp [go_sem,O0,L6,h0,Blk.ren,H1,Tl,AV.renL,AV.ren,J6,s7,d6];exact D1 (m8 (s9 rfl rfl trivial)) trivial rfl
theorem adh (inner rec:List Nat) (d:Int) (trig:List Nat) (hi:inner.length=32) (ht:trig.length=32) (hr:rec.length≤100000) (hrb:bytes rec):d9 Tryz.prog 99 [.agg (t5 inner rec d trig)] (fun r=>r=.d (nb (o4 (D0 rec)))):=by
 refine s8 Tryz.func99 Tryz.ntmps99 (rs:=[.tmp 2]) (x4 _ _ _ _) ?_;have hl:=x9 hi ht rec d;have g32:=Ut hi rec d trig;have e32:=Ur hi rec d trig;have hL:=Tv rec;simp [go_sem,hl,i9 hi ht,e32,g32];refine a9 (aeJ rec hr hrb) ae ?_;simp [go_sem,d0,hL,d5 hL,B4];refine B2 [160] (VE (Vg rec) aa (UY rec)) rfl (m7 (.one (m8 (Tm rfl ab hL))) t4) ?_;have hok:=adg rec;have hRW:D0 rec=[B1 (Vg rec),(188,[])]:=rfl;rw [hRW] at hok ⊢;generalize B1 (Vg rec)=w at *;simp [go_sem,s7,SI];refine B2 [320] (U3 [w,(188,[])] hok ab) rfl (m7 (.one (m8 (aaF (ws:=[w,(188,[])]) rfl ab rfl (aoS w (aaE 188 .nil))))) t4) ?_;simp [go_sem,d6];exact b7 ae rfl
theorem YT (inner rec:List Nat) (d:Int) (trig:List Nat) (hi:inner.length=32) (ht:trig.length=32) (h1:-9223372036854775808≤d) (h2:d<9223372036854775808):d9 Tryz.prog 102 [.agg (t5 inner rec d trig)] (fun r=>r=.d (.ro 2 ((F3 d).map N6))):=by
 refine s8 Tryz.func102 Tryz.ntmps102 (rs:=[.tmp 2]) (x4 _ _ _ _) ?_;have hl:=x9 hi ht rec d;have g33:=Uu hi rec d trig;have e33:=Us hi rec d trig;simp [go_sem,hl,i9 hi ht,e33,g33];refine a9 (aml d h1 h2) ae ?_;have hRW:F3 d=[B1 (H2 d),(178,[]),(117,[]),(179,[])]:=rfl;rw [hRW];generalize B1 (H2 d)=w at *;simp [go_sem,SI,d6];exact D1 (m8 (aaF (ws:=[w,(178,[]),(117,[]),(179,[])]) rfl trivial rfl (aoS w (aaE 178 (aaE 117 (aaE 179 .nil)))))) trivial rfl
theorem ae3 (inner rec:List Nat) (d:Int) (trig:List Nat) (hi:inner.length=32) (ht:trig.length=32) (hb:bytes trig) (h1:-9223372036854775808≤d) (h2:d<9223372036854775808):d9 Tryz.prog 66 [.agg (t5 inner rec d trig)] (fun r=>r=.d (nb (o4 (D8 trig d)))):=by
 refine S6 Tryz.func66 (by kernel_rfl) rfl Tryz.ntmps66 (rs:=[.tmp 2]) rfl (TG rfl) (x4 _ _ _ _) ?_;have hl:=x9 hi ht rec d;refine VW (G7 ?_);simp [go_sem,hl,i9 hi ht];simp only [X4];refine Ya (st':=⟨[(1,.rop (Wz inner rec d trig))],[],9000⟩) (SD [0] [(1,.rop (Wz inner rec d trig))] ?_ ?_) ?_
 ·intro p hp;simp only [List.mem_cons,List.mem_nil_iff,or_false] at hp;subst hp;exact .ptr ab rfl rfl rfl (by rw [List.drop_zero,← Uv];exact O7 _)
 ·simp [m6,c6,fv,lk,s7,AV.low,AV.low1]
 refine G7 ?_;have hdl:=abV hi ht rec d;have hdt:=ae1 hi ht rec d;have hcl:=Te d;simp [go_sem];refine z6 [0,1,3,4,8,9] [(2,[]),(5,[]),(6,[]),(7,[]),(10,[]),(11,[12])] 6 (k:=13) ?_;intro G hG
 have hts:List.map (fun c=>[c]) (List.take 32 (cd trig))=trig.map fun (b:Nat)=>[DV.int .u8 (b:Int)]:=by
  rw [List.take_of_length_le (by simp [C8,ht])];simp [cd]
 simp [go_sem,hdl,hdt,C8,ht,Uv,i9 hi ht,hts,hl];have p1:=VE trig aa hb;have p2:=VE (o4 (F3 d)) aa (TV d);have hok:=aaB d ht hb;have hRW:D8 trig d=[B1 trig,(173,[]),B1 (o4 (F3 d)),(81,[]),(187,[])]:=rfl;rw [hRW] at hok;rw [hRW] at hG;have hw:=YT inner rec d trig hi ht h1 h2;have hs:=U3 (F3 d) (XR d) (by simp [F3]);generalize o4 (F3 d)=W at *;generalize (F3 d).map N6=WW at *;generalize B1 trig=w at *;generalize B1 W=v at *;simp only [nb] at p1;refine a9 p1 ae ?_;simp [go_sem];refine a9 hw (x4 _ _ _ _) ?_;simp [go_sem];refine a9 hs ae ?_;simp [go_sem];refine a9 p2 ae ?_;simp [go_sem,SI];refine B2 [9320] (U3 [w,(173,[]),v,(81,[]),(187,[])] hok ab) rfl (m7 (.one (m8 (aaF (ws:=[w,(173,[]),v,(81,[]),(187,[])]) rfl ab rfl (aoS w (aaE 173 (aoS v (aaE 81 (aaE 187 .nil)))))))) t4) ?_;simp [go_sem];refine hG _ _ ?_;clear hG G;simp [go_sem,d6];exact b7 ae rfl
theorem ae4 {t:List Nat} (d:Int) (ht:t.length=32) (hb:bytes t):∀ w,w ∈ D2 t d→Y7 w∧(J0 w).2=true:=by
 intro w hw;simp only [D2,List.mem_cons] at hw;rcases hw with rfl | hw
 ·exact ⟨Un aa hb,UU aa⟩
 ·exact XR d w hw
theorem aaG (inner rec:List Nat) (d:Int) (trig t:List Nat) (hi:inner.length=32) (ht:trig.length=32) (htl:t.length=32) (htb:bytes t) (h1:-9223372036854775808≤d) (h2:d<9223372036854775808) :
  d9 Tryz.prog 68 [.agg (t5 inner rec d trig),.agg (cb t)] (fun r=>r=.d (nb (o4 (D2 t d)))):=by
 refine S6 Tryz.func68 (by kernel_rfl) rfl Tryz.ntmps68 (rs:=[.tmp 4]) rfl (TG rfl) (H3 _ _ _ _ _) ?_;have hl:=x9 hi ht rec d;refine VW (G7 ?_);simp [go_sem,hl,i9 hi ht,d0,htl,d5 htl];simp only [X4];refine Ya (st':=⟨[(2,.ptr 0 0 0 1),(3,.rop (cd t))],[(0,⟨47,66,[t5 inner rec d trig]⟩)],9000⟩) (SD [32] [(3,.rop (cd t))] ?_ ?_) ?_
 ·intro p hp;simp only [List.mem_cons,List.mem_nil_iff,or_false] at hp;subst hp;exact .ptr ab rfl rfl rfl (by rw [List.drop_zero,← K4];exact O7 _)
 ·simp [m6,c6,fv,lk,s7,AV.low,AV.low1];exact Wq _ _ _ _ _
 refine G7 ?_;simp [go_sem]
 have hts:List.map (fun c=>[c]) (List.take 32 (cd t))=t.map fun (b:Nat)=>[DV.int .u8 (b:Int)]:=by
  rw [List.take_of_length_le (by simp [C8,htl])];simp [cd]
 have hw:=YT inner rec d trig hi ht h1 h2;have p1:=VE t aa htb;have hs:=U3 (D2 t d) (ae4 d htl htb) (by simp [D2,F3]);have hcat:(D2 t d).map N6=N6 (B1 t) :: (F3 d).map N6:=rfl;have hWl:((F3 d).map N6).length=4:=rfl
 have hW2:∀ r,r ∈ N6 (B1 t) :: (F3 d).map N6→r.length=2:=by
  intro r hr;rw [← hcat] at hr;obtain ⟨w,_,rfl⟩:=List.mem_map.1 hr;rfl
 rw [hcat] at hs;generalize o4 (D2 t d)=Y at *;generalize (F3 d).map N6=WW at *;generalize B1 t=w at *;simp only [nb] at p1;refine B3 [0,3] [1,2,4,5,6] [0,3,7] (ah 1 (.alt (ah 2 (ah 4 (ah 5 (.step 6 [7] true .done)))) (ah 4 (ah 2 (ah 5 (.step 6 [7] true .done)))))) ⟨[(4,.d (nb Y))],[],20000⟩ (k:=8) ?h3 ?hq
 case h3 =>
  intro G hG
  have hW:∀ (fr:Fr) (hp:Hp),(fv 4 fr=.d (nb Y))→G fr hp:=by
   rintro fr hp q0;refine hG _ _ (G2 ⟨?_,ab,ab⟩);simp [c6,AV.low,AV.low1,q0]
  simp [go_sem,C8,htl,hts,hl,i9 hi ht];refine a9 p1 ae ?_;simp [go_sem,hl,i9 hi ht,SI];refine ⟨?_,?_⟩
  all_goals
   refine a9 hw (x4 _ _ _ _) ?_;simp [go_sem];refine ⟨aa,?_⟩;refine B2 [9064] hs rfl (m7 (.one (m8 (C4 (ty:=130) (e:=2) (es:=N6 w :: WW) (by simp [lk,N6]) ab (by simp;omega) hW2))) t4) ?_;simp [go_sem,s7];refine hW _ _ ?_;simp [fv,lk]
 case hq =>
  simp [go_sem,d6];exact b7 ae rfl
theorem U4 (rec:List Nat):bytes (o4 (D0 rec)):=UZ (fun w hw=>by
 have:=adg rec w hw;have hL:=Tv rec;refine ⟨this.2,this.1.2,?_⟩;simp [D0] at hw;rcases hw with rfl | rfl
 ·exact RE (UY rec)
 ·exact fun z hz=>by simp at hz)
theorem TW {trig:List Nat} (d:Int) (ht:trig.length=32) (hb:bytes trig):bytes (o4 (D8 trig d)):=UZ (fun w hw=>by
 have:=aaB d ht hb w hw;refine ⟨this.2,this.1.2,?_⟩;simp [D8] at hw;rcases hw with rfl | rfl | rfl | rfl | rfl
 ·exact RE hb
 ·exact fun z hz=>by simp at hz
 ·exact RE (TV d)
 all_goals exact fun z hz=>by simp at hz)
theorem YU {t:List Nat} (d:Int) (ht:t.length=32) (hb:bytes t):bytes (o4 (D2 t d)):=UZ (fun w hw=>by
 have:=ae4 d ht hb w hw;refine ⟨this.2,this.1.2,?_⟩;simp [D2,F3] at hw;rcases hw with rfl | rfl | rfl | rfl | rfl
 ·exact RE hb
 ·exact RE (L9 d)
 all_goals exact fun z hz=>by simp at hz)
theorem YV (inner rec:List Nat) (d:Int) (trig y:List Nat) (hi:inner.length=32) (hib:bytes inner) (ht:trig.length=32) (hrb:bytes rec) (hrl:rec.length≤100000) (hyb:bytes y) (hyl:y.length≤100000) (O:Lf→List Nat) (E:Lf→Int)
  (hE:∀ l,l ∈ Tc (A7 [o4 (D0 rec),y]) [o4 (D0 rec),y]→E l=0 ∨ E l=1)
  (hout:∀ l,l ∈ Tc (A7 [o4 (D0 rec),y]) [o4 (D0 rec),y]→d9 Tryz.prog 19 [.agg (n7 inner (.d (r6 l.1)) (.d (nb l.2)))] (fun r=>r=.tup [.d (nb (O l)),.d (.int .i64 (E l))])) :
  d9 Tryz.prog 65 [.agg (t5 inner rec d trig),.d (nb y)] (fun r=>r=if 0≤d∧d≤65535∧rec.length≤1000 then C6 inner [o4 (D0 rec),y] E else .tup [.nil,.d (.int .i64 1)]):=by
 refine s8 Tryz.func65 Tryz.ntmps65 (rs:=[.tmp 4,.tmp 5]) (by
  intro v hv;simp at hv;rcases hv with rfl | rfl
  ·exact Rt _ _ _ _
  ·trivial) ?_
 have hl:=x9 hi ht rec d;have g32:=Ut hi rec d trig;have g33:=Uu hi rec d trig;have e32:=Ur hi rec d trig;have e33:=Us hi rec d trig;have p1:=adh inner rec d trig hi ht hrl hrb
 have hpl:=aiR inner [o4 (D0 rec),y] hi hib (by
  intro x hx;simp at hx;rcases hx with rfl | rfl
  ·exact U4 rec
  ·exact hyb) (by
  intro x hx;simp at hx;rcases hx with rfl | rfl
  ·have:=Uw rec;omega
  ·omega) O E hE hout
 have hPV:=S5 inner [o4 (D0 rec),y] E;generalize C6 inner [o4 (D0 rec),y] E=PV at *;generalize o4 (D0 rec)=x at *;by_cases h1:d<0
 ·rw [if_neg aa];simp [go_sem,hl,i9 hi ht,e32,e33,g32,g33,h1,nb,d6];exact b7 ae rfl
 by_cases h2:65535<d
 ·rw [if_neg aa];simp [go_sem,hl,i9 hi ht,e32,e33,g32,g33,h1,h2,nb,d6];exact b7 ae rfl
 by_cases h3:1000<rec.length
 ·have i3:(1000:Int)<(rec.length:Int):=aa;rw [if_neg aa];simp [go_sem,hl,i9 hi ht,e32,e33,g32,g33,h1,h2,h3,i3,nb,d6];exact b7 ae rfl
 have i3:¬ (1000:Int)<(rec.length:Int):=aa;rw [if_pos aa];simp [go_sem,hl,i9 hi ht,e32,e33,g32,g33,h1,h2,h3,i3,nb];refine z6 [0,1,2,4] [(3,[]),(5,[]),(6,[7,8,9,10])] 3 (k:=11) ?_;intro G hG;simp [go_sem,hl,i9 hi ht,aaD hi];refine a9 p1 (x4 _ _ _ _) ?_;simp [go_sem,hl,i9 hi ht];refine B2 [704] hpl rfl (m7 (.deep (s6 _)) (m7 (.one (m8 (C4 (ty:=22) (e:=1) (es:=[x,y].map L8) (by simp [lk,L8,nb]) ab rfl (by simp [L8])))) t4)) ?_;rcases hPV with rfl | ⟨es,rfl⟩
 ·simp [go_sem,s7];refine hG _ _ ?_;clear hG G;simp [go_sem,d6];exact b7 ae rfl
 ·simp [go_sem,s7];refine hG _ _ ?_;clear hG G;simp [go_sem,d6];exact b7 ae rfl
theorem aaH (inner rec:List Nat) (d:Int) (trig:List Nat) (hi:inner.length=32) (hib:bytes inner) (ht:trig.length=32) (hb:bytes trig) (hrb:bytes rec) (hrl:rec.length≤100000) (h1:-9223372036854775808≤d) (h2:d<9223372036854775808) (O:Lf→List Nat) (E:Lf→Int)
  (hE:∀ l,l ∈ Tc (A7 [o4 (D0 rec),o4 (D8 trig d)]) [o4 (D0 rec),o4 (D8 trig d)]→E l=0 ∨ E l=1)
  (hout:∀ l,l ∈ Tc (A7 [o4 (D0 rec),o4 (D8 trig d)]) [o4 (D0 rec),o4 (D8 trig d)]→d9 Tryz.prog 19 [.agg (n7 inner (.d (r6 l.1)) (.d (nb l.2)))] (fun r=>r=.tup [.d (nb (O l)),.d (.int .i64 (E l))])) :
  d9 Tryz.prog 28 [.agg (t5 inner rec d trig)] (fun r=>r=P1 inner rec d trig E):=by
 refine s8 Tryz.func28 Tryz.ntmps28 (rs:=[.tmp 2,.tmp 3]) (x4 _ _ _ _) ?_;have hl:=x9 hi ht rec d;have g33:=Uu hi rec d trig;have e33:=Us hi rec d trig;have hpl:=YV inner rec d trig (o4 (D8 trig d)) hi hib ht hrb hrl (TW d ht hb) (by have:=Ux d ht;omega) O E hE hout;have p2:=ae3 inner rec d trig hi ht hb h1 h2
 have hPV:P1 inner rec d trig E=.tup [.nil,.d (.int .i64 1)] ∨ ∃ es,P1 inner rec d trig E=.tup [.d (.ro 34 es),.d (.int .i64 0)]:=by
  rcases T9 inner rec d trig E with h | ⟨_,_,_,h⟩
  ·exact .inl h
  ·exact .inr ⟨_,h⟩
 have hVd:(if 0≤d∧d≤65535∧rec.length≤1000 then C6 inner [o4 (D0 rec),o4 (D8 trig d)] E else .tup [.nil,.d (.int .i64 1)])=P1 inner rec d trig E:=rfl;rw [hVd] at hpl;have hbad:¬ (0≤d∧d≤65535)→P1 inner rec d trig E=.tup [.nil,.d (.int .i64 1)]:=fun h=>if_neg aa;generalize P1 inner rec d trig E=PV at *;generalize o4 (D8 trig d)=y at *;by_cases c1:d<0
 ·rw [hbad aa];simp [go_sem,hl,i9 hi ht,e33,g33,c1,nb,d6];exact b7 ae rfl
 by_cases c2:65535<d
 ·rw [hbad aa];simp [go_sem,hl,i9 hi ht,e33,g33,c1,c2,nb,d6];exact b7 ae rfl
 simp [go_sem,hl,i9 hi ht,e33,g33,c1,c2];refine z6 [0,1] [(2,[]),(3,[4,5,6,7])] 2 (k:=8) ?_;intro G hG;simp [go_sem,hl,i9 hi ht];refine a9 p2 (x4 _ _ _ _) ?_;simp [go_sem,hl,i9 hi ht]
 refine a9 hpl (by
  intro v hv;simp at hv;rcases hv with rfl | rfl
  ·exact Rt _ _ _ _
  ·trivial) ?_
 rcases hPV with rfl | ⟨es,rfl⟩
 ·simp [go_sem];refine hG _ _ ?_;clear hG G;simp [go_sem,d6];exact b7 ae rfl
 ·simp [go_sem];refine hG _ _ ?_;clear hG G;simp [go_sem,d6];exact b7 ae rfl
theorem aiV (inner rec:List Nat) (d:Int) (trig:List Nat) (hi:inner.length=32) (ht:trig.length=32) (V:AV) (hV:V=.tup [.nil,.d (.int .i64 1)] ∨ ∃ es,V=.tup [.d (.ro 34 es),.d (.int .i64 0)])
  (hp:d9 Tryz.prog 28 [.agg (t5 inner rec d trig)] (fun r=>r=V)) :
  d9 Tryz.prog 33 [.agg (t5 inner rec d trig)] (fun r=>r=erV V):=by
 refine s8 Tryz.func33 Tryz.ntmps33 (rs:=[.tmp 2]) (x4 _ _ _ _) ?_;have hl:=x9 hi ht rec d;rcases hV with rfl | ⟨es,rfl⟩
 ·simp [go_sem,hl,i9 hi ht];refine a9 hp (x4 _ _ _ _) ?_;simp [go_sem,d6];exact b7 ae rfl
 ·simp [go_sem,hl,i9 hi ht];refine a9 hp (x4 _ _ _ _) ?_;simp [go_sem,d6];exact b7 ae rfl
theorem YW (inner rec:List Nat) (d:Int) (trig t:List Nat) (hi:inner.length=32) (hib:bytes inner) (ht:trig.length=32) (htl:t.length=32) (htb:bytes t) (hrb:bytes rec) (hrl:rec.length≤100000) (h1:-9223372036854775808≤d) (h2:d<9223372036854775808) (V:AV) (hr:V=.tup [.nil,.d (.int .i64 1)] ∨ (0≤d∧d≤65535∧rec.length≤1000)∧∃ es,V=.tup [.d (.ro 34 es),.d (.int .i64 0)])
  (hp:d9 Tryz.prog 28 [.agg (t5 inner rec d trig)] (fun r=>r=V)) (O:Lf→List Nat) (E:Lf→Int)
  (hE:∀ l,l ∈ Tc (A7 [o4 (D0 rec),o4 (D2 t d)]) [o4 (D0 rec),o4 (D2 t d)]→E l=0 ∨ E l=1)
  (hout:∀ l,l ∈ Tc (A7 [o4 (D0 rec),o4 (D2 t d)]) [o4 (D0 rec),o4 (D2 t d)]→d9 Tryz.prog 19 [.agg (n7 inner (.d (r6 l.1)) (.d (nb l.2)))] (fun r=>r=.tup [.d (nb (O l)),.d (.int .i64 (E l))])) :
  d9 Tryz.prog 30 [.agg (t5 inner rec d trig),.agg (cb t)] (fun r=>r=if okV V then C6 inner [o4 (D0 rec),o4 (D2 t d)] E else .tup [.nil,.d (.int .i64 1)]):=by
 refine s8 Tryz.func30 Tryz.ntmps30 (rs:=[.tmp 4,.tmp 5]) (H3 _ _ _ _ _) ?_;have hl:=x9 hi ht rec d;have hc:=aiV inner rec d trig hi ht V (hr.imp id (fun h=>h.2)) hp;rcases hr with rfl | ⟨hok,es,rfl⟩
 ·simp [go_sem,hl,i9 hi ht,d0,htl,d5 htl];refine a9 hc (x4 _ _ _ _) ?_;simp [go_sem,erV,okV,d6];exact b7 ae rfl
 ·have hpl:=YV inner rec d trig (o4 (D2 t d)) hi hib ht hrb hrl (YU d htl htb) (by have:=Yz d htl;omega) O E hE hout;rw [if_pos hok] at hpl;have hwd:=aaG inner rec d trig t hi ht htl htb h1 h2;have hPV:=S5 inner [o4 (D0 rec),o4 (D2 t d)] E;generalize C6 inner [o4 (D0 rec),o4 (D2 t d)] E=PV at *;generalize o4 (D2 t d)=y at *;simp [go_sem,hl,i9 hi ht,d0,htl,d5 htl];refine a9 hc (x4 _ _ _ _) ?_;simp [go_sem,erV,okV];refine z6 [0,1,2] [(3,[]),(4,[5,6,7,8])] 2 (k:=9) ?_;intro G hG;simp [go_sem,hl,i9 hi ht,d0,htl,d5 htl];refine a9 hwd (H3 _ _ _ _ _) ?_;simp [go_sem,hl,i9 hi ht]
  refine a9 hpl (by
   intro v hv;simp at hv;rcases hv with rfl | rfl
   ·exact Rt _ _ _ _
   ·trivial) ?_
  rcases hPV with rfl | ⟨es,rfl⟩
  ·simp [go_sem];refine hG _ _ ?_;clear hG G;simp [go_sem,d6];exact b7 ae rfl
  ·simp [go_sem];refine hG _ _ ?_;clear hG G;simp [go_sem,d6];exact b7 ae rfl
end Go.Proofs.YtldccnbokbieiaaGreat
