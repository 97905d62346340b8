/-
 Part 16 of what the claim rests on.
-/
import Derived.Test.YtldccnbokbieiaaGreatM2
import Derived.Test.YtldccnbokbieiaaGreatM3
import Derived.Test.YtldccnbokbieiaaGreatM5
import Derived.Test.YtldccnbokbieiaaGreatM11
import Derived.Test.YtldccnbokbieiaaGreatM12
import Derived.Test.YtldccnbokbieiaaGreatM13
set_option linter.unusedVariables false
set_option linter.unusedSimpArgs false
set_option maxRecDepth 100000
set_option maxHeartbeats 16000000
namespace Go.Ec
open CR
section
variable {n:Nat} [NeZero n]
abbrev N3:=Nat × Nat × Nat
def B6 (p:Nat) (u v:N3):N3 :=
 pF (u.1*v.2.1+v.1*u.2.1) fun xy=>pF (u.2.1*v.2.2+v.2.1*u.2.2) fun yz=>pF (u.1*v.2.2+v.1*u.2.2) fun xz =>
 pF (u.2.1*v.2.1 % p) fun yy=>pF (u.2.2*v.2.2*21 % p) fun zz=>pF (u.1*v.1) fun xx =>
 pF (yy+(p - zz)) fun d=>pF (yy+zz) fun e =>
 pF ((xy*d+(p - 21*(yz*xz) % p)) % p) fun X=>pF ((e*d+63*(xx*xz)) % p) fun Y=>pF ((yz*e+3*(xx*xy)) % p) fun Z=>(X,Y,Z)
def CU (n:Nat) [NeZero n] (u:N3):vG n:=(Fin.ofNat n u.1,Fin.ofNat n u.2.1,Fin.ofNat n u.2.2)
theorem pS (a b:Nat):Fin.ofNat n (a+b)=Fin.ofNat n a+Fin.ofNat n b:=Fin.ext (by rw [Fin.val_add];show (a+b) % n=(a % n+b % n) % n;rw [← Nat.add_mod])
theorem uB (a b:Nat):Fin.ofNat n (a*b)=Fin.ofNat n a*Fin.ofNat n b:=Fin.ext (by rw [Fin.val_mul];show a*b % n=(a % n)*(b % n) % n;rw [← Nat.mul_mod])
theorem uC (a:Nat):Fin.ofNat n (a % n)=Fin.ofNat n a:=Fin.ext (by show a % n % n=a % n;rw [Nat.mod_mod])
theorem uD {a:Nat} (h:a≤n):Fin.ofNat n (n - a)=- Fin.ofNat n a:=by
 have e:Fin.ofNat n (n - a)+Fin.ofNat n a=0:=by
  rw [← pS,Nat.sub_add_cancel h]
  exact Fin.ext (by show n % n=0 % n;rw [Nat.mod_self,Nat.zero_mod])
 generalize Fin.ofNat n (n - a)=x at *
 generalize Fin.ofNat n a=y at *
 grobner
theorem DH (hp:0<n) (u v:N3):CU n (B6 n u v)=cz (CU n u) (CU n v):=by
 obtain ⟨a,b,c⟩:=u
 obtain ⟨d,e,f⟩:=v
 simp only [B6,iE,CU,cz,z7,yL,mg,yo,Aa,Gp]
 have l1:c*f*21 % n≤n:=Nat.le_of_lt (Nat.mod_lt _ hp)
 have l2:∀ z,z % n≤n:=fun z=>Nat.le_of_lt (Nat.mod_lt _ hp)
 have k21:Fin.ofNat n 21=(21:Fin n):=rfl
 have k63:Fin.ofNat n 63=(63:Fin n):=rfl
 have k3:Fin.ofNat n 3=(3:Fin n):=rfl
 refine Prod.ext ?_ (Prod.ext ?_ ?_)
 ·dsimp only
  simp only [uC,pS,uB,uD l1,uD (l2 _),k21]
  grobner
 ·dsimp only
  simp only [uC,pS,uB,uD l1,k21,k63]
  grobner
 ·dsimp only
  simp only [uC,pS,uB,k21,k3]
  grobner
def AM (f:Fd n) (t:vG n) (P:Pt n):Prop:=∃ k,k ≠ 0∧t=sc k (pr P)
theorem AN (f:Fd n) {s t:vG n} {P Q:Pt n} (hP:fC P) (hQ:fC Q) (hs:AM f s P) (ht:AM f t Q):AM f (cz s t) (sum f P Q):=by
 obtain ⟨k,hk,rfl⟩:=hs
 obtain ⟨l,hl,rfl⟩:=ht
 obtain ⟨m,hm,e⟩:=rK f hP hQ
 exact ⟨k*k*(l*l)*m,f.mul_ne (f.mul_ne (f.mul_ne hk hk) (f.mul_ne hl hl)) hm,by rw [Ab,e,Fp]⟩
def DI (p:Nat) (g:N3):Nat→Nat→N3→N3
 | 0,_,acc=>acc
 | j+1,k,acc=>bif (k / 2 ^ j % 2).beq 1 then DI p g j k (B6 p (B6 p acc acc) g) else DI p g j k (B6 p acc acc)
theorem qX (f:Fd n) (hp:0<n) {g:N3} {P:Pt n} (hP:fC P) (hg:AM f (CU n g) P) (k:Nat):∀ (j:Nat) (acc:N3),AM f (CU n acc) (mp f (k / 2 ^ j) P)→AM f (CU n (DI n g j k acc)) (mp f k P)
 | 0,acc,h=>by rw [Nat.pow_zero,Nat.div_one] at h;exact h
 | j+1,acc,h=>by
  have hd:k / 2 ^ j=2*(k / 2 ^ (j+1))+k / 2 ^ j % 2:=by rw [Nat.pow_succ,← Nat.div_div_eq_div_mul];omega
  have o1:=mr f hP (k / 2 ^ (j+1))
  have h2:AM f (CU n (B6 n acc acc)) (mp f (2*(k / 2 ^ (j+1))) P):=by
   rw [DH hp,vJ f hP]
   exact AN f o1 o1 h h
  rw [DI]
  cases hb:(k / 2 ^ j % 2).beq 1 with
  | true =>
   rw [cond_true]
   refine qX f hp hP hg k j _ ?_
   have h1:=Nat.eq_of_beq_eq_true hb
   rw [hd,h1,mp,DH hp]
   exact AN f (mr f hP _) hP h2 hg
  | false =>
   rw [cond_false]
   refine qX f hp hP hg k j _ ?_
   have h0:k / 2 ^ j % 2=0:=by
    have:=Nat.ne_of_beq_eq_false hb
    omega
   rw [hd,h0,Nat.add_zero]
   exact h2
theorem DJ (f:Fd n) {t:vG n} {P:Pt n} (h:AM f t P) (hz:t.2.2 ≠ 0):P ≠ none:=by
 rintro rfl
 obtain ⟨k,hk,rfl⟩:=h
 refine hz ?_
 show k*ic 0=0
 rw [z8]
 grobner
end
end Go.Ec
namespace Go.Sha
def EF {α:Type}:Nat→S8→List Nat→(S8→α)→α
 | 0,s,_,C=>C s
 | n+1,s,b,C=>EL s (b.take 64) fun s'=>EF n s' (b.drop 64) C
theorem I6 {α:Type}:∀ (n:Nat) (s:S8) (b:List Nat) (C:S8→α),b.length=64*n→EF n s b C=C (E s b).1
 | 0,s,b,C,h=>by rw [kU (by omega)];rfl
 | n+1,s,b,C,h=>by rw [EF,EM,I6 n _ _ C (by rw [List.length_drop];omega),← mO (by omega)]
theorem gM (b:List Nat) (n:Nat) (h:(Go.Proofs.YtldccnbokbieiaaGreat.lastOf b b.length).length=64*n):x9 (Go.Proofs.YtldccnbokbieiaaGreat.lastOf b b.length) (fun l=>EF n H0 l wr)=dU b:=by
 rw [rB,I6 n _ _ _ h,zR b.length b.length H0 b (Nat.le_refl _)]
 rfl
def Mn:List Nat:=(53 :: 61 :: 94 :: 253 :: 190 :: 113 :: 247 :: 57 :: 66 :: 161 :: 185 :: 17 :: 45 :: 254 :: 199 :: 124 :: 103 :: 226 :: 249 :: 163 :: 120 :: 195 :: 190 :: 87 :: 55 :: 214 :: 250 :: 73 :: 198 :: 85 :: 133 :: 208 :: [])
def Mp:List Nat:=(86 :: 97 :: 117 :: 108 :: 116 :: 82 :: 101 :: 99 :: 111 :: 118 :: 101 :: 114 :: 121 :: [])
theorem JM:dU (Mp)=Mn:=by
 rw [← gM (Mp) 1 (by kernel_rfl)]
 kernel_rfl
def zy:List Nat:=(174 :: 234 :: 143 :: 220 :: 66 :: 8 :: 152 :: 49 :: 5 :: 115 :: 75 :: 88 :: 8 :: 29 :: 30 :: 38 :: 56 :: 211 :: 95 :: 28 :: 181 :: 64 :: 8 :: 212 :: 211 :: 87 :: 202 :: 3 :: 190 :: 120 :: 233 :: 238 :: [])
def Mq:List Nat:=(84 :: 97 :: 112 :: 76 :: 101 :: 97 :: 102 :: [])
theorem JN:dU (Mq)=zy:=by
 rw [← gM (Mq) 1 (by kernel_rfl)]
 kernel_rfl
def GN:List Nat:=(25 :: 65 :: 161 :: 242 :: 229 :: 110 :: 185 :: 95 :: 162 :: 169 :: 241 :: 148 :: 190 :: 92 :: 1 :: 247 :: 33 :: 111 :: 51 :: 237 :: 130 :: 176 :: 145 :: 70 :: 52 :: 144 :: 208 :: 91 :: 245 :: 22 :: 160 :: 21 :: [])
def Mr:List Nat:=(84 :: 97 :: 112 :: 66 :: 114 :: 97 :: 110 :: 99 :: 104 :: [])
theorem DK:dU (Mr)=GN:=by
 rw [← gM (Mr) 1 (by kernel_rfl)]
 kernel_rfl
def GO:List Nat:=(232 :: 15 :: 225 :: 99 :: 156 :: 156 :: 160 :: 80 :: 227 :: 175 :: 27 :: 57 :: 193 :: 67 :: 198 :: 62 :: 66 :: 156 :: 188 :: 235 :: 21 :: 217 :: 64 :: 251 :: 181 :: 197 :: 161 :: 244 :: 175 :: 87 :: 197 :: 233 :: [])
def Ms:List Nat:=(84 :: 97 :: 112 :: 84 :: 119 :: 101 :: 97 :: 107 :: [])
theorem DL:dU (Ms)=GO:=by
 rw [← gM (Ms) 1 (by kernel_rfl)]
 kernel_rfl
def QH:List Nat:=(189 :: 152 :: 121 :: 193 :: 58 :: 236 :: 75 :: 153 :: 122 :: 243 :: 17 :: 30 :: 133 :: 43 :: 55 :: 145 :: 168 :: 204 :: 221 :: 212 :: 128 :: 76 :: 17 :: 134 :: 159 :: 142 :: 251 :: 34 :: 161 :: 5 :: 209 :: 59 :: [])
theorem JO:dU (Mn ++ (Mn ++ (0 :: [])))=QH:=by
 rw [← gM (Mn ++ (Mn ++ (0 :: []))) 2 (by kernel_rfl)]
 kernel_rfl
def L7:List Nat:=(32 :: 189 :: 152 :: 121 :: 193 :: 58 :: 236 :: 75 :: 153 :: 122 :: 243 :: 17 :: 30 :: 133 :: 43 :: 55 :: 145 :: 168 :: 204 :: 221 :: 212 :: 128 :: 76 :: 17 :: 134 :: 159 :: 142 :: 251 :: 34 :: 161 :: 5 :: 209 :: 59 :: 188 :: [])
def DM:List Nat:=(32 :: 0 :: 0 :: 0 :: 0 :: 0 :: 0 :: 0 :: 0 :: 0 :: 0 :: 0 :: 0 :: 0 :: 0 :: 0 :: 0 :: 0 :: 0 :: 0 :: 0 :: 0 :: 0 :: 0 :: 0 :: 0 :: 0 :: 0 :: 0 :: 0 :: 0 :: 0 :: 0 :: 173 :: 4 :: 83 :: 178 :: 117 :: 179 :: 81 :: 187 :: [])
def sr:List Nat:=(32 :: 9 :: 0 :: 0 :: 0 :: 0 :: 0 :: 0 :: 0 :: 0 :: 0 :: 0 :: 0 :: 0 :: 0 :: 0 :: 0 :: 0 :: 0 :: 0 :: 0 :: 0 :: 0 :: 0 :: 0 :: 0 :: 0 :: 0 :: 0 :: 0 :: 0 :: 0 :: 0 :: 83 :: 178 :: 117 :: 179 :: [])
def bG:List Nat:=(121 :: 190 :: 102 :: 126 :: 249 :: 220 :: 187 :: 172 :: 85 :: 160 :: 98 :: 149 :: 206 :: 135 :: 11 :: 7 :: 2 :: 155 :: 252 :: 219 :: 45 :: 206 :: 40 :: 217 :: 89 :: 242 :: 129 :: 91 :: 22 :: 248 :: 23 :: 152 :: [])
def dX:List Nat:=(251 :: 255 :: 171 :: 80 :: 118 :: 245 :: 250 :: 144 :: 87 :: 15 :: 24 :: 166 :: 210 :: 84 :: 52 :: 117 :: 148 :: 127 :: 52 :: 144 :: 68 :: 199 :: 31 :: 12 :: 209 :: 106 :: 209 :: 21 :: 214 :: 95 :: 92 :: 182 :: [])
theorem Mt:dU (zy ++ (zy ++ (192 :: 34 :: L7)))=dX:=by
 rw [← gM (zy ++ (zy ++ (192 :: 34 :: L7))) 2 (by kernel_rfl)]
 kernel_rfl
def GP:List Nat:=(19 :: 6 :: 206 :: 238 :: 128 :: 236 :: 162 :: 250 :: 80 :: 202 :: 182 :: 106 :: 0 :: 179 :: 158 :: 213 :: 127 :: 57 :: 234 :: 176 :: 91 :: 142 :: 57 :: 191 :: 101 :: 17 :: 44 :: 135 :: 204 :: 198 :: 249 :: 4 :: [])
theorem JP:dU (zy ++ (zy ++ (192 :: 41 :: DM)))=GP:=by
 rw [← gM (zy ++ (zy ++ (192 :: 41 :: DM))) 2 (by kernel_rfl)]
 kernel_rfl
def GQ:List Nat:=(171 :: 174 :: 215 :: 172 :: 224 :: 121 :: 165 :: 87 :: 203 :: 160 :: 248 :: 177 :: 70 :: 224 :: 77 :: 193 :: 3 :: 205 :: 50 :: 173 :: 167 :: 234 :: 209 :: 141 :: 7 :: 74 :: 140 :: 29 :: 143 :: 83 :: 189 :: 46 :: [])
theorem JQ:dU (zy ++ (zy ++ (192 :: 37 :: sr)))=GQ:=by
 rw [← gM (zy ++ (zy ++ (192 :: 37 :: sr))) 2 (by kernel_rfl)]
 kernel_rfl
def Mu:List Nat:=(89 :: 211 :: 248 :: 89 :: 95 :: 4 :: 123 :: 31 :: 133 :: 170 :: 29 :: 17 :: 173 :: 17 :: 123 :: 176 :: 22 :: 143 :: 236 :: 70 :: 146 :: 10 :: 251 :: 25 :: 227 :: 240 :: 180 :: 5 :: 62 :: 146 :: 169 :: 246 :: [])
theorem JR:dU (GN ++ (GN ++ (GP ++ dX)))=Mu:=by
 rw [← gM (GN ++ (GN ++ (GP ++ dX))) 3 (by kernel_rfl)]
 kernel_rfl
def Pa:List Nat:=(20 :: 212 :: 211 :: 23 :: 126 :: 240 :: 124 :: 59 :: 195 :: 144 :: 104 :: 231 :: 190 :: 253 :: 191 :: 133 :: 168 :: 75 :: 233 :: 181 :: 62 :: 195 :: 202 :: 75 :: 34 :: 216 :: 7 :: 68 :: 160 :: 102 :: 148 :: 182 :: [])
theorem JS:dU (GO ++ (GO ++ (bG ++ Mu)))=Pa:=by
 rw [← gM (GO ++ (GO ++ (bG ++ Mu))) 3 (by kernel_rfl)]
 kernel_rfl
def Mv:List Nat:=(143 :: 143 :: 109 :: 45 :: 225 :: 67 :: 67 :: 97 :: 216 :: 90 :: 193 :: 220 :: 57 :: 140 :: 111 :: 162 :: 227 :: 169 :: 253 :: 128 :: 179 :: 169 :: 249 :: 191 :: 164 :: 187 :: 92 :: 79 :: 147 :: 129 :: 79 :: 95 :: [])
theorem JT:dU (GN ++ (GN ++ (GQ ++ dX)))=Mv:=by
 rw [← gM (GN ++ (GN ++ (GQ ++ dX))) 3 (by kernel_rfl)]
 kernel_rfl
def Pb:List Nat:=(9 :: 214 :: 53 :: 3 :: 89 :: 7 :: 10 :: 110 :: 242 :: 225 :: 59 :: 183 :: 117 :: 47 :: 204 :: 209 :: 59 :: 63 :: 101 :: 133 :: 12 :: 199 :: 183 :: 84 :: 40 :: 106 :: 18 :: 30 :: 18 :: 189 :: 131 :: 84 :: [])
theorem JU:dU (GO ++ (GO ++ (bG ++ Mv)))=Pb:=by
 rw [← gM (GO ++ (GO ++ (bG ++ Mv))) 3 (by kernel_rfl)]
 kernel_rfl
end Go.Sha
namespace Go.Proofs.YtldccnbokbieiaaGreat
open Go.Am Go.Sha
def ou:Nat→Nat→List Nat
 | 0,_=>[]
 | k+1,m=>if m=0 then [] else m % 256 :: ou k (m / 256)
theorem lG:∀ (k m:Nat),bytes (ou k m)
 | 0,_=>fun x h=>by simp [ou] at h
 | k+1,m=>by
  rw [ou]
  split
  ·exact fun x h=>by simp at h
  ·intro x h
   rcases List.mem_cons.1 h with rfl | h
   ·omega
   ·exact lG k _ x h
theorem AO:∀ (k m:Nat),(ou k m).length≤k
 | 0,_=>by simp [ou]
 | k+1,m=>by
  rw [ou]
  split
  ·simp
  ·have:=AO k (m / 256)
   simp;omega
theorem GR {k m:Nat} (hk:0<k) (h:ou k m=[]):m=0:=by
 cases k with
 | zero=>omega
 | succ k =>
  rw [ou] at h
  split at h
  ·assumption
  ·simp at h
def dM (neg:Bool) (a:List Nat) (x:Nat):List Nat :=
 if 128≤x then (if neg then a ++ [x,128] else a ++ [x,0]) else (if neg then a ++ [x+128] else a ++ [x])
def zA (neg:Bool) (b:List Nat):List Nat:=match b.reverse with
 | []=>[]
 | x :: r=>dM neg r.reverse x
def ja (n:Int):List Nat:=zA (decide (n<0)) (ou 8 n.natAbs)
theorem lH (neg:Bool) (a:List Nat) (x:Nat):zA neg (a ++ [x])=dM neg a x:=by simp [zA]
theorem jR (b:List Nat):b=[] ∨ ∃ a x,b=a ++ [x]:=by
 rcases h:b.reverse with _ | ⟨x,r⟩
 ·exact .inl (by simpa using h)
 ·exact .inr ⟨r.reverse,x,by rw [← List.reverse_reverse b,h,List.reverse_cons]⟩
theorem iA (n:Int):bytes (ja n):=by
 unfold ja
 rcases jR (ou 8 n.natAbs) with h | ⟨a,x,h⟩
 ·rw [h];exact fun x hx=>by simp [zA] at hx
 ·have hb:=lG 8 n.natAbs
  rw [h] at hb ⊢
  rw [lH]
  have hx:=hb x (by simp)
  have ha:bytes a:=fun z hz=>hb z (by simp [hz])
  unfold dM
  intro z hz
  split at hz <;> split at hz <;> simp at hz
  all_goals
   rcases hz with h | h
   ·exact ha z h
   ·omega
theorem kN (n:Int):(ja n).length≤9:=by
 unfold ja
 have hl:=AO 8 n.natAbs
 rcases jR (ou 8 n.natAbs) with h | ⟨a,x,h⟩
 ·rw [h];simp [zA]
 ·rw [h] at hl ⊢
  rw [lH]
  unfold dM
  simp at hl
  split <;> split <;> simp <;> omega
theorem JW:∀ x:Nat,x<256→bits .and .u8 (x:Int) 128=if 128≤x then 128 else 0:=by decide +kernel
theorem Mw:∀ x:Nat,x<128→bits .or .u8 (x:Int) 128=((x+128:Nat):Int):=by decide +kernel
theorem JX (n:Int) (h1:-9223372036854775808≤n) (h2:n<9223372036854775808):aq Tryz.prog 81 [.d (.int .i64 n)] (fun r=>r=.d (nb (ja n))):=by
  refine aS Tryz.func81 Tryz.ntmps81 (rs:=[.tmp 2]) (by simp [AV.deep,AV.deep1]) ?_
  have hM:n.natAbs<18446744073709551616:=by omega
  simp [go_sem]
  have hpw:(256:Nat) ^ 8=18446744073709551616:=by decide
  have fU:∀ x:Int,IntKind.u64.wrap x=x % 18446744073709551616:=fun x=>by simp [IntKind.wrap,IntKind.bits,IntKind.signed]
  have wA:n<0→IntKind.u64.wrap (-IntKind.u64.wrap n)=(n.natAbs:Int):=fun h=>by rw [fU,fU];omega
  have wB:0≤n→IntKind.u64.wrap n=(n.natAbs:Int):=fun h=>by rw [fU];omega
  have fd:∀ m:Nat,Int.fdiv (m:Int) 256=((m / 256:Nat):Int):=fun m=>by rw [Int.fdiv_eq_ediv_of_nonneg _ (by decide)];omega
  have leF0:∀ k,ou k 0=[]:=fun k=>by cases k <;> simp [ou]
  have hnn:ja n=zA (decide (n<0)) (ou 8 n.natAbs):=rfl
  refine ⟨fun hneg=>?_,fun hneg=>?_⟩
  all_goals
    refine au (fun t:Nat × List Nat × Nat=>⟨[(3,.d (.bool (decide (n<0)))),(4,.d (.int .u64 (t.2.2:Int))),(5,.own 5000 0 t.2.1.length t.2.1.length)],[(5000,⟨5,1,rb t.2.1⟩)],6000⟩)
      (fun t=>t.2.2<256 ^ t.1∧t.1≤8∧t.2.1.length+t.1≤8∧t.2.1 ++ ou t.1 t.2.2=ou 8 n.natAbs) (fun t=>t.1) (8,[],n.natAbs) ⟨by rw [hpw];exact hM,by simp,by simp,rfl⟩ (by
        first
          | (have w:=wA hneg
             simp [av,ag,fv,lk,AV.low,AV.low1,w,rb])
          | (have w:=wB hneg
             simp [av,ag,fv,lk,AV.low,AV.low1,w,rb])) ?_
    rintro ⟨k,b,m⟩ ⟨p1,p2,p4,p3⟩
    simp only at p1 p2 p3 p4
    simp only
    simp [go_sem]
    refine ⟨fun hm=>?_,fun hm=>?_⟩
    · match k,p1,p2,p3,p4 with
      | 0,p1,_,_,_=>simp at p1;omega
      | k+1,p1,p2,p3,p4 =>
        refine ⟨aC b,by omega,?_⟩
        rw [ou,if_neg (by omega)] at p3
        rw [Nat.pow_succ] at p1
        have hd:m / 256<256 ^ k:=Nat.div_lt_of_lt_mul (by omega)
        have w8:IntKind.u8.wrap (m:Int)=((m % 256:Nat):Int):=by rw [AW];omega
        refine ai (k,b ++ [m % 256],m / 256) ⟨hd,by show k≤8;omega,by simp;omega,by rw [← p3];simp⟩ (by show k<k+1;omega) ⟨?_,?_,by simp⟩
        · simp [ag,fv,lk,AV.low,AV.low1,fd]
        · intro p hp
          simp only [List.mem_cons,List.mem_nil_iff,or_false] at hp
          subst hp
          exact ⟨.inl (by rw [w8];simp [lk,rb]),by show 5000<6000;omega,aV _ _⟩
    · subst hm
      rw [leF0,List.append_nil] at p3
      subst p3
      rw [hnn]
      have hbb:=lG 8 n.natAbs
      generalize ou 8 n.natAbs=b at *
      refine ⟨fun hb=>?_,fun hb=>?_⟩
      · subst hb
        exact ca (aw (aM rfl rfl trivial)) trivial rfl
      · rcases jR b with h | ⟨a,x,rfl⟩
        · exact absurd h hb
        rw [lH]
        have wl:IntKind.i64.wrap (((a ++ [x]).length:Int) - 1)=(a.length:Int):=by
          have hal:(a ++ [x]).length=a.length+1:=by simp
          rw [hal] at p4 ⊢
          rw [IntWalk.i64_in _ (by omega)];omega
        have hx:x<256:=hbb x (by simp)
        have hrow:(rb (a ++ [x]))[a.length]?=some [.d (.int .u8 (x:Int))]:=by simp [rb]
        have hrowg:∀ h,(rb (a ++ [x]))[a.length]'h=[.d (.int .u8 (x:Int))]:=fun h=>by rw [List.getElem?_eq_getElem h] at hrow;exact Option.some.inj hrow
        have hal:a.length≤7:=by simp at p4;omega
        have w1:IntKind.i64.wrap ((a.length:Int)+1)=((a.length+1:Nat):Int):=by rw [IntWalk.i64_in _ (by omega)];omega
        have w2:IntKind.i64.wrap (a.length:Int)=(a.length:Int):=IntWalk.i64_in _ (by omega)
        have R1:(rb (a ++ [x]) ++ [[AV.d (.int .u8 0)]])[a.length+1]?=some [.d (.int .u8 0)]:=by simp [rb]
        have R1g:∀ h,(rb (a ++ [x]) ++ [[AV.d (.int .u8 0)]])[a.length+1]'h=[.d (.int .u8 0)]:=fun h=>by rw [List.getElem?_eq_getElem h] at R1;exact Option.some.inj R1
        have S1:(rb (a ++ [x]) ++ [[AV.d (.int .u8 0)]]).set (a.length+1) [.d (.int .u8 128)]=rb (a ++ [x,128]):=by
          have:rb (a ++ [x])=rb a ++ [[.d (.int .u8 (x:Int))]]:=(ee a x).symm
          rw [this,List.append_assoc,List.set_append_right _ _ (by rw [aC];omega),aC,show a.length+1 - a.length=1 by omega]
          simp [rb]
        have o0:bits .or .u8 0 128=128:=by decide
        have S2:∀ y:Nat,(rb (a ++ [x])).set a.length [.d (.int .u8 (y:Int))]=rb (a ++ [y]):=fun y=>by
          have:rb (a ++ [x])=rb a ++ [[.d (.int .u8 (x:Int))]]:=(ee a x).symm
          rw [this,List.set_append_right _ _ (by rw [aC];omega),aC,Nat.sub_self]
          simp [rb]
        have hA:=JW x hx
        rw [wl]
        by_cases h128:128≤x
        · rw [if_pos h128] at hA
          simp [go_sem,hrow,hrowg,aC,hA]
          by_cases hs:n<0
          · simp [go_sem,hs,aC,w1,R1,R1g,o0,S1]
            repeat' apply And.intro
            all_goals first
              | omega
              | exact fun h=>absurd hs (by omega)
              | exact ca (aw (aM (L:=dM true a x) (by simp [dM,h128]) (by simp [lk,dM,h128,rb]) trivial)) trivial rfl
              | exact fun _=>ca (aw (aM (L:=dM true a x) (by simp [dM,h128]) (by simp [lk,dM,h128,rb]) trivial)) trivial rfl
          · simp [go_sem,hs]
            repeat' apply And.intro
            all_goals first
              | omega
              | exact fun h=>absurd hs (by omega)
              | exact ca (aw (aM (L:=dM false a x) (by simp [dM,h128]) (by simp [lk,dM,h128,rb]) trivial)) trivial rfl
              | exact fun _=>ca (aw (aM (L:=dM false a x) (by simp [dM,h128]) (by simp [lk,dM,h128,rb]) trivial)) trivial rfl
        · rw [if_neg h128] at hA
          have hO:=Mw x (by omega)
          simp [go_sem,hrow,hrowg,aC,hA]
          by_cases hs:n<0
          · simp [go_sem,hs,aC,w2,hrowg,hO,S2,-Int.natCast_add]
            repeat' apply And.intro
            all_goals first
              | omega
              | exact fun h=>absurd hs (by omega)
              | exact ca (aw (aM (L:=dM true a x) (by simp [dM,h128]) (by simp [lk,dM,h128,rb]) trivial)) trivial rfl
              | exact fun _=>ca (aw (aM (L:=dM true a x) (by simp [dM,h128]) (by simp [lk,dM,h128,rb]) trivial)) trivial rfl
          · simp [go_sem,hs]
            repeat' apply And.intro
            all_goals first
              | omega
              | exact fun h=>absurd hs (by omega)
              | exact ca (aw (aM (L:=dM false a x) (by simp [dM,h128]) (by simp [lk,dM,h128,rb]) trivial)) trivial rfl
              | exact fun _=>ca (aw (aM (L:=dM false a x) (by simp [dM,h128]) (by simp [lk,dM,h128,rb]) trivial)) trivial rfl
theorem Mx {σ:Int} (h:σ=1 ∨ σ=-1) (M:Nat):(σ*(M:Int)).tmod 256=σ*((M % 256:Nat):Int)∧(σ*(M:Int)).tdiv 256=σ*((M / 256:Nat):Int):=by
 have e1:((M:Int)).tmod 256=((M % 256:Nat):Int):=by rw [Int.tmod_eq_emod_of_nonneg (by omega)];omega
 have e2:((M:Int)).tdiv 256=((M / 256:Nat):Int):=by rw [Int.tdiv_eq_ediv_of_nonneg (by omega)];omega
 rcases h with rfl | rfl
 ·rw [Int.one_mul,Int.one_mul,Int.one_mul];exact ⟨e1,e2⟩
 ·rw [Int.neg_one_mul,Int.neg_one_mul,Int.neg_one_mul,Int.neg_tmod,Int.neg_tdiv,e1,e2];exact ⟨rfl,rfl⟩
theorem GS (n:Int) (h1:-9223372036854775808≤n) (h2:n<9223372036854775808):aq Tryz.prog 83 [.d (.int .i64 n)] (fun r=>r=.d (nb (ja n))):=by
 refine aS Tryz.func83 Tryz.ntmps83 (rs:=[.tmp 2]) (by simp [AV.deep,AV.deep1]) ?_
 have hM:n.natAbs<18446744073709551616:=by omega
 have hpw:(256:Nat) ^ 8=18446744073709551616:=by decide
 have leF0:∀ k,ou k 0=[]:=fun k=>by cases k <;> simp [ou]
 have hnn:ja n=zA (decide (n<0)) (ou 8 n.natAbs):=rfl
 obtain ⟨σ,hσ,hnσ,hlt⟩:∃ σ:Int,(σ=1 ∨ σ=-1)∧n=σ*(n.natAbs:Int)∧(n<0→σ=-1):=by
  by_cases h:n<0
  ·exact ⟨-1,.inr rfl,by omega,fun _=>rfl⟩
  ·exact ⟨1,.inl rfl,by omega,fun h'=>absurd h' h⟩
 have hs0:n=0→n.natAbs=0:=by omega
 simp [go_sem]
 refine au (fun t:Nat × List Nat × Nat=>⟨[(0,.d (.int .i64 n)),(3,.own 32 0 t.2.1.length t.2.1.length),(4,.d (.int .i64 (σ*(t.2.2:Int))))],[(32,⟨5,1,rb t.2.1⟩)],6000⟩)
   (fun t=>t.2.2<256 ^ t.1∧t.1≤8∧t.2.2≤n.natAbs∧t.2.1.length+t.1≤8∧t.2.1 ++ ou t.1 t.2.2=ou 8 n.natAbs) (fun t=>t.1) (8,[],n.natAbs) ⟨by rw [hpw];exact hM,by simp,Nat.le_refl _,by simp,rfl⟩ (by
    refine ⟨?_,?_,by simp⟩
    ·simp [ag,fv,lk,AV.low,AV.low1]
     exact hnσ.symm
    ·intro p hp
     simp only [List.mem_cons,List.mem_nil_iff,or_false] at hp
     subst hp
     exact ⟨.inl (by simp [lk,rb]),by show 32<6000;omega,aV _ _⟩) ?_
 rintro ⟨k,b,m⟩ ⟨p1,p2,p5,p4,p3⟩
 simp only at p1 p2 p3 p4 p5
 simp only
 have tm:=Mx hσ m
 have hz:(σ*(m:Int)=0)=(m=0):=by
  rcases hσ with rfl | rfl <;> (apply propext;constructor <;> intro h <;> omega)
 have hq1:m / 256≤36028797018963968:=by omega
 have hd1:m % 256<256:=by omega
 have hkk:∀ k',k=k'+1→m / 256<256 ^ k':=fun k' e=>by
  subst e
  rw [Nat.pow_succ] at p1
  exact Nat.div_lt_of_lt_mul (by omega)
 have hle:∀ k',k=k'+1→m ≠ 0→ou k m=m % 256 :: ou k' (m / 256):=fun k' e h=>by
  subst e
  rw [ou,if_neg h]
 have hmq:m / 256≤n.natAbs:=by omega
 generalize m / 256=q at *
 generalize m % 256=d at *
 have wq:IntKind.i64.wrap (σ*(q:Int))=σ*(q:Int):=by
  rcases hσ with rfl | rfl <;> rw [IntWalk.i64_in _ (by omega)]
 have w8:IntKind.u8.wrap (d:Int)=(d:Int):=by rw [AW];omega
 by_cases hm:m=0
 ·have hz':σ*(m:Int)=0:=by rw [hm];simp
  rw [hm,leF0,List.append_nil] at p3
  have hbb:=lG 8 n.natAbs
  have hnil:=@GR 8 n.natAbs (by omega)
  rw [← p3] at hnn hbb hnil
  rw [hnn]
  rcases jR b with h | ⟨a,x,rfl⟩
  ·have hn0:=hnil h
   have hn1:n=0:=by omega
   subst h
   simp [go_sem,hz',hn1]
   exact ca (aw (aM rfl rfl trivial)) trivial rfl
  ·rw [lH]
   have hal:a.length≤7:=by simp at p4;omega
   have hx:x<256:=hbb x (by simp)
   have hrow:(rb (a ++ [x]))[a.length]?=some [.d (.int .u8 (x:Int))]:=by simp [rb]
   have hrowg:∀ h,(rb (a ++ [x]))[a.length]'h=[.d (.int .u8 (x:Int))]:=fun h=>by rw [List.getElem?_eq_getElem h] at hrow;exact Option.some.inj hrow
   have w1:IntKind.i64.wrap ((a.length:Int)+1)=((a.length+1:Nat):Int):=by rw [IntWalk.i64_in _ (by omega)];omega
   have w2:IntKind.i64.wrap (a.length:Int)=(a.length:Int):=IntWalk.i64_in _ (by omega)
   have R1:(rb (a ++ [x]) ++ [[AV.d (.int .u8 0)]])[a.length+1]?=some [.d (.int .u8 0)]:=by simp [rb]
   have R1g:∀ h,(rb (a ++ [x]) ++ [[AV.d (.int .u8 0)]])[a.length+1]'h=[.d (.int .u8 0)]:=fun h=>by rw [List.getElem?_eq_getElem h] at R1;exact Option.some.inj R1
   have S1:(rb (a ++ [x]) ++ [[AV.d (.int .u8 0)]]).set (a.length+1) [.d (.int .u8 128)]=rb (a ++ [x,128]):=by
    have:rb (a ++ [x])=rb a ++ [[.d (.int .u8 (x:Int))]]:=(ee a x).symm
    rw [this,List.append_assoc,List.set_append_right _ _ (by rw [aC];omega),aC,show a.length+1 - a.length=1 by omega]
    simp [rb]
   have S2:∀ y:Nat,(rb (a ++ [x])).set a.length [.d (.int .u8 (y:Int))]=rb (a ++ [y]):=fun y=>by
    have:rb (a ++ [x])=rb a ++ [[.d (.int .u8 (x:Int))]]:=(ee a x).symm
    rw [this,List.set_append_right _ _ (by rw [aC];omega),aC,Nat.sub_self]
    simp [rb]
   have o0:IntKind.u8.wrap 128=128:=by decide
   by_cases h128:128≤x
   ·have h128':(128:Int)≤(x:Int):=by omega
    by_cases hs:n<0
    ·simp [go_sem,hz',hrow,hrowg,aC,h128,h128',hs,w1,w2,R1,R1g,o0,S1]
     repeat' apply And.intro
     all_goals first
      | omega
      | exact ca (aw (aM (L:=dM true a x) (by simp [dM,h128]) (by simp [lk,dM,h128,rb]) trivial)) trivial rfl
    ·simp [go_sem,hz',hrow,hrowg,aC,h128,h128',hs,w1,w2,R1,R1g,o0,S1]
     repeat' apply And.intro
     all_goals first
      | omega
      | exact ca (aw (aM (L:=dM false a x) (by simp [dM,h128]) (by simp [lk,dM,h128,rb]) trivial)) trivial rfl
   ·have h128':¬ (128:Int)≤(x:Int):=by omega
    have w4:IntKind.i64.wrap (((a.length+1:Nat):Int) - 1)=(a.length:Int):=by rw [IntWalk.i64_in _ (by omega)];omega
    have w3:IntKind.u8.wrap ((x:Int)+128)=((x+128:Nat):Int):=by rw [AW];omega
    by_cases hs:n<0
    ·simp [go_sem,hz',hrow,hrowg,aC,h128,h128',hs,w1,w2,w3,w4,S2,-Int.natCast_add]
     repeat' apply And.intro
     all_goals first
      | omega
      | exact ca (aw (aM (L:=dM true a x) (by simp [dM,h128]) (by simp [lk,dM,h128,rb]) trivial)) trivial rfl
    ·simp [go_sem,hz',hrow,hrowg,aC,h128,h128',hs,w1,w2,w3,w4,S2,-Int.natCast_add]
     repeat' apply And.intro
     all_goals first
      | omega
      | exact ca (aw (aM (L:=dM false a x) (by simp [dM,h128]) (by simp [lk,dM,h128,rb]) trivial)) trivial rfl
 simp [go_sem,tm.1,tm.2,hz,wq,hm]
 ·match k,p1,p2,p4,p3,hkk,hle with
  | 0,p1,_,_,_,_,_=>simp at p1;omega
  | k+1,p1,p2,p4,p3,hkk,hle =>
   have hdq:=hkk k rfl
   rw [hle k rfl hm] at p3
   refine ⟨fun hs=>?_,fun hs=>?_⟩
   ·have wd:IntKind.i64.wrap (-(σ*(d:Int)))=(d:Int):=by
     rcases hσ with rfl | rfl
     ·omega
     ·rw [IntWalk.i64_in _ (by omega)];omega
    refine ⟨aC b,by omega,?_⟩
    refine ai (k,b ++ [d],q) ⟨hdq,by show k≤8;omega,hmq,by simp;omega,by rw [← p3];simp⟩ (by show k<k+1;omega) ⟨?_,?_,by simp⟩
    ·simp [ag,fv,lk,AV.low,AV.low1]
    ·intro p hp
     simp only [List.mem_cons,List.mem_nil_iff,or_false] at hp
     subst hp
     exact ⟨.inl (by rw [wd,w8];simp [lk,rb]),by show 32<6000;omega,aV _ _⟩
   ·have wd:σ*(d:Int)=(d:Int):=by
     rcases hσ with rfl | rfl <;> omega
    refine ⟨aC b,by omega,?_⟩
    refine ai (k,b ++ [d],q) ⟨hdq,by show k≤8;omega,hmq,by simp;omega,by rw [← p3];simp⟩ (by show k<k+1;omega) ⟨?_,?_,by simp⟩
    ·simp [ag,fv,lk,AV.low,AV.low1]
    ·intro p hp
     simp only [List.mem_cons,List.mem_nil_iff,or_false] at hp
     subst hp
     exact ⟨.inl (by rw [wd,w8];simp [lk,rb]),by show 32<6000;omega,aV _ _⟩
theorem xB:∀ (ws:List Wd) (out:List Nat),(∀ w,w ∈ ws→(dj w).2=true)→pA out ws=(out ++ az ws,0)
 | [],out,_=>by simp [pA,az]
 | w :: r,out,h=>by
  have hw:=h w (by simp)
  rw [pA,if_pos hw,xB r _ (fun v hv=>h v (by simp [hv])),← uh hw]
  simp [az]
theorem uE {n:Nat} (h1:n=0 ∨ 77<n):(dj (n,[])).2=true:=by
 unfold dj
 rw [if_neg (by simp;omega),if_neg (by simp;omega),if_neg (by simp;omega)]
 rfl
theorem AP {n:Nat} (h:n<256):pD (n,[]):=⟨by simp,h⟩
def cA (d:Int):List Wd:=[bB (ja d),(178,[]),(117,[]),(179,[])]
def bO (rec:List Nat):List Wd:=[bB (kr rec),(188,[])]
def cr (trig:List Nat) (d:Int):List Wd:=[bB trig,(173,[]),bB (az (cA d)),(81,[]),(187,[])]
theorem jS (x:List Nat):bytes (kr x):=cQ _
theorem nu (d:Int):∀ w,w ∈ cA d→pD w∧(dj w).2=true:=by
 intro w hw
 have hl:=kN d
 simp [cA] at hw
 rcases hw with rfl | rfl | rfl | rfl
 ·exact ⟨jk (by omega) (iA d),jN (by omega)⟩
 all_goals exact ⟨AP (by omega),uE (by omega)⟩
theorem jT {ws:List Wd} (h:∀ w,w ∈ ws→(dj w).2=true∧w.1<256∧bytes w.2):bytes (az ws):=by
 unfold az
 intro z hz
 rw [List.mem_flatten] at hz
 obtain ⟨l,hl,hz⟩:=hz
 obtain ⟨w,hw,rfl⟩:=List.mem_map.1 hl
 obtain ⟨h1,h2,h3⟩:=h w hw
 rw [uh h1] at hz
 exact zq h2 h3 z hz
theorem ia:∀ (ws:List Wd) (n:Nat),(∀ w,w ∈ ws→w.2.length≤n)→(az ws).length≤(n+3)*ws.length
 | [],n,_=>by simp [az]
 | w :: r,n,h=>by
  have h1:=wY w
  have h2:=h w (by simp)
  have h3:=ia r n (fun v hv=>h v (by simp [hv]))
  simp only [az,List.map_cons,List.flatten_cons,List.length_append,List.length_cons] at h3 ⊢
  rw [Nat.mul_succ]
  omega
theorem ib (d:Int):(az (cA d)).length≤48:=by
 have hl:=kN d
 have:=ia (cA d) 9 (by
  intro w hw
  simp [cA] at hw
  rcases hw with rfl | rfl | rfl | rfl
  ·have:=fq (ja d);omega
  all_goals simp)
 simpa [cA] using this
theorem iS (d:Int):bytes (az (cA d)):=jT (fun w hw=>by
 have:=nu d w hw
 refine ⟨this.2,this.1.2,?_⟩
 simp [cA] at hw
 rcases hw with rfl | rfl | rfl | rfl
 ·exact fu (iA d)
 all_goals exact fun z hz=>by simp at hz)
theorem uF (rec:List Nat):∀ w,w ∈ bO rec→pD w∧(dj w).2=true:=by
 intro w hw
 have hl:=io rec
 simp [bO] at hw
 rcases hw with rfl | rfl
 ·exact ⟨jk (by omega) (jS _),jN (by omega)⟩
 ·exact ⟨AP (by omega),uE (by omega)⟩
theorem qY {trig:List Nat} (d:Int) (ht:trig.length=32) (hb:bytes trig):∀ w,w ∈ cr trig d→pD w∧(dj w).2=true:=by
 intro w hw
 have hl:=ib d
 simp [cr] at hw
 rcases hw with rfl | rfl | rfl | rfl | rfl
 ·exact ⟨jk (by omega) hb,jN (by omega)⟩
 ·exact ⟨AP (by omega),uE (by omega)⟩
 ·exact ⟨jk (by omega) (iS d),jN (by omega)⟩
 all_goals exact ⟨AP (by omega),uE (by omega)⟩
theorem GU (n:Int) (h1:-9223372036854775808≤n) (h2:n<9223372036854775808):aq Tryz.prog 136 [.d (.int .i64 n)] (fun r=>r=.agg (gE (bB (ja n)))):=by
 refine aS Tryz.func136 Tryz.ntmps136 (rs:=[.cell 2 130]) (by simp [AV.deep,AV.deep1]) ?_
 have hl:=kN n
 simp [go_sem]
 refine ab (JX n h1 h2) (by simp [AV.deep,AV.deep1]) ?_
 simp [go_sem]
 refine ab (ni (ja n) (by omega) (iA n)) (by simp [AV.deep,AV.deep1]) ?_
 generalize bB (ja n)=w
 simp [go_sem,gE,ak]
 exact ae (by simp [AV.deep,AV.deep1]) rfl
theorem DN (n:Int) (h1:-9223372036854775808≤n) (h2:n<9223372036854775808):aq Tryz.prog 139 [.d (.int .i64 n)] (fun r=>r=.agg (gE (bB (ja n)))):=by
 refine aS Tryz.func139 Tryz.ntmps139 (rs:=[.cell 2 130]) (by simp [AV.deep,AV.deep1]) ?_
 have hl:=kN n
 simp [go_sem]
 refine ab (GS n h1 h2) (by simp [AV.deep,AV.deep1]) ?_
 simp [go_sem]
 refine ab (kI (ja n) (by omega) (iA n)) (by simp [AV.deep,AV.deep1]) ?_
 generalize bB (ja n)=w
 simp [go_sem,gE,ak]
 exact ae (by simp [AV.deep,AV.deep1]) rfl
theorem qZ (n:Nat):aq Tryz.prog 97 [.d (.int .u8 (n:Int))] (fun r=>r=.agg (gE (n,[]))):=by
 refine aS Tryz.func97 Tryz.ntmps97 (rs:=[.cell 2 130]) (by simp [AV.deep,AV.deep1]) ?_
 simp [go_sem,gE,ak]
 refine eU (cs':=[.d (.int .u8 (n:Int)),.d (nb [])]) (fun i c c' h1 h2=>?_) rfl (by simp [AV.deep,AV.deep1]) rfl
 match i,h1,h2 with
 | 0,h1,h2=>simp at h1 h2;subst h1 h2;exact cf trivial
 | 1,h1,h2=>simp at h1 h2;subst h1 h2;exact aw (.nil 1)
 | k+2,h1,_=>simp at h1
theorem ow (ws:List Wd) (hw:∀ w,w ∈ ws→pD w∧(dj w).2=true) (hl:ws.length≤10000):aq Tryz.prog 95 [.d (.ro 2 (ws.map eo))] (fun r=>r=.d (nb (az ws))):=by
 refine aS Tryz.func95 Tryz.ntmps95 (rs:=[.tmp 2]) (by simp [AV.deep,AV.deep1]) ?_
 have hb:=wZ ws (fun w h=>(hw w h).1) hl
 rw [xB ws [] (fun w h=>(hw w h).2),List.nil_append] at hb
 simp [go_sem]
 refine ab hb (by simp [AV.deep,AV.deep1]) ?_
 simp [go_sem,ak]
 exact ae (by simp [AV.deep,AV.deep1]) rfl
def bJ (inner rec:List Nat) (d:Int) (trig:List Nat):List AV:=cb inner ++ ([.d (nb rec),.d (.int .i64 d)] ++ cb trig)
theorem bV {inner trig:List Nat} (hi:inner.length=32) (ht:trig.length=32) (rec:List Nat) (d:Int):(bJ inner rec d trig).length=66:=by simp [bJ,am,hi,ht]
theorem ap {inner trig:List Nat} (hi:inner.length=32) (ht:trig.length=32) (rec:List Nat) (d:Int):List.take 66 (bJ inner rec d trig)=bJ inner rec d trig:=List.take_of_length_le (by rw [bV hi ht];exact Nat.le_refl _)
theorem jr {inner:List Nat} (hi:inner.length=32) (rec:List Nat) (d:Int) (trig:List Nat):(bJ inner rec d trig)[32]?=some (.d (nb rec)):=by
 unfold bJ;rw [List.getElem?_append_right (by rw [am];omega),am,hi];rfl
theorem js {inner:List Nat} (hi:inner.length=32) (rec:List Nat) (d:Int) (trig:List Nat):(bJ inner rec d trig)[33]?=some (.d (.int .i64 d)):=by
 unfold bJ;rw [List.getElem?_append_right (by rw [am];omega),am,hi];rfl
theorem jt {inner:List Nat} (hi:inner.length=32) (rec:List Nat) (d:Int) (trig:List Nat) (hl:32<(bJ inner rec d trig).length):(bJ inner rec d trig)[32]=.d (nb rec):=by
 have:=jr hi rec d trig
 rw [List.getElem?_eq_getElem hl] at this
 exact Option.some.inj this
theorem ju {inner:List Nat} (hi:inner.length=32) (rec:List Nat) (d:Int) (trig:List Nat) (hl:33<(bJ inner rec d trig).length):(bJ inner rec d trig)[33]=.d (.int .i64 d):=by
 have:=js hi rec d trig
 rw [List.getElem?_eq_getElem hl] at this
 exact Option.some.inj this
theorem rc {inner:List Nat} (hi:inner.length=32) (rec:List Nat) (d:Int) (trig:List Nat):List.take 32 (bJ inner rec d trig)=cb inner:=by
 unfold bJ
 rw [List.take_append_of_le_length (by rw [am,hi];exact Nat.le_refl _),aj hi]
theorem iB (inner rec:List Nat) (d:Int) (trig:List Nat):(AV.agg (bJ inner rec d trig)).deep:=by
 intro c hc
 unfold bJ at hc
 rcases List.mem_append.1 hc with h | h
 ·exact aL _ _ h
 ·rcases List.mem_append.1 h with h | h
  ·simp at h;rcases h with rfl | rfl <;> trivial
  ·exact aL _ _ h
theorem aK (inner rec:List Nat) (d:Int) (trig:List Nat):∀ v,v ∈ [AV.agg (bJ inner rec d trig)]→v.deep:=by
 intro v hv;simp at hv;subst hv;exact iB _ _ _ _
theorem JY (inner rec:List Nat) (d:Int) (trig:List Nat) (hi:inner.length=32) (ht:trig.length=32):aq Tryz.prog 62 [.agg (bJ inner rec d trig)] (fun r=>r=.d (.bool (decide (0≤d∧d≤65535∧rec.length≤1000)))):=by
 refine aS Tryz.func62 Tryz.ntmps62 (rs:=[.tmp 2]) (aK _ _ _ _) ?_
 have hl:=bV hi ht rec d
 have g32:=jt hi rec d trig
 have g33:=ju hi rec d trig
 have e32:=jr hi rec d trig
 have e33:=js hi rec d trig
 by_cases h1:0≤d
 ·by_cases h2:d≤65535
  ·by_cases h3:rec.length≤1000
   ·have i3:(rec.length:Int)≤1000:=by omega
    simp [go_sem,hl,ap hi ht,e32,e33,g32,g33,h1,h2,h3,i3,nb,ak]
    exact ae (by simp [AV.deep,AV.deep1]) rfl
   ·have i3:¬ (rec.length:Int)≤1000:=by omega
    simp [go_sem,hl,ap hi ht,e32,e33,g32,g33,h1,h2,h3,i3,nb,ak]
    exact ae (by simp [AV.deep,AV.deep1]) rfl
  ·simp [go_sem,hl,ap hi ht,e32,e33,g32,g33,h1,h2,nb,ak]
   exact ae (by simp [AV.deep,AV.deep1]) rfl
 ·simp [go_sem,hl,ap hi ht,e32,e33,g32,g33,h1,nb,ak]
  exact ae (by simp [AV.deep,AV.deep1]) rfl
theorem nv (inner rec:List Nat) (d:Int) (trig:List Nat) (hi:inner.length=32) (ht:trig.length=32) (hr:rec.length≤100000):aq Tryz.prog 63 [.agg (bJ inner rec d trig)] (fun r=>r=.d (nb (az (bO rec)))):=by
 refine aS Tryz.func63 Tryz.ntmps63 (rs:=[.tmp 2]) (aK _ _ _ _) ?_
 have hl:=bV hi ht rec d
 have g32:=jt hi rec d trig
 have e32:=jr hi rec d trig
 have hL:=io rec
 simp [go_sem,hl,ap hi ht,e32,g32]
 refine ab (zp rec hr) (by simp [AV.deep,AV.deep1]) ?_
 simp [go_sem,am,hL,aj hL,bR]
 refine bU [160] (ni (kr rec) (by omega) (jS rec)) rfl (ay (.one (aw (iD rfl (by simp) hL))) aT) ?_
 have hok:=uF rec
 have hRW:bO rec=[bB (kr rec),(188,[])]:=rfl
 rw [hRW] at hok ⊢
 generalize bB (kr rec)=w at *
 simp [go_sem,aQ]
 refine ab (qZ 188) (by simp [AV.deep,AV.deep1]) ?_
 simp [go_sem,gE]
 refine bU [320] (ow [w,(188,[])] hok (by simp)) rfl (ay (.one (aw (cq (ty:=130) (e:=2) (es:=[w,(188,[])].map eo) (by simp [lk,eo,gE]) (by simp) rfl (by simp [eo])))) aT) ?_
 simp [go_sem,ak]
 exact ae (by simp [AV.deep,AV.deep1]) rfl
theorem xC (inner rec:List Nat) (d:Int) (trig:List Nat) (hi:inner.length=32) (ht:trig.length=32) (h1:-9223372036854775808≤d) (h2:d<9223372036854775808):aq Tryz.prog 98 [.agg (bJ inner rec d trig)] (fun r=>r=.d (nb (az (cA d)))):=by
 refine aS Tryz.func98 Tryz.ntmps98 (rs:=[.tmp 2]) (aK _ _ _ _) ?_
 have hl:=bV hi ht rec d
 have g33:=ju hi rec d trig
 have e33:=js hi rec d trig
 simp [go_sem,hl,ap hi ht,e33,g33]
 refine ab (GU d h1 h2) (by simp [AV.deep,AV.deep1]) ?_
 have hok:=nu d
 have hRW:cA d=[bB (ja d),(178,[]),(117,[]),(179,[])]:=rfl
 rw [hRW] at hok ⊢
 generalize bB (ja d)=w at *
 simp [go_sem]
 refine ab (qZ 178) (by simp [AV.deep,AV.deep1]) ?_
 simp [go_sem]
 refine ab (qZ 117) (by simp [AV.deep,AV.deep1]) ?_
 simp [go_sem]
 refine ab (qZ 179) (by simp [AV.deep,AV.deep1]) ?_
 simp [go_sem,gE]
 refine bU [256] (ow [w,(178,[]),(117,[]),(179,[])] hok (by simp)) rfl (ay (.one (aw (cq (ty:=130) (e:=2) (es:=[w,(178,[]),(117,[]),(179,[])].map eo) (by simp [lk,eo,gE]) (by simp) rfl (by simp [eo])))) aT) ?_
 simp [go_sem,ak]
 exact ae (by simp [AV.deep,AV.deep1]) rfl
def mj (inner rec:List Nat) (d:Int) (trig:List Nat):List DV:=cd inner ++ ([nb rec,.int .i64 d] ++ cd trig)
theorem jv (inner rec:List Nat) (d:Int) (trig:List Nat):(mj inner rec d trig).map AV.d=bJ inner rec d trig:=by simp [mj,bJ,fP]
theorem sW {inner trig:List Nat} (hi:inner.length=32) (ht:trig.length=32) (rec:List Nat) (d:Int):(mj inner rec d trig).length=66:=by simp [mj,dJ,hi,ht]
theorem xD {inner trig:List Nat} (hi:inner.length=32) (ht:trig.length=32) (rec:List Nat) (d:Int):List.drop 34 (mj inner rec d trig)=cd trig:=by
 unfold mj
 rw [← List.append_assoc,List.drop_append,List.drop_eq_nil_of_le (by simp [dJ,hi]),List.nil_append]
 simp [dJ,hi]
theorem xE (inner rec:List Nat) (d:Int) (trig:List Nat) (hi:inner.length=32) (ht:trig.length=32) (hb:bytes trig) (h1:-9223372036854775808≤d) (h2:d<9223372036854775808):aq Tryz.prog 64 [.agg (bJ inner rec d trig)] (fun r=>r=.d (nb (az (cr trig d)))):=by
 refine lL Tryz.func64 (by kernel_rfl) rfl Tryz.ntmps64 (rs:=[.tmp 2]) rfl (jy rfl) (aK _ _ _ _) ?_
 have hl:=bV hi ht rec d
 refine pT (eC ?_)
 simp [go_sem,hl,ap hi ht]
 simp only [qJ]
 refine uO (st':=⟨[(1,.rop (mj inner rec d trig))],[],9000⟩) (jh [0] [(1,.rop (mj inner rec d trig))] ?_ ?_) ?_
 ·intro p hp
  simp only [List.mem_cons,List.mem_nil_iff,or_false] at hp
  subst hp
  exact .ptr (by simp) rfl rfl rfl (by rw [List.drop_zero,← jv];exact fZ _)
 ·simp [av,ag,fv,lk,aQ,AV.low,AV.low1]
 refine eC ?_
 have hdl:=sW hi ht rec d
 have hdt:=xD hi ht rec d
 have hcl:=ib d
 simp [go_sem]
 refine bk [0,1,4] [(2,[]),(3,[]),(5,[]),(6,[]),(7,[]),(8,[]),(9,[]),(10,[11])] 8 (k:=12) ?_
 intro G hG
 have hts:List.map (fun c=>[c]) (List.take 32 (cd trig))=trig.map fun (b:Nat)=>[DV.int .u8 (b:Int)]:=by
  rw [List.take_of_length_le (by simp [dJ,ht])]
  simp [cd]
 simp [go_sem,hdl,hdt,dJ,ht,jv,ap hi ht,hts,hl]
 have p1:=ni trig (by omega) hb
 have p2:=ni (az (cA d)) (by omega) (iS d)
 have hok:=qY d ht hb
 have hRW:cr trig d=[bB trig,(173,[]),bB (az (cA d)),(81,[]),(187,[])]:=rfl
 rw [hRW] at hok
 rw [hRW] at hG
 have hw:=xC inner rec d trig hi ht h1 h2
 generalize az (cA d)=W at *
 generalize bB trig=w at *
 generalize bB W=v at *
 simp only [nb] at p1
 refine ab p1 (by simp [AV.deep,AV.deep1]) ?_
 simp [go_sem]
 refine ab (qZ 173) (by simp [AV.deep,AV.deep1]) ?_
 simp [go_sem]
 refine ab hw (aK _ _ _ _) ?_
 simp [go_sem]
 refine ab p2 (by simp [AV.deep,AV.deep1]) ?_
 simp [go_sem]
 refine ab (qZ 81) (by simp [AV.deep,AV.deep1]) ?_
 simp [go_sem]
 refine ab (qZ 187) (by simp [AV.deep,AV.deep1]) ?_
 simp [go_sem,gE]
 refine bU [9288] (ow [w,(173,[]),v,(81,[]),(187,[])] hok (by simp)) rfl (ay (.one (aw (cq (ty:=130) (e:=2) (es:=[w,(173,[]),v,(81,[]),(187,[])].map eo) (by simp [lk,eo,gE]) (by simp) rfl (by simp [eo])))) aT) ?_
 simp [go_sem]
 refine hG _ _ ?_
 clear hG G
 simp [go_sem,ak]
 exact ae (by simp [AV.deep,AV.deep1]) rfl
def bT (t:List Nat) (d:Int):List Wd:=bB t :: cA d
theorem DO (t:List Nat) (d:Int) (ht:t.length=32):Dx [t] (az (cA d))=(az (bT t d),0):=by
 have hl:=ib d
 have h1:=xb [t] [] (by intro x hx;simp at hx;subst hx;omega)
 have h2:az (uj [t]) ++ az (cA d)=az (bT t d):=by simp [az,uj,bT]
 have h3:(az (uj [t])).length≤35:=by
  have:=ia (uj [t]) 32 (by
   intro w hw
   simp [uj] at hw
   subst hw
   have:=fq t
   omega)
  simpa [uj] using this
 unfold Dx
 rw [h1]
 simp only [List.nil_append]
 rw [if_neg (by simp only [List.length_append];omega),h2]
theorem eB (inner rec:List Nat) (d:Int) (trig t:List Nat):∀ v,v ∈ [AV.agg (bJ inner rec d trig),.agg (cb t)]→v.deep:=by
 intro v hv;simp at hv
 rcases hv with rfl | rfl
 ·exact iB _ _ _ _
 ·exact aL _
theorem sX (inner rec:List Nat) (d:Int) (trig:List Nat) (n:Nat):∀ c,c ∈ bJ inner rec d trig→AV.low1 n c:=by
 rw [← jv]
 intro c hc
 obtain ⟨x,_,rfl⟩:=List.mem_map.1 hc
 trivial
theorem sw (inner rec:List Nat) (d:Int) (trig t:List Nat) (hi:inner.length=32) (ht:trig.length=32) (htl:t.length=32) (htb:bytes t) (h1:-9223372036854775808≤d) (h2:d<9223372036854775808) :
  aq Tryz.prog 67 [.agg (bJ inner rec d trig),.agg (cb t)] (fun r=>r=.tup [.d (nb (az (bT t d))),.d (.int .i64 0)]):=by
 refine lL Tryz.func67 (by kernel_rfl) rfl Tryz.ntmps67 (rs:=[.tmp 4,.tmp 5]) rfl (jy rfl) (eB _ _ _ _ _) ?_
 have hl:=bV hi ht rec d
 refine pT (eC ?_)
 simp [go_sem,hl,ap hi ht,am,htl,aj htl]
 simp only [qJ]
 refine uO (st':=⟨[(2,.ptr 0 0 0 1),(3,.rop (cd t))],[(0,⟨47,66,[bJ inner rec d trig]⟩)],9000⟩) (jh [32] [(3,.rop (cd t))] ?_ ?_) ?_
 ·intro p hp
  simp only [List.mem_cons,List.mem_nil_iff,or_false] at hp
  subst hp
  exact .ptr (by simp) rfl rfl rfl (by rw [List.drop_zero,← fP];exact fZ _)
 ·simp [av,ag,fv,lk,aQ,AV.low,AV.low1]
  exact sX _ _ _ _ _
 refine eC ?_
 simp [go_sem]
 have hts:List.map (fun c=>[c]) (List.take 32 (cd t))=t.map fun (b:Nat)=>[DV.int .u8 (b:Int)]:=by
  rw [List.take_of_length_le (by simp [dJ,htl])]
  simp [cd]
 have hw:=xC inner rec d trig hi ht h1 h2
 have hu:=zk [t] (az (cA d)) (by simp) (by intro x hx;simp at hx;subst hx;exact ⟨by omega,htb⟩) (by have:=ib d;omega)
 rw [DO t d htl] at hu
 generalize az (cA d)=W at *
 generalize az (bT t d)=Y at *
 refine bD [0,2] [1,3,4] [0,2,5,6,7,8] (.alt (.step 1 [] true (.step 3 [] true (.step 4 [5,6,7,8] true .done))) (.step 3 [] true (.step 1 [] true (.step 4 [5,6,7,8] true .done)))) ⟨[(4,.d (nb Y)),(5,.d (.int .i64 0))],[],20000⟩ (k:=9) ?h3 ?hq
 case h3 =>
  intro G hG
  have hW:∀ (fr:Fr) (hp:Hp),(fv 4 fr=.d (nb Y)∧fv 5 fr=.d (.int .i64 0))→G fr hp:=by
   rintro fr hp ⟨q0,q1⟩
   refine hG _ _ (cK ⟨?_,by simp,by simp⟩)
   simp [ag,AV.low,AV.low1,q0,q1]
  have hr:∀ hp,lk 9032 hp=some ⟨22,1,[[.d (nb t)]]⟩→gS hp (fun i=>i ∈ [9032]) (.own 9032 0 1 1) (.d (.ro 1 ([t].map w9))):=fun hp h=>aw (cq (ty:=22) (e:=1) (es:=[t].map w9) (by simp [h,w9,nb]) (by simp) rfl (by simp [w9]))
  simp [go_sem,dJ,htl,hts,hl,ap hi ht]
  refine ⟨?_,?_⟩
  all_goals
   refine ab hw (aK _ _ _ _) ?_
   simp [go_sem]
   refine bU [9032] hu rfl (ay (.one (hr _ (by simp [lk,nb]))) (ay (.deep (by simp [AV.deep,AV.deep1])) aT)) ?_
   simp [go_sem,aQ]
   refine hW _ _ ?_
   simp [fv,lk]
 case hq =>
  simp [go_sem,ak]
  exact ae (by simp [AV.deep,AV.deep1]) rfl
theorem gW (inner:List Nat) (xs:List (List Nat)) (E:Lf→Int):bN inner xs E=.tup [.nil,.d (.int .i64 1)] ∨ ∃ es,bN inner xs E=.tup [.d (.ro 34 es),.d (.int .i64 0)]:=by
 unfold bN
 split
 ·exact .inl rfl
 ·exact .inr ⟨_,rfl⟩
def dF (inner rec:List Nat) (d:Int) (trig:List Nat) (E:Lf→Int):AV :=
 if 0≤d∧d≤65535∧rec.length≤1000 then bN inner [az (bO rec),az (cr trig d)] E else .tup [.nil,.d (.int .i64 1)]
theorem kO (rec:List Nat):(az (bO rec)).length≤70:=by
 have hL:=io rec
 have:=ia (bO rec) 32 (by
  intro w hw
  simp [bO] at hw
  rcases hw with rfl | rfl
  ·have:=fq (kr rec);omega
  ·simp)
 simpa [bO] using this
theorem ox {t:List Nat} (d:Int) (ht:t.length=32):(az (bT t d)).length≤175:=by
 have hl:=kN d
 have:=ia (bT t d) 32 (by
  intro w hw
  simp [bT,cA] at hw
  rcases hw with rfl | rfl | rfl | rfl | rfl
  ·have:=fq t;omega
  ·have:=fq (ja d);omega
  all_goals simp)
 simpa [bT,cA] using this
theorem lI {trig:List Nat} (d:Int) (ht:trig.length=32):(az (cr trig d)).length≤255:=by
 have hl:=ib d
 have:=ia (cr trig d) 48 (by
  intro w hw
  simp [cr] at hw
  rcases hw with rfl | rfl | rfl | rfl | rfl
  ·have:=fq trig;omega
  ·simp
  ·have:=fq (az (cA d));omega
  all_goals simp)
 simpa [cr] using this
theorem mG (inner rec:List Nat) (d:Int) (trig:List Nat) (hi:inner.length=32) (ht:trig.length=32) (hb:bytes trig) (h1:-9223372036854775808≤d) (h2:d<9223372036854775808) (O:Lf→List Nat) (E:Lf→Int)
  (hout:∀ l,l ∈ gK (bc [az (bO rec),az (cr trig d)]) [az (bO rec),az (cr trig d)]→aq Tryz.prog 18 [.agg (aB inner (.d (cF l.1)) (.d (nb l.2)))] (fun r=>r=.tup [.d (nb (O l)),.d (.int .i64 (E l))])) :
  aq Tryz.prog 27 [.agg (bJ inner rec d trig)] (fun r=>r=dF inner rec d trig E):=by
 refine aS Tryz.func27 Tryz.ntmps27 (rs:=[.tmp 2,.tmp 3]) (aK _ _ _ _) ?_
 have hl:=bV hi ht rec d
 unfold dF
 simp [go_sem,hl,ap hi ht]
 refine ab (JY inner rec d trig hi ht) (aK _ _ _ _) ?_
 by_cases hm:0≤d∧d≤65535∧rec.length≤1000
 ·rw [if_pos hm]
  have hpl:=xp inner [az (bO rec),az (cr trig d)] hi (by
   intro x hx;simp at hx
   rcases hx with rfl | rfl
   ·have:=kO rec;omega
   ·have:=lI d ht;omega) jj O E hout
  have p1:=nv inner rec d trig hi ht (by omega)
  have p2:=xE inner rec d trig hi ht hb h1 h2
  simp only [decide_eq_true hm]
  generalize az (bO rec)=x at *
  generalize az (cr trig d)=y at *
  have hPV:=gW inner [x,y] E
  generalize bN inner [x,y] E=PV at *
  simp [go_sem]
  refine bk [0,1,2,4] [(3,[]),(5,[]),(6,[]),(7,[8,9,10,11])] 4 (k:=12) ?_
  intro G hG
  simp [go_sem,hl,ap hi ht,rc hi]
  refine ab p1 (aK _ _ _ _) ?_
  simp [go_sem,hl,ap hi ht]
  refine ab p2 (aK _ _ _ _) ?_
  simp [go_sem]
  refine bU [384] hpl rfl (ay (.deep (aL _)) (ay (.one (aw (cq (ty:=22) (e:=1) (es:=[x,y].map me) (by simp [lk,me,nb]) (by simp) rfl (by simp [me])))) aT)) ?_
  rcases hPV with rfl | ⟨es,rfl⟩
  ·simp [go_sem,aQ]
   refine hG _ _ ?_
   clear hG G
   simp [go_sem,ak]
   exact ae (by simp [AV.deep,AV.deep1]) rfl
  ·simp [go_sem,aQ]
   refine hG _ _ ?_
   clear hG G
   simp [go_sem,ak]
   exact ae (by simp [AV.deep,AV.deep1]) rfl
 ·rw [if_neg hm]
  simp only [decide_eq_false hm]
  simp [go_sem,ak]
  exact ae (by simp [AV.deep,AV.deep1]) rfl
def GV (v:AV):Bool:=match v with
 | .tup [.d _,_]=>true
 | _=>false
def I7 (v:AV):AV:=match v with
 | .tup [_,e]=>e
 | _=>v
theorem mn (inner rec:List Nat) (d:Int) (trig:List Nat) (E:Lf→Int):dF inner rec d trig E=.tup [.nil,.d (.int .i64 1)] ∨
  (0≤d∧d≤65535∧rec.length≤1000∧dF inner rec d trig E=.tup [.d (.ro 34 ((gK (bc [az (bO rec),az (cr trig d)]) [az (bO rec),az (cr trig d)]).map (cS inner))),.d (.int .i64 0)]):=by
 unfold dF
 by_cases hm:0≤d∧d≤65535∧rec.length≤1000
 ·rw [if_pos hm]
  unfold bN
  split
  ·exact .inl rfl
  ·exact .inr ⟨hm.1,hm.2.1,hm.2.2,rfl⟩
 ·rw [if_neg hm]
  exact .inl rfl
theorem oy (inner rec:List Nat) (d:Int) (trig:List Nat) (hi:inner.length=32) (ht:trig.length=32) (V:AV) (hV:V=.tup [.nil,.d (.int .i64 1)] ∨ ∃ es,V=.tup [.d (.ro 34 es),.d (.int .i64 0)])
  (hp:aq Tryz.prog 27 [.agg (bJ inner rec d trig)] (fun r=>r=V)) :
  aq Tryz.prog 32 [.agg (bJ inner rec d trig)] (fun r=>r=I7 V):=by
 refine aS Tryz.func32 Tryz.ntmps32 (rs:=[.tmp 2]) (aK _ _ _ _) ?_
 have hl:=bV hi ht rec d
 rcases hV with rfl | ⟨es,rfl⟩
 ·simp [go_sem,hl,ap hi ht]
  refine ab hp (aK _ _ _ _) ?_
  simp [go_sem,ak]
  exact ae (by simp [AV.deep,AV.deep1]) rfl
 ·simp [go_sem,hl,ap hi ht]
  refine ab hp (aK _ _ _ _) ?_
  simp [go_sem,ak]
  exact ae (by simp [AV.deep,AV.deep1]) rfl
theorem kP (inner rec:List Nat) (d:Int) (trig t:List Nat) (hi:inner.length=32) (ht:trig.length=32) (htl:t.length=32) (htb:bytes t) (h1:-9223372036854775808≤d) (h2:d<9223372036854775808) (V:AV) (hr:V=.tup [.nil,.d (.int .i64 1)] ∨ rec.length≤1000∧∃ es,V=.tup [.d (.ro 34 es),.d (.int .i64 0)])
  (hp:aq Tryz.prog 27 [.agg (bJ inner rec d trig)] (fun r=>r=V)) (O:Lf→List Nat) (E:Lf→Int)
  (hout:∀ l,l ∈ gK (bc [az (bO rec),az (bT t d)]) [az (bO rec),az (bT t d)]→aq Tryz.prog 18 [.agg (aB inner (.d (cF l.1)) (.d (nb l.2)))] (fun r=>r=.tup [.d (nb (O l)),.d (.int .i64 (E l))])) :
  aq Tryz.prog 29 [.agg (bJ inner rec d trig),.agg (cb t)] (fun r=>r=if GV V then bN inner [az (bO rec),az (bT t d)] E else .tup [.nil,.d (.int .i64 1)]):=by
 refine aS Tryz.func29 Tryz.ntmps29 (rs:=[.tmp 4,.tmp 5]) (eB _ _ _ _ _) ?_
 have hl:=bV hi ht rec d
 have hc:=oy inner rec d trig hi ht V (hr.imp id (fun h=>h.2)) hp
 have hwd:=sw inner rec d trig t hi ht htl htb h1 h2
 rcases hr with rfl | ⟨hrl,es,rfl⟩
 ·simp [go_sem,hl,ap hi ht,am,htl,aj htl]
  refine ab hc (aK _ _ _ _) ?_
  simp [go_sem,I7,GV,ak]
  exact ae (by simp [AV.deep,AV.deep1]) rfl
 ·have hpl:=xp inner [az (bO rec),az (bT t d)] hi (by
   intro x hx;simp at hx
   rcases hx with rfl | rfl
   ·have:=kO rec;omega
   ·have:=ox d htl;omega) jj O E hout
  have p1:=nv inner rec d trig hi ht (by omega)
  generalize az (bO rec)=x at *
  generalize az (bT t d)=y at *
  have hPV:=gW inner [x,y] E
  generalize bN inner [x,y] E=PV at *
  simp [go_sem,hl,ap hi ht,am,htl,aj htl]
  refine ab hc (aK _ _ _ _) ?_
  simp [go_sem,I7,GV,hl,ap hi ht,am,htl,aj htl]
  refine ab hwd (eB _ _ _ _ _) ?_
  simp [go_sem]
  refine bk [0,1,2,4] [(3,[]),(5,[]),(6,[7,8,9,10])] 3 (k:=11) ?_
  intro G hG
  simp [go_sem,hl,ap hi ht,rc hi]
  refine ab p1 (aK _ _ _ _) ?_
  simp [go_sem,hl,ap hi ht]
  refine bU [768] hpl rfl (ay (.deep (aL _)) (ay (.one (aw (cq (ty:=22) (e:=1) (es:=[x,y].map me) (by simp [lk,me,nb]) (by simp) rfl (by simp [me])))) aT)) ?_
  rcases hPV with rfl | ⟨es,rfl⟩
  ·simp [go_sem,aQ]
   refine hG _ _ ?_
   clear hG G
   simp [go_sem,ak]
   exact ae (by simp [AV.deep,AV.deep1]) rfl
  ·simp [go_sem,aQ]
   refine hG _ _ ?_
   clear hG G
   simp [go_sem,ak]
   exact ae (by simp [AV.deep,AV.deep1]) rfl
theorem GW {hp:Hp} {I:Nat→Prop} {rows:List (List AV)} {es:List (List DV)} (w:Wd) (t:RowsR hp I rows es):RowsR hp I ([.d (.int .u8 (w.1:Int)),.d (nb w.2)] :: rows) (eo w :: es):=.cons (.cons (.d _) (.cons (.d _) .nil)) t
theorem rf {hp:Hp} {I:Nat→Prop} {rows:List (List AV)} {es:List (List DV)} (n:Nat) (t:RowsR hp I rows es):RowsR hp I ([.d (.int .u8 (n:Int)),.nil] :: rows) (eo (n,[]) :: es):=.cons (.cons (.d _) (.cons (.nil 1) .nil)) t
theorem rg {hp:Hp} {I:Nat→Prop} {id n:Nat} {rows:List (List AV)} {ws:List Wd} (hb:lk id hp=some ⟨130,2,rows⟩) (hI:I id) (hn:rows.length=n) (hR:RowsR hp I rows (ws.map eo)):SnapD hp I (.own id 0 n n) (.ro 2 (ws.map eo)):=by
 have hlen:(ws.map eo).length=n:=by rw [← hn,hR.len]
 refine qI hb hI hn (by rw [List.drop_zero,List.take_of_length_le (by omega)];exact hR) hlen (fun r hr=>?_)
 obtain ⟨w,_,rfl⟩:=List.mem_map.1 hr
 rfl
theorem jU (ws:List Wd) (hw:∀ w,w ∈ ws→pD w∧(dj w).2=true) (hl:ws.length≤10000):aq Tryz.prog 100 [.d (.ro 2 (ws.map eo))] (fun r=>r=.d (nb (az ws))):=by
 refine aS Tryz.func100 Tryz.ntmps100 (rs:=[.tmp 2]) (by simp [AV.deep,AV.deep1]) ?_
 simp [go_sem]
 refine HM [] (zo ws hw hl) rfl (ay (.deep (by simp [AV.deep,AV.deep1])) aT) (fun ρ=>by simp [AV.renL,AV.ren]) ?_
 rintro r hp' ⟨rfl,h0⟩
 refine ⟨[(65,0)],rfl,?_⟩
 generalize az ws=L at *
 simp [go_sem,fj,et,h0,Blk.ren,cZ,iC,AV.renL,AV.ren,dL,aQ,ak]
 exact ca (aw (aM rfl rfl trivial)) trivial rfl
theorem uG (inner rec:List Nat) (d:Int) (trig:List Nat) (hi:inner.length=32) (ht:trig.length=32) (hr:rec.length≤100000) (hrb:bytes rec):aq Tryz.prog 99 [.agg (bJ inner rec d trig)] (fun r=>r=.d (nb (az (bO rec)))):=by
 refine aS Tryz.func99 Tryz.ntmps99 (rs:=[.tmp 2]) (aK _ _ _ _) ?_
 have hl:=bV hi ht rec d
 have g32:=jt hi rec d trig
 have e32:=jr hi rec d trig
 have hL:=io rec
 simp [go_sem,hl,ap hi ht,e32,g32]
 refine ab (xc rec hr hrb) (by simp [AV.deep,AV.deep1]) ?_
 simp [go_sem,am,hL,aj hL,bR]
 refine bU [160] (kI (kr rec) (by omega) (jS rec)) rfl (ay (.one (aw (iD rfl (by simp) hL))) aT) ?_
 have hok:=uF rec
 have hRW:bO rec=[bB (kr rec),(188,[])]:=rfl
 rw [hRW] at hok ⊢
 generalize bB (kr rec)=w at *
 simp [go_sem,aQ,gE]
 refine bU [320] (jU [w,(188,[])] hok (by simp)) rfl (ay (.one (aw (rg (ws:=[w,(188,[])]) rfl (by simp) rfl (GW w (rf 188 .nil))))) aT) ?_
 simp [go_sem,ak]
 exact ae (by simp [AV.deep,AV.deep1]) rfl
theorem pc (inner rec:List Nat) (d:Int) (trig:List Nat) (hi:inner.length=32) (ht:trig.length=32) (h1:-9223372036854775808≤d) (h2:d<9223372036854775808):aq Tryz.prog 102 [.agg (bJ inner rec d trig)] (fun r=>r=.d (.ro 2 ((cA d).map eo))):=by
 refine aS Tryz.func102 Tryz.ntmps102 (rs:=[.tmp 2]) (aK _ _ _ _) ?_
 have hl:=bV hi ht rec d
 have g33:=ju hi rec d trig
 have e33:=js hi rec d trig
 simp [go_sem,hl,ap hi ht,e33,g33]
 refine ab (DN d h1 h2) (by simp [AV.deep,AV.deep1]) ?_
 have hRW:cA d=[bB (ja d),(178,[]),(117,[]),(179,[])]:=rfl
 rw [hRW]
 generalize bB (ja d)=w at *
 simp [go_sem,gE,ak]
 exact ca (aw (rg (ws:=[w,(178,[]),(117,[]),(179,[])]) rfl trivial rfl (GW w (rf 178 (rf 117 (rf 179 .nil)))))) trivial rfl
theorem xF (inner rec:List Nat) (d:Int) (trig:List Nat) (hi:inner.length=32) (ht:trig.length=32) (hb:bytes trig) (h1:-9223372036854775808≤d) (h2:d<9223372036854775808):aq Tryz.prog 66 [.agg (bJ inner rec d trig)] (fun r=>r=.d (nb (az (cr trig d)))):=by
 refine lL Tryz.func66 (by kernel_rfl) rfl Tryz.ntmps66 (rs:=[.tmp 2]) rfl (jy rfl) (aK _ _ _ _) ?_
 have hl:=bV hi ht rec d
 refine pT (eC ?_)
 simp [go_sem,hl,ap hi ht]
 simp only [qJ]
 refine uO (st':=⟨[(1,.rop (mj inner rec d trig))],[],9000⟩) (jh [0] [(1,.rop (mj inner rec d trig))] ?_ ?_) ?_
 ·intro p hp
  simp only [List.mem_cons,List.mem_nil_iff,or_false] at hp
  subst hp
  exact .ptr (by simp) rfl rfl rfl (by rw [List.drop_zero,← jv];exact fZ _)
 ·simp [av,ag,fv,lk,aQ,AV.low,AV.low1]
 refine eC ?_
 have hdl:=sW hi ht rec d
 have hdt:=xD hi ht rec d
 have hcl:=ib d
 simp [go_sem]
 refine bk [0,1,3,4,8,9] [(2,[]),(5,[]),(6,[]),(7,[]),(10,[]),(11,[12])] 6 (k:=13) ?_
 intro G hG
 have hts:List.map (fun c=>[c]) (List.take 32 (cd trig))=trig.map fun (b:Nat)=>[DV.int .u8 (b:Int)]:=by
  rw [List.take_of_length_le (by simp [dJ,ht])]
  simp [cd]
 simp [go_sem,hdl,hdt,dJ,ht,jv,ap hi ht,hts,hl]
 have p1:=kI trig (by omega) hb
 have p2:=kI (az (cA d)) (by omega) (iS d)
 have hok:=qY d ht hb
 have hRW:cr trig d=[bB trig,(173,[]),bB (az (cA d)),(81,[]),(187,[])]:=rfl
 rw [hRW] at hok
 rw [hRW] at hG
 have hw:=pc inner rec d trig hi ht h1 h2
 have hs:=jU (cA d) (nu d) (by simp [cA])
 generalize az (cA d)=W at *
 generalize (cA d).map eo=WW at *
 generalize bB trig=w at *
 generalize bB W=v at *
 simp only [nb] at p1
 refine ab p1 (by simp [AV.deep,AV.deep1]) ?_
 simp [go_sem]
 refine ab hw (aK _ _ _ _) ?_
 simp [go_sem]
 refine ab hs (by simp [AV.deep,AV.deep1]) ?_
 simp [go_sem]
 refine ab p2 (by simp [AV.deep,AV.deep1]) ?_
 simp [go_sem,gE]
 refine bU [9320] (jU [w,(173,[]),v,(81,[]),(187,[])] hok (by simp)) rfl (ay (.one (aw (rg (ws:=[w,(173,[]),v,(81,[]),(187,[])]) rfl (by simp) rfl (GW w (rf 173 (GW v (rf 81 (rf 187 .nil)))))))) aT) ?_
 simp [go_sem]
 refine hG _ _ ?_
 clear hG G
 simp [go_sem,ak]
 exact ae (by simp [AV.deep,AV.deep1]) rfl
theorem xG {t:List Nat} (d:Int) (ht:t.length=32) (hb:bytes t):∀ w,w ∈ bT t d→pD w∧(dj w).2=true:=by
 intro w hw
 simp only [bT,List.mem_cons] at hw
 rcases hw with rfl | hw
 ·exact ⟨jk (by omega) hb,jN (by omega)⟩
 ·exact nu d w hw
theorem rh (inner rec:List Nat) (d:Int) (trig t:List Nat) (hi:inner.length=32) (ht:trig.length=32) (htl:t.length=32) (htb:bytes t) (h1:-9223372036854775808≤d) (h2:d<9223372036854775808) :
  aq Tryz.prog 68 [.agg (bJ inner rec d trig),.agg (cb t)] (fun r=>r=.d (nb (az (bT t d)))):=by
 refine lL Tryz.func68 (by kernel_rfl) rfl Tryz.ntmps68 (rs:=[.tmp 4]) rfl (jy rfl) (eB _ _ _ _ _) ?_
 have hl:=bV hi ht rec d
 refine pT (eC ?_)
 simp [go_sem,hl,ap hi ht,am,htl,aj htl]
 simp only [qJ]
 refine uO (st':=⟨[(2,.ptr 0 0 0 1),(3,.rop (cd t))],[(0,⟨47,66,[bJ inner rec d trig]⟩)],9000⟩) (jh [32] [(3,.rop (cd t))] ?_ ?_) ?_
 ·intro p hp
  simp only [List.mem_cons,List.mem_nil_iff,or_false] at hp
  subst hp
  exact .ptr (by simp) rfl rfl rfl (by rw [List.drop_zero,← fP];exact fZ _)
 ·simp [av,ag,fv,lk,aQ,AV.low,AV.low1]
  exact sX _ _ _ _ _
 refine eC ?_
 simp [go_sem]
 have hts:List.map (fun c=>[c]) (List.take 32 (cd t))=t.map fun (b:Nat)=>[DV.int .u8 (b:Int)]:=by
  rw [List.take_of_length_le (by simp [dJ,htl])]
  simp [cd]
 have hw:=pc inner rec d trig hi ht h1 h2
 have p1:=kI t (by omega) htb
 have hs:=jU (bT t d) (xG d htl htb) (by simp [bT,cA])
 have hcat:(bT t d).map eo=eo (bB t) :: (cA d).map eo:=rfl
 have hWl:((cA d).map eo).length=4:=rfl
 have hW2:∀ r,r ∈ eo (bB t) :: (cA d).map eo→r.length=2:=by
  intro r hr
  rw [← hcat] at hr
  obtain ⟨w,_,rfl⟩:=List.mem_map.1 hr
  rfl
 rw [hcat] at hs
 generalize az (bT t d)=Y at *
 generalize (cA d).map eo=WW at *
 generalize bB t=w at *
 simp only [nb] at p1
 refine bD [0,3] [1,2,4,5,6] [0,3,7] (.step 1 [] true (.alt (.step 2 [] true (.step 4 [] true (.step 5 [] true (.step 6 [7] true .done)))) (.step 4 [] true (.step 2 [] true (.step 5 [] true (.step 6 [7] true .done)))))) ⟨[(4,.d (nb Y))],[],20000⟩ (k:=8) ?h3 ?hq
 case h3 =>
  intro G hG
  have hW:∀ (fr:Fr) (hp:Hp),(fv 4 fr=.d (nb Y))→G fr hp:=by
   rintro fr hp q0
   refine hG _ _ (cK ⟨?_,by simp,by simp⟩)
   simp [ag,AV.low,AV.low1,q0]
  simp [go_sem,dJ,htl,hts,hl,ap hi ht]
  refine ab p1 (by simp [AV.deep,AV.deep1]) ?_
  simp [go_sem,hl,ap hi ht,gE]
  refine ⟨?_,?_⟩
  all_goals
   refine ab hw (aK _ _ _ _) ?_
   simp [go_sem]
   refine ⟨by omega,?_⟩
   refine bU [9064] hs rfl (ay (.one (aw (cq (ty:=130) (e:=2) (es:=eo w :: WW) (by simp [lk,eo]) (by simp) (by simp;omega) hW2))) aT) ?_
   simp [go_sem,aQ]
   refine hW _ _ ?_
   simp [fv,lk]
 case hq =>
  simp [go_sem,ak]
  exact ae (by simp [AV.deep,AV.deep1]) rfl
theorem mH (rec:List Nat):bytes (az (bO rec)):=jT (fun w hw=>by
 have:=uF rec w hw
 have hL:=io rec
 refine ⟨this.2,this.1.2,?_⟩
 simp [bO] at hw
 rcases hw with rfl | rfl
 ·exact fu (jS rec)
 ·exact fun z hz=>by simp at hz)
theorem kQ {trig:List Nat} (d:Int) (ht:trig.length=32) (hb:bytes trig):bytes (az (cr trig d)):=jT (fun w hw=>by
 have:=qY d ht hb w hw
 refine ⟨this.2,this.1.2,?_⟩
 simp [cr] at hw
 rcases hw with rfl | rfl | rfl | rfl | rfl
 ·exact fu hb
 ·exact fun z hz=>by simp at hz
 ·exact fu (iS d)
 all_goals exact fun z hz=>by simp at hz)
theorem pe {t:List Nat} (d:Int) (ht:t.length=32) (hb:bytes t):bytes (az (bT t d)):=jT (fun w hw=>by
 have:=xG d ht hb w hw
 refine ⟨this.2,this.1.2,?_⟩
 simp [bT,cA] at hw
 rcases hw with rfl | rfl | rfl | rfl | rfl
 ·exact fu hb
 ·exact fu (iA d)
 all_goals exact fun z hz=>by simp at hz)
theorem pf (inner rec:List Nat) (d:Int) (trig y:List Nat) (hi:inner.length=32) (hib:bytes inner) (ht:trig.length=32) (hrb:bytes rec) (hrl:rec.length≤100000) (hyb:bytes y) (hyl:y.length≤100000) (O:Lf→List Nat) (E:Lf→Int)
  (hE:∀ l,l ∈ gK (bc [az (bO rec),y]) [az (bO rec),y]→E l=0 ∨ E l=1)
  (hout:∀ l,l ∈ gK (bc [az (bO rec),y]) [az (bO rec),y]→aq Tryz.prog 19 [.agg (aB inner (.d (cF l.1)) (.d (nb l.2)))] (fun r=>r=.tup [.d (nb (O l)),.d (.int .i64 (E l))])) :
  aq Tryz.prog 65 [.agg (bJ inner rec d trig),.d (nb y)] (fun r=>r=if 0≤d∧d≤65535∧rec.length≤1000 then bN inner [az (bO rec),y] E else .tup [.nil,.d (.int .i64 1)]):=by
 refine aS Tryz.func65 Tryz.ntmps65 (rs:=[.tmp 4,.tmp 5]) (by
  intro v hv;simp at hv
  rcases hv with rfl | rfl
  ·exact iB _ _ _ _
  ·trivial) ?_
 have hl:=bV hi ht rec d
 have g32:=jt hi rec d trig
 have g33:=ju hi rec d trig
 have e32:=jr hi rec d trig
 have e33:=js hi rec d trig
 have p1:=uG inner rec d trig hi ht hrl hrb
 have hpl:=B4 inner [az (bO rec),y] hi hib (by
  intro x hx;simp at hx
  rcases hx with rfl | rfl
  ·exact mH rec
  ·exact hyb) (by
  intro x hx;simp at hx
  rcases hx with rfl | rfl
  ·have:=kO rec;omega
  ·omega) O E hE hout
 have hPV:=gW inner [az (bO rec),y] E
 generalize bN inner [az (bO rec),y] E=PV at *
 generalize az (bO rec)=x at *
 by_cases h1:d<0
 ·rw [if_neg (by omega)]
  simp [go_sem,hl,ap hi ht,e32,e33,g32,g33,h1,nb,ak]
  exact ae (by simp [AV.deep,AV.deep1]) rfl
 by_cases h2:65535<d
 ·rw [if_neg (by omega)]
  simp [go_sem,hl,ap hi ht,e32,e33,g32,g33,h1,h2,nb,ak]
  exact ae (by simp [AV.deep,AV.deep1]) rfl
 by_cases h3:1000<rec.length
 ·have i3:(1000:Int)<(rec.length:Int):=by omega
  rw [if_neg (by omega)]
  simp [go_sem,hl,ap hi ht,e32,e33,g32,g33,h1,h2,h3,i3,nb,ak]
  exact ae (by simp [AV.deep,AV.deep1]) rfl
 have i3:¬ (1000:Int)<(rec.length:Int):=by omega
 rw [if_pos (by omega)]
 simp [go_sem,hl,ap hi ht,e32,e33,g32,g33,h1,h2,h3,i3,nb]
 refine bk [0,1,2,4] [(3,[]),(5,[]),(6,[7,8,9,10])] 3 (k:=11) ?_
 intro G hG
 simp [go_sem,hl,ap hi ht,rc hi]
 refine ab p1 (aK _ _ _ _) ?_
 simp [go_sem,hl,ap hi ht]
 refine bU [704] hpl rfl (ay (.deep (aL _)) (ay (.one (aw (cq (ty:=22) (e:=1) (es:=[x,y].map me) (by simp [lk,me,nb]) (by simp) rfl (by simp [me])))) aT)) ?_
 rcases hPV with rfl | ⟨es,rfl⟩
 ·simp [go_sem,aQ]
  refine hG _ _ ?_
  clear hG G
  simp [go_sem,ak]
  exact ae (by simp [AV.deep,AV.deep1]) rfl
 ·simp [go_sem,aQ]
  refine hG _ _ ?_
  clear hG G
  simp [go_sem,ak]
  exact ae (by simp [AV.deep,AV.deep1]) rfl
theorem zB (inner rec:List Nat) (d:Int) (trig:List Nat) (hi:inner.length=32) (hib:bytes inner) (ht:trig.length=32) (hb:bytes trig) (hrb:bytes rec) (hrl:rec.length≤100000) (h1:-9223372036854775808≤d) (h2:d<9223372036854775808) (O:Lf→List Nat) (E:Lf→Int)
  (hE:∀ l,l ∈ gK (bc [az (bO rec),az (cr trig d)]) [az (bO rec),az (cr trig d)]→E l=0 ∨ E l=1)
  (hout:∀ l,l ∈ gK (bc [az (bO rec),az (cr trig d)]) [az (bO rec),az (cr trig d)]→aq Tryz.prog 19 [.agg (aB inner (.d (cF l.1)) (.d (nb l.2)))] (fun r=>r=.tup [.d (nb (O l)),.d (.int .i64 (E l))])) :
  aq Tryz.prog 28 [.agg (bJ inner rec d trig)] (fun r=>r=dF inner rec d trig E):=by
 refine aS Tryz.func28 Tryz.ntmps28 (rs:=[.tmp 2,.tmp 3]) (aK _ _ _ _) ?_
 have hl:=bV hi ht rec d
 have g33:=ju hi rec d trig
 have e33:=js hi rec d trig
 have hpl:=pf inner rec d trig (az (cr trig d)) hi hib ht hrb hrl (kQ d ht hb) (by have:=lI d ht;omega) O E hE hout
 have p2:=xF inner rec d trig hi ht hb h1 h2
 have hPV:dF inner rec d trig E=.tup [.nil,.d (.int .i64 1)] ∨ ∃ es,dF inner rec d trig E=.tup [.d (.ro 34 es),.d (.int .i64 0)]:=by
  rcases mn inner rec d trig E with h | ⟨_,_,_,h⟩
  ·exact .inl h
  ·exact .inr ⟨_,h⟩
 have hVd:(if 0≤d∧d≤65535∧rec.length≤1000 then bN inner [az (bO rec),az (cr trig d)] E else .tup [.nil,.d (.int .i64 1)])=dF inner rec d trig E:=rfl
 rw [hVd] at hpl
 have hbad:¬ (0≤d∧d≤65535)→dF inner rec d trig E=.tup [.nil,.d (.int .i64 1)]:=fun h=>if_neg (by omega)
 generalize dF inner rec d trig E=PV at *
 generalize az (cr trig d)=y at *
 by_cases c1:d<0
 ·rw [hbad (by omega)]
  simp [go_sem,hl,ap hi ht,e33,g33,c1,nb,ak]
  exact ae (by simp [AV.deep,AV.deep1]) rfl
 by_cases c2:65535<d
 ·rw [hbad (by omega)]
  simp [go_sem,hl,ap hi ht,e33,g33,c1,c2,nb,ak]
  exact ae (by simp [AV.deep,AV.deep1]) rfl
 simp [go_sem,hl,ap hi ht,e33,g33,c1,c2]
 refine bk [0,1] [(2,[]),(3,[4,5,6,7])] 2 (k:=8) ?_
 intro G hG
 simp [go_sem,hl,ap hi ht]
 refine ab p2 (aK _ _ _ _) ?_
 simp [go_sem,hl,ap hi ht]
 refine ab hpl (by
  intro v hv;simp at hv
  rcases hv with rfl | rfl
  ·exact iB _ _ _ _
  ·trivial) ?_
 rcases hPV with rfl | ⟨es,rfl⟩
 ·simp [go_sem]
  refine hG _ _ ?_
  clear hG G
  simp [go_sem,ak]
  exact ae (by simp [AV.deep,AV.deep1]) rfl
 ·simp [go_sem]
  refine hG _ _ ?_
  clear hG G
  simp [go_sem,ak]
  exact ae (by simp [AV.deep,AV.deep1]) rfl
theorem oA (inner rec:List Nat) (d:Int) (trig:List Nat) (hi:inner.length=32) (ht:trig.length=32) (V:AV) (hV:V=.tup [.nil,.d (.int .i64 1)] ∨ ∃ es,V=.tup [.d (.ro 34 es),.d (.int .i64 0)])
  (hp:aq Tryz.prog 28 [.agg (bJ inner rec d trig)] (fun r=>r=V)) :
  aq Tryz.prog 33 [.agg (bJ inner rec d trig)] (fun r=>r=I7 V):=by
 refine aS Tryz.func33 Tryz.ntmps33 (rs:=[.tmp 2]) (aK _ _ _ _) ?_
 have hl:=bV hi ht rec d
 rcases hV with rfl | ⟨es,rfl⟩
 ·simp [go_sem,hl,ap hi ht]
  refine ab hp (aK _ _ _ _) ?_
  simp [go_sem,ak]
  exact ae (by simp [AV.deep,AV.deep1]) rfl
 ·simp [go_sem,hl,ap hi ht]
  refine ab hp (aK _ _ _ _) ?_
  simp [go_sem,ak]
  exact ae (by simp [AV.deep,AV.deep1]) rfl
theorem ph (inner rec:List Nat) (d:Int) (trig t:List Nat) (hi:inner.length=32) (hib:bytes inner) (ht:trig.length=32) (htl:t.length=32) (htb:bytes t) (hrb:bytes rec) (hrl:rec.length≤100000) (h1:-9223372036854775808≤d) (h2:d<9223372036854775808) (V:AV) (hr:V=.tup [.nil,.d (.int .i64 1)] ∨ (0≤d∧d≤65535∧rec.length≤1000)∧∃ es,V=.tup [.d (.ro 34 es),.d (.int .i64 0)])
  (hp:aq Tryz.prog 28 [.agg (bJ inner rec d trig)] (fun r=>r=V)) (O:Lf→List Nat) (E:Lf→Int)
  (hE:∀ l,l ∈ gK (bc [az (bO rec),az (bT t d)]) [az (bO rec),az (bT t d)]→E l=0 ∨ E l=1)
  (hout:∀ l,l ∈ gK (bc [az (bO rec),az (bT t d)]) [az (bO rec),az (bT t d)]→aq Tryz.prog 19 [.agg (aB inner (.d (cF l.1)) (.d (nb l.2)))] (fun r=>r=.tup [.d (nb (O l)),.d (.int .i64 (E l))])) :
  aq Tryz.prog 30 [.agg (bJ inner rec d trig),.agg (cb t)] (fun r=>r=if GV V then bN inner [az (bO rec),az (bT t d)] E else .tup [.nil,.d (.int .i64 1)]):=by
 refine aS Tryz.func30 Tryz.ntmps30 (rs:=[.tmp 4,.tmp 5]) (eB _ _ _ _ _) ?_
 have hl:=bV hi ht rec d
 have hc:=oA inner rec d trig hi ht V (hr.imp id (fun h=>h.2)) hp
 rcases hr with rfl | ⟨hok,es,rfl⟩
 ·simp [go_sem,hl,ap hi ht,am,htl,aj htl]
  refine ab hc (aK _ _ _ _) ?_
  simp [go_sem,I7,GV,ak]
  exact ae (by simp [AV.deep,AV.deep1]) rfl
 ·have hpl:=pf inner rec d trig (az (bT t d)) hi hib ht hrb hrl (pe d htl htb) (by have:=ox d htl;omega) O E hE hout
  rw [if_pos hok] at hpl
  have hwd:=rh inner rec d trig t hi ht htl htb h1 h2
  have hPV:=gW inner [az (bO rec),az (bT t d)] E
  generalize bN inner [az (bO rec),az (bT t d)] E=PV at *
  generalize az (bT t d)=y at *
  simp [go_sem,hl,ap hi ht,am,htl,aj htl]
  refine ab hc (aK _ _ _ _) ?_
  simp [go_sem,I7,GV]
  refine bk [0,1,2] [(3,[]),(4,[5,6,7,8])] 2 (k:=9) ?_
  intro G hG
  simp [go_sem,hl,ap hi ht,am,htl,aj htl]
  refine ab hwd (eB _ _ _ _ _) ?_
  simp [go_sem,hl,ap hi ht]
  refine ab hpl (by
   intro v hv;simp at hv
   rcases hv with rfl | rfl
   ·exact iB _ _ _ _
   ·trivial) ?_
  rcases hPV with rfl | ⟨es,rfl⟩
  ·simp [go_sem]
   refine hG _ _ ?_
   clear hG G
   simp [go_sem,ak]
   exact ae (by simp [AV.deep,AV.deep1]) rfl
  ·simp [go_sem]
   refine hG _ _ ?_
   clear hG G
   simp [go_sem,ak]
   exact ae (by simp [AV.deep,AV.deep1]) rfl
end Go.Proofs.YtldccnbokbieiaaGreat
