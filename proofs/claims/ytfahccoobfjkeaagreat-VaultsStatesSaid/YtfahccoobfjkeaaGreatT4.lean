/-
  Part 5 of what the claim rests on.
-/
import Derived.Test.YtfahccoobfjkeaaGreatT3
import Derived.Laws.Externs
import Derived.Laws.MathBits
import Derived.Laws.Bits64b
set_option linter.unusedVariables false
set_option linter.unusedSimpArgs false
set_option maxRecDepth 100000
set_option maxHeartbeats 16000000
namespace Go.Sha
def cmpF (a b:List Nat):Nat→Int
  | 0=>0
  | k+1=>if a.getD k 0<b.getD k 0 then -1 else if b.getD k 0<a.getD k 0 then 1 else cmpF a b k
def beN (l:List Nat):Nat:=l.foldl (fun a x=>a*256+x) 0
theorem beN_snoc (l:List Nat) (x:Nat):beN (l ++ [x])=beN l*256+x:=by simp [beN]
def part (b:List Nat) (i j:Nat):List Nat:=((b.take i).drop (8*(3 - j))).take 8
theorem part_get (b:List Nat) (i j k:Nat):(part b i j)[k]?=if k<8∧8*(3 - j)+k<i then b[8*(3 - j)+k]? else none:=by
  unfold part
  rw [List.getElem?_take]
  by_cases h1:k<8
  · rw [if_pos h1,List.getElem?_drop,List.getElem?_take]
    by_cases h2:8*(3 - j)+k<i
    · rw [if_pos h2,if_pos ⟨h1,h2⟩]
    · rw [if_neg h2,if_neg (fun h=>h2 h.2)]
  · rw [if_neg h1,if_neg (fun h=>h1 h.1)]
theorem part_len {b:List Nat} (hb:b.length=32) {i j:Nat} (hi:i≤32) (hj:j≤3):(part b i j).length=min 8 (i - 8*(3 - j)):=by
  unfold part
  rw [List.length_take,List.length_drop,List.length_take,hb]
  omega
theorem part_same {b:List Nat} {i j:Nat} (hi:i<32) (hj:j≤3) (h:j ≠ 3 - i / 8):part b (i+1) j=part b i j:=by
  refine List.ext_getElem? fun k=>?_
  rw [part_get,part_get]
  by_cases h1:k<8∧8*(3 - j)+k<i
  · rw [if_pos h1,if_pos ⟨h1.1,by omega⟩]
  · rw [if_neg h1]
    by_cases h2:k<8∧8*(3 - j)+k<i+1
    · omega
    · rw [if_neg h2]
theorem part_next {b:List Nat} (hb:b.length=32) {i c:Nat} (hc:b[i]?=some c):part b (i+1) (3 - i / 8)=part b i (3 - i / 8) ++ [c]:=by
  have hi:i<32:=by have:=(List.getElem?_eq_some_iff.1 hc).1;omega
  have hl:(part b i (3 - i / 8)).length=i % 8:=by rw [part_len hb (by omega) (by omega)];omega
  refine List.ext_getElem? fun k=>?_
  rw [List.getElem?_append,hl,part_get,part_get]
  by_cases h1:k<i % 8
  · rw [if_pos h1,if_pos ⟨by omega,by omega⟩,if_pos ⟨by omega,by omega⟩]
  · rw [if_neg h1]
    by_cases h2:k=i % 8
    · subst h2
      rw [if_pos ⟨by omega,by omega⟩,show 8*(3 - (3 - i / 8))+i % 8=i by omega,hc]
      simp
    · rw [if_neg (by omega)]
      rw [List.getElem?_eq_none (by simp;omega)]
theorem part_zero (b:List Nat) (j:Nat):part b 0 j=[]:=by simp [part]
def shW (b:List Nat) (i:Nat):List Nat:=(List.range 4).map fun j=>beN (part b i j)*256 ^ (8 - (part b i j).length)
def mulW (b:List Nat) (i:Nat):List Nat:=(List.range 4).map fun j=>beN (part b i j)
theorem shW_mul {b:List Nat} (hb:b.length=32):shW b 32=mulW b 32:=by
  unfold shW mulW
  refine List.map_congr_left fun j hj=>?_
  rw [List.mem_range] at hj
  rw [part_len hb (by omega) (by omega),show 8 - min 8 (32 - 8*(3 - j))=0 by omega]
  simp
theorem shW_zero (b:List Nat):shW b 0=[0,0,0,0]:=by simp [shW,part_zero,beN,List.range,List.range.loop]
theorem beN_lt:∀ (l:List Nat),(∀ x,x ∈ l→x<256)→beN l<256 ^ l.length:=by
  intro l
  have key:∀ (l:List Nat) (a n:Nat),(∀ x,x ∈ l→x<256)→a<256 ^ n→l.foldl (fun a x=>a*256+x) a<256 ^ (n+l.length):=by
    intro l
    induction l with
    | nil=>intro a n _ h;simpa using h
    | cons x l ih =>
      intro a n hl h
      have hx:=hl x (by simp)
      rw [List.foldl_cons,List.length_cons,show n+(l.length+1)=(n+1)+l.length by omega]
      exact ih _ (n+1) (fun y hy=>hl y (by simp [hy])) (by rw [Nat.pow_succ];omega)
  intro h
  have:=key l 0 0 h (by simp)
  simpa [beN] using this
theorem or64 (a b:Nat) (ha:a<18446744073709551616) (hb:b<18446744073709551616):Go.bits .or .u64 (a:Int) (b:Int)=((a ||| b:Nat):Int):=by
  show IntKind.u64.wrap (((BitVec.ofInt 64 (a:Int)) ||| (BitVec.ofInt 64 (b:Int))).toNat:Int)=_
  rw [BitVec.toNat_or,ofInt_nat,ofInt_nat,← Nat.or_mod_two_pow,u64w]
  have:a ||| b<2 ^ 64:=Nat.or_lt_two_pow (by omega) (by omega)
  omega
theorem shW_next {b:List Nat} (hb:b.length=32) (hby:∀ x,x ∈ b→x<256) {i c:Nat} (hc:b[i]?=some c) :
    ∃ a,(shW b i)[3 - i / 8]?=some a∧a<18446744073709551616∧c*2 ^ (8*((31 - i) % 8))<18446744073709551616∧(shW b i).set (3 - i / 8) (a ||| c*2 ^ (8*((31 - i) % 8)))=shW b (i+1):=by
  have hi:i<32:=by have:=(List.getElem?_eq_some_iff.1 hc).1;omega
  have hc8:c<256:=hby c (List.mem_of_getElem? hc)
  have hl:(part b i (3 - i / 8)).length=i % 8:=by rw [part_len hb (by omega) (by omega)];omega
  have hpn:=part_next hb hc
  have hlt:=beN_lt (part b i (3 - i / 8)) (fun x hx=>hby x (List.mem_of_mem_take (List.mem_of_mem_drop (List.mem_of_mem_take hx))))
  rw [hl] at hlt
  have hm:(31 - i) % 8=7 - i % 8:=by omega
  have hpow:∀ n,(256:Nat) ^ n=2 ^ (8*n):=fun n=>by rw [Nat.pow_mul]
  generalize hA:beN (part b i (3 - i / 8))=A at hlt
  have hr:i % 8<8:=by omega
  generalize hr':i % 8=r at *
  have e1:(256:Nat) ^ (8 - r)=256*256 ^ (7 - r):=by rw [show 8 - r=(7 - r)+1 by omega,Nat.pow_succ,Nat.mul_comm]
  have e2:(256:Nat) ^ r*256 ^ (8 - r)=18446744073709551616:=by rw [← Nat.pow_add,show r+(8 - r)=8 by omega]
  have hcl:c*2 ^ (8*(7 - r))<2 ^ (8*(8 - r)):=by
    rw [← hpow,← hpow,e1]
    exact Nat.mul_lt_mul_of_pos_right hc8 (Nat.pow_pos (by omega))
  have hle:(2:Nat) ^ (8*(8 - r))≤18446744073709551616:=by
    rw [← hpow]
    calc (256:Nat) ^ (8 - r)≤256 ^ 8:=Nat.pow_le_pow_right (by omega) (by omega)
      _=18446744073709551616:=by decide
  have hAlt:A*256 ^ (8 - r)<18446744073709551616:=by
    rw [← e2]
    exact Nat.mul_lt_mul_of_pos_right hlt (Nat.pow_pos (by omega))
  refine ⟨A*256 ^ (8 - r),?_,hAlt,by rw [hm];omega,?_⟩
  · unfold shW
    rw [List.getElem?_map,List.getElem?_range (by omega)]
    simp [hA,hl]
  · rw [hm]
    refine List.ext_getElem? fun j=>?_
    rw [List.getElem?_set]
    have hlen:(shW b i).length=4:=by simp [shW]
    by_cases hj:3 - i / 8=j
    · subst hj
      rw [if_pos rfl,if_pos (by omega)]
      unfold shW
      rw [List.getElem?_map,List.getElem?_range (by omega),Option.map_some,hpn,beN_snoc,List.length_append,hl,hA]
      congr 1
      have:=Nat.two_pow_add_eq_or_of_lt hcl A
      rw [← hpow,Nat.mul_comm] at this
      rw [← this,List.length_singleton,show 8 - (r+1)=7 - r by omega,e1,← hpow,Nat.add_mul,Nat.mul_assoc]
    · rw [if_neg hj]
      unfold shW
      rw [List.getElem?_map,List.getElem?_map]
      by_cases h4:j<4
      · rw [List.getElem?_range h4,Option.map_some,Option.map_some,part_same hi (by omega) (by omega)]
      · rw [List.getElem?_eq_none (by simp;omega)]
        rfl
end Go.Sha
namespace Go.Proofs.YtfahccoobfjkeaaGreat
open Go.Am Go.Sha
def cW (l:List Nat):List AV:=l.map fun (x:Nat)=>AV.d (.int .u64 (x:Int))
theorem cW_len (l:List Nat):(cW l).length=l.length:=by simp [cW]
theorem cW_get (l:List Nat) (i:Nat):(cW l)[i]?=(l[i]?).map fun (x:Nat)=>AV.d (.int .u64 (x:Int)):=by simp [cW]
theorem cW_set (l:List Nat) (i x:Nat):(cW l).set i (.d (.int .u64 (x:Int)))=cW (l.set i x):=by simp [cW,List.map_set]
theorem cW_deep (l:List Nat):(AV.agg (cW l)).deep:=by
  intro c hc
  simp only [cW,List.mem_map] at hc
  obtain ⟨x,_,rfl⟩:=hc
  trivial
theorem cW_low (n:Nat) (l:List Nat):∀ v,v ∈ cW l→v.low1 n:=by
  intro c hc
  simp only [cW,List.mem_map] at hc
  obtain ⟨x,_,rfl⟩:=hc
  trivial
def tabL:List Int:=(List.range 256).map fun y=>if y=0 then 0 else ((Nat.log2 y+1:Nat):Int)
theorem tabL_some {L:List Int} (hL:L=tabL) {y:Nat} {b:Int} (h:L[y]?=some b):∃ n:Nat,b=(n:Int)∧(if y=0 then n=0 else 1≤n∧n≤8):=by
  subst hL
  unfold tabL at h
  rw [List.getElem?_map] at h
  by_cases hy:y<256
  · rw [List.getElem?_range hy,Option.map_some,Option.some.injEq] at h
    by_cases h0:y=0
    · rw [if_pos h0] at h
      exact ⟨0,h.symm,by rw [if_pos h0]⟩
    · rw [if_neg h0] at h
      refine ⟨_,h.symm,?_⟩
      rw [if_neg h0]
      have:=Nat.log2_lt (n:=y) (k:=8) h0
      omega
  · rw [List.getElem?_eq_none (by simp;omega)] at h
    cases h
theorem tabL_none {L:List Int} (hL:L=tabL) {y:Nat} (hy:y<256) (h:L[y]?=none):False:=by
  subst hL
  unfold tabL at h
  rw [List.getElem?_map,List.getElem?_range hy] at h
  cases h
def ixD:Nat→Int
  | 0=>-1
  | k+1=>k
theorem ixD_z:ixD 0=-1:=rfl
theorem ixD_s (k:Nat):ixD (k+1)=(k:Int):=rfl
theorem ixD_down (k:Nat) (h:k<1000):IntKind.i64.wrap ((k:Int) - 1)=ixD k:=by
  cases k with
  | zero=>rfl
  | succ k=>rw [IntWalk.i64_in _ (by omega)];show ((k+1:Nat):Int) - 1=(k:Int);omega
theorem cmp_fn (a b:List Nat) (ha:a.length=4) (hb:b.length=4):Rets Tryz.prog 198 [.agg (cW a),.agg (cW b)] (fun r=>r=.d (.int .i64 (cmpF a b 4))):=by
  refine fna Tryz.func198 Tryz.ntmps198 (rs:=[.tmp 4]) (by intro v hv;simp at hv;rcases hv with rfl | rfl <;> exact cW_deep _) ?_
  generalize hF:cmpF a b 4=F
  simp [go_sem]
  refine loop_of (fun k:Nat=>⟨[(2,.ptr 0 0 0 1),(3,.ptr 32 0 0 1),(5,.d (.int .i64 (ixD k)))],[(32,⟨198,4,[cW b]⟩),(0,⟨198,4,[cW a]⟩)],500⟩)
    (fun k=>k≤4∧cmpF a b k=F) (fun k=>k) 4 ⟨by omega,hF⟩ (by
      simp [Weak,slotOk,fv,lk,AV.low,AV.low1,cW_len,ha,hb,ixD]
      exact ⟨cW_low _ _,cW_low _ _⟩) ?_
  rintro k ⟨hk,hq⟩
  cases k with
  | zero =>
    simp only [cmpF] at hq
    subst hq
    simp [go_sem,ixD_z,resV]
    exact post_same (by simp [AV.deep,AV.deep1]) rfl
  | succ k =>
    obtain ⟨x,hx,_⟩:=drop_of (l:=a) (k:=k) (by omega)
    obtain ⟨y,hy,_⟩:=drop_of (l:=b) (k:=k) (by omega)
    have ex:a.getD k 0=x:=by rw [List.getD_eq_getElem?_getD,hx];rfl
    have ey:b.getD k 0=y:=by rw [List.getD_eq_getElem?_getD,hy];rfl
    simp only [cmpF,ex,ey] at hq
    have hw:=ixD_down k (by omega)
    simp [go_sem,ixD_s]
    refine drw2 [0,1,2,3,4,5,6,7] [] 0 (k:=8) ?_
    intro G hG
    simp [go_sem,cW_get,hx,hy]
    refine ⟨by omega,hG _ _ ?_⟩
    by_cases h1:x<y
    · rw [if_pos h1] at hq
      subst hq
      simp [go_sem,h1,resV]
      exact post_same (by simp [AV.deep,AV.deep1]) rfl
    · rw [if_neg h1] at hq
      simp [go_sem,h1]
      refine drw2 [0,1,2,3,4,5,6,7] [] 0 (k:=8) ?_
      intro G hG
      simp [go_sem,cW_get,hx,hy]
      refine ⟨by omega,hG _ _ ?_⟩
      by_cases h2:y<x
      · rw [if_pos h2] at hq
        subst hq
        simp [go_sem,h2,resV]
        exact post_same (by simp [AV.deep,AV.deep1]) rfl
      · rw [if_neg h2] at hq
        simp [go_sem,h2,hw]
        refine next_of k ⟨by omega,hq⟩ (by omega) ?_
        simp [Weak,slotOk,fv,lk,AV.low,AV.low1,cW_len,ha,hb]
        exact ⟨cW_low _ _,cW_low _ _⟩
theorem shW_len (b:List Nat) (i:Nat):(shW b i).length=4:=by simp [shW]
theorem read_fn (b:List Nat) (hb:b.length=32) (hby:∀ x,x ∈ b→x<256):Rets Tryz.prog 161 [.agg (cb b)] (fun r=>r=.agg (cW (mulW b 32))):=by
  refine fna Tryz.func161 Tryz.ntmps161 (rs:=[.cell 2 198]) (by intro v hv;simp at hv;subst hv;exact cb_deepA _) ?_
  rw [← shW_mul hb]
  have hcl:(cb b).length=32:=by rw [cb_len];exact hb
  have htk:(cb b).take 32=cb b:=List.take_of_length_le (by omega)
  have hz:[AV.d (DV.int .u64 0),AV.d (DV.int .u64 0),AV.d (DV.int .u64 0),AV.d (DV.int .u64 0)]=cW (shW b 0):=by rw [shW_zero];rfl
  simp [go_sem,hcl,htk]
  refine loop_of (fun i:Nat=>⟨[(2,.ptr 32 0 0 1),(3,.ptr 64 0 0 1),(7,.agg (cb b)),(8,.d (.int .i64 (i:Int)))],[(32,⟨198,4,[cW [0,0,0,0]]⟩),(64,⟨198,4,[cW (shW b i)]⟩)],500⟩)
    (fun i=>i≤32) (fun i=>32 - i) 0 (by omega) (by
      simp [Weak,slotOk,fv,lk,AV.low,AV.low1,cW_len,shW_zero]
      exact ⟨cb_low _ _,rfl,cW_low _ _⟩) ?_
  intro i hi
  simp only [go_sem,Nat.reduceEqDiff,Nat.reduceAdd,Nat.reduceLT,↓reduceIte,Nat.reduceMul]
  refine ⟨fun h=>?_,fun h=>?_⟩
  · obtain ⟨c,hc,_⟩:=drop_of (l:=b) (k:=i) (by omega)
    obtain ⟨w,hw1,hw2,hw3,hw4⟩:=shW_next hb hby hc
    have e1:IntKind.i64.wrap (31 - (i:Int))=((31 - i:Nat):Int):=by rw [IntWalk.i64_in _ (by omega)];omega
    have w3:=next_i64 (k:=i) (by omega)
    have hc8:=hby c (List.mem_of_getElem? hc)
    obtain ⟨m,hm⟩:∃ m,m=31 - i:=⟨_,rfl⟩
    rw [← hm] at e1 hw3 hw4
    have hj:m / 8=3 - i / 8:=by omega
    rw [← hj] at hw1 hw4
    have q3:IntKind.i64.wrap ((m:Int) / 8)=((m / 8:Nat):Int):=by rw [IntWalk.i64_in _ (by omega)];omega
    have q4:IntKind.i64.wrap (8*Int.tmod (m:Int) 8)=((8*(m % 8):Nat):Int):=by rw [show Int.tmod (m:Int) 8=((m % 8:Nat):Int) from rfl,IntWalk.i64_in _ (by omega)];omega
    have q5:IntKind.u64.wrap (c:Int)=(c:Int):=by rw [u64w];omega
    have hj4:m / 8<4:=by omega
    have hs64:8*(m % 8)≤64:=by omega
    generalize m / 8=j at *
    generalize 8*(m % 8)=s at *
    have q6:min s 64=s:=by omega
    have q7:IntKind.u64.wrap ((c:Int)*2 ^ s)=((c*2 ^ s:Nat):Int):=by
      rw [u64w,show (2:Int) ^ s=((2 ^ s:Nat):Int) by rw [Int.natCast_pow];rfl,← Int.natCast_mul]
      omega
    have q8:=or64 w (c*2 ^ s) hw2 hw3
    generalize c*2 ^ s=y at *
    generalize w ||| y=z at *
    simp [go_sem,cb_get,hc,e1]
    refine ⟨by omega,?_⟩
    refine drw2 [0,1,2,3,4,5,6,7,8,9,10,11] [(12,[])] 0 (k:=13) ?_
    intro G hG
    simp [go_sem,q3,q4,q5,cW_get,hw1,q6,q7,q8,IntKind.bits,cW_len,shW_len,cW_set,hw4]
    refine ⟨by omega,hj4,hG _ _ ?_⟩
    simp [go_sem,w3]
    refine next_of (i+1) (by omega) (by omega) ?_
    simp [Weak,slotOk,fv,lk,AV.low,AV.low1,cW_len]
    exact ⟨cb_low _ _,cW_low _ _,cW_low _ _⟩
  · have h32:i=32:=by omega
    subst h32
    have htk4:(cW (shW b 32)).take 4=cW (shW b 32):=List.take_of_length_le (by rw [cW_len,shW_len];omega)
    simp [go_sem,resV,cW_len,shW_len,htk4]
    exact post_same (cW_deep _) rfl
end Go.Proofs.YtfahccoobfjkeaaGreat
namespace Go.Sha
def R64 (x:Int):Prop:=0≤x∧x<18446744073709551616
def Wn (n:Nat) (l:List Int):Prop:=l.length=n∧∀ x,x ∈ l→R64 x
def itr {σ:Type} (f:Nat→σ→σ) (s:σ):Nat→σ
  | 0=>s
  | k+1=>f k (itr f s k)
theorem itr_inv {σ:Type} {f:Nat→σ→σ} {s:σ} {P:Nat→σ→Prop} (h0:P 0 s) (hs:∀ k s,P k s→P (k+1) (f k s)):∀ k,P k (itr f s k)
  | 0=>h0
  | k+1=>hs k _ (itr_inv h0 hs k)
theorem pick {α β:Type} [Inhabited β] {A:α→Prop} {B:α→β→Prop} (h:∀ x,A x→∃ y,B x y):∃ F:α→β,∀ x,A x→B x (F x):=by
  classical
  refine ⟨fun x=>if hx:A x then (h x hx).choose else default,fun x hx=>?_⟩
  simp only [dif_pos hx]
  exact (h x hx).choose_spec
theorem R64_0:R64 0:=⟨by omega,by omega⟩
theorem u64R (x:Int):R64 (IntKind.u64.wrap x):=by
  have:IntKind.u64.wrap x=x % 18446744073709551616:=by simp [IntKind.wrap,IntKind.bits,IntKind.signed]
  rw [this]
  exact ⟨Int.emod_nonneg _ (by omega),Int.emod_lt_of_pos _ (by omega)⟩
theorem Wn_set {n k:Nat} {l:List Int} {x:Int} (h:Wn n l) (hx:R64 x):Wn n (l.set k x):=by
  refine ⟨by rw [List.length_set];exact h.1,fun y hy=>?_⟩
  rcases List.mem_or_eq_of_mem_set hy with hy | rfl
  · exact h.2 y hy
  · exact hx
theorem Wn_z (n:Nat):Wn n (List.replicate n 0):=⟨by simp,fun x hx=>by rw [List.eq_of_mem_replicate hx];exact R64_0⟩
theorem Wn_get {n k:Nat} {l:List Int} (h:Wn n l) (hk:k<n):∃ x,l[k]?=some x∧R64 x:=by
  obtain ⟨h1,h2⟩:=h
  refine ⟨l[k]'(by omega),List.getElem?_eq_getElem (by omega),h2 _ (List.getElem_mem _)⟩
def gI (l:List Int) (k:Nat):Int:=l.getD k 0
theorem Wn_getD {n k:Nat} {l:List Int} (h:Wn n l):R64 (gI l k):=by
  unfold gI
  rw [List.getD_eq_getElem?_getD]
  by_cases hk:k<n
  · obtain ⟨x,e,hx⟩:=Wn_get h hk
    rw [e];exact hx
  · rw [List.getElem?_eq_none (by rw [h.1];omega)];exact R64_0
theorem get_D {l:List Int} {k:Nat} (h:k<l.length):l[k]?=some (gI l k):=by
  unfold gI
  rw [List.getD_eq_getElem?_getD,List.getElem?_eq_getElem h];rfl
end Go.Sha
namespace Go.Proofs.YtfahccoobfjkeaaGreat
open Go.Am Go.Sha
def cI (l:List Int):List AV:=l.map fun x=>AV.d (.int .u64 x)
theorem cI_len (l:List Int):(cI l).length=l.length:=by simp [cI]
theorem cI_get (l:List Int) (i:Nat):(cI l)[i]?=(l[i]?).map fun x=>AV.d (.int .u64 x):=by simp [cI]
theorem cI_set (l:List Int) (i:Nat) (x:Int):(cI l).set i (.d (.int .u64 x))=cI (l.set i x):=by simp [cI,List.map_set]
theorem cI_low (n:Nat) (l:List Int):∀ v,v ∈ cI l→v.low1 n:=by
  intro v hv
  rw [cI,List.mem_map] at hv
  obtain ⟨x,_,rfl⟩:=hv
  trivial
theorem cI_deep (l:List Int):∀ c,c ∈ cI l→c.deep1:=by
  intro c hc
  rw [cI,List.mem_map] at hc
  obtain ⟨x,_,rfl⟩:=hc
  trivial
theorem cI_deepA (l:List Int):(AV.agg (cI l)).deep:=cI_deep l
theorem cI_take {l:List Int} {n:Nat} (h:l.length=n):(cI l).take n=cI l:=List.take_of_length_le (by rw [cI_len];omega)
theorem cI_drop {l:List Int} {n:Nat} (h:l.length=n):(cI l).drop n=[]:=List.drop_eq_nil_of_le (by rw [cI_len];omega)
theorem two_cI (a b:List Int):∀ v,v ∈ [AV.agg (cI a),AV.agg (cI b)]→v.deep:=by
  intro v hv;simp at hv;rcases hv with rfl | rfl <;> exact cI_deepA _
theorem one_cI (a:List Int):∀ v,v ∈ [AV.agg (cI a)]→v.deep:=by
  intro v hv;simp at hv;subst hv;exact cI_deepA _
def zI:List Int:=[0,0,0,0]
theorem zI_W:Wn 4 zI:=Wn_z 4
theorem run_num {w:World} {S:Nat→Prop} {σ:Nat→Option Nat} {hp:Hp} {U:Nat→Prop} {k:IntKind} {n:Int} {x:Value} (h:AIs w S σ hp U (.d (.int k n)) x):x=.int k n:=by
  cases h with
  | d h=>cases h;rfl
def sub64E:Array Value→Sem Value:=fun args=>do
  let (x, y, b) ← Extern.MathBitsCarry.three "Sub64" args
  pure (Extern.MathBitsCarry.pair ((x+Extern.MathBitsCarry.m64 - y - b) % Extern.MathBitsCarry.m64) (if x<y+b then 1 else 0))
theorem run_sub64E {P:Program} (x y:Int) (k:Nat) (hk:k≤1) (w:World) :
    (sub64E #[.int .u64 x,.int .u64 y,.int .u64 (k:Int)]).run P w =
      .ok (Extern.MathBitsCarry.pair ((x.toNat+Extern.MathBitsCarry.m64 - y.toNat - k) % Extern.MathBitsCarry.m64) (if x.toNat<y.toNat+k then 1 else 0)) w:=by
  have:k=0 ∨ k=1:=by omega
  rcases this with rfl | rfl <;> rfl
def C1 (c:Int):Prop:=0≤c∧c≤1
theorem C1_0:C1 0:=⟨by omega,by omega⟩
theorem tup2_is {w:World} {S:Nat→Prop} {σ:Nat→Option Nat} {hp:Hp} {U:Nat→Prop} {a b:Int}:AIs w S σ hp U (.tup [.d (.int .u64 a),.d (.int .u64 b)]) (.tuple #[.int .u64 a,.int .u64 b]):=by
  refine .tup _ #[.int .u64 a,.int .u64 b] rfl fun i c x hc hx=>?_
  match i with
  | 0=>simp at hc hx;subst hc hx;exact .d (.int _ _)
  | 1=>simp at hc hx;subst hc hx;exact .d (.int _ _)
  | n+2=>simp at hc
theorem add64_ex (x y c:Int) (hx:R64 x) (hy:R64 y) (hc:C1 c):∃ s d:Int,R64 s∧C1 d∧s+18446744073709551616*d=x+y+c∧ExtOk Tryz.prog 230 [.d (.int .u64 x),.d (.int .u64 y),.d (.int .u64 c)] (.tup [.d (.int .u64 s),.d (.int .u64 d)]):=by
  refine ⟨(x+y+c) % 18446744073709551616,(x+y+c) / 18446744073709551616,⟨Int.emod_nonneg _ (by omega),Int.emod_lt_of_pos _ (by omega)⟩,?_,by omega,?_⟩
  · obtain ⟨h1,h2⟩:=hx
    obtain ⟨h3,h4⟩:=hy
    obtain ⟨h5,h6⟩:=hc
    exact ⟨by omega,by omega⟩
  · intro w S σ hp U vs hl hv
    match vs,hl with
    | [a,b,e],_ =>
      have ha:=run_num (hv 0 _ a rfl rfl)
      have hb:=run_num (hv 1 _ b rfl rfl)
      have he:=run_num (hv 2 _ e rfl rfl)
      subst ha hb he
      refine ⟨_,?_,tup2_is⟩
      rw [run_callFunc_extern Tryz.func230 (by kernel_rfl) (by kernel_rfl) (by kernel_rfl) (e:=add64Entry) (by kernel_rfl),run_add64 x y c hx.1 hy.1 hc.1 hc.2]
      rfl
theorem sub64_ex (x y c:Int) (hx:R64 x) (hy:R64 y) (hc:C1 c):∃ s d:Int,R64 s∧C1 d∧s - 18446744073709551616*d=x - y - c∧ExtOk Tryz.prog 241 [.d (.int .u64 x),.d (.int .u64 y),.d (.int .u64 c)] (.tup [.d (.int .u64 s),.d (.int .u64 d)]):=by
  obtain ⟨k,rfl⟩:=Int.eq_ofNat_of_zero_le hc.1
  have hk:k≤1:=by have:=hc.2;omega
  refine ⟨((((x.toNat+Extern.MathBitsCarry.m64 - y.toNat - k) % Extern.MathBitsCarry.m64:Nat)):Int),(((if x.toNat<y.toNat+k then 1 else 0:Nat)):Int),?_,?_,?_,?_⟩
  · have hm:(x.toNat+Extern.MathBitsCarry.m64 - y.toNat - k) % Extern.MathBitsCarry.m64<Extern.MathBitsCarry.m64:=Nat.mod_lt _ (by decide)
    have e:Extern.MathBitsCarry.m64=18446744073709551616:=by decide
    exact ⟨Int.natCast_nonneg _,by rw [e] at hm ⊢;omega⟩
  · split
    · exact ⟨by omega,by omega⟩
    · exact ⟨by omega,by omega⟩
  · have e:Extern.MathBitsCarry.m64=18446744073709551616:=by decide
    obtain ⟨h1,h2⟩:=hx
    obtain ⟨h3,h4⟩:=hy
    rw [e]
    split <;> omega
  · intro w S σ hp U vs hl hv
    match vs,hl with
    | [a,b,e],_ =>
      have ha:=run_num (hv 0 _ a rfl rfl)
      have hb:=run_num (hv 1 _ b rfl rfl)
      have he:=run_num (hv 2 _ e rfl rfl)
      subst ha hb he
      refine ⟨_,?_,tup2_is⟩
      rw [run_callFunc_extern Tryz.func241 (by kernel_rfl) (by kernel_rfl) (by kernel_rfl) (e:=sub64E) (by kernel_rfl),run_sub64E x y k hk]
      rfl
theorem and32 (z:Int) (h0:0≤z) (h1:z<18446744073709551616):Go.bits .and .u64 z 4294967295=z % 4294967296:=by
  obtain ⟨n,rfl⟩:=Int.eq_ofNat_of_zero_le h0
  have h:=bits_and_u64_nat n 4294967295 (by omega) (by omega)
  rw [nat_mask32] at h
  rw [Int.natCast_emod] at h
  exact h
theorem mul64_ex (x y:Int) (hx:R64 x) (hy:R64 y):∃ s d:Int,R64 s∧R64 d∧d+18446744073709551616*s=x*y∧Rets Tryz.prog 240 [.d (.int .u64 x),.d (.int .u64 y)] (fun r=>r=.tup [.d (.int .u64 s),.d (.int .u64 d)]):=by
  have hp:0≤x*y∧x*y≤18446744073709551615*18446744073709551615:=⟨Int.mul_nonneg hx.1 hy.1,by
    have h1:=hx.2
    have h2:=hy.2
    have h3:=hy.1
    exact Int.mul_le_mul (by omega) (by omega) h3 (by omega)⟩
  have hm:=mul64_arith x y hx.1 hx.2 hy.1 hy.2
  have w:∀ z,IntKind.u64.wrap z=z % 18446744073709551616:=fun z=>by simp [IntKind.wrap,IntKind.bits,IntKind.signed]
  refine ⟨x*y / 18446744073709551616,x*y % 18446744073709551616,⟨by omega,by omega⟩,⟨Int.emod_nonneg _ (by omega),Int.emod_lt_of_pos _ (by omega)⟩,by omega,?_⟩
  refine fna Tryz.func240 Tryz.ntmps240 (rs:=[.tmp 4,.tmp 5]) (by simp [AV.deep,AV.deep1]) ?_
  simp [go_sem,resV,IntKind.bits,w]
  refine post_same (by simp [AV.deep,AV.deep1]) ?_
  have f32:∀ z:Int,Int.fdiv z 4294967296=z / 4294967296:=fun z=>Int.fdiv_eq_ediv_of_nonneg _ (by omega)
  have a3:∀ z:Int,Go.bits .and .u64 (z % 18446744073709551616) 4294967295=z % 18446744073709551616 % 4294967296:=fun z=>and32 _ (Int.emod_nonneg _ (by omega)) (Int.emod_lt_of_pos _ (by omega))
  simp only [f32,and32 x hx.1 hx.2,and32 y hy.1 hy.2,a3]
  have e:∀ A B C D:Int,0≤A∧A≤18446744065119617025→0≤B∧B≤18446744065119617025→0≤C∧C≤18446744065119617025→0≤D∧D≤18446744065119617025 →
      (A+(B+C % 18446744073709551616 / 4294967296) % 18446744073709551616 / 4294967296+((B+C % 18446744073709551616 / 4294967296) % 18446744073709551616 % 4294967296+D) % 18446744073709551616 / 4294967296) % 18446744073709551616=(A*18446744073709551616+(B+D)*4294967296+C) / 18446744073709551616:=by
    intro A B C D hA hB hC hD
    omega
  obtain ⟨x1,x0,hxx,q1,q2,q3,q4⟩:∃ x1 x0:Int,x=x1*4294967296+x0∧0≤x1∧x1≤4294967295∧0≤x0∧x0≤4294967295:=⟨x / 4294967296,x % 4294967296,by omega,by have:=hx.1;omega,by have:=hx.2;omega,by omega,by omega⟩
  obtain ⟨y1,y0,hyy,q5,q6,q7,q8⟩:∃ y1 y0:Int,y=y1*4294967296+y0∧0≤y1∧y1≤4294967295∧0≤y0∧y0≤4294967295:=⟨y / 4294967296,y % 4294967296,by omega,by have:=hy.1;omega,by have:=hy.2;omega,by omega,by omega⟩
  have r1:x / 4294967296=x1:=by omega
  have r2:x % 4294967296=x0:=by omega
  have r3:y / 4294967296=y1:=by omega
  have r4:y % 4294967296=y0:=by omega
  rw [r1,r2,r3,r4,e _ _ _ _ (prod_bound x1 y1 q1 q2 q5 q6) (prod_bound x1 y0 q1 q2 q7 q8) (prod_bound x0 y0 q3 q4 q7 q8) (prod_bound x0 y1 q3 q4 q5 q6),← split_mul,← hxx,← hyy]
theorem wrap64 (x:Int):IntKind.u64.wrap x=x % 18446744073709551616:=by simp [IntKind.wrap,IntKind.bits,IntKind.signed]
def stpA (A:Int × Int × Int→Int × Int) (a b:List Int) (k:Nat) (s:List Int × Int):List Int × Int :=
  (s.1.set k (A (gI a k,gI b k,s.2)).1,(A (gI a k,gI b k,s.2)).2)
def stpS (A:Int × Int × Int→Int × Int) (M:Int × Int→Int × Int) (a:List Int) (k:Nat) (s:List Int × Int):List Int × Int :=
  (s.1.set k (A ((M (gI a k,4294968273)).2,s.2,0)).1,IntKind.u64.wrap ((M (gI a k,4294968273)).1+(A ((M (gI a k,4294968273)).2,s.2,0)).2))
def zI8:List Int:=[0,0,0,0,0,0,0,0]
theorem zI8_W:Wn 8 zI8:=Wn_z 8
def pl (i k:Nat):Nat:=i+k
def stpP (A:Int × Int × Int→Int × Int) (M:Int × Int→Int × Int) (a b:List Int) (i k:Nat) (s:List Int × Int):List Int × Int :=
  (s.1.set (pl i k) (A ((A ((M (gI a i,gI b k)).2,gI s.1 (pl i k),0)).1,s.2,0)).1,IntKind.u64.wrap (IntKind.u64.wrap ((M (gI a i,gI b k)).1+(A ((M (gI a i,gI b k)).2,gI s.1 (pl i k),0)).2)+(A ((A ((M (gI a i,gI b k)).2,gI s.1 (pl i k),0)).1,s.2,0)).2))
def stpQ (A:Int × Int × Int→Int × Int) (M:Int × Int→Int × Int) (a b:List Int) (i:Nat) (p:List Int):List Int :=
  (itr (stpP A M a b i) (p,0) 4).1.set (pl i 4) (itr (stpP A M a b i) (p,0) 4).2
def V:List Int→Int
  | []=>0
  | x :: r=>x+18446744073709551616*V r
theorem V4 (a b c d:Int):V [a,b,c,d]=a+18446744073709551616*(b+18446744073709551616*(c+18446744073709551616*d)):=by simp [V]
theorem W4_ex {l:List Int} (h:Wn 4 l):∃ a b c d,l=[a,b,c,d]∧R64 a∧R64 b∧R64 c∧R64 d:=by
  obtain ⟨h1,h2⟩:=h
  match l,h1 with
  | [a,b,c,d],_=>exact ⟨a,b,c,d,rfl,h2 a (by simp),h2 b (by simp),h2 c (by simp),h2 d (by simp)⟩
theorem V_lt {l:List Int} (h:Wn 4 l):0≤V l∧V l<115792089237316195423570985008687907853269984665640564039457584007913129639936:=by
  obtain ⟨a,b,c,d,rfl,ha,hb,hc,hd⟩:=W4_ex h
  rw [V4]
  unfold R64 at *
  omega
theorem V_inj {l m:List Int} (h:Wn 4 l) (h':Wn 4 m) (e:V l=V m):l=m:=by
  obtain ⟨a,b,c,d,rfl,ha,hb,hc,hd⟩:=W4_ex h
  obtain ⟨a',b',c',d',rfl,ha',hb',hc',hd'⟩:=W4_ex h'
  rw [V4,V4] at e
  unfold R64 at *
  have e1:a=a':=by omega
  have e2:b=b':=by omega
  have e3:c=c':=by omega
  have e4:d=d':=by omega
  rw [e1,e2,e3,e4]
def AddV (A:Int × Int × Int→Int × Int):Prop:=∀ x,R64 x.1∧R64 x.2.1∧C1 x.2.2→R64 (A x).1∧C1 (A x).2∧(A x).1+18446744073709551616*(A x).2=x.1+x.2.1+x.2.2
def SubV (A:Int × Int × Int→Int × Int):Prop:=∀ x,R64 x.1∧R64 x.2.1∧C1 x.2.2→R64 (A x).1∧C1 (A x).2∧(A x).1 - 18446744073709551616*(A x).2=x.1 - x.2.1 - x.2.2
def MulV (M:Int × Int→Int × Int):Prop:=∀ x,R64 x.1∧R64 x.2→R64 (M x).1∧R64 (M x).2∧(M x).2+18446744073709551616*(M x).1=x.1*x.2
theorem addV {A:Int × Int × Int→Int × Int} (hA:AddV A) {a b:List Int} (ha:Wn 4 a) (hb:Wn 4 b) :
    V (itr (stpA A a b) (zI,0) 4).1+115792089237316195423570985008687907853269984665640564039457584007913129639936*(itr (stpA A a b) (zI,0) 4).2=V a+V b:=by
  obtain ⟨a0,a1,a2,a3,rfl,ha0,ha1,ha2,ha3⟩:=W4_ex ha
  obtain ⟨b0,b1,b2,b3,rfl,hb0,hb1,hb2,hb3⟩:=W4_ex hb
  have c0:C1 0:=⟨by omega,by omega⟩
  have s0:=hA (a0,b0,0) ⟨ha0,hb0,c0⟩
  have s1:=hA (a1,b1,(A (a0,b0,0)).2) ⟨ha1,hb1,s0.2.1⟩
  have s2:=hA (a2,b2,(A (a1,b1,(A (a0,b0,0)).2)).2) ⟨ha2,hb2,s1.2.1⟩
  have s3:=hA (a3,b3,(A (a2,b2,(A (a1,b1,(A (a0,b0,0)).2)).2)).2) ⟨ha3,hb3,s2.2.1⟩
  have e:itr (stpA A [a0,a1,a2,a3] [b0,b1,b2,b3]) (zI,0) 4=([(A (a0,b0,0)).1,(A (a1,b1,(A (a0,b0,0)).2)).1,(A (a2,b2,(A (a1,b1,(A (a0,b0,0)).2)).2)).1,(A (a3,b3,(A (a2,b2,(A (a1,b1,(A (a0,b0,0)).2)).2)).2)).1],(A (a3,b3,(A (a2,b2,(A (a1,b1,(A (a0,b0,0)).2)).2)).2)).2):=rfl
  rw [e,V4,V4,V4]
  generalize A (a3,b3,(A (a2,b2,(A (a1,b1,(A (a0,b0,0)).2)).2)).2)=q3 at *
  generalize A (a2,b2,(A (a1,b1,(A (a0,b0,0)).2)).2)=q2 at *
  generalize A (a1,b1,(A (a0,b0,0)).2)=q1 at *
  generalize A (a0,b0,0)=q0 at *
  obtain ⟨_,_,e0⟩:=s0
  obtain ⟨_,_,e1⟩:=s1
  obtain ⟨_,_,e2⟩:=s2
  obtain ⟨_,_,e3⟩:=s3
  dsimp only at *
  omega
theorem subV {A:Int × Int × Int→Int × Int} (hA:SubV A) {a b:List Int} (ha:Wn 4 a) (hb:Wn 4 b) :
    V (itr (stpA A a b) (zI,0) 4).1 - 115792089237316195423570985008687907853269984665640564039457584007913129639936*(itr (stpA A a b) (zI,0) 4).2=V a - V b:=by
  obtain ⟨a0,a1,a2,a3,rfl,ha0,ha1,ha2,ha3⟩:=W4_ex ha
  obtain ⟨b0,b1,b2,b3,rfl,hb0,hb1,hb2,hb3⟩:=W4_ex hb
  have c0:C1 0:=⟨by omega,by omega⟩
  have s0:=hA (a0,b0,0) ⟨ha0,hb0,c0⟩
  have s1:=hA (a1,b1,(A (a0,b0,0)).2) ⟨ha1,hb1,s0.2.1⟩
  have s2:=hA (a2,b2,(A (a1,b1,(A (a0,b0,0)).2)).2) ⟨ha2,hb2,s1.2.1⟩
  have s3:=hA (a3,b3,(A (a2,b2,(A (a1,b1,(A (a0,b0,0)).2)).2)).2) ⟨ha3,hb3,s2.2.1⟩
  have e:itr (stpA A [a0,a1,a2,a3] [b0,b1,b2,b3]) (zI,0) 4=([(A (a0,b0,0)).1,(A (a1,b1,(A (a0,b0,0)).2)).1,(A (a2,b2,(A (a1,b1,(A (a0,b0,0)).2)).2)).1,(A (a3,b3,(A (a2,b2,(A (a1,b1,(A (a0,b0,0)).2)).2)).2)).1],(A (a3,b3,(A (a2,b2,(A (a1,b1,(A (a0,b0,0)).2)).2)).2)).2):=rfl
  rw [e,V4,V4,V4]
  generalize A (a3,b3,(A (a2,b2,(A (a1,b1,(A (a0,b0,0)).2)).2)).2)=q3 at *
  generalize A (a2,b2,(A (a1,b1,(A (a0,b0,0)).2)).2)=q2 at *
  generalize A (a1,b1,(A (a0,b0,0)).2)=q1 at *
  generalize A (a0,b0,0)=q0 at *
  obtain ⟨_,_,e0⟩:=s0
  obtain ⟨_,_,e1⟩:=s1
  obtain ⟨_,_,e2⟩:=s2
  obtain ⟨_,_,e3⟩:=s3
  dsimp only at *
  omega
theorem stepV {A:Int × Int × Int→Int × Int} {M:Int × Int→Int × Int} (hA:AddV A) (hM:MulV M) {x y p c:Int} (hx:R64 x) (hy:R64 y) (hp:R64 p) (hc:R64 c) :
    R64 (A ((A ((M (x,y)).2,p,0)).1,c,0)).1∧R64 (IntKind.u64.wrap (IntKind.u64.wrap ((M (x,y)).1+(A ((M (x,y)).2,p,0)).2)+(A ((A ((M (x,y)).2,p,0)).1,c,0)).2)) ∧
    (A ((A ((M (x,y)).2,p,0)).1,c,0)).1+18446744073709551616*IntKind.u64.wrap (IntKind.u64.wrap ((M (x,y)).1+(A ((M (x,y)).2,p,0)).2)+(A ((A ((M (x,y)).2,p,0)).1,c,0)).2)=x*y+p+c:=by
  have c0:C1 0:=⟨by omega,by omega⟩
  obtain ⟨m1,m2,m3⟩:=hM (x,y) ⟨hx,hy⟩
  generalize M (x,y)=m at *
  obtain ⟨n1,n2,n3⟩:=hA (m.2,p,0) ⟨m2,hp,c0⟩
  generalize A (m.2,p,0)=q at *
  obtain ⟨k1,k2,k3⟩:=hA (q.1,c,0) ⟨n1,hc,c0⟩
  generalize A (q.1,c,0)=r at *
  have hxy:x*y≤18446744073709551615*18446744073709551615:=by
    unfold R64 at hx hy
    exact Int.mul_le_mul (by omega) (by omega) (by omega) (by omega)
  dsimp only at *
  simp only [wrap64] at *
  unfold R64 C1 at *
  generalize x*y=z at *
  refine ⟨k1,⟨by omega,by omega⟩,by omega⟩
theorem gI_ne {l:List Int} {i j:Nat} {x:Int} (h:i ≠ j):gI (l.set i x) j=gI l j:=by
  unfold gI
  rw [List.getD_eq_getElem?_getD,List.getD_eq_getElem?_getD,List.getElem?_set_ne h]
theorem Wn_gI {n:Nat} {l:List Int} (h:Wn n l) (k:Nat):R64 (gI l k):=by
  unfold gI
  rw [List.getD_eq_getElem?_getD]
  cases e:l[k]? with
  | none=>exact ⟨by simp,by simp⟩
  | some x=>exact h.2 x (List.mem_of_getElem? e)
theorem rowV {A:Int × Int × Int→Int × Int} {M:Int × Int→Int × Int} (hA:AddV A) (hM:MulV M) {a b p:List Int} (ha:Wn 4 a) (hb:Wn 4 b) (hp:Wn 8 p) (i:Nat) :
    ∃ r0 r1 r2 r3 c,R64 r0∧R64 r1∧R64 r2∧R64 r3∧R64 c ∧
      r0+18446744073709551616*(r1+18446744073709551616*(r2+18446744073709551616*(r3+18446744073709551616*c)))=gI a i*V b+(gI p i+18446744073709551616*(gI p (i+1)+18446744073709551616*(gI p (i+2)+18446744073709551616*gI p (i+3)))) ∧
      stpQ A M a b i p=((((p.set i r0).set (i+1) r1).set (i+2) r2).set (i+3) r3).set (i+4) c:=by
  obtain ⟨b0,b1,b2,b3,rfl,hb0,hb1,hb2,hb3⟩:=W4_ex hb
  have hx:=Wn_gI ha i
  generalize hxe:gI a i=x at *
  have z:R64 0:=⟨by omega,by omega⟩
  obtain ⟨s1,s2,s3⟩:=stepV hA hM hx hb0 (Wn_gI hp i) z
  obtain ⟨t1,t2,t3⟩:=stepV hA hM hx hb1 (Wn_gI hp (i+1)) s2
  obtain ⟨u1,u2,u3⟩:=stepV hA hM hx hb2 (Wn_gI hp (i+2)) t2
  obtain ⟨v1,v2,v3⟩:=stepV hA hM hx hb3 (Wn_gI hp (i+3)) u2
  refine ⟨_,_,_,_,_,s1,t1,u1,v1,v2,?_,?_⟩
  · have hm:∀ u v:Int,x*(u+18446744073709551616*v)=x*u+18446744073709551616*(x*v):=fun u v=>by rw [Int.mul_add,Int.mul_left_comm]
    rw [V4,hm,hm,hm]
    revert s3 t3 u3 v3
    generalize gI p i=p0
    generalize gI p (i+1)=p1
    generalize gI p (i+2)=p2
    generalize gI p (i+3)=p3
    generalize x*b0=y0
    generalize x*b1=y1
    generalize x*b2=y2
    generalize x*b3=y3
    intro s3 t3 u3 v3
    omega
  · have n1:∀ (l:List Int) (y:Int),gI (l.set i y) (i+1)=gI l (i+1):=fun l y=>gI_ne (by omega)
    have n2:∀ (l:List Int) (y:Int),gI (l.set i y) (i+2)=gI l (i+2):=fun l y=>gI_ne (by omega)
    have n3:∀ (l:List Int) (y:Int),gI (l.set i y) (i+3)=gI l (i+3):=fun l y=>gI_ne (by omega)
    have n4:∀ (l:List Int) (y:Int),gI (l.set (i+1) y) (i+2)=gI l (i+2):=fun l y=>gI_ne (by omega)
    have n5:∀ (l:List Int) (y:Int),gI (l.set (i+1) y) (i+3)=gI l (i+3):=fun l y=>gI_ne (by omega)
    have n6:∀ (l:List Int) (y:Int),gI (l.set (i+2) y) (i+3)=gI l (i+3):=fun l y=>gI_ne (by omega)
    have g0:gI [b0,b1,b2,b3] 0=b0:=rfl
    have g1:gI [b0,b1,b2,b3] 1=b1:=rfl
    have g2:gI [b0,b1,b2,b3] 2=b2:=rfl
    have g3:gI [b0,b1,b2,b3] 3=b3:=rfl
    simp only [stpQ,itr,stpP,pl,hxe,g0,g1,g2,g3,n1,n2,n3,n4,n5,n6,Nat.add_zero]
theorem productV {A:Int × Int × Int→Int × Int} {M:Int × Int→Int × Int} (hA:AddV A) (hM:MulV M) {a b:List Int} (ha:Wn 4 a) (hb:Wn 4 b) :
    Wn 8 (itr (stpQ A M a b) zI8 4)∧V (itr (stpQ A M a b) zI8 4)=V a*V b:=by
  obtain ⟨a0,a1,a2,a3,rfl,ha0,ha1,ha2,ha3⟩:=W4_ex ha
  have z:R64 0:=⟨by omega,by omega⟩
  have w0:Wn 8 zI8:=⟨rfl,fun x hx=>by simp [zI8] at hx;subst hx;exact z⟩
  obtain ⟨r0,r1,r2,r3,c0,hr0,hr1,hr2,hr3,hc0,e0,f0⟩:=rowV hA hM ha hb w0 0
  have f0':stpQ A M [a0,a1,a2,a3] b 0 zI8=[r0,r1,r2,r3,c0,0,0,0]:=f0
  have w1:Wn 8 [r0,r1,r2,r3,c0,0,0,0]:=⟨rfl,fun x hx=>by simp at hx;rcases hx with rfl | rfl | rfl | rfl | rfl | rfl <;> assumption⟩
  obtain ⟨s0,s1,s2,s3,c1,hs0,hs1,hs2,hs3,hc1,e1,f1⟩:=rowV hA hM ha hb w1 1
  have f1':stpQ A M [a0,a1,a2,a3] b 1 [r0,r1,r2,r3,c0,0,0,0]=[r0,s0,s1,s2,s3,c1,0,0]:=f1
  have w2:Wn 8 [r0,s0,s1,s2,s3,c1,0,0]:=⟨rfl,fun x hx=>by simp at hx;rcases hx with rfl | rfl | rfl | rfl | rfl | rfl | rfl <;> assumption⟩
  obtain ⟨t0,t1,t2,t3,c2,ht0,ht1,ht2,ht3,hc2,e2,f2⟩:=rowV hA hM ha hb w2 2
  have f2':stpQ A M [a0,a1,a2,a3] b 2 [r0,s0,s1,s2,s3,c1,0,0]=[r0,s0,t0,t1,t2,t3,c2,0]:=f2
  have w3:Wn 8 [r0,s0,t0,t1,t2,t3,c2,0]:=⟨rfl,fun x hx=>by simp at hx;rcases hx with rfl | rfl | rfl | rfl | rfl | rfl | rfl | rfl <;> assumption⟩
  obtain ⟨u0,u1,u2,u3,c3,hu0,hu1,hu2,hu3,hc3,e3,f3⟩:=rowV hA hM ha hb w3 3
  have f3':stpQ A M [a0,a1,a2,a3] b 3 [r0,s0,t0,t1,t2,t3,c2,0]=[r0,s0,t0,u0,u1,u2,u3,c3]:=f3
  have e:itr (stpQ A M [a0,a1,a2,a3] b) zI8 4=[r0,s0,t0,u0,u1,u2,u3,c3]:=by
    simp only [itr]
    rw [f0',f1',f2',f3']
  rw [e]
  refine ⟨⟨rfl,fun x hx=>by simp at hx;rcases hx with rfl | rfl | rfl | rfl | rfl | rfl | rfl | rfl <;> assumption⟩,?_⟩
  have k:V [a0,a1,a2,a3]*V b=a0*V b+18446744073709551616*(a1*V b+18446744073709551616*(a2*V b+18446744073709551616*(a3*V b))):=by
    rw [V4,Int.add_mul,Int.mul_assoc,Int.add_mul,Int.mul_assoc,Int.add_mul,Int.mul_assoc]
  have k2:V [r0,s0,t0,u0,u1,u2,u3,c3]=r0+18446744073709551616*(s0+18446744073709551616*(t0+18446744073709551616*(u0+18446744073709551616*(u1+18446744073709551616*(u2+18446744073709551616*(u3+18446744073709551616*c3)))))):=by simp [V]
  rw [k,k2]
  have g0:gI [a0,a1,a2,a3] 0*V b+(0+18446744073709551616*(0+18446744073709551616*(0+18446744073709551616*0)))=a0*V b:=by show a0*V b+_=_;omega
  have e0':r0+18446744073709551616*(r1+18446744073709551616*(r2+18446744073709551616*(r3+18446744073709551616*c0)))=a0*V b:=e0.trans g0
  have e1':s0+18446744073709551616*(s1+18446744073709551616*(s2+18446744073709551616*(s3+18446744073709551616*c1)))=a1*V b+(r1+18446744073709551616*(r2+18446744073709551616*(r3+18446744073709551616*c0))):=e1
  have e2':t0+18446744073709551616*(t1+18446744073709551616*(t2+18446744073709551616*(t3+18446744073709551616*c2)))=a2*V b+(s1+18446744073709551616*(s2+18446744073709551616*(s3+18446744073709551616*c1))):=e2
  have e3':u0+18446744073709551616*(u1+18446744073709551616*(u2+18446744073709551616*(u3+18446744073709551616*c3)))=a3*V b+(t1+18446744073709551616*(t2+18446744073709551616*(t3+18446744073709551616*c2))):=e3
  generalize a0*V b=y0 at *
  generalize a1*V b=y1 at *
  generalize a2*V b=y2 at *
  generalize a3*V b=y3 at *
  omega
theorem scaledV {A:Int × Int × Int→Int × Int} {M:Int × Int→Int × Int} (hA:AddV A) (hM:MulV M) {a:List Int} (ha:Wn 4 a) :
    V (itr (stpS A M a) (zI,0) 4).1+115792089237316195423570985008687907853269984665640564039457584007913129639936*(itr (stpS A M a) (zI,0) 4).2=V a*4294968273:=by
  obtain ⟨a0,a1,a2,a3,rfl,ha0,ha1,ha2,ha3⟩:=W4_ex ha
  have z:R64 0:=⟨by omega,by omega⟩
  have c0:C1 0:=⟨by omega,by omega⟩
  have ov:R64 4294968273:=⟨by omega,by omega⟩
  have one:∀ x c:Int,R64 x→R64 c→R64 (A ((M (x,4294968273)).2,c,0)).1∧R64 (IntKind.u64.wrap ((M (x,4294968273)).1+(A ((M (x,4294968273)).2,c,0)).2)) ∧
      (A ((M (x,4294968273)).2,c,0)).1+18446744073709551616*IntKind.u64.wrap ((M (x,4294968273)).1+(A ((M (x,4294968273)).2,c,0)).2)=x*4294968273+c:=by
    intro x c hx hc
    obtain ⟨m1,m2,m3⟩:=hM (x,4294968273) ⟨hx,ov⟩
    generalize M (x,4294968273)=m at *
    obtain ⟨n1,n2,n3⟩:=hA (m.2,c,0) ⟨m2,hc,c0⟩
    generalize A (m.2,c,0)=q at *
    dsimp only at *
    simp only [wrap64] at *
    unfold R64 C1 at *
    refine ⟨n1,⟨by omega,by omega⟩,by omega⟩
  obtain ⟨s1,s2,s3⟩:=one a0 0 ha0 z
  obtain ⟨t1,t2,t3⟩:=one a1 _ ha1 s2
  obtain ⟨u1,u2,u3⟩:=one a2 _ ha2 t2
  obtain ⟨v1,v2,v3⟩:=one a3 _ ha3 u2
  have g0:gI [a0,a1,a2,a3] 0=a0:=rfl
  have g1:gI [a0,a1,a2,a3] 1=a1:=rfl
  have g2:gI [a0,a1,a2,a3] 2=a2:=rfl
  have g3:gI [a0,a1,a2,a3] 3=a3:=rfl
  have e:∀ p q r s:Int,List.set (List.set (List.set (List.set zI 0 p) 1 q) 2 r) 3 s=[p,q,r,s]:=fun _ _ _ _=>rfl
  simp only [itr,stpS,g0,g1,g2,g3,e,V4]
  omega
theorem zz4I:tzO Tryz.prog 198=some (cI zI):=by kernel_rfl
attribute [go_sem] zz4I
theorem zI_len:zI.length=4:=rfl
attribute [go_sem] zI_len cI_len cI_get
theorem post_wc {Q:AV→Prop} {st:St} {a:List Int} {b:Int} (hq:Q (.tup [.agg (cI a),.d (.int .u64 b)])):PostK Q (.tup [.agg (cI a),.d (.int .u64 b)]) st :=
  post_same (by
    intro c hc
    simp at hc
    rcases hc with rfl | rfl
    · exact .inr ⟨_,rfl,cI_deep _⟩
    · exact .inl trivial) hq
theorem addF:∃ A:Int × Int × Int→Int × Int,AddV A∧∀ x,(R64 x.1∧R64 x.2.1∧C1 x.2.2)→R64 (A x).1∧C1 (A x).2∧ExtOk Tryz.prog 230 [.d (.int .u64 x.1),.d (.int .u64 x.2.1),.d (.int .u64 x.2.2)] (.tup [.d (.int .u64 (A x).1),.d (.int .u64 (A x).2)]):=by
  obtain ⟨A,hA⟩:=pick (α:=Int × Int × Int) (β:=Int × Int) (A:=fun x=>R64 x.1∧R64 x.2.1∧C1 x.2.2) (B:=fun x y=>R64 y.1∧C1 y.2∧y.1+18446744073709551616*y.2=x.1+x.2.1+x.2.2∧ExtOk Tryz.prog 230 [.d (.int .u64 x.1),.d (.int .u64 x.2.1),.d (.int .u64 x.2.2)] (.tup [.d (.int .u64 y.1),.d (.int .u64 y.2)])) (fun x hx=>by
    obtain ⟨s,d,h1,h2,h3,h4⟩:=add64_ex x.1 x.2.1 x.2.2 hx.1 hx.2.1 hx.2.2
    exact ⟨(s,d),h1,h2,h3,h4⟩)
  exact ⟨A,fun x hx=>⟨(hA x hx).1,(hA x hx).2.1,(hA x hx).2.2.1⟩,fun x hx=>⟨(hA x hx).1,(hA x hx).2.1,(hA x hx).2.2.2⟩⟩
theorem subF:∃ A:Int × Int × Int→Int × Int,SubV A∧∀ x,(R64 x.1∧R64 x.2.1∧C1 x.2.2)→R64 (A x).1∧C1 (A x).2∧ExtOk Tryz.prog 241 [.d (.int .u64 x.1),.d (.int .u64 x.2.1),.d (.int .u64 x.2.2)] (.tup [.d (.int .u64 (A x).1),.d (.int .u64 (A x).2)]):=by
  obtain ⟨A,hA⟩:=pick (α:=Int × Int × Int) (β:=Int × Int) (A:=fun x=>R64 x.1∧R64 x.2.1∧C1 x.2.2) (B:=fun x y=>R64 y.1∧C1 y.2∧y.1 - 18446744073709551616*y.2=x.1 - x.2.1 - x.2.2∧ExtOk Tryz.prog 241 [.d (.int .u64 x.1),.d (.int .u64 x.2.1),.d (.int .u64 x.2.2)] (.tup [.d (.int .u64 y.1),.d (.int .u64 y.2)])) (fun x hx=>by
    obtain ⟨s,d,h1,h2,h3,h4⟩:=sub64_ex x.1 x.2.1 x.2.2 hx.1 hx.2.1 hx.2.2
    exact ⟨(s,d),h1,h2,h3,h4⟩)
  exact ⟨A,fun x hx=>⟨(hA x hx).1,(hA x hx).2.1,(hA x hx).2.2.1⟩,fun x hx=>⟨(hA x hx).1,(hA x hx).2.1,(hA x hx).2.2.2⟩⟩
theorem mulF:∃ M:Int × Int→Int × Int,∀ x,R64 (M x).1∧R64 (M x).2∧(R64 x.1∧R64 x.2→(M x).2+18446744073709551616*(M x).1=x.1*x.2∧Rets Tryz.prog 240 [.d (.int .u64 x.1),.d (.int .u64 x.2)] (fun r=>r=.tup [.d (.int .u64 (M x).1),.d (.int .u64 (M x).2)])):=by
  obtain ⟨M,hM⟩:=pick (α:=Int × Int) (β:=Int × Int) (A:=fun _=>True) (B:=fun x y=>R64 y.1∧R64 y.2∧(R64 x.1∧R64 x.2→y.2+18446744073709551616*y.1=x.1*x.2∧Rets Tryz.prog 240 [.d (.int .u64 x.1),.d (.int .u64 x.2)] (fun r=>r=.tup [.d (.int .u64 y.1),.d (.int .u64 y.2)]))) (fun x _=>by
    by_cases hx:R64 x.1∧R64 x.2
    · obtain ⟨s,d,h1,h2,h3,h4⟩:=mul64_ex x.1 x.2 hx.1 hx.2
      exact ⟨(s,d),h1,h2,fun _=>⟨h3,h4⟩⟩
    · exact ⟨(0,0),R64_0,R64_0,fun h=>absurd h hx⟩)
  exact ⟨M,fun x=>hM x trivial⟩
theorem mulV_of {M:Int × Int→Int × Int} {C:Int × Int→Prop} (hM:∀ x,R64 (M x).1∧R64 (M x).2∧(R64 x.1∧R64 x.2→(M x).2+18446744073709551616*(M x).1=x.1*x.2∧C x)):MulV M :=
  fun x hx=>⟨(hM x).1,(hM x).2.1,((hM x).2.2 hx).1⟩
theorem wadd_ex (a b:List Int) (ha:Wn 4 a) (hb:Wn 4 b):∃ (s:List Int) (c:Int),Wn 4 s∧C1 c∧V s+115792089237316195423570985008687907853269984665640564039457584007913129639936*c=V a+V b∧Rets Tryz.prog 200 [.agg (cI a),.agg (cI b)] (fun r=>r=.tup [.agg (cI s),.d (.int .u64 c)]):=by
  obtain ⟨A,hAV,hA⟩:=addF
  have hS:∀ k,Wn 4 (itr (stpA A a b) (zI,0) k).1∧C1 (itr (stpA A a b) (zI,0) k).2:=itr_inv (P:=fun _ (s:List Int × Int)=>Wn 4 s.1∧C1 s.2) ⟨zI_W,C1_0⟩ fun k s hs=>by
    obtain ⟨h1,h2,_⟩:=hA (gI a k,gI b k,s.2) ⟨Wn_getD ha,Wn_getD hb,hs.2⟩
    exact ⟨Wn_set hs.1 h1,h2⟩
  refine ⟨(itr (stpA A a b) (zI,0) 4).1,(itr (stpA A a b) (zI,0) 4).2,(hS 4).1,(hS 4).2,addV hAV ha hb,?_⟩
  refine fna Tryz.func200 Tryz.ntmps200 (rs:=[.cell 4 198,.tmp 5]) (two_cI a b) ?_
  have hal:=ha.1
  have hbl:=hb.1
  simp [go_sem,hal,hbl,cI_take hal,cI_take hbl]
  generalize hSS:itr (stpA A a b) (zI,0)=S at *
  refine loop_of (fun k:Nat=>⟨[(2,.ptr 0 0 0 1),(3,.ptr 32 0 0 1),(4,.ptr 64 0 0 1),(6,.ptr 128 0 0 1),(7,.d (.int .u64 (S k).2)),(9,.d (.int .i64 (k:Int)))],[(128,⟨198,4,[cI (S k).1]⟩),(64,⟨198,4,[cI zI]⟩),(32,⟨198,4,[cI b]⟩),(0,⟨198,4,[cI a]⟩)],1000⟩)
    (fun k=>k≤4) (fun k=>4 - k) 0 (by omega) (by
      rw [← hSS]
      simp [Weak,slotOk,fv,lk,AV.low,AV.low1,itr]
      and_intros <;> first | rfl | exact cI_low _ _) ?_
  intro k hk
  obtain ⟨hs1,hs2⟩:=hS k
  have hsl:=hs1.1
  have w3:=next_i64 (k:=k) (by omega)
  simp only [go_sem,Nat.reduceEqDiff,Nat.reduceAdd,Nat.reduceLT,↓reduceIte]
  by_cases h4:k<4
  · refine ⟨fun h=>?_,fun h=>absurd (by exact_mod_cast h4) h⟩
    have hka:=get_D (l:=a) (k:=k) (by omega)
    have hkb:=get_D (l:=b) (k:=k) (by omega)
    have hsn:S (k+1)=stpA A a b k (S k):=by rw [← hSS];rfl
    obtain ⟨h1,h2,h3⟩:=hA (gI a k,gI b k,(S k).2) ⟨Wn_getD ha,Wn_getD hb,hs2⟩
    simp only [stpA] at hsn
    generalize A (gI a k,gI b k,(S k).2)=y at *
    have hk4:(k:Int)<4:=by omega
    refine drw3 [0,1,2,3,4,5,6,7] [8,11,13,14] [0,1,2,3,4,5,6,7,9,10,12] (.step 8 [9,10,12] true (.alt (.step 11 [] true (.step 13 [] false (.step 14 [] false .done))) (.step 13 [] false (.step 11 [] false (.step 14 [] false .done))))) ⟨[(2,.ptr 0 0 0 1),(3,.ptr 32 0 0 1),(4,.ptr 64 0 0 1),(6,.ptr 128 0 0 1),(7,.d (.int .u64 y.2)),(9,.d (.int .i64 (k:Int)))],[(128,⟨198,4,[cI ((S k).1.set k y.1)]⟩),(64,⟨198,4,[cI zI]⟩),(32,⟨198,4,[cI b]⟩),(0,⟨198,4,[cI a]⟩)],9000⟩ (k:=15) ?h3 ?hq
    case h3 =>
      intro G hG
      have hW:∀ fr:Fr,(fv 2 fr=.ptr 0 0 0 1∧fv 3 fr=.ptr 32 0 0 1∧fv 4 fr=.ptr 64 0 0 1∧fv 6 fr=.ptr 128 0 0 1∧fv 7 fr=.d (.int .u64 y.2)∧fv 9 fr=.d (.int .i64 (k:Int)))→G fr [(128,⟨198,4,[cI ((S k).1.set k y.1)]⟩),(64,⟨198,4,[cI zI]⟩),(32,⟨198,4,[cI b]⟩),(0,⟨198,4,[cI a]⟩)]:=by
        rintro fr ⟨e2,e3,e4,e6,e7,e9⟩
        exact hG _ _ wkA
      simp [go_sem,hka,hkb,hal,hbl,hsl,SaW,hk4]
      refine cl_ext h3 ?_
      simp [go_sem,hka,hkb,hal,hbl,hsl,cI_set,SaW,hk4]
      and_intros <;> first | exact h4 | exact hW _ ⟨rfl,rfl,rfl,rfl,rfl,rfl⟩ | (refine hW _ ?_;simp [fv,lk])
    case hq =>
      simp [go_sem,w3]
      refine next_of (k+1) (by omega) (by omega) ?_
      rw [hsn]
      simp [Weak,slotOk,fv,lk,AV.low,AV.low1]
      and_intros <;> exact cI_low _ _
  · refine ⟨fun h=>absurd (by exact_mod_cast h) h4,fun h=>?_⟩
    have hk4:k=4:=by omega
    subst hk4
    simp [go_sem,hsl,cI_take hsl,cI_drop (l:=zI) (n:=4) rfl,resV]
    exact post_wc rfl
theorem wsub_ex (a b:List Int) (ha:Wn 4 a) (hb:Wn 4 b):∃ (s:List Int) (c:Int),Wn 4 s∧C1 c∧V s - 115792089237316195423570985008687907853269984665640564039457584007913129639936*c=V a - V b∧Rets Tryz.prog 234 [.agg (cI a),.agg (cI b)] (fun r=>r=.tup [.agg (cI s),.d (.int .u64 c)]):=by
  obtain ⟨A,hAV,hA⟩:=subF
  have hS:∀ k,Wn 4 (itr (stpA A a b) (zI,0) k).1∧C1 (itr (stpA A a b) (zI,0) k).2:=itr_inv (P:=fun _ (s:List Int × Int)=>Wn 4 s.1∧C1 s.2) ⟨zI_W,C1_0⟩ fun k s hs=>by
    obtain ⟨h1,h2,_⟩:=hA (gI a k,gI b k,s.2) ⟨Wn_getD ha,Wn_getD hb,hs.2⟩
    exact ⟨Wn_set hs.1 h1,h2⟩
  refine ⟨(itr (stpA A a b) (zI,0) 4).1,(itr (stpA A a b) (zI,0) 4).2,(hS 4).1,(hS 4).2,subV hAV ha hb,?_⟩
  refine fna Tryz.func234 Tryz.ntmps234 (rs:=[.cell 4 198,.tmp 5]) (two_cI a b) ?_
  have hal:=ha.1
  have hbl:=hb.1
  simp [go_sem,hal,hbl,cI_take hal,cI_take hbl]
  generalize hSS:itr (stpA A a b) (zI,0)=S at *
  refine loop_of (fun k:Nat=>⟨[(2,.ptr 0 0 0 1),(3,.ptr 32 0 0 1),(4,.ptr 64 0 0 1),(6,.ptr 128 0 0 1),(7,.d (.int .u64 (S k).2)),(9,.d (.int .i64 (k:Int)))],[(128,⟨198,4,[cI (S k).1]⟩),(64,⟨198,4,[cI zI]⟩),(32,⟨198,4,[cI b]⟩),(0,⟨198,4,[cI a]⟩)],1000⟩)
    (fun k=>k≤4) (fun k=>4 - k) 0 (by omega) (by
      rw [← hSS]
      simp [Weak,slotOk,fv,lk,AV.low,AV.low1,itr]
      and_intros <;> first | rfl | exact cI_low _ _) ?_
  intro k hk
  obtain ⟨hs1,hs2⟩:=hS k
  have hsl:=hs1.1
  have w3:=next_i64 (k:=k) (by omega)
  simp only [go_sem,Nat.reduceEqDiff,Nat.reduceAdd,Nat.reduceLT,↓reduceIte]
  by_cases h4:k<4
  · refine ⟨fun h=>?_,fun h=>absurd (by exact_mod_cast h4) h⟩
    have hka:=get_D (l:=a) (k:=k) (by omega)
    have hkb:=get_D (l:=b) (k:=k) (by omega)
    have hsn:S (k+1)=stpA A a b k (S k):=by rw [← hSS];rfl
    obtain ⟨h1,h2,h3⟩:=hA (gI a k,gI b k,(S k).2) ⟨Wn_getD ha,Wn_getD hb,hs2⟩
    simp only [stpA] at hsn
    generalize A (gI a k,gI b k,(S k).2)=y at *
    have hk4:(k:Int)<4:=by omega
    refine drw3 [0,1,2,3,4,5,6,7] [8,11,13,14] [0,1,2,3,4,5,6,7,9,10,12] (.step 8 [9,10,12] true (.alt (.step 11 [] true (.step 13 [] false (.step 14 [] false .done))) (.step 13 [] false (.step 11 [] false (.step 14 [] false .done))))) ⟨[(2,.ptr 0 0 0 1),(3,.ptr 32 0 0 1),(4,.ptr 64 0 0 1),(6,.ptr 128 0 0 1),(7,.d (.int .u64 y.2)),(9,.d (.int .i64 (k:Int)))],[(128,⟨198,4,[cI ((S k).1.set k y.1)]⟩),(64,⟨198,4,[cI zI]⟩),(32,⟨198,4,[cI b]⟩),(0,⟨198,4,[cI a]⟩)],9000⟩ (k:=15) ?h3 ?hq
    case h3 =>
      intro G hG
      have hW:∀ fr:Fr,(fv 2 fr=.ptr 0 0 0 1∧fv 3 fr=.ptr 32 0 0 1∧fv 4 fr=.ptr 64 0 0 1∧fv 6 fr=.ptr 128 0 0 1∧fv 7 fr=.d (.int .u64 y.2)∧fv 9 fr=.d (.int .i64 (k:Int)))→G fr [(128,⟨198,4,[cI ((S k).1.set k y.1)]⟩),(64,⟨198,4,[cI zI]⟩),(32,⟨198,4,[cI b]⟩),(0,⟨198,4,[cI a]⟩)]:=by
        rintro fr ⟨e2,e3,e4,e6,e7,e9⟩
        exact hG _ _ wkA
      simp [go_sem,hka,hkb,hal,hbl,hsl,SaW,hk4]
      refine cl_ext h3 ?_
      simp [go_sem,hka,hkb,hal,hbl,hsl,cI_set,SaW,hk4]
      and_intros <;> first | exact h4 | exact hW _ ⟨rfl,rfl,rfl,rfl,rfl,rfl⟩ | (refine hW _ ?_;simp [fv,lk])
    case hq =>
      simp [go_sem,w3]
      refine next_of (k+1) (by omega) (by omega) ?_
      rw [hsn]
      simp [Weak,slotOk,fv,lk,AV.low,AV.low1]
      and_intros <;> exact cI_low _ _
  · refine ⟨fun h=>absurd (by exact_mod_cast h) h4,fun h=>?_⟩
    have hk4:k=4:=by omega
    subst hk4
    simp [go_sem,hsl,cI_take hsl,cI_drop (l:=zI) (n:=4) rfl,resV]
    exact post_wc rfl
theorem two_i (x y:Int):∀ v,v ∈ [AV.d (.int .u64 x),AV.d (.int .u64 y)]→v.deep:=by
  intro v hv;simp at hv;rcases hv with rfl | rfl <;> trivial
theorem scaled_ex (a:List Int) (ha:Wn 4 a):∃ (s:List Int) (c:Int),Wn 4 s∧R64 c∧V s+115792089237316195423570985008687907853269984665640564039457584007913129639936*c=V a*4294968273∧Rets Tryz.prog 232 [.agg (cI a)] (fun r=>r=.tup [.agg (cI s),.d (.int .u64 c)]):=by
  obtain ⟨A,hAV,hA⟩:=addF
  obtain ⟨M,hM⟩:=mulF
  have hS:∀ k,Wn 4 (itr (stpS A M a) (zI,0) k).1∧R64 (itr (stpS A M a) (zI,0) k).2:=itr_inv (P:=fun _ (s:List Int × Int)=>Wn 4 s.1∧R64 s.2) ⟨zI_W,R64_0⟩ fun k s hs=>by
    obtain ⟨h1,h2,_⟩:=hA ((M (gI a k,4294968273)).2,s.2,0) ⟨(hM _).2.1,hs.2,C1_0⟩
    exact ⟨Wn_set hs.1 h1,u64R _⟩
  refine ⟨(itr (stpS A M a) (zI,0) 4).1,(itr (stpS A M a) (zI,0) 4).2,(hS 4).1,(hS 4).2,scaledV hAV (mulV_of hM) ha,?_⟩
  refine fna Tryz.func232 Tryz.ntmps232 (rs:=[.cell 2 198,.tmp 3]) (one_cI a) ?_
  have hal:=ha.1
  simp [go_sem,hal,cI_take hal]
  generalize hSS:itr (stpS A M a) (zI,0)=S at *
  refine loop_of (fun k:Nat=>⟨[(1,.ptr 0 0 0 1),(2,.ptr 32 0 0 1),(4,.ptr 96 0 0 1),(5,.d (.int .u64 (S k).2)),(10,.d (.int .i64 (k:Int)))],[(96,⟨198,4,[cI (S k).1]⟩),(32,⟨198,4,[cI zI]⟩),(0,⟨198,4,[cI a]⟩)],1000⟩)
    (fun k=>k≤4) (fun k=>4 - k) 0 (by omega) (by
      rw [← hSS]
      simp [Weak,slotOk,fv,lk,AV.low,AV.low1,itr]
      and_intros <;> first | rfl | exact cI_low _ _) ?_
  intro k hk
  obtain ⟨hs1,hs2⟩:=hS k
  have hsl:=hs1.1
  have w3:=next_i64 (k:=k) (by omega)
  simp only [go_sem,Nat.reduceEqDiff,Nat.reduceAdd,Nat.reduceLT,↓reduceIte]
  by_cases h4:k<4
  · refine ⟨fun h=>?_,fun h=>absurd (by exact_mod_cast h4) h⟩
    have hka:=get_D (l:=a) (k:=k) (by omega)
    have hsn:S (k+1)=stpS A M a k (S k):=by rw [← hSS];rfl
    obtain ⟨m1,m2,m3⟩:=hM (gI a k,4294968273)
    obtain ⟨h1,h2,h3⟩:=hA ((M (gI a k,4294968273)).2,(S k).2,0) ⟨m2,hs2,C1_0⟩
    simp only [stpS] at hsn
    have hk4:(k:Int)<4:=by omega
    simp [go_sem,hka,hal,hsl,hk4]
    refine cl_eq (m3 ⟨Wn_getD ha,⟨by omega,by omega⟩⟩).2 (two_i _ _) ?_
    simp [go_sem,hka,hal,hsl,hk4]
    refine cl_ext h3 ?_
    generalize A ((M (gI a k,4294968273)).2,(S k).2,0)=y at *
    generalize M (gI a k,4294968273)=z at *
    simp [go_sem,hka,hal,hsl,hk4,cI_set,w3]
    refine ⟨h4,?_⟩
    refine next_of (k+1) (by omega) (by omega) ?_
    rw [hsn]
    simp [Weak,slotOk,fv,lk,AV.low,AV.low1]
    and_intros <;> exact cI_low _ _
  · refine ⟨fun h=>absurd (by exact_mod_cast h) h4,fun h=>?_⟩
    have hk4:k=4:=by omega
    subst hk4
    simp [go_sem,hsl,cI_take hsl,cI_drop (l:=zI) (n:=4) rfl,resV]
    exact post_wc rfl
theorem zz8I:tzO Tryz.prog 261=some (cI zI8):=by kernel_rfl
attribute [go_sem] zz8I
theorem zI8_len:zI8.length=8:=rfl
attribute [go_sem] zI8_len
theorem product_ex (a b:List Int) (ha:Wn 4 a) (hb:Wn 4 b):∃ (s:List Int),Wn 8 s∧V s=V a*V b∧Rets Tryz.prog 239 [.agg (cI a),.agg (cI b)] (fun r=>r=.agg (cI s)):=by
  obtain ⟨A,hAV,hA⟩:=addF
  obtain ⟨M,hM⟩:=mulF
  have hI:∀ i p,Wn 8 p→∀ k,Wn 8 (itr (stpP A M a b i) (p,0) k).1∧R64 (itr (stpP A M a b i) (p,0) k).2:=fun i p hp=>itr_inv (P:=fun _ (s:List Int × Int)=>Wn 8 s.1∧R64 s.2) ⟨hp,R64_0⟩ fun k s hs=>by
    obtain ⟨h1,h2,_⟩:=hA ((M (gI a i,gI b k)).2,gI s.1 (pl i k),0) ⟨(hM _).2.1,Wn_getD hs.1,C1_0⟩
    obtain ⟨h3,h4,_⟩:=hA ((A ((M (gI a i,gI b k)).2,gI s.1 (pl i k),0)).1,s.2,0) ⟨h1,hs.2,C1_0⟩
    exact ⟨Wn_set hs.1 h3,u64R _⟩
  have hS:∀ i,Wn 8 (itr (stpQ A M a b) zI8 i):=itr_inv (P:=fun _ (s:List Int)=>Wn 8 s) zI8_W fun i s hs=>Wn_set (hI i s hs 4).1 (hI i s hs 4).2
  refine ⟨itr (stpQ A M a b) zI8 4,hS 4,(productV hAV (mulV_of hM) ha hb).2,?_⟩
  refine fna Tryz.func239 Tryz.ntmps239 (rs:=[.cell 4 261]) (two_cI a b) ?_
  have hal:=ha.1
  have hbl:=hb.1
  simp [go_sem,hal,hbl,cI_take hal,cI_take hbl]
  generalize hSS:itr (stpQ A M a b) zI8=S at *
  refine loop_of (fun i:Nat=>⟨[(2,.ptr 0 0 0 1),(3,.ptr 32 0 0 1),(4,.ptr 64 0 0 1),(5,.ptr 96 0 0 1),(12,.d (.int .i64 (i:Int)))],[(96,⟨261,8,[cI (S i)]⟩),(64,⟨261,8,[cI zI8]⟩),(32,⟨198,4,[cI b]⟩),(0,⟨198,4,[cI a]⟩)],1000⟩)
    (fun k=>k≤4) (fun k=>4 - k) 0 (by omega) (by
      rw [← hSS]
      simp [Weak,slotOk,fv,lk,AV.low,AV.low1,itr]
      and_intros <;> first | rfl | exact cI_low _ _) ?_
  intro i hi
  have hs1:=hS i
  have w3:=next_i64 (k:=i) (by omega)
  simp only [go_sem,Nat.reduceEqDiff,Nat.reduceAdd,Nat.reduceLT,↓reduceIte]
  by_cases h4:i<4
  · refine ⟨fun h=>?_,fun h=>absurd (by exact_mod_cast h4) h⟩
    have hka:=get_D (l:=a) (k:=i) (by omega)
    have hi4:(i:Int)<4:=by omega
    have hsn:S (i+1)=stpQ A M a b i (S i):=by rw [← hSS];rfl
    have hIi:=hI i (S i) hs1
    unfold stpQ at hsn
    generalize hTT:itr (stpP A M a b i) (S i,0)=T at *
    have hT0:T 0=(S i,0):=by rw [← hTT];rfl
    refine loop_of (fun k:Nat=>⟨[(2,.ptr 0 0 0 1),(3,.ptr 32 0 0 1),(4,.ptr 64 0 0 1),(5,.ptr 96 0 0 1),(12,.d (.int .i64 (i:Int))),(6,.d (.int .i64 (i:Int))),(7,.d (.int .u64 (T k).2)),(15,.d (.int .i64 (k:Int)))],[(96,⟨261,8,[cI (T k).1]⟩),(64,⟨261,8,[cI zI8]⟩),(32,⟨198,4,[cI b]⟩),(0,⟨198,4,[cI a]⟩)],2000⟩)
      (fun k=>k≤4) (fun k=>4 - k) 0 (by omega) (by
        rw [hT0]
        simp [Weak,slotOk,fv,lk,AV.low,AV.low1]
        and_intros <;> first | rfl | exact cI_low _ _) ?_
    intro k hk
    obtain ⟨ht1,ht2⟩:=hIi k
    have htl:=ht1.1
    have w4:=next_i64 (k:=k) (by omega)
    have hpl:pl i k=i+k:=rfl
    have hp4:pl i 4=i+4:=rfl
    have w5:IntKind.i64.wrap ((i:Int)+(k:Int))=(pl i k:Int):=by rw [hpl,IntWalk.i64_in _ (by omega)];omega
    have w6:IntKind.i64.wrap ((i:Int)+4)=(pl i 4:Int):=by rw [hp4,IntWalk.i64_in _ (by omega)];omega
    simp only [go_sem,Nat.reduceEqDiff,Nat.reduceAdd,Nat.reduceLT,↓reduceIte]
    by_cases h5:k<4
    · refine ⟨fun h=>?_,fun h=>absurd (by exact_mod_cast h5) h⟩
      have hkb:=get_D (l:=b) (k:=k) (by omega)
      have hkt:=get_D (l:=(T k).1) (k:=pl i k) (by omega)
      have hk4:(k:Int)<4:=by omega
      have hik:(pl i k:Int)<8:=by omega
      have hikn:pl i k<8:=by omega
      have htn:T (k+1)=stpP A M a b i k (T k):=by rw [← hTT];rfl
      obtain ⟨m1,m2,m3⟩:=hM (gI a i,gI b k)
      obtain ⟨h1,h2,h3⟩:=hA ((M (gI a i,gI b k)).2,gI (T k).1 (pl i k),0) ⟨m2,Wn_getD ht1,C1_0⟩
      obtain ⟨q1,q2,q3⟩:=hA ((A ((M (gI a i,gI b k)).2,gI (T k).1 (pl i k),0)).1,(T k).2,0) ⟨h1,ht2,C1_0⟩
      unfold stpP at htn
      generalize A ((A ((M (gI a i,gI b k)).2,gI (T k).1 (pl i k),0)).1,(T k).2,0)=y2 at *
      generalize A ((M (gI a i,gI b k)).2,gI (T k).1 (pl i k),0)=y at *
      generalize M (gI a i,gI b k)=z at *
      refine drw2 [0,1,2,3,4,5] [(6,[7,8,9,10,11])] 1 (k:=12) ?_
      intro G hG
      simp [go_sem,hka,hkb,hal,hbl,hi4,hk4]
      refine cl_eq (m3 ⟨Wn_getD ha,Wn_getD hb⟩).2 (two_i _ _) ?_
      simp [go_sem,hka,hkb,hal,hbl,hi4,hk4]
      refine hG _ _ ?_
      clear hG G
      simp [go_sem,hkt,htl,w5,hik]
      first | refine cl_ext h3 ?_
      simp [go_sem,hkt,htl,w5,hik]
      first | refine cl_ext q3 ?_
      simp [go_sem,hkt,htl,w5,hik,hikn,cI_set,w4]
      first | refine next_of (k+1) (by omega) (by omega) ?_ | refine ⟨by omega,next_of (k+1) (by omega) (by omega) ?_⟩
      rw [htn]
      simp [Weak,slotOk,fv,lk,AV.low,AV.low1]
      and_intros <;> exact cI_low _ _
    · refine ⟨fun h=>absurd (by exact_mod_cast h) h5,fun h=>?_⟩
      have hk4:k=4:=by omega
      subst hk4
      have hi8:(pl i 4:Int)<8:=by omega
      have hi8n:pl i 4<8:=by omega
      simp [go_sem,htl,w6,hi8,hi8n,cI_set,w3]
      first | refine next_of (i+1) (by omega) (by omega) ?_ | refine ⟨by omega,next_of (i+1) (by omega) (by omega) ?_⟩
      rw [hsn]
      simp [Weak,slotOk,fv,lk,AV.low,AV.low1]
      and_intros <;> exact cI_low _ _
  · refine ⟨fun h=>absurd (by exact_mod_cast h) h4,fun h=>?_⟩
    have hk4:i=4:=by omega
    subst hk4
    have hsl:=hs1.1
    simp [go_sem,hsl,cI_take hsl,cI_drop (l:=zI8) (n:=8) rfl,resV]
    exact post_same (cI_deepA _) rfl
def W1 (f:FuncId) (a b:List Int):Prop:=Rets Tryz.prog f [.agg (cI a)] (fun r=>r=.agg (cI b))
def W2 (f:FuncId) (a b c:List Int):Prop:=Rets Tryz.prog f [.agg (cI a),.agg (cI b)] (fun r=>r=.agg (cI c))
theorem post_w {Q:AV→Prop} {st:St} {a:List Int} (hq:Q (.agg (cI a))):PostK Q (.agg (cI a)) st:=post_same (cI_deepA _) hq
theorem fromI_fn (x:Int):Rets Tryz.prog 129 [.d (.int .u64 x)] (fun r=>r=.agg (cI [x,0,0,0])):=by
  refine fna Tryz.func129 Tryz.ntmps129 (rs:=[.cell 2 198]) (by simp [AV.deep,AV.deep1]) ?_
  simp [go_sem,cI,zI,resV]
  exact post_w (a:=[x,0,0,0]) rfl
theorem fromI_W {x:Int} (h:R64 x):Wn 4 [x,0,0,0]:=⟨rfl,by intro y hy;simp at hy;rcases hy with rfl | rfl | rfl | rfl <;> first | exact h | exact R64_0⟩
def prI:List Int:=[18446744069414583343,18446744073709551615,18446744073709551615,18446744073709551615]
theorem prI_W:Wn 4 prI:=⟨rfl,by intro y hy;simp [prI] at hy;rcases hy with rfl | rfl <;> exact ⟨by omega,by omega⟩⟩
theorem primeI_fn:Rets Tryz.prog 199 [] (fun r=>r=.agg (cI prI)):=by
  refine fna Tryz.func199 Tryz.ntmps199 (rs:=[.cell 0 198]) (by simp [AV.deep,AV.deep1]) ?_
  simp [go_sem,cI,zI,resV]
  exact post_w (a:=prI) rfl
theorem reduce_ex (a:List Int) (ha:Wn 4 a):∃ r,Wn 4 r∧V r=V a % 115792089237316195423570985008687907853269984665640564039457584007908834671663∧W1 204 a r:=by
  obtain ⟨d,c,hd,hc,hv,hf⟩:=wsub_ex a prI ha prI_W
  have va:=V_lt ha
  have vd:=V_lt hd
  have vp:V prI=115792089237316195423570985008687907853269984665640564039457584007908834671663:=by simp [V,prI]
  rw [vp] at hv
  have hc1:=hc.1
  have hc2:=hc.2
  have hal:=ha.1
  have hdl:=hd.1
  by_cases h0:c=0
  · refine ⟨d,hd,by subst h0;omega,?_⟩
    unfold W1
    refine fna Tryz.func204 Tryz.ntmps204 (rs:=[.cell 2 198]) (one_cI a) ?_
    simp [go_sem,hal,cI_take hal]
    refine drw3 [0] [1,2,6,7] [0,3,4,5,8] (.alt (.step 1 [] true (.alt (.step 2 [3,4,5] true (.step 6 [] true (.step 7 [8] true .done))) (.step 6 [] true (.step 2 [3,4,5] true (.step 7 [8] true .done))))) (.step 6 [] true (.step 1 [] true (.step 2 [3,4,5] true (.step 7 [8] true .done))))) ⟨[(1,.ptr 0 0 0 1),(2,.ptr 32 0 0 1),(3,.ptr 256 0 0 1),(4,.d (.int .u64 c))],[(256,⟨198,4,[cI d]⟩),(32,⟨198,4,[cI zI]⟩),(0,⟨198,4,[cI a]⟩)],9000⟩ (k:=9) ?h3 ?hq
    case h3 =>
      intro G hG
      have hW:∀ fr:Fr,(fv 1 fr=.ptr 0 0 0 1∧fv 2 fr=.ptr 32 0 0 1∧fv 3 fr=.ptr 256 0 0 1∧fv 4 fr=.d (.int .u64 c))→G fr [(256,⟨198,4,[cI d]⟩),(32,⟨198,4,[cI zI]⟩),(0,⟨198,4,[cI a]⟩)]:=by
        rintro fr ⟨e1,e2,e3,e4⟩
        exact hG _ _ wkA
      simp [go_sem,hal,cI_take hal,SaW]
      repeat' first | exact hW _ ⟨rfl,rfl,rfl,rfl⟩ | (refine hW _ ?_;simp [fv,lk];done) | refine cl_eq primeI_fn (by simp) ?_ | refine cl_eq hf (two_cI _ _) ?_ | apply And.intro | simp [go_sem,hal,cI_take hal,hdl,cI_take hdl,cI_drop (l:=zI) (n:=4) rfl,SaW]
    case hq =>
      simp [go_sem,h0,hdl,cI_take hdl,cI_drop (l:=zI) (n:=4) rfl,resV]
      exact post_w rfl
  · refine ⟨a,ha,by omega,?_⟩
    unfold W1
    refine fna Tryz.func204 Tryz.ntmps204 (rs:=[.cell 2 198]) (one_cI a) ?_
    simp [go_sem,hal,cI_take hal]
    refine drw3 [0] [1,2,6,7] [0,3,4,5,8] (.alt (.step 1 [] true (.alt (.step 2 [3,4,5] true (.step 6 [] true (.step 7 [8] true .done))) (.step 6 [] true (.step 2 [3,4,5] true (.step 7 [8] true .done))))) (.step 6 [] true (.step 1 [] true (.step 2 [3,4,5] true (.step 7 [8] true .done))))) ⟨[(1,.ptr 0 0 0 1),(2,.ptr 32 0 0 1),(3,.ptr 256 0 0 1),(4,.d (.int .u64 c))],[(256,⟨198,4,[cI d]⟩),(32,⟨198,4,[cI zI]⟩),(0,⟨198,4,[cI a]⟩)],9000⟩ (k:=9) ?h3 ?hq
    case h3 =>
      intro G hG
      have hW:∀ fr:Fr,(fv 1 fr=.ptr 0 0 0 1∧fv 2 fr=.ptr 32 0 0 1∧fv 3 fr=.ptr 256 0 0 1∧fv 4 fr=.d (.int .u64 c))→G fr [(256,⟨198,4,[cI d]⟩),(32,⟨198,4,[cI zI]⟩),(0,⟨198,4,[cI a]⟩)]:=by
        rintro fr ⟨e1,e2,e3,e4⟩
        exact hG _ _ wkA
      simp [go_sem,hal,cI_take hal,SaW]
      repeat' first | exact hW _ ⟨rfl,rfl,rfl,rfl⟩ | (refine hW _ ?_;simp [fv,lk];done) | refine cl_eq primeI_fn (by simp) ?_ | refine cl_eq hf (two_cI _ _) ?_ | apply And.intro | simp [go_sem,hal,cI_take hal,hdl,cI_take hdl,cI_drop (l:=zI) (n:=4) rfl,SaW]
    case hq =>
      simp [go_sem,h0,hal,cI_take hal,cI_drop (l:=zI) (n:=4) rfl,resV]
      exact post_w rfl
theorem ov_R:R64 4294968273:=⟨by omega,by omega⟩
theorem wl_deep (a:List Int) (c:Int):∀ v,v ∈ [AV.agg (cI a),AV.d (.int .u64 c)]→v.deep:=by
  intro v hv;simp at hv;rcases hv with rfl | rfl;exact cI_deepA _;trivial
theorem liftF_ex (a:List Int) (c:Int) (ha:Wn 4 a) (hc:C1 c) (hb:c=1→V a+4294968273<115792089237316195423570985008687907853269984665640564039457584007913129639936):∃ r,Wn 4 r∧V r=(V a+115792089237316195423570985008687907853269984665640564039457584007913129639936*c) % 115792089237316195423570985008687907853269984665640564039457584007908834671663∧Rets Tryz.prog 233 [.agg (cI a),.d (.int .u64 c)] (fun x=>x=.agg (cI r)):=by
  obtain ⟨r1,hr1,v1,f1⟩:=reduce_ex a ha
  obtain ⟨s,d,hs,hd,vs,f2⟩:=wadd_ex a [4294968273,0,0,0] ha (fromI_W ov_R)
  obtain ⟨r2,hr2,v2,f3⟩:=reduce_ex s hs
  have vo:V [4294968273,0,0,0]=4294968273:=by simp [V]
  rw [vo] at vs
  have va:=V_lt ha
  have vss:=V_lt hs
  have hd1:=hd.1
  have hd2:=hd.2
  have hc1:=hc.1
  have hc2:=hc.2
  unfold W1 at f1 f3
  have hal:=ha.1
  have hsl:=hs.1
  have h1l:=hr1.1
  have h2l:=hr2.1
  by_cases h0:c=0
  · refine ⟨r1,hr1,by subst h0;rw [v1];omega,?_⟩
    refine fna Tryz.func233 Tryz.ntmps233 (rs:=[.cell 4 198]) (wl_deep a c) ?_
    simp [go_sem,hal,cI_take hal,h0]
    refine cl_eq f1 (one_cI _) ?_
    simp [go_sem,h1l,cI_take h1l,cI_drop (l:=zI) (n:=4) rfl,resV]
    exact post_w rfl
  · have h1:c=1:=by omega
    have hb1:=hb h1
    refine ⟨r2,hr2,by subst h1;rw [v2];omega,?_⟩
    refine fna Tryz.func233 Tryz.ntmps233 (rs:=[.cell 4 198]) (wl_deep a c) ?_
    simp [go_sem,hal,cI_take hal,h0]
    refine drw3 [0] [1,2,6,7] [0,3,4,5,8] (.alt (.step 1 [] true (.alt (.step 2 [3,4,5] true (.step 6 [] true (.step 7 [8] true .done))) (.step 6 [] true (.step 2 [3,4,5] true (.step 7 [8] true .done))))) (.step 6 [] true (.step 1 [] true (.step 2 [3,4,5] true (.step 7 [8] true .done))))) ⟨[(2,.ptr 0 0 0 1),(4,.ptr 32 0 0 1),(5,.ptr 320 0 0 1)],[(320,⟨198,4,[cI s]⟩),(32,⟨198,4,[cI zI]⟩),(0,⟨198,4,[cI a]⟩)],9000⟩ (k:=9) ?h3 ?hq
    case h3 =>
      intro G hG
      have hW:∀ fr:Fr,(fv 2 fr=.ptr 0 0 0 1∧fv 4 fr=.ptr 32 0 0 1∧fv 5 fr=.ptr 320 0 0 1)→G fr [(320,⟨198,4,[cI s]⟩),(32,⟨198,4,[cI zI]⟩),(0,⟨198,4,[cI a]⟩)]:=by
        rintro fr ⟨e1,e2,e3⟩
        exact hG _ _ wkA
      simp [go_sem,hal,cI_take hal,SaW]
      repeat' first | exact hW _ ⟨rfl,rfl,rfl⟩ | (refine hW _ ?_;simp [fv,lk];done) | refine cl_eq (fromI_fn 4294968273) (by simp [AV.deep,AV.deep1]) ?_ | refine cl_eq f2 (two_cI _ _) ?_ | apply And.intro | simp [go_sem,hal,cI_take hal,hsl,cI_take hsl,cI_drop (l:=zI) (n:=4) rfl,SaW]
    case hq =>
      simp [go_sem,hsl,cI_take hsl]
      refine cl_eq f3 (one_cI _) ?_
      simp [go_sem,h2l,cI_take h2l,cI_drop (l:=zI) (n:=4) rfl,resV]
      exact post_w rfl
theorem fadd_ex (a b:List Int) (ha:Wn 4 a) (hb:Wn 4 b):∃ r,Wn 4 r∧V r=(V a+V b) % 115792089237316195423570985008687907853269984665640564039457584007908834671663∧W2 206 a b r:=by
  obtain ⟨a1,ha1,va1,f1⟩:=reduce_ex a ha
  obtain ⟨b1,hb1,vb1,f2⟩:=reduce_ex b hb
  obtain ⟨s,c,hs,hc,vs,f3⟩:=wadd_ex a1 b1 ha1 hb1
  have hvs:=V_lt hs
  have hc1:=hc.1
  have hc2:=hc.2
  obtain ⟨r,hr,vr,f4⟩:=liftF_ex s c hs hc (fun h=>by subst h;omega)
  have hvr:V r=(V a+V b) % 115792089237316195423570985008687907853269984665640564039457584007908834671663:=by rw [vr,vs,va1,vb1];omega
  unfold W1 at f1 f2
  have hal:=ha.1
  have hbl:=hb.1
  have hsl:=hs.1
  have hrl:=hr.1
  refine ⟨r,hr,hvr,?_⟩
  unfold W2
  refine fna Tryz.func206 Tryz.ntmps206 (rs:=[.cell 4 198]) (two_cI a b) ?_
  simp [go_sem,hal,hbl,cI_take hal,cI_take hbl]
  refine drw2 [0,2] [(1,[]),(3,[]),(4,[5,6]),(7,[]),(8,[])] 3 (k:=9) ?_
  intro G hG
  simp [go_sem,hal,hbl,cI_take hal,cI_take hbl]
  refine cl_eq f1 (one_cI _) ?_
  simp [go_sem,hal,hbl,cI_take hal,cI_take hbl]
  refine cl_eq f2 (one_cI _) ?_
  simp [go_sem]
  refine cl_eq f3 (two_cI _ _) ?_
  simp [go_sem]
  refine cl_eq f4 (wl_deep _ _) ?_
  simp [go_sem,hrl,cI_take hrl,cI_drop (l:=zI) (n:=4) rfl,SaW]
  refine hG _ _ ?_
  simp [go_sem,hrl,cI_take hrl,resV]
  exact post_w rfl
theorem post_ww {Q:AV→Prop} {st:St} {a b:List Int} (hq:Q (.tup [.agg (cI a),.agg (cI b)])):PostK Q (.tup [.agg (cI a),.agg (cI b)]) st :=
  post_same (by
    intro c hc
    simp at hc
    rcases hc with rfl | rfl
    · exact .inr ⟨_,rfl,cI_deep _⟩
    · exact .inr ⟨_,rfl,cI_deep _⟩) hq
theorem cI_tk (l:List Int) (n:Nat):(cI l).take n=cI (l.take n):=by simp [cI,List.map_take]
theorem cI_dr (l:List Int) (n:Nat):(cI l).drop n=cI (l.drop n):=by simp [cI,List.map_drop]
theorem Wn_take {l:List Int} (h:Wn 8 l):Wn 4 (l.take 4):=⟨by rw [List.length_take,h.1];rfl,fun x hx=>h.2 x (List.mem_of_mem_take hx)⟩
theorem Wn_drop {l:List Int} (h:Wn 8 l):Wn 4 (l.drop 4):=⟨by rw [List.length_drop,h.1],fun x hx=>h.2 x (List.mem_of_mem_drop hx)⟩
theorem V8 {p:List Int} (h:Wn 8 p):V (p.take 4)+115792089237316195423570985008687907853269984665640564039457584007913129639936*V (p.drop 4)=V p:=by
  obtain ⟨h1,_⟩:=h
  match p,h1 with
  | [a,b,c,d,e,f,g,i],_ =>
    simp only [List.take_succ_cons,List.take_zero,List.drop_succ_cons,List.drop_zero,V]
    omega
theorem wmul_ex (a b:List Int) (ha:Wn 4 a) (hb:Wn 4 b):∃ (lo hi:List Int),Wn 4 lo∧Wn 4 hi∧V lo+115792089237316195423570985008687907853269984665640564039457584007913129639936*V hi=V a*V b∧Rets Tryz.prog 231 [.agg (cI a),.agg (cI b)] (fun r=>r=.tup [.agg (cI lo),.agg (cI hi)]):=by
  obtain ⟨p,hp,vp,f1⟩:=product_ex a b ha hb
  have hal:=ha.1
  have hbl:=hb.1
  have hpl:=hp.1
  have hlo:=Wn_take hp
  have hhi:=Wn_drop hp
  refine ⟨p.take 4,p.drop 4,hlo,hhi,by rw [← vp];exact V8 hp,?_⟩
  refine fna Tryz.func231 Tryz.ntmps231 (rs:=[.cell 4 198,.cell 5 198]) (two_cI a b) ?_
  simp [go_sem,hal,hbl,cI_take hal,cI_take hbl]
  refine cl_eq f1 (two_cI _ _) ?_
  simp [go_sem,hpl,cI_take hpl,cI_drop (l:=zI8) (n:=8) rfl]
  have e1:=cI_tk p 4
  have e2:=cI_dr p 4
  have hl1:=hlo.1
  have hl2:=hhi.1
  have e3:(cI (p.drop 4)).take 4=cI (p.drop 4):=cI_take hl2
  generalize p.take 4=lo at *
  generalize p.drop 4=hi at *
  have hz:List.drop 4 (cI zI)=[]:=cI_drop rfl
  refine drw3 [0,1,2] [3,4,5,6,7] [0,1,2] (.alt (.step 3 [] true (.alt (.step 4 [] true (.alt (.step 5 [] true (.step 6 [] false (.step 7 [] false .done))) (.step 6 [] false (.step 5 [] false (.step 7 [] false .done))))) (.step 6 [] false (.step 4 [] false (.step 5 [] false (.step 7 [] false .done)))))) (.step 6 [] false (.step 3 [] false (.step 4 [] false (.step 5 [] false (.step 7 [] false .done)))))) ⟨[(4,.ptr 64 0 0 1),(5,.ptr 96 0 0 1)],[(96,⟨198,4,[cI hi]⟩),(64,⟨198,4,[cI lo]⟩)],9000⟩ (k:=8) ?h3 ?hq
  case h3 =>
    intro G hG
    have hW:∀ fr:Fr,(fv 4 fr=.ptr 64 0 0 1∧fv 5 fr=.ptr 96 0 0 1)→G fr [(224,⟨261,8,[cI p]⟩),(96,⟨198,4,[cI hi]⟩),(64,⟨198,4,[cI lo]⟩),(32,⟨198,4,[cI b]⟩),(0,⟨198,4,[cI a]⟩)]:=by
      rintro fr ⟨e1,e2⟩
      exact hG _ _ wkA
    simp [go_sem,hpl,e1,e2,e3,hl1,hl2,hz,SaW]
    repeat' first | exact hW _ ⟨rfl,rfl⟩ | apply And.intro | simp [go_sem,hpl,e1,e2,e3,hl1,hl2,hz,SaW]
  case hq =>
    simp [go_sem,hl1,hl2,hz,cI_take hl1,cI_take hl2,resV]
    exact post_ww rfl
theorem fmul_ex (a b:List Int) (ha:Wn 4 a) (hb:Wn 4 b):∃ r,Wn 4 r∧V r=(V a*V b) % 115792089237316195423570985008687907853269984665640564039457584007908834671663∧W2 203 a b r:=by
  obtain ⟨lo,hi,hlo,hhi,vm,f1⟩:=wmul_ex a b ha hb
  obtain ⟨fo,top,hfo,htop,vf,f2⟩:=scaled_ex hi hhi
  obtain ⟨s,c,hs,hc,vs,f3⟩:=wadd_ex lo fo hlo hfo
  obtain ⟨re,c2,hre,hc2,vr2,f4⟩:=scaled_ex [IntKind.u64.wrap (top+c),0,0,0] (fromI_W (u64R _))
  obtain ⟨s2,c3,hs2,hc3,vs2,f5⟩:=wadd_ex s re hs hre
  have b1:=V_lt hlo
  have b2:=V_lt hhi
  have b3:=V_lt hfo
  have b4:=V_lt hs
  have b5:=V_lt hre
  have b6:=V_lt hs2
  have q1:=htop.1
  have q2:=htop.2
  have q3:=hc.1
  have q4:=hc.2
  have q5:=hc3.1
  have q6:=hc3.2
  have q7:=hc2.1
  have vw:V [IntKind.u64.wrap (top+c),0,0,0]=top+c:=by
    rw [V4,wrap64];omega
  rw [vw] at vr2
  have kk:c3=1→V s2+4294968273<115792089237316195423570985008687907853269984665640564039457584007913129639936:=fun h=>by subst h;omega
  obtain ⟨r,hr,vr,f6⟩:=liftF_ex s2 c3 hs2 hc3 kk
  have hvr:V r=(V a*V b) % 115792089237316195423570985008687907853269984665640564039457584007908834671663:=by
    have z2:c2=0:=by
      have h1:top+c≤18446744073709551616:=by omega
      have h2:115792089237316195423570985008687907853269984665640564039457584007913129639936*c2≤(top+c)*4294968273:=by omega
      omega
    subst z2
    have e:V lo+115792089237316195423570985008687907853269984665640564039457584007913129639936*V hi=(V s2+115792089237316195423570985008687907853269984665640564039457584007913129639936*c3)+115792089237316195423570985008687907853269984665640564039457584007908834671663*(V hi+(top+c)):=by omega
    rw [vr,← vm,e,Int.add_mul_emod_self_left]
  have hal:=ha.1
  have hbl:=hb.1
  have l1:=hlo.1
  have l2:=hhi.1
  have l3:=hfo.1
  have l4:=hs.1
  have l5:=hre.1
  have l6:=hs2.1
  have l7:=hr.1
  have hz:List.drop 4 (cI zI)=[]:=cI_drop rfl
  refine ⟨r,hr,hvr,?_⟩
  unfold W2
  refine fna Tryz.func203 Tryz.ntmps203 (rs:=[.cell 4 198]) (two_cI a b) ?_
  simp [go_sem,hal,hbl,cI_take hal,cI_take hbl]
  refine cl_eq f1 (two_cI _ _) ?_
  simp [go_sem,l1,l2,cI_take l1,cI_take l2,hz]
  refine cl_eq f2 (one_cI _) ?_
  simp [go_sem,l1,l3,cI_take l1,cI_take l3,hz]
  refine cl_eq f3 (two_cI _ _) ?_
  simp [go_sem,l4,cI_take l4,hz]
  refine cl_eq (fromI_fn _) (by simp [AV.deep,AV.deep1]) ?_
  simp [go_sem]
  refine cl_eq f4 (one_cI _) ?_
  simp [go_sem,l4,l5,cI_take l4,cI_take l5,hz]
  refine cl_eq f5 (two_cI _ _) ?_
  simp [go_sem]
  refine cl_eq f6 (wl_deep _ _) ?_
  simp [go_sem,l7,cI_take l7,hz,resV]
  exact post_w rfl
theorem tabL_lt {y n:Nat} (h:tabL[y]?=some (n:Int)):y<2 ^ n:=by
  unfold tabL at h
  rw [List.getElem?_map] at h
  by_cases hy:y<256
  · rw [List.getElem?_range hy,Option.map_some,Option.some.injEq] at h
    by_cases h0:y=0
    · subst h0;exact Nat.two_pow_pos n
    · rw [if_neg h0] at h
      have:n=Nat.log2 y+1:=by omega
      rw [this]
      exact Nat.lt_log2_self
  · rw [List.getElem?_eq_none (by simpa using hy)] at h
    cases h
theorem up (k:Nat) {X Y n:Nat} (h:X / 2 ^ k=Y) (hY:Y<2 ^ n):X<2 ^ (k+n):=by
  subst h
  rw [Nat.pow_add,Nat.mul_comm]
  exact (Nat.div_lt_iff_lt_mul (Nat.two_pow_pos k)).1 hY
theorem up2 {X a b:Nat} (h:X<2 ^ a) (e:a=b):X<2 ^ b:=e ▸ h
theorem lenQ_ex (X:Nat) (hX:X<18446744073709551616):∃ n:Nat,n≤64∧X<2 ^ n∧Rets Tryz.prog 213 [.d (.int .u64 (X:Int))] (fun r=>r=.d (.int .i64 (n:Int))):=by
  have hi:∀ n:Nat,n≤100→IntKind.i64.wrap (n:Int)=(n:Int):=fun n h=>IntWalk.i64_in _ (by omega)
  have hj:∀ n:Int,0≤n→n≤100→IntKind.i64.wrap n=n:=fun n h1 h2=>IntWalk.i64_in _ (by omega)
  have ws:IntKind.i64.wrap 8=8∧IntKind.i64.wrap 16=16∧IntKind.i64.wrap 24=24∧IntKind.i64.wrap 32=32∧IntKind.i64.wrap 40=40∧IntKind.i64.wrap 48=48∧IntKind.i64.wrap 56=56:=by
    and_intros <;> exact IntWalk.i64_in _ (by omega)
  obtain ⟨w8,w16,w24,w32,w40,w48,w56⟩:=ws
  by_cases a0:X<4294967296
  · have i32:¬ (4294967296:Int)≤(X:Int):=by omega
    by_cases a1:X<65536
    · have i16:¬ (65536:Int)≤(X:Int):=by omega
      by_cases a2:X<256
      · have i8:¬ (256:Int)≤(X:Int):=by omega
        have e8:IntKind.u8.wrap (X:Int)=(X:Int):=by rw [u8w];omega
        have hy:X<256:=by omega
        obtain ⟨b,hb⟩:∃ b,tabL[X]?=some b:=⟨_,List.getElem?_eq_getElem (by simp [tabL];omega)⟩
        obtain ⟨n,rfl,hn⟩:=tabL_some rfl hb
        have hn8:n≤8:=by split at hn <;> omega
        refine ⟨0+n,by omega,by rw [Nat.zero_add];exact tabL_lt hb,?_⟩
        refine fna Tryz.func213 Tryz.ntmps213 (rs:=[.tmp 2]) (by simp [AV.deep,AV.deep1]) ?_
        simp [go_sem,i32,i16,i8,e8,IntKind.bits,w8,w16,w24,w32,w40,w48,w56]
        split
        · rename_i b2 hb2
          have h2:tabL[X]?=some b2:=hb2
          rw [hb] at h2
          cases h2
          exact post_same (by simp [AV.deep,AV.deep1]) (by simp only [hi n (by omega)])
        · rename_i hb2
          exact tabL_none rfl hy hb2
      · have i8:(256:Int)≤(X:Int):=by omega
        have d8:Int.fdiv (X:Int) 256=((X / 256:Nat):Int):=fdiv_nat X 256
        have q8:X / 256<256:=by omega
        generalize hY3:X / 256=Y3 at *
        have e8:IntKind.u8.wrap (Y3:Int)=(Y3:Int):=by rw [u8w];omega
        have hy:Y3<256:=by omega
        obtain ⟨b,hb⟩:∃ b,tabL[Y3]?=some b:=⟨_,List.getElem?_eq_getElem (by simp [tabL];omega)⟩
        obtain ⟨n,rfl,hn⟩:=tabL_some rfl hb
        have hn8:n≤8:=by split at hn <;> omega
        refine ⟨8+n,by omega,up 8 hY3 (tabL_lt hb),?_⟩
        refine fna Tryz.func213 Tryz.ntmps213 (rs:=[.tmp 2]) (by simp [AV.deep,AV.deep1]) ?_
        simp [go_sem,i32,i16,i8,d8,e8,IntKind.bits,w8,w16,w24,w32,w40,w48,w56]
        split
        · rename_i b2 hb2
          have h2:tabL[Y3]?=some b2:=hb2
          rw [hb] at h2
          cases h2
          have e9:IntKind.i64.wrap (8+(n:Int))=8+(n:Int):=hj _ (by omega) (by omega)
          exact post_same (by simp [AV.deep,AV.deep1]) (by simp only [hi n (by omega),e9])
        · rename_i hb2
          exact tabL_none rfl hy hb2
    · have i16:(65536:Int)≤(X:Int):=by omega
      have d16:Int.fdiv (X:Int) 65536=((X / 65536:Nat):Int):=fdiv_nat X 65536
      have q16:X / 65536<65536:=by omega
      generalize hY2:X / 65536=Y2 at *
      by_cases a2:Y2<256
      · have i8:¬ (256:Int)≤(Y2:Int):=by omega
        have e8:IntKind.u8.wrap (Y2:Int)=(Y2:Int):=by rw [u8w];omega
        have hy:Y2<256:=by omega
        obtain ⟨b,hb⟩:∃ b,tabL[Y2]?=some b:=⟨_,List.getElem?_eq_getElem (by simp [tabL];omega)⟩
        obtain ⟨n,rfl,hn⟩:=tabL_some rfl hb
        have hn8:n≤8:=by split at hn <;> omega
        refine ⟨16+n,by omega,up 16 hY2 (tabL_lt hb),?_⟩
        refine fna Tryz.func213 Tryz.ntmps213 (rs:=[.tmp 2]) (by simp [AV.deep,AV.deep1]) ?_
        simp [go_sem,i32,i16,d16,i8,e8,IntKind.bits,w8,w16,w24,w32,w40,w48,w56]
        split
        · rename_i b2 hb2
          have h2:tabL[Y2]?=some b2:=hb2
          rw [hb] at h2
          cases h2
          have e9:IntKind.i64.wrap (16+(n:Int))=16+(n:Int):=hj _ (by omega) (by omega)
          exact post_same (by simp [AV.deep,AV.deep1]) (by simp only [hi n (by omega),e9])
        · rename_i hb2
          exact tabL_none rfl hy hb2
      · have i8:(256:Int)≤(Y2:Int):=by omega
        have d8:Int.fdiv (Y2:Int) 256=((Y2 / 256:Nat):Int):=fdiv_nat Y2 256
        have q8:Y2 / 256<256:=by omega
        generalize hY3:Y2 / 256=Y3 at *
        have e8:IntKind.u8.wrap (Y3:Int)=(Y3:Int):=by rw [u8w];omega
        have hy:Y3<256:=by omega
        obtain ⟨b,hb⟩:∃ b,tabL[Y3]?=some b:=⟨_,List.getElem?_eq_getElem (by simp [tabL];omega)⟩
        obtain ⟨n,rfl,hn⟩:=tabL_some rfl hb
        have hn8:n≤8:=by split at hn <;> omega
        refine ⟨24+n,by omega,up2 (up 16 hY2 (up 8 hY3 (tabL_lt hb))) (by omega),?_⟩
        refine fna Tryz.func213 Tryz.ntmps213 (rs:=[.tmp 2]) (by simp [AV.deep,AV.deep1]) ?_
        simp [go_sem,i32,i16,d16,i8,d8,e8,IntKind.bits,w8,w16,w24,w32,w40,w48,w56]
        split
        · rename_i b2 hb2
          have h2:tabL[Y3]?=some b2:=hb2
          rw [hb] at h2
          cases h2
          have e9:IntKind.i64.wrap (24+(n:Int))=24+(n:Int):=hj _ (by omega) (by omega)
          exact post_same (by simp [AV.deep,AV.deep1]) (by simp only [hi n (by omega),e9])
        · rename_i hb2
          exact tabL_none rfl hy hb2
  · have i32:(4294967296:Int)≤(X:Int):=by omega
    have d32:Int.fdiv (X:Int) 4294967296=((X / 4294967296:Nat):Int):=fdiv_nat X 4294967296
    have q32:X / 4294967296<4294967296:=by omega
    generalize hY1:X / 4294967296=Y1 at *
    by_cases a1:Y1<65536
    · have i16:¬ (65536:Int)≤(Y1:Int):=by omega
      by_cases a2:Y1<256
      · have i8:¬ (256:Int)≤(Y1:Int):=by omega
        have e8:IntKind.u8.wrap (Y1:Int)=(Y1:Int):=by rw [u8w];omega
        have hy:Y1<256:=by omega
        obtain ⟨b,hb⟩:∃ b,tabL[Y1]?=some b:=⟨_,List.getElem?_eq_getElem (by simp [tabL];omega)⟩
        obtain ⟨n,rfl,hn⟩:=tabL_some rfl hb
        have hn8:n≤8:=by split at hn <;> omega
        refine ⟨32+n,by omega,up 32 hY1 (tabL_lt hb),?_⟩
        refine fna Tryz.func213 Tryz.ntmps213 (rs:=[.tmp 2]) (by simp [AV.deep,AV.deep1]) ?_
        simp [go_sem,i32,d32,i16,i8,e8,IntKind.bits,w8,w16,w24,w32,w40,w48,w56]
        split
        · rename_i b2 hb2
          have h2:tabL[Y1]?=some b2:=hb2
          rw [hb] at h2
          cases h2
          have e9:IntKind.i64.wrap (32+(n:Int))=32+(n:Int):=hj _ (by omega) (by omega)
          exact post_same (by simp [AV.deep,AV.deep1]) (by simp only [hi n (by omega),e9])
        · rename_i hb2
          exact tabL_none rfl hy hb2
      · have i8:(256:Int)≤(Y1:Int):=by omega
        have d8:Int.fdiv (Y1:Int) 256=((Y1 / 256:Nat):Int):=fdiv_nat Y1 256
        have q8:Y1 / 256<256:=by omega
        generalize hY3:Y1 / 256=Y3 at *
        have e8:IntKind.u8.wrap (Y3:Int)=(Y3:Int):=by rw [u8w];omega
        have hy:Y3<256:=by omega
        obtain ⟨b,hb⟩:∃ b,tabL[Y3]?=some b:=⟨_,List.getElem?_eq_getElem (by simp [tabL];omega)⟩
        obtain ⟨n,rfl,hn⟩:=tabL_some rfl hb
        have hn8:n≤8:=by split at hn <;> omega
        refine ⟨40+n,by omega,up2 (up 32 hY1 (up 8 hY3 (tabL_lt hb))) (by omega),?_⟩
        refine fna Tryz.func213 Tryz.ntmps213 (rs:=[.tmp 2]) (by simp [AV.deep,AV.deep1]) ?_
        simp [go_sem,i32,d32,i16,i8,d8,e8,IntKind.bits,w8,w16,w24,w32,w40,w48,w56]
        split
        · rename_i b2 hb2
          have h2:tabL[Y3]?=some b2:=hb2
          rw [hb] at h2
          cases h2
          have e9:IntKind.i64.wrap (40+(n:Int))=40+(n:Int):=hj _ (by omega) (by omega)
          exact post_same (by simp [AV.deep,AV.deep1]) (by simp only [hi n (by omega),e9])
        · rename_i hb2
          exact tabL_none rfl hy hb2
    · have i16:(65536:Int)≤(Y1:Int):=by omega
      have d16:Int.fdiv (Y1:Int) 65536=((Y1 / 65536:Nat):Int):=fdiv_nat Y1 65536
      have q16:Y1 / 65536<65536:=by omega
      generalize hY2:Y1 / 65536=Y2 at *
      by_cases a2:Y2<256
      · have i8:¬ (256:Int)≤(Y2:Int):=by omega
        have e8:IntKind.u8.wrap (Y2:Int)=(Y2:Int):=by rw [u8w];omega
        have hy:Y2<256:=by omega
        obtain ⟨b,hb⟩:∃ b,tabL[Y2]?=some b:=⟨_,List.getElem?_eq_getElem (by simp [tabL];omega)⟩
        obtain ⟨n,rfl,hn⟩:=tabL_some rfl hb
        have hn8:n≤8:=by split at hn <;> omega
        refine ⟨48+n,by omega,up2 (up 32 hY1 (up 16 hY2 (tabL_lt hb))) (by omega),?_⟩
        refine fna Tryz.func213 Tryz.ntmps213 (rs:=[.tmp 2]) (by simp [AV.deep,AV.deep1]) ?_
        simp [go_sem,i32,d32,i16,d16,i8,e8,IntKind.bits,w8,w16,w24,w32,w40,w48,w56]
        split
        · rename_i b2 hb2
          have h2:tabL[Y2]?=some b2:=hb2
          rw [hb] at h2
          cases h2
          have e9:IntKind.i64.wrap (48+(n:Int))=48+(n:Int):=hj _ (by omega) (by omega)
          exact post_same (by simp [AV.deep,AV.deep1]) (by simp only [hi n (by omega),e9])
        · rename_i hb2
          exact tabL_none rfl hy hb2
      · have i8:(256:Int)≤(Y2:Int):=by omega
        have d8:Int.fdiv (Y2:Int) 256=((Y2 / 256:Nat):Int):=fdiv_nat Y2 256
        have q8:Y2 / 256<256:=by omega
        generalize hY3:Y2 / 256=Y3 at *
        have e8:IntKind.u8.wrap (Y3:Int)=(Y3:Int):=by rw [u8w];omega
        have hy:Y3<256:=by omega
        obtain ⟨b,hb⟩:∃ b,tabL[Y3]?=some b:=⟨_,List.getElem?_eq_getElem (by simp [tabL];omega)⟩
        obtain ⟨n,rfl,hn⟩:=tabL_some rfl hb
        have hn8:n≤8:=by split at hn <;> omega
        refine ⟨56+n,by omega,up2 (up 32 hY1 (up 16 hY2 (up 8 hY3 (tabL_lt hb)))) (by omega),?_⟩
        refine fna Tryz.func213 Tryz.ntmps213 (rs:=[.tmp 2]) (by simp [AV.deep,AV.deep1]) ?_
        simp [go_sem,i32,d32,i16,d16,i8,d8,e8,IntKind.bits,w8,w16,w24,w32,w40,w48,w56]
        split
        · rename_i b2 hb2
          have h2:tabL[Y3]?=some b2:=hb2
          rw [hb] at h2
          cases h2
          have e9:IntKind.i64.wrap (56+(n:Int))=56+(n:Int):=hj _ (by omega) (by omega)
          exact post_same (by simp [AV.deep,AV.deep1]) (by simp only [hi n (by omega),e9])
        · rename_i hb2
          exact tabL_none rfl hy hb2
theorem lenI_ex (x:Int) (hx:R64 x):∃ n:Nat,n≤64∧x<2 ^ n∧Rets Tryz.prog 213 [.d (.int .u64 x)] (fun r=>r=.d (.int .i64 (n:Int))):=by
  obtain ⟨X,rfl⟩:=Int.eq_ofNat_of_zero_le hx.1
  obtain ⟨n,h1,h2,h3⟩:=lenQ_ex X (by have:=hx.2;omega)
  exact ⟨n,h1,by exact_mod_cast h2,h3⟩
def lenG (N:Int→Nat) (a:List Int):Nat→Nat
  | 0=>0
  | k+1=>if gI a k=0 then lenG N a k else 64*k+N (gI a k)
theorem lenG_le {N:Int→Nat} {a:List Int} (h:∀ k,N (gI a k)≤64):∀ k,lenG N a k≤64*k
  | 0=>Nat.le_refl _
  | k+1=>by
    have h1:=lenG_le h k
    have h2:=h k
    unfold lenG
    split <;> omega
theorem lenG_V {N:Int→Nat} {a:List Int} (ha:Wn 4 a) (h:∀ k,gI a k<2 ^ N (gI a k)):V a<2 ^ lenG N a 4:=by
  obtain ⟨a0,a1,a2,a3,rfl,h0,h1,h2,h3⟩:=W4_ex ha
  have k0:=h 0
  have k1:=h 1
  have k2:=h 2
  have k3:=h 3
  have g0:gI [a0,a1,a2,a3] 0=a0:=rfl
  have g1:gI [a0,a1,a2,a3] 1=a1:=rfl
  have g2:gI [a0,a1,a2,a3] 2=a2:=rfl
  have g3:gI [a0,a1,a2,a3] 3=a3:=rfl
  rw [g0] at k0
  rw [g1] at k1
  rw [g2] at k2
  rw [g3] at k3
  have p:∀ n m:Nat,(2:Int) ^ (n+m)=2 ^ n*2 ^ m:=fun n m=>Int.pow_add 2 n m
  simp only [lenG,g0,g1,g2,g3,V4]
  unfold R64 at *
  by_cases z3:a3=0
  · rw [if_pos z3]
    by_cases z2:a2=0
    · rw [if_pos z2]
      by_cases z1:a1=0
      · rw [if_pos z1]
        by_cases z0:a0=0
        · rw [if_pos z0];subst z0 z1 z2 z3;decide
        · rw [if_neg z0,p]
          subst z1 z2 z3
          generalize (2:Int) ^ N a0=q at *
          simp;omega
      · rw [if_neg z1,p]
        subst z2 z3
        generalize (2:Int) ^ N a1=q at *
        simp;omega
    · rw [if_neg z2,p]
      subst z3
      generalize (2:Int) ^ N a2=q at *
      simp;omega
  · rw [if_neg z3,p]
    generalize (2:Int) ^ N a3=q at *
    simp;omega
theorem wlen_ex (a:List Int) (ha:Wn 4 a):∃ n:Nat,n≤256∧V a<2 ^ n∧Rets Tryz.prog 171 [.agg (cI a)] (fun r=>r=.d (.int .i64 (n:Int))):=by
  obtain ⟨N,hN⟩:=pick (α:=Int) (β:=Nat) (A:=fun x=>R64 x) (B:=fun x n=>n≤64∧x<2 ^ n∧Rets Tryz.prog 213 [.d (.int .u64 x)] (fun r=>r=.d (.int .i64 (n:Int)))) lenI_ex
  have hN2:∀ k,N (gI a k)≤64:=fun k=>(hN _ (Wn_getD ha)).1
  have hle:=lenG_le hN2
  have hal:=ha.1
  refine ⟨lenG N a 4,hle 4,lenG_V ha (fun k=>(hN _ (Wn_getD ha)).2.1),?_⟩
  refine fna Tryz.func171 Tryz.ntmps171 (rs:=[.tmp 2]) (one_cI a) ?_
  generalize hT:lenG N a 4=T
  simp [go_sem,hal,cI_take hal]
  refine loop_of (fun k:Nat=>⟨[(1,.ptr 0 0 0 1),(3,.d (.int .i64 (ixD k)))],[(0,⟨198,4,[cI a]⟩)],500⟩)
    (fun k=>k≤4∧lenG N a k=T) (fun k=>k) 4 ⟨by omega,hT⟩ (by
      simp [Weak,slotOk,fv,lk,AV.low,AV.low1,ixD]
      exact cI_low _ _) ?_
  rintro k ⟨hk,hkT⟩
  match k,hk,hkT with
  | 0,_,hkT =>
    simp [go_sem,ixD_z,resV]
    exact post_same (by simp [AV.deep,AV.deep1]) (by rw [← hkT];rfl)
  | k+1,hk,hkT =>
    have hx:=Wn_getD (k:=k) ha
    have hka:=get_D (l:=a) (k:=k) (by omega)
    have hk4:(k:Int)<4:=by omega
    unfold lenG at hkT
    have hle1:=(hN _ hx).1
    have hc:=(hN _ hx).2.2
    by_cases h0:gI a k=0
    · rw [if_pos h0] at hkT
      have hw:IntKind.i64.wrap ((k:Int) - 1)=ixD k:=by
        cases k with
        | zero=>rw [IntWalk.i64_in _ (by omega)];rfl
        | succ j=>rw [IntWalk.i64_in _ (by omega)];simp [ixD]
      simp [go_sem,ixD_s,hka,hal,hk4,h0,hw]
      first | refine next_of k ⟨by omega,hkT⟩ (by omega) ?_
      simp [Weak,slotOk,fv,lk,AV.low,AV.low1]
      exact cI_low _ _
    · rw [if_neg h0] at hkT
      have w1:IntKind.i64.wrap (64*(k:Int))=64*(k:Int):=IntWalk.i64_in _ (by omega)
      generalize hn:N (gI a k)=n at *
      have w2:IntKind.i64.wrap (64*(k:Int)+(n:Int))=64*(k:Int)+(n:Int):=IntWalk.i64_in _ (by omega)
      simp [go_sem,ixD_s,hka,hal,hk4,h0,w1]
      first | refine cl_eq hc (by simp [AV.deep,AV.deep1]) ?_
      simp [go_sem,w1,w2,resV]
      exact post_same (by simp [AV.deep,AV.deep1]) (by rw [← hkT];first | rfl | simp [w2])
theorem fsub_ex (a b:List Int) (ha:Wn 4 a) (hb:Wn 4 b):∃ r,Wn 4 r∧V r=(V a - V b) % 115792089237316195423570985008687907853269984665640564039457584007908834671663∧W2 211 a b r:=by
  obtain ⟨a1,ha1,va1,f1⟩:=reduce_ex a ha
  obtain ⟨b1,hb1,vb1,f2⟩:=reduce_ex b hb
  obtain ⟨d,c,hd,hc,vd,f3⟩:=wsub_ex a1 b1 ha1 hb1
  obtain ⟨s2,c2,hs2,hc2,vs,f4⟩:=wadd_ex d prI hd prI_W
  have vp:V prI=115792089237316195423570985008687907853269984665640564039457584007908834671663:=by simp [V,prI]
  rw [vp] at vs
  have b1':=V_lt hd
  have b2':=V_lt hs2
  have b3':=hc.1
  have b4':=hc.2
  have b5':=hc2.1
  have b6':=hc2.2
  unfold W1 at f1 f2
  have hal:=ha.1
  have hbl:=hb.1
  have hdl:=hd.1
  have hsl:=hs2.1
  have hz:List.drop 4 (cI zI)=[]:=cI_drop rfl
  by_cases h0:c=0
  · refine ⟨d,hd,by subst h0;omega,?_⟩
    unfold W2
    refine fna Tryz.func211 Tryz.ntmps211 (rs:=[.cell 4 198]) (two_cI a b) ?_
    simp [go_sem,hal,hbl,cI_take hal,cI_take hbl]
    refine drw3 [0,2] [1,3,4,8,9] [0,2,5,6,7,10] (.alt (.step 1 [] true (.alt (.step 3 [] true (.alt (.step 4 [5,6,7] true (.step 8 [] true (.step 9 [10] true .done))) (.step 8 [] true (.step 4 [5,6,7] true (.step 9 [10] true .done))))) (.step 8 [] true (.step 3 [] true (.step 4 [5,6,7] true (.step 9 [10] true .done)))))) (.step 8 [] true (.step 1 [] true (.step 3 [] true (.step 4 [5,6,7] true (.step 9 [10] true .done)))))) ⟨[(4,.ptr 64 0 0 1),(5,.ptr 352 0 0 1),(6,.d (.int .u64 c))],[(352,⟨198,4,[cI d]⟩),(64,⟨198,4,[cI zI]⟩)],9000⟩ (k:=11) ?h3 ?hq
    case h3 =>
      intro G hG
      have hW:∀ fr:Fr,(fv 4 fr=.ptr 64 0 0 1∧fv 5 fr=.ptr 352 0 0 1∧fv 6 fr=.d (.int .u64 c))→G fr [(352,⟨198,4,[cI d]⟩),(64,⟨198,4,[cI zI]⟩),(32,⟨198,4,[cI b]⟩),(0,⟨198,4,[cI a]⟩)]:=by
        rintro fr ⟨q0,q1,q2⟩
        exact hG _ _ wkA
      simp [go_sem,hal,hbl,cI_take hal,cI_take hbl,hdl,cI_take hdl,hz,SaW]
      repeat' first | exact hW _ ⟨rfl,rfl,rfl⟩ | (refine hW _ ?_;simp [fv,lk];done) | refine cl_eq f1 (one_cI _) ?_ | refine cl_eq f2 (one_cI _) ?_ | refine cl_eq f3 (two_cI _ _) ?_ | apply And.intro | simp [go_sem,hal,hbl,cI_take hal,cI_take hbl,hdl,cI_take hdl,hz,SaW]
    case hq =>
      simp [go_sem,h0,hdl,cI_take hdl,hz,resV]
      exact post_w rfl
  · have h1:c=1:=by omega
    refine ⟨s2,hs2,by subst h1;omega,?_⟩
    unfold W2
    refine fna Tryz.func211 Tryz.ntmps211 (rs:=[.cell 4 198]) (two_cI a b) ?_
    simp [go_sem,hal,hbl,cI_take hal,cI_take hbl]
    refine drw3 [0,2] [1,3,4,8,9] [0,2,5,6,7,10] (.alt (.step 1 [] true (.alt (.step 3 [] true (.alt (.step 4 [5,6,7] true (.step 8 [] true (.step 9 [10] true .done))) (.step 8 [] true (.step 4 [5,6,7] true (.step 9 [10] true .done))))) (.step 8 [] true (.step 3 [] true (.step 4 [5,6,7] true (.step 9 [10] true .done)))))) (.step 8 [] true (.step 1 [] true (.step 3 [] true (.step 4 [5,6,7] true (.step 9 [10] true .done)))))) ⟨[(4,.ptr 64 0 0 1),(5,.ptr 352 0 0 1),(6,.d (.int .u64 c))],[(352,⟨198,4,[cI d]⟩),(64,⟨198,4,[cI zI]⟩)],9000⟩ (k:=11) ?h3 ?hq
    case h3 =>
      intro G hG
      have hW:∀ fr:Fr,(fv 4 fr=.ptr 64 0 0 1∧fv 5 fr=.ptr 352 0 0 1∧fv 6 fr=.d (.int .u64 c))→G fr [(352,⟨198,4,[cI d]⟩),(64,⟨198,4,[cI zI]⟩),(32,⟨198,4,[cI b]⟩),(0,⟨198,4,[cI a]⟩)]:=by
        rintro fr ⟨q0,q1,q2⟩
        exact hG _ _ wkA
      simp [go_sem,hal,hbl,cI_take hal,cI_take hbl,hdl,cI_take hdl,hz,SaW]
      repeat' first | exact hW _ ⟨rfl,rfl,rfl⟩ | (refine hW _ ?_;simp [fv,lk];done) | refine cl_eq f1 (one_cI _) ?_ | refine cl_eq f2 (one_cI _) ?_ | refine cl_eq f3 (two_cI _ _) ?_ | apply And.intro | simp [go_sem,hal,hbl,cI_take hal,cI_take hbl,hdl,cI_take hdl,hz,SaW]
    case hq =>
      simp [go_sem,h0]
      refine drw3 [0] [1,2,5,6] [0,3,4] (.step 1 [] true (.step 2 [3,4] true (.alt (.step 5 [] true (.step 6 [] false .done)) (.step 6 [] false (.step 5 [] false .done))))) ⟨[(4,.ptr 64 0 0 1),(5,.ptr 352 0 0 1)],[(352,⟨198,4,[cI s2]⟩),(64,⟨198,4,[cI zI]⟩)],9000⟩ (k:=7) ?h3 ?hq
      case h3 =>
        intro G hG
        have hW:∀ fr:Fr,(fv 4 fr=.ptr 64 0 0 1∧fv 5 fr=.ptr 352 0 0 1)→G fr [(352,⟨198,4,[cI s2]⟩),(64,⟨198,4,[cI zI]⟩)]:=by
          rintro fr ⟨q0,q1⟩
          exact hG _ _ wkA
        simp [go_sem,hdl,cI_take hdl,hsl,cI_take hsl,hz,cI_drop hdl,SaW]
        repeat' first | exact hW _ ⟨rfl,rfl⟩ | (refine hW _ ?_;simp [fv,lk];done) | refine cl_eq primeI_fn (by simp) ?_ | refine cl_eq f4 (two_cI _ _) ?_ | apply And.intro | simp [go_sem,hdl,cI_take hdl,hsl,cI_take hsl,hz,cI_drop hdl,SaW]
      case hq =>
        simp [go_sem,hsl,cI_take hsl,hz,resV]
        exact post_w rfl
theorem fneg_ex (a:List Int) (ha:Wn 4 a):∃ r,Wn 4 r∧V r=(0 - V a) % 115792089237316195423570985008687907853269984665640564039457584007908834671663∧W1 205 a r:=by
  obtain ⟨r,hr,vr,f1⟩:=fsub_ex zI a zI_W ha
  unfold W2 at f1
  have hal:=ha.1
  have hrl:=hr.1
  have hz:List.drop 4 (cI zI)=[]:=cI_drop rfl
  refine ⟨r,hr,vr,?_⟩
  unfold W1
  refine fna Tryz.func205 Tryz.ntmps205 (rs:=[.cell 2 198]) (one_cI a) ?_
  simp [go_sem,hal,cI_take hal]
  refine cl_eq f1 (two_cI zI a) ?_
  simp [go_sem,hrl,cI_take hrl,hz,resV]
  exact post_w rfl
theorem fmulF:∃ M:List Int × List Int→List Int,∀ x,(Wn 4 x.1∧Wn 4 x.2)→Wn 4 (M x)∧V (M x)=(V x.1*V x.2) % 115792089237316195423570985008687907853269984665640564039457584007908834671663∧Rets Tryz.prog 203 [.agg (cI x.1),.agg (cI x.2)] (fun r=>r=.agg (cI (M x))) :=
  pick (α:=List Int × List Int) (β:=List Int) (A:=fun x=>Wn 4 x.1∧Wn 4 x.2) (B:=fun x y=>Wn 4 y∧V y=(V x.1*V x.2) % 115792089237316195423570985008687907853269984665640564039457584007908834671663∧Rets Tryz.prog 203 [.agg (cI x.1),.agg (cI x.2)] (fun r=>r=.agg (cI y))) (fun x hx=>by
    obtain ⟨r,h1,h2,h3⟩:=fmul_ex x.1 x.2 hx.1 hx.2
    exact ⟨r,h1,h2,h3⟩)
def dq (i:Nat):Nat:=i / 64
def rq (i:Nat):Nat:=i % 64
def bitI (n:List Int) (i:Nat):Prop:=Go.bits .and .u64 (Int.fdiv (gI n (dq i)) (2 ^ rq i)) 1=0
theorem and1_64 (z:Int) (h0:0≤z) (h1:z<18446744073709551616):Go.bits .and .u64 z 1=z % 2:=by
  obtain ⟨n,rfl⟩:=Int.eq_ofNat_of_zero_le h0
  have h:=bits_and_u64_nat n 1 (by omega) (by omega)
  rw [Nat.and_one_is_mod,Int.natCast_emod] at h
  exact h
theorem word_V {n:List Int} (hn:Wn 4 n) {j:Nat} (hj:j<4):(((V n).toNat / 2 ^ (64*j) % 2 ^ 64:Nat):Int)=gI n j:=by
  obtain ⟨a,b,c,d,rfl,h0,h1,h2,h3⟩:=W4_ex hn
  unfold R64 at *
  have e:=V4 a b c d
  obtain ⟨N,hN⟩:∃ N:Nat,V [a,b,c,d]=(N:Int):=⟨(V [a,b,c,d]).toNat,by rw [e];omega⟩
  rw [hN]
  rw [hN] at e
  match j,hj with
  | 0,_=>show _=a;rw [Int.toNat_natCast];omega
  | 1,_=>show _=b;rw [Int.toNat_natCast];omega
  | 2,_=>show _=c;rw [Int.toNat_natCast];omega
  | 3,_=>show _=d;rw [Int.toNat_natCast];omega
theorem bit_V {n:List Int} (hn:Wn 4 n) {k:Nat} (hk:k<256):(bitI n k→(V n).toNat / 2 ^ k % 2=0)∧(¬ bitI n k→(V n).toNat / 2 ^ k % 2=1):=by
  have hw:=word_V hn (j:=k / 64) (by omega)
  have hg:=Wn_getD (k:=k / 64) hn
  generalize (V n).toNat=N at *
  have e:bitI n k ↔ N / 2 ^ k % 2=0:=by
    unfold bitI
    have hd:dq k=k / 64:=rfl
    have hr:rq k=k % 64:=rfl
    rw [hd,hr,← hw]
    have hf:Int.fdiv (((N / 2 ^ (64*(k / 64)) % 2 ^ 64:Nat)):Int) (2 ^ (k % 64))=((N / 2 ^ (64*(k / 64)) % 2 ^ 64 / 2 ^ (k % 64):Nat):Int):=by
      rw [Int.fdiv_eq_ediv_of_nonneg _ (Int.le_of_lt (Int.pow_pos (by omega)))]
      exact_mod_cast rfl
    have hlt:N / 2 ^ (64*(k / 64)) % 2 ^ 64 / 2 ^ (k % 64)<18446744073709551616:=Nat.lt_of_le_of_lt (Nat.div_le_self _ _) (Nat.mod_lt _ (by decide))
    rw [hf,and1_64 _ (Int.natCast_nonneg _) (Int.lt_of_lt_of_le (Int.ofNat_lt.2 hlt) (Int.le_of_eq rfl))]
    have ht:(N / 2 ^ (64*(k / 64)) % 2 ^ 64 / 2 ^ (k % 64)) % 2=N / 2 ^ k % 2:=by
      have h1:(N / 2 ^ (64*(k / 64)) % 2 ^ 64).testBit (k % 64)=N.testBit k:=by
        rw [Nat.testBit_mod_two_pow,← Nat.shiftRight_eq_div_pow,Nat.testBit_shiftRight]
        have:k % 64<64:=Nat.mod_lt _ (by omega)
        rw [decide_eq_true this,Bool.true_and]
        congr 1
        omega
      rw [Nat.testBit_eq_decide_div_mod_eq,Nat.testBit_eq_decide_div_mod_eq] at h1
      have h2:=decide_eq_decide.1 h1
      have:=Nat.mod_two_eq_zero_or_one (N / 2 ^ (64*(k / 64)) % 2 ^ 64 / 2 ^ (k % 64))
      have:=Nat.mod_two_eq_zero_or_one (N / 2 ^ k)
      omega
    omega
  refine ⟨e.1,fun h=>?_⟩
  have:=Nat.mod_two_eq_zero_or_one (N / 2 ^ k)
  rcases this with h1 | h1
  · exact absurd (e.2 h1) h
  · exact h1
open Classical in
noncomputable def stpW (M:List Int × List Int→List Int) (n:List Int) (k:Nat) (s:List Int × List Int):List Int × List Int :=
  (if bitI n k then s.1 else M (s.1,s.2),M (s.2,s.2))
theorem pow_ex (a n:List Int) (ha:Wn 4 a) (hn:Wn 4 n):∃ r,Wn 4 r∧V r=V a ^ (V n).toNat % 115792089237316195423570985008687907853269984665640564039457584007908834671663∧W2 201 a n r:=by
  obtain ⟨M,hM⟩:=fmulF
  obtain ⟨a1,ha1,va1,f1⟩:=reduce_ex a ha
  obtain ⟨L,hL,vL,f2⟩:=wlen_ex n hn
  unfold W1 at f1
  have hS:∀ k,Wn 4 (itr (stpW M n) ([1,0,0,0],a1) k).1∧Wn 4 (itr (stpW M n) ([1,0,0,0],a1) k).2:=itr_inv (P:=fun _ (s:List Int × List Int)=>Wn 4 s.1∧Wn 4 s.2) ⟨fromI_W ⟨by omega,by omega⟩,ha1⟩ fun k s hs=>by
    unfold stpW
    refine ⟨?_,(hM (s.2,s.2) ⟨hs.2,hs.2⟩).1⟩
    dsimp only
    split
    · exact hs.1
    · exact (hM (s.1,s.2) hs).1
  have hV:∀ k,k≤256→V (itr (stpW M n) ([1,0,0,0],a1) k).1=V a ^ ((V n).toNat % 2 ^ k) % 115792089237316195423570985008687907853269984665640564039457584007908834671663∧V (itr (stpW M n) ([1,0,0,0],a1) k).2=V a ^ (2 ^ k) % 115792089237316195423570985008687907853269984665640564039457584007908834671663:=by
    intro k
    induction k with
    | zero =>
      intro _
      refine ⟨?_,?_⟩
      · show V [1,0,0,0]=_
        rw [Nat.pow_zero,Nat.mod_one,Int.pow_zero];simp [V]
      · show V a1=_
        rw [va1,Nat.pow_zero,Int.pow_succ,Int.pow_zero,Int.one_mul]
    | succ k ih =>
      intro hk
      obtain ⟨i1,i2⟩:=ih (by omega)
      have hs:=hS k
      have bv:=bit_V hn (k:=k) (by omega)
      have m2:=(hM ((itr (stpW M n) ([1,0,0,0],a1) k).2,(itr (stpW M n) ([1,0,0,0],a1) k).2) ⟨hs.2,hs.2⟩).2.1
      have m1:=(hM ((itr (stpW M n) ([1,0,0,0],a1) k).1,(itr (stpW M n) ([1,0,0,0],a1) k).2) hs).2.1
      rw [itr]
      generalize itr (stpW M n) ([1,0,0,0],a1) k=s at *
      dsimp only at m1 m2
      have e2:V (stpW M n k s).2=V a ^ (2 ^ (k+1)) % 115792089237316195423570985008687907853269984665640564039457584007908834671663:=by
        show V (M (s.2,s.2))=_
        rw [m2,i2,← Int.mul_emod,← Int.pow_add,Nat.pow_succ,Nat.mul_two]
      refine ⟨?_,e2⟩
      rw [Nat.mod_pow_succ]
      unfold stpW
      dsimp only
      by_cases hb:bitI n k
      · rw [if_pos hb,i1,bv.1 hb,Nat.mul_zero,Nat.add_zero]
      · rw [if_neg hb,m1,i1,i2,bv.2 hb,Nat.mul_one,Int.pow_add,← Int.mul_emod]
  have hfin:(V n).toNat % 2 ^ L=(V n).toNat:=Nat.mod_eq_of_lt (by
    have h0:=(V_lt hn).1
    have:(((V n).toNat:Nat):Int)<((2 ^ L:Nat):Int):=by rw [Int.toNat_of_nonneg h0];exact_mod_cast vL
    exact_mod_cast this)
  refine ⟨(itr (stpW M n) ([1,0,0,0],a1) L).1,(hS L).1,by rw [(hV L hL).1,hfin],?_⟩
  unfold W2
  refine fna Tryz.func201 Tryz.ntmps201 (rs:=[.cell 4 198]) (two_cI a n) ?_
  have hal:=ha.1
  have hnl:=hn.1
  have h1l:=ha1.1
  have hz:List.drop 4 (cI zI)=[]:=cI_drop rfl
  simp [go_sem,hal,hnl,cI_take hal,cI_take hnl]
  generalize hSS:itr (stpW M n) ([1,0,0,0],a1)=S at *
  have hS0:S 0=([1,0,0,0],a1):=by rw [← hSS];rfl
  refine drw3 [1] [0,2,3,4,5,6] [1] (.alt (.step 0 [] true (.alt (.step 2 [] false (.alt (.step 3 [] false (.step 4 [] false (.step 5 [] false (.step 6 [] false .done)))) (.step 4 [] false (.step 3 [] false (.step 5 [] false (.step 6 [] false .done)))))) (.alt (.step 3 [] true (.alt (.step 2 [] false (.step 4 [] false (.step 5 [] false (.step 6 [] false .done)))) (.step 4 [] true (.step 2 [] false (.step 5 [] false (.step 6 [] false .done)))))) (.step 4 [] true (.alt (.step 2 [] false (.step 3 [] false (.step 5 [] false (.step 6 [] false .done)))) (.step 3 [] true (.step 2 [] false (.step 5 [] false (.step 6 [] false .done))))))))) (.alt (.step 3 [] true (.alt (.step 0 [] true (.alt (.step 2 [] false (.step 4 [] false (.step 5 [] false (.step 6 [] false .done)))) (.step 4 [] true (.step 2 [] false (.step 5 [] false (.step 6 [] false .done)))))) (.step 4 [] true (.step 0 [] true (.step 2 [] false (.step 5 [] false (.step 6 [] false .done))))))) (.step 4 [] true (.alt (.step 0 [] true (.alt (.step 2 [] false (.step 3 [] false (.step 5 [] false (.step 6 [] false .done)))) (.step 3 [] true (.step 2 [] false (.step 5 [] false (.step 6 [] false .done)))))) (.step 3 [] true (.step 0 [] true (.step 2 [] false (.step 5 [] false (.step 6 [] false .done))))))))) ⟨[(3,.ptr 32 0 0 1),(4,.ptr 64 0 0 1),(5,.ptr 192 0 0 1),(6,.ptr 224 0 0 1)],[(224,⟨198,4,[cI a1]⟩),(192,⟨198,4,[cI [1,0,0,0]]⟩),(64,⟨198,4,[cI zI]⟩),(32,⟨198,4,[cI n]⟩)],9000⟩ (k:=7) ?h3 ?hq
  case h3 =>
    intro G hG
    have hW:∀ (fr:Fr) (hp:Hp),(fv 3 fr=.ptr 32 0 0 1∧fv 4 fr=.ptr 64 0 0 1∧fv 5 fr=.ptr 192 0 0 1∧fv 6 fr=.ptr 224 0 0 1∧lk 224 hp=some ⟨198,4,[cI a1]⟩∧lk 192 hp=some ⟨198,4,[cI [1,0,0,0]]⟩∧lk 64 hp=some ⟨198,4,[cI zI]⟩∧lk 32 hp=some ⟨198,4,[cI n]⟩)→G fr hp:=by
      rintro fr hp ⟨q0,q1,q2,q3,q4,q5,q6,q7⟩
      exact hG _ _ wkA
    simp [go_sem,hal,cI_take hal,h1l,cI_take h1l,hz,SaW]
    repeat' first | exact hW _ _ ⟨rfl,rfl,rfl,rfl,rfl,rfl,rfl,rfl⟩ | (refine hW _ _ ?_;simp [fv,lk];done) | refine cl_eq (fromI_fn 1) (by simp [AV.deep,AV.deep1]) ?_ | refine cl_eq f1 (one_cI _) ?_ | apply And.intro | simp [go_sem,hal,cI_take hal,h1l,cI_take h1l,hz,SaW]
  case hq =>
    simp [go_sem,hnl,cI_take hnl]
    refine cl_eq f2 (one_cI _) ?_
    simp [go_sem]
    refine loop_of (fun k:Nat=>⟨[(3,.ptr 32 0 0 1),(4,.ptr 64 0 0 1),(5,.ptr 192 0 0 1),(6,.ptr 224 0 0 1),(12,.d (.int .i64 (L:Int))),(13,.d (.int .i64 (k:Int)))],[(224,⟨198,4,[cI (S k).2]⟩),(192,⟨198,4,[cI (S k).1]⟩),(64,⟨198,4,[cI zI]⟩),(32,⟨198,4,[cI n]⟩)],20000⟩)
      (fun k=>k≤L) (fun k=>L - k) 0 (by omega) (by
        rw [hS0]
        simp [Weak,slotOk,fv,lk,AV.low,AV.low1]
        and_intros <;> first | rfl | exact cI_low _ _) ?_
    intro k hk
    obtain ⟨hs1,hs2⟩:=hS k
    have l1:=hs1.1
    have l2:=hs2.1
    have w3:=next_i64 (k:=k) (by omega)
    simp only [go_sem,Nat.reduceEqDiff,Nat.reduceAdd,Nat.reduceLT,↓reduceIte]
    by_cases h4:k<L
    · refine ⟨fun h=>?_,fun h=>absurd (by exact_mod_cast h4) h⟩
      have hsn:S (k+1)=stpW M n k (S k):=by rw [← hSS];rfl
      have hdq:dq k=k / 64:=rfl
      have hrq:rq k=k % 64:=rfl
      have hnk:=get_D (l:=n) (k:=dq k) (by omega)
      have w4:IntKind.i64.wrap ((k:Int) / 64)=(dq k:Int):=by rw [IntWalk.i64_in _ (by omega)];omega
      have w4b:IntKind.i64.wrap ((k:Int).tdiv 64)=(dq k:Int):=w4
      have e2:(k:Int) % 64=(rq k:Int):=by omega
      have e2b:(k:Int).tmod 64=(rq k:Int):=e2
      have i1:(dq k:Int)<4:=by omega
      obtain ⟨m1,_,m2⟩:=hM ((S k).2,(S k).2) ⟨hs2,hs2⟩
      obtain ⟨m3,_,m4⟩:=hM ((S k).1,(S k).2) ⟨hs1,hs2⟩
      have l3:=m1.1
      have l4:=m3.1
      have hm64:rq k<64:=by omega
      have hmn:min (rq k) 64=rq k:=by omega
      unfold stpW at hsn
      by_cases hb:bitI n k
      · rw [if_pos hb] at hsn
        unfold bitI at hb
        simp [go_sem,hnk,hnl,e2,e2b,w4,w4b,i1,hm64,hmn,hb,IntKind.bits,l1,l2,cI_take l1,cI_take l2]
        first | refine cl_eq m2 (two_cI _ _) ?_
        generalize M ((S k).2,(S k).2)=z at *
        simp [go_sem,l3,cI_take l3,l2,cI_drop l2,w3]
        first | refine next_of (k+1) (by omega) (by omega) ?_
        rw [hsn]
        simp [Weak,slotOk,fv,lk,AV.low,AV.low1]
        and_intros <;> exact cI_low _ _
      · rw [if_neg hb] at hsn
        unfold bitI at hb
        simp [go_sem,hnk,hnl,e2,e2b,w4,w4b,i1,hm64,hmn,hb,IntKind.bits,l1,l2,cI_take l1,cI_take l2]
        first | refine cl_eq m4 (two_cI _ _) ?_
        generalize M ((S k).1,(S k).2)=y at *
        simp [go_sem,l4,cI_take l4,l1,l2,cI_take l2,cI_drop l1]
        first | refine cl_eq m2 (two_cI _ _) ?_
        generalize M ((S k).2,(S k).2)=z at *
        simp [go_sem,l3,cI_take l3,l2,cI_drop l2,w3]
        first | refine next_of (k+1) (by omega) (by omega) ?_
        rw [hsn]
        simp [Weak,slotOk,fv,lk,AV.low,AV.low1]
        and_intros <;> exact cI_low _ _
    · refine ⟨fun h=>absurd (by exact_mod_cast h) h4,fun h=>?_⟩
      have hkl:k=L:=by omega
      subst hkl
      simp [go_sem,l1,cI_take l1,hz,resV]
      exact post_w rfl
theorem orR {x y:Int} (hx:R64 x) (hy:R64 y):R64 (Go.bits .or .u64 x y):=by
  obtain ⟨X,rfl⟩:=Int.eq_ofNat_of_zero_le hx.1
  obtain ⟨Y,rfl⟩:=Int.eq_ofNat_of_zero_le hy.1
  have h1:=hx.2
  have h2:=hy.2
  rw [or64 X Y (by omega) (by omega)]
  have:=Nat.or_lt_two_pow (x:=X) (y:=Y) (n:=64) (by omega) (by omega)
  exact ⟨Int.natCast_nonneg _,by omega⟩
theorem fdR {x:Int} (hx:R64 x):R64 (Int.fdiv x 4):=by
  obtain ⟨h1,h2⟩:=hx
  rw [Int.fdiv_eq_ediv_of_nonneg _ (by omega)]
  exact ⟨by omega,by omega⟩
theorem finv_ex (a:List Int) (ha:Wn 4 a):∃ r,Wn 4 r∧V r=V a ^ 115792089237316195423570985008687907853269984665640564039457584007908834671661 % 115792089237316195423570985008687907853269984665640564039457584007908834671663∧W1 214 a r:=by
  obtain ⟨n,c,hn,hc,vn,f1⟩:=wsub_ex prI [2,0,0,0] prI_W (fromI_W ⟨by omega,by omega⟩)
  obtain ⟨r,hr,vr,f2⟩:=pow_ex a n ha hn
  have vp:V prI=115792089237316195423570985008687907853269984665640564039457584007908834671663:=by simp [V,prI]
  have v2:V [2,0,0,0]=2:=by simp [V]
  rw [vp,v2] at vn
  have b1:=V_lt hn
  have b2:=hc.1
  have b3:=hc.2
  have vN:(V n).toNat=115792089237316195423570985008687907853269984665640564039457584007908834671661:=by omega
  rw [vN] at vr
  unfold W2 at f2
  have hal:=ha.1
  have hnl:=hn.1
  have hrl:=hr.1
  have hz:List.drop 4 (cI zI)=[]:=cI_drop rfl
  refine ⟨r,hr,vr,?_⟩
  unfold W1
  refine fna Tryz.func214 Tryz.ntmps214 (rs:=[.cell 2 198]) (one_cI a) ?_
  simp [go_sem,hal,cI_take hal]
  refine cl_eq primeI_fn (by simp) ?_
  simp [go_sem]
  refine cl_eq (fromI_fn 2) (by simp [AV.deep,AV.deep1]) ?_
  simp [go_sem]
  refine cl_eq f1 (two_cI _ _) ?_
  simp [go_sem,hal,hnl,cI_take hal,cI_take hnl,hz]
  refine cl_eq f2 (two_cI _ _) ?_
  simp [go_sem,hrl,cI_take hrl,hz,resV]
  exact post_w rfl
def hiS (x:Int):Int:=IntKind.u64.wrap (x*4611686018427387904)
def stpH (a:List Int) (k:Nat) (s:List Int):List Int :=
  if k<3 then s.set k (Go.bits .or .u64 (Int.fdiv (gI a k) 4) (hiS (gI a (pl k 1)))) else s.set k (Int.fdiv (gI a k) 4)
theorem or64h (x y:Int) (hx:0≤x) (hx2:x<18446744073709551616):Go.bits .or .u64 (Int.fdiv x 4) (hiS y)=x / 4+4611686018427387904*(y % 4):=by
  rw [Int.fdiv_eq_ediv_of_nonneg _ (by omega)]
  unfold hiS
  rw [wrap64]
  obtain ⟨X,hX⟩:∃ X:Nat,x / 4=(X:Int):=⟨(x / 4).toNat,by omega⟩
  obtain ⟨Y,hY⟩:∃ Y:Nat,y % 4=(Y:Int):=⟨(y % 4).toNat,by omega⟩
  have e:y*4611686018427387904 % 18446744073709551616=((Y*2 ^ 62:Nat):Int):=by omega
  rw [e,hX,or64 X (Y*2 ^ 62) (by omega) (by omega),hY,Nat.or_comm,← Nat.shiftLeft_eq,← Nat.shiftLeft_add_eq_or_of_lt (show X<2 ^ 62 by omega),Nat.shiftLeft_eq]
  omega
theorem shr2_V {a:List Int} (ha:Wn 4 a):V (itr (stpH a) zI 4)=V a / 4:=by
  obtain ⟨a0,a1,a2,a3,rfl,h0,h1,h2,h3⟩:=W4_ex ha
  have g0:gI [a0,a1,a2,a3] 0=a0:=rfl
  have g1:gI [a0,a1,a2,a3] 1=a1:=rfl
  have g2:gI [a0,a1,a2,a3] 2=a2:=rfl
  have g3:gI [a0,a1,a2,a3] 3=a3:=rfl
  have p0:gI [a0,a1,a2,a3] (pl 0 1)=a1:=rfl
  have p1:gI [a0,a1,a2,a3] (pl 1 1)=a2:=rfl
  have p2:gI [a0,a1,a2,a3] (pl 2 1)=a3:=rfl
  have e:∀ p q r s:Int,List.set (List.set (List.set (List.set zI 0 p) 1 q) 2 r) 3 s=[p,q,r,s]:=fun _ _ _ _=>rfl
  unfold R64 at *
  simp only [itr,stpH,g0,g1,g2,g3,p0,p1,p2]
  rw [if_neg (show ¬ ((3:Nat)<3) by omega),if_pos (show (2:Nat)<3 by omega),if_pos (show (1:Nat)<3 by omega),if_pos (show (0:Nat)<3 by omega),or64h a0 a1 h0.1 h0.2,or64h a1 a2 h1.1 h1.2,or64h a2 a3 h2.1 h2.2,e,V4,V4,Int.fdiv_eq_ediv_of_nonneg _ (by omega)]
  omega
theorem shr2_ex (a:List Int) (ha:Wn 4 a):∃ r,Wn 4 r∧V r=V a / 4∧Rets Tryz.prog 202 [.agg (cI a),.d (.int .i64 2)] (fun x=>x=.agg (cI r)):=by
  have hS:∀ k,Wn 4 (itr (stpH a) zI k):=itr_inv (P:=fun _ (s:List Int)=>Wn 4 s) zI_W fun k s hs=>by
    unfold stpH
    split
    · exact Wn_set hs (orR (fdR (Wn_getD ha)) (u64R _))
    · exact Wn_set hs (fdR (Wn_getD ha))
  refine ⟨itr (stpH a) zI 4,hS 4,shr2_V ha,?_⟩
  refine fna Tryz.func202 Tryz.ntmps202 (rs:=[.cell 4 198]) (by intro v hv;simp at hv;rcases hv with rfl | rfl;exact cI_deepA _;trivial) ?_
  have hal:=ha.1
  generalize hSS:itr (stpH a) zI=S at *
  have wz:IntKind.i64.wrap 0=0:=IntWalk.i64_in _ (by omega)
  have hz:List.drop 4 (cI zI)=[]:=cI_drop rfl
  simp [go_sem,hal,cI_take hal,wz]
  refine loop_of (fun k:Nat=>⟨[(2,.ptr 0 0 0 1),(4,.ptr 32 0 0 1),(5,.ptr 192 0 0 1),(6,.d (.int .i64 0)),(7,.d (.int .i64 2)),(8,.d (.int .i64 (k:Int)))],[(192,⟨198,4,[cI (S k)]⟩),(32,⟨198,4,[cI zI]⟩),(0,⟨198,4,[cI a]⟩)],1000⟩)
    (fun k=>k≤4) (fun k=>4 - k) 0 (by omega) (by
      rw [← hSS]
      simp [Weak,slotOk,fv,lk,AV.low,AV.low1,itr]
      first | (and_intros <;> first | rfl | exact cI_low _ _)) ?_
  intro k hk
  have hs1:=hS k
  have hsl:=hs1.1
  have w3:=next_i64 (k:=k) (by omega)
  have w62:IntKind.i64.wrap 62=62:=IntWalk.i64_in _ (by omega)
  simp only [go_sem,Nat.reduceEqDiff,Nat.reduceAdd,Nat.reduceLT,↓reduceIte]
  by_cases h4:k<4
  · refine ⟨fun h=>?_,fun h=>absurd (by exact_mod_cast h4) h⟩
    have hka:=get_D (l:=a) (k:=k) (by omega)
    have hk4:(k:Int)<4:=by omega
    have hsn:S (k+1)=stpH a k (S k):=by rw [← hSS];rfl
    have wk0:IntKind.i64.wrap ((k:Int) - 0)=(k:Int):=IntWalk.i64_in _ (by omega)
    have wk1:IntKind.i64.wrap (k:Int)=(k:Int):=IntWalk.i64_in _ (by omega)
    unfold stpH at hsn
    have hpl:pl k 1=k+1:=rfl
    have w5:IntKind.i64.wrap ((k:Int)+1)=(pl k 1:Int):=by rw [hpl];exact w3
    by_cases h3:k<3
    · rw [if_pos h3] at hsn
      have hkb:=get_D (l:=a) (k:=pl k 1) (by omega)
      have i3:(pl k 1:Int)<4:=by omega
      have i3n:pl k 1<4:=by omega
      have hkk:(S k)[k]?=some (gI (S k) k):=get_D (by omega)
      have hst:((S k).set k (Int.fdiv (gI a k) 4))[k]?=some (Int.fdiv (gI a k) 4):=by rw [List.getElem?_set_self (by omega)]
      simp [go_sem,hka,hal,hsl,hk4,wk0,wk1,cI_set,w5,i3,i3n,IntKind.bits]
      refine ⟨h4,?_⟩
      refine drw2 [0,1,2,3,4,5,6,7,8,9,10,11,12,13] [(14,[])] 0 (k:=15) ?_
      intro G hG
      simp [go_sem,hka,hkb,hal,hsl,hk4,wk0,wk1,cI_set,w5,i3,IntKind.bits,hst,w62,List.length_set,hiS]
      first | refine ⟨h4,hG _ _ ?_⟩ | refine hG _ _ ?_ | refine ⟨by omega,hG _ _ ?_⟩
      clear hG G
      simp [go_sem,w5]
      refine next_of (k+1) (by omega) (by omega) ?_
      rw [hsn]
      simp [Weak,slotOk,fv,lk,AV.low,AV.low1,hpl,hiS]
      first | (and_intros <;> exact cI_low _ _)
    · rw [if_neg h3] at hsn
      have i3:¬ (pl k 1:Int)<4:=by omega
      have i3n:¬ pl k 1<4:=by omega
      simp [go_sem,hka,hal,hsl,hk4,wk0,wk1,cI_set,w5,i3,i3n,IntKind.bits]
      first | refine ⟨h4,next_of (k+1) (by omega) (by omega) ?_⟩ | refine next_of (k+1) (by omega) (by omega) ?_
      rw [hsn]
      simp [Weak,slotOk,fv,lk,AV.low,AV.low1,hpl]
      first | (and_intros <;> exact cI_low _ _)
  · refine ⟨fun h=>absurd (by exact_mod_cast h) h4,fun h=>?_⟩
    have hk4:k=4:=by omega
    subst hk4
    simp [go_sem,hsl,cI_take hsl,hz,resV]
    exact post_w rfl
theorem ints_cI (l:List Int):intsOf .u64 (cI l)=some l:=by
  induction l with
  | nil=>rfl
  | cons x r ih=>simp only [cI,List.map_cons] at ih ⊢;simp [intsOf,ih]
theorem post_wb {Q:AV→Prop} {st:St} {a:List Int} {b:Bool} (hq:Q (.tup [.agg (cI a),.d (.bool b)])):PostK Q (.tup [.agg (cI a),.d (.bool b)]) st :=
  post_same (by
    intro c hc
    simp at hc
    rcases hc with rfl | rfl
    · exact .inr ⟨_,rfl,cI_deep _⟩
    · exact .inl trivial) hq
theorem wi_deep (a:List Int) (c:Int):∀ v,v ∈ [AV.agg (cI a),AV.d (.int .i64 c)]→v.deep:=by
  intro v hv;simp at hv;rcases hv with rfl | rfl;exact cI_deepA _;trivial
theorem froot_ex (a:List Int) (ha:Wn 4 a):∃ (r:List Int) (ok:Bool),Wn 4 r∧(ok=true ↔ (V a ^ 28948022309329048855892746252171976963317496166410141009864396001977208667916 % 115792089237316195423570985008687907853269984665640564039457584007908834671663)*(V a ^ 28948022309329048855892746252171976963317496166410141009864396001977208667916 % 115792089237316195423570985008687907853269984665640564039457584007908834671663) % 115792089237316195423570985008687907853269984665640564039457584007908834671663=V a % 115792089237316195423570985008687907853269984665640564039457584007908834671663)∧(ok=true→V r=if V a ^ 28948022309329048855892746252171976963317496166410141009864396001977208667916 % 115792089237316195423570985008687907853269984665640564039457584007908834671663 % 2=0 then V a ^ 28948022309329048855892746252171976963317496166410141009864396001977208667916 % 115792089237316195423570985008687907853269984665640564039457584007908834671663 else (0 - V a ^ 28948022309329048855892746252171976963317496166410141009864396001977208667916 % 115792089237316195423570985008687907853269984665640564039457584007908834671663) % 115792089237316195423570985008687907853269984665640564039457584007908834671663)∧(ok=false→r=zI)∧Rets Tryz.prog 164 [.agg (cI a)] (fun x=>x=.tup [.agg (cI r),.d (.bool ok)]):=by
  obtain ⟨n0,c,hn0,hc,vn0,f1⟩:=wadd_ex prI [1,0,0,0] prI_W (fromI_W ⟨by omega,by omega⟩)
  obtain ⟨n,hn,vn,f2⟩:=shr2_ex n0 hn0
  obtain ⟨r,hr,vr,f3⟩:=pow_ex a n ha hn
  obtain ⟨m,hm,vm,f4⟩:=fmul_ex r r hr hr
  obtain ⟨a1,ha1,va1,f5⟩:=reduce_ex a ha
  obtain ⟨q,hq,vq,f6⟩:=fneg_ex r hr
  have vp:V prI=115792089237316195423570985008687907853269984665640564039457584007908834671663:=by simp [V,prI]
  have v1:V [1,0,0,0]=1:=by simp [V]
  rw [vp,v1] at vn0
  have b1:=V_lt hn0
  have b2:=hc.1
  have b3:=hc.2
  have vN:(V n).toNat=28948022309329048855892746252171976963317496166410141009864396001977208667916:=by omega
  rw [vN] at vr
  have hmV:m=a1 ↔ (V a ^ 28948022309329048855892746252171976963317496166410141009864396001977208667916 % 115792089237316195423570985008687907853269984665640564039457584007908834671663)*(V a ^ 28948022309329048855892746252171976963317496166410141009864396001977208667916 % 115792089237316195423570985008687907853269984665640564039457584007908834671663) % 115792089237316195423570985008687907853269984665640564039457584007908834671663=V a % 115792089237316195423570985008687907853269984665640564039457584007908834671663:=by
    rw [← vr,← vm,← va1]
    exact ⟨fun h=>by rw [h],fun h=>V_inj hm ha1 h⟩
  have hr00:=Wn_getD (k:=0) hr
  have hpar:Go.bits .and .u64 (gI r 0) 1=0 ↔ V r % 2=0:=by
    rw [and1_64 _ hr00.1 hr00.2]
    obtain ⟨r0,r1,r2,r3,e,_⟩:=W4_ex hr
    rw [e,V4]
    show r0 % 2=0 ↔ _
    omega
  rw [← vr] at hmV
  unfold W1 at f5 f6
  unfold W2 at f3 f4
  have hal:=ha.1
  have h0l:=hn0.1
  have hrl:=hr.1
  have hml:=hm.1
  have h1l:=ha1.1
  have hql:=hq.1
  have hz:List.drop 4 (cI zI)=[]:=cI_drop rfl
  have hr0:=get_D (l:=r) (k:=0) (by omega)
  have hrh:(cI r).head?=some (.d (.int .u64 (gI r 0))):=by
    rw [List.head?_eq_getElem?,cI_get,hr0];rfl
  have key:∀ (x:List Int) (ok:Bool),Wn 4 x→(m ≠ a1→x=zI∧ok=false)→(m=a1→ok=true∧x=(if Go.bits .and .u64 (gI r 0) 1=0 then r else q))→Rets Tryz.prog 164 [.agg (cI a)] (fun y=>y=.tup [.agg (cI x),.d (.bool ok)]):=by
    intro x ok hx hno hyes
    refine fna Tryz.func164 Tryz.ntmps164 (rs:=[.cell 2 198,.tmp 3]) (one_cI a) ?_
    simp [go_sem,hal,cI_take hal]
    refine cl_eq primeI_fn (by simp) ?_
    simp [go_sem]
    refine cl_eq (fromI_fn 1) (by simp [AV.deep,AV.deep1]) ?_
    simp [go_sem]
    refine cl_eq f1 (two_cI _ _) ?_
    simp [go_sem,h0l,cI_take h0l,hz]
    refine drw3 [0,1] [2,3,4,5] [0,1] (.alt (.step 2 [] true (.alt (.step 3 [] false (.step 4 [] false (.step 5 [] false .done))) (.step 4 [] true (.step 3 [] false (.step 5 [] false .done))))) (.step 4 [] true (.step 2 [] true (.step 3 [] false (.step 5 [] false .done))))) ⟨[(1,.ptr 0 0 0 1),(2,.ptr 32 0 0 1),(6,.ptr 512 0 0 1)],[(512,⟨198,4,[cI r]⟩),(32,⟨198,4,[cI zI]⟩),(0,⟨198,4,[cI a]⟩)],9000⟩ (k:=6) ?h3 ?hq
    case h3 =>
      intro G hG
      have hW:∀ (fr:Fr) (hp:Hp),(fv 1 fr=.ptr 0 0 0 1∧fv 2 fr=.ptr 32 0 0 1∧fv 6 fr=.ptr 512 0 0 1∧lk 512 hp=some ⟨198,4,[cI r]⟩∧lk 32 hp=some ⟨198,4,[cI zI]⟩∧lk 0 hp=some ⟨198,4,[cI a]⟩)→G fr hp:=by
        rintro fr hp ⟨q0,q1,q2,q3,q4,q5⟩
        exact hG _ _ wkA
      simp [go_sem,hal,cI_take hal,h0l,cI_take h0l,hrl,cI_take hrl,hz,SaW]
      repeat' first | exact hW _ _ ⟨rfl,rfl,rfl,rfl,rfl,rfl⟩ | (refine hW _ _ ?_;simp [fv,lk];done) | refine cl_eq f2 (wi_deep _ _) ?_ | refine cl_eq f3 (two_cI _ _) ?_ | apply And.intro | simp [go_sem,hal,cI_take hal,h0l,cI_take h0l,hrl,cI_take hrl,hz,SaW]
    case hq =>
      simp [go_sem]
      refine drw2 [0,1,3] [(2,[]),(4,[5])] 2 (k:=6) ?_
      intro G hG
      simp [go_sem,hrl,cI_take hrl,hal,cI_take hal]
      refine cl_eq f4 (two_cI _ _) ?_
      simp [go_sem,hrl,cI_take hrl,hal,cI_take hal]
      refine cl_eq f5 (one_cI _) ?_
      simp [go_sem,ints_cI,hml,h1l]
      refine hG _ _ ?_
      by_cases h1:m=a1
      · obtain ⟨rfl,hx2⟩:=hyes h1
        by_cases h2:Go.bits .and .u64 (gI r 0) 1=0
        · rw [if_pos h2] at hx2
          subst hx2
          simp [go_sem,h1,hr0,hrh,h2,hrl,cI_take hrl,hz,resV]
          exact post_wb rfl
        · rw [if_neg h2] at hx2
          subst hx2
          simp [go_sem,h1,hr0,hrh,h2,hrl,cI_take hrl,hz]
          refine cl_eq f6 (one_cI _) ?_
          simp [go_sem,hql,hrl,cI_take hql,cI_drop hrl,hz,resV]
          exact post_wb rfl
      · obtain ⟨rfl,rfl⟩:=hno h1
        simp [go_sem,h1,hz,cI_take (l:=zI) (n:=4) rfl,resV]
        exact post_wb (a:=zI) rfl
  rw [← vr]
  by_cases h1:m=a1
  · refine ⟨if Go.bits .and .u64 (gI r 0) 1=0 then r else q,true,?_,⟨fun _=>hmV.1 h1,fun _=>rfl⟩,fun _=>?_,fun h=>(Bool.noConfusion h),key _ _ ?_ (fun h=>absurd h1 h) (fun _=>⟨rfl,rfl⟩)⟩
    · split
      · exact hr
      · exact hq
    · by_cases h2:V r % 2=0
      · rw [if_pos (hpar.2 h2),if_pos h2]
      · rw [if_neg (fun h=>h2 (hpar.1 h)),if_neg h2,vq]
    · split
      · exact hr
      · exact hq
  · exact ⟨zI,false,zI_W,⟨fun h=>(Bool.noConfusion h),fun h=>absurd (hmV.2 h) h1⟩,fun h=>(Bool.noConfusion h),fun _=>rfl,key _ _ zI_W (fun _=>⟨rfl,rfl⟩) (fun h=>absurd h h1)⟩
end Go.Proofs.YtfahccoobfjkeaaGreat
