/-
 Part 7 of what the claim rests on.
-/
import Derived.Test.YtmfnimjnneflnaaGreatG3
import Derived.Test.YtmfnimjnneflnaaGreatG5
set_option linter.unusedVariables false
set_option linter.unusedSimpArgs false
set_option maxRecDepth 100000
set_option maxHeartbeats 16000000
namespace Go.Proofs.YtmfnimjnneflnaaGreat
open Go.Am Go.Sha
theorem Rq {n:Nat} (h1:n=0 ∨ 77<n):(cK (n,[])).2=true:=by
 unfold cK;rw [if_neg (by simp;omega),if_neg (by simp;omega),if_neg (by simp;omega)];rfl
theorem Vv {n:Nat} (h:n<256):qN (n,[]):=⟨aw,h⟩
def Pm (d:Int):List Wd:=[bz (c8 d),(178,[]),(117,[]),(179,[])]
theorem Vw (d:Int):∀ w,w ∈ Pm d→qN w∧(cK w).2=true:=by
 intro w hw;have hl:=fX d;simp [Pm] at hw;rcases hw with rfl | rfl | rfl | rfl
 ·exact ⟨mM aq (dF d),Dz aq⟩
 all_goals exact ⟨Vv aq,Rq aq⟩
theorem DF (n:Int) (h1:-9223372036854775808≤n) (h2:n<9223372036854775808):ax Tryz.prog 25 [.d (.int .i64 n)] (fun r=>r=.agg (pJ (bz (c8 n)))):=by
 refine bO Tryz.func25 Tryz.ntmps25 (rs:=[.cell 2 42]) a9 ?_;have hl:=fX n;simp [go_sem];refine ag (kJ n h1 h2) a9 ?_;simp [go_sem];refine ag (xg (c8 n) aq (dF n)) a9 ?_;generalize bz (c8 n)=w;simp [go_sem,pJ,ah];exact aa a9 rfl
abbrev be:=List Nat
def jk:List Nat→Nat
 | []=>0
 | b :: r=>b+256*jk r
theorem lF:∀ (a b:List Nat),jk (a ++ b)=jk a+256 ^ a.length*jk b
 | [],b=>by simp [jk]
 | x :: a,b=>by
  rw [List.cons_append,jk,jk,lF,List.length_cons,Nat.pow_succ,Nat.mul_add,Nat.add_assoc,← Nat.mul_assoc,Nat.mul_comm 256 (256 ^ a.length)]
theorem qP:∀ {b:List Nat},bytes b→jk b<256 ^ b.length
 | [],_=>by simp [jk]
 | x :: b,h=>by
  have h1:=qP (b:=b) (fun y hy=>h y (cS _ hy));have h2:x<256:=h x aw;rw [jk,List.length_cons,Nat.pow_succ];omega
theorem DG:∀ (k m:Nat),m<256 ^ k→jk (vH k m)=m
 | 0,m,h=>by simp at h;subst h;rfl
 | k+1,m,h=>by
  rw [vH]
  split
  ·rename_i e;subst e;rfl
  ·rw [jk,DG k (m / 256) (by rw [Nat.pow_succ] at h;omega)];omega
def xj (b:be):Int:=match b.reverse with
 | []=>0
 | x :: r=>if x<128 then (jk b:Int) else -((jk b - 128*256 ^ (b.length - 1):Nat):Int)
theorem gw (a:be) (x:Nat):xj (a ++ [x])=if x<128 then ((jk a+256 ^ a.length*x:Nat):Int) else -((jk a+256 ^ a.length*x - 128*256 ^ a.length:Nat):Int):=by
 unfold xj;rw [List.reverse_append];simp only [List.reverse_cons,List.reverse_nil,List.nil_append,List.singleton_append,b_,List.length_cons,List.length_nil,Nat.add_sub_cancel];rw [lF];simp [jk]
theorem FT (n:Int) (h1:-9223372036854775808≤n) (h2:n<9223372036854775808):xj (c8 n)=n:=by
 have hm:n.natAbs<256 ^ 8:=by show n.natAbs<18446744073709551616;omega
 have hv:=DG 8 n.natAbs hm;have hb:=nE 8 n.natAbs;unfold c8;generalize vH 8 n.natAbs=b at hv hb;rcases dZ b with rfl | ⟨a,x,rfl⟩
 ·have:n=0:=by simp [jk] at hv;omega
  subst this;rfl
 ·rw [nF];have hx:x<256:=hb x aw
  have hv':jk a+256 ^ a.length*x=n.natAbs:=by
   rw [lF] at hv
   simpa [jk] using hv
  unfold ia
  split
  ·split
   ·rename_i hn;have hn':n<0:=by simpa using hn
    rw [show a ++ [x,128]=(a ++ [x]) ++ [128] by simp,gw,if_neg aq,lF];simp only [b_,List.length_cons,List.length_nil,jk,Nat.mul_zero,Nat.add_zero];rw [hv',Nat.mul_comm 128,Nat.add_sub_cancel];omega
   ·rename_i hn;have hn':¬ n<0:=by simpa using hn
    rw [show a ++ [x,0]=(a ++ [x]) ++ [0] by simp,gw,if_pos aq,lF];simp only [b_,List.length_cons,List.length_nil,jk,Nat.mul_zero,Nat.add_zero];rw [hv'];omega
  ·split
   ·rename_i hn;have hn':n<0:=by simpa using hn
    rw [gw,if_neg aq,Nat.mul_add,Nat.mul_comm 128,← Nat.add_assoc,Nat.add_sub_cancel,hv'];omega
   ·rename_i hn;have hn':¬ n<0:=by simpa using hn
    rw [gw,if_pos aq,hv'];omega
def fq (most:Nat) (b:be):Option Int:=if b.length≤min most 8∧c8 (xj b)=b then some (xj b) else none
theorem FU {most:Nat} {n m:Int} (h1:-9223372036854775808≤n) (h2:n<9223372036854775808) (h:fq most (c8 n)=some m):m=n:=by
 unfold fq at h
 split at h
 ·rw [FT n h1 h2] at h;exact (Option.some.inj h).symm
 ·cases h
def jX:be→Bool
 | []=>false
 | [c]=>decide (c ≠ 0∧c ≠ 128)
 | c :: r=>decide (c ≠ 0) || jX r
def iN (b:Bool):be:=if b then [1] else []
structure Mc where
 main:List be
 alt:List be
 e:Int
def gC (x:Int) (m:Mc):Mc:=if m.e=0 then ⟨m.main,m.alt,x⟩ else m
def aP (n:Nat) (m:Mc):Mc:=if m.main.length<n then gC 12 m else m
def dh (m:Mc):be × Mc:=if (aP 1 m).e=0 then (m.main.getLastD [],⟨m.main.dropLast,m.alt,m.e⟩) else ([],aP 1 m)
def dV (l:List be) (m:Mc):Mc:=⟨m.main ++ l,m.alt,m.e⟩
def fu (most:Nat) (x:be) (m:Mc):Int × Mc:=if m.e=0 then (match fq most x with | some n=>(n,m) | none=>(0,gC 15 m)) else (0,m)
def cn (k:Nat) (put:List Nat) (m:Mc):Mc :=
 if (aP k m).e=0 then ⟨m.main.take (m.main.length - k) ++ put.map (fun i=>(m.main.drop (m.main.length - k)).getD i []),m.alt,m.e⟩ else aP k m
def lG (m:Mc):Mc:=⟨(dh m).2.main,(dh m).2.alt ++ [(dh m).1],(dh m).2.e⟩
def oa (m:Mc):Mc:=if m.alt.length=0 then gC 12 m else ⟨m.main ++ [m.alt.getLastD []],m.alt.dropLast,m.e⟩
def iO (op:Nat) (m:Mc):Option Mc :=
 if op=97 then some m
 else if op=107 then some (lG m)
 else if op=108 then some (oa m)
 else if op=109 then some (cn 2 [] m)
 else if op=110 then some (cn 2 [0,1,0,1] m)
 else if op=111 then some (cn 3 [0,1,2,0,1,2] m)
 else if op=112 then some (cn 4 [0,1,2,3,0,1] m)
 else if op=113 then some (cn 6 [2,3,4,5,0,1] m)
 else if op=114 then some (cn 4 [2,3,0,1] m)
 else if op=117 then some (cn 1 [] m)
 else if op=118 then some (cn 1 [0,0] m)
 else if op=119 then some (cn 2 [1] m)
 else if op=120 then some (cn 2 [0,1,0] m)
 else if op=123 then some (cn 3 [1,2,0] m)
 else if op=124 then some (cn 2 [1,0] m)
 else if op=125 then some (cn 2 [1,0,1] m)
 else none
def ju (rolls:Bool) (m:Mc):Mc :=
 let p:=dh m
 let r:=fu 4 p.1 p.2
 if r.2.e=0 then
  (if r.1<0 ∨ (r.2.main.length:Int)≤r.1 then gC 12 r.2
  else
   let a:=r.2.main.length - 1 - r.1.toNat
   dV [r.2.main.getD a []] ⟨if rolls then r.2.main.eraseIdx a else r.2.main,r.2.alt,r.2.e⟩)
 else r.2
def jv (b:Bool) (m:Mc):Mc:=if b then m else gC 16 m
def oH (m:Mc):be:=m.main.getLastD []
def zy (m:Mc):be:=m.main.getD (m.main.length - 2) []
def oc (m:Mc):Mc:=if (aP 2 m).e=0 then dV [zy m ++ oH m] (cn 2 [] m) else aP 2 m
def fY (m:Mc):Bool × Mc:=if (aP 2 m).e=0 then (decide (oH m=zy m),cn 2 [] m) else (false,aP 2 m)
def kr (f:be→be) (m:Mc):Mc:=if (aP 1 m).e=0 then dV [f (dh m).1] (dh m).2 else aP 1 m
def uy (h1 h2:be→be) (op:Nat) (m:Mc):Option Mc :=
 if op=121 then some (ju false m)
 else if op=122 then some (ju true m)
 else if op=105 then some (jv (jX (dh m).1) (dh m).2)
 else if op=115 then some (if (aP 1 m).e=0 then (if jX (oH m) then dV [oH m] m else m) else aP 1 m)
 else if op=116 then some (dV [c8 (m.main.length:Int)] m)
 else if op=126 then some (oc m)
 else if op=130 then some (if (aP 1 m).e=0 then dV [c8 ((oH m).length:Int)] m else aP 1 m)
 else if op=135 then some (dV [iN (fY m).1] (fY m).2)
 else if op=136 then some (jv (fY m).1 (fY m).2)
 else if op=168 then some (kr h1 m)
 else if op=170 then some (kr h2 m)
 else none
def sf (op:Nat) (a:Int):Option Int :=
 if op=139 then some (a+1) else if op=140 then some (a - 1) else if op=143 then some (-a) else if op=144 then some (max a (-a))
 else if op=145 then some (if a=0 then 1 else 0) else if op=146 then some (if a=0 then 0 else 1) else none
def AN (op:Nat) (a b:Int):Option Bool :=
 if op=154 then some (decide (a ≠ 0) && decide (b ≠ 0)) else if op=155 then some (decide (a ≠ 0) || decide (b ≠ 0))
 else if op=156 ∨ op=157 then some (decide (a=b)) else if op=158 then some (decide (a ≠ b))
 else if op=159 then some (decide (a<b)) else if op=160 then some (decide (b<a))
 else if op=161 then some (decide (a≤b)) else if op=162 then some (decide (b≤a)) else none
def tf (op:Nat) (a b:Int):Option Int :=
 if op=147 then some (a+b) else if op=148 then some (a - b) else if op=163 then some (min a b) else if op=164 then some (max a b)
 else (AN op a b).map fun v=>if v then 1 else 0
def mi:Nat→Mc→List Int × Mc
 | 0,m=>([],m)
 | k+1,m =>
  let p:=dh m
  let r:=fu 4 p.1 p.2
  let q:=mi k r.2
  (q.1 ++ [r.1],q.2)
def dy (n:Nat) (m:Mc):List Int × Mc:=if (aP n m).e=0 then mi n m else (List.replicate n 0,aP n m)
def nX (op:Nat) (m:Mc):Option Mc :=
 if op=165 then
  some (let p:=dy 3 m;dV [iN (decide (p.1.getD 1 0≤p.1.getD 0 0) && decide (p.1.getD 0 0<p.1.getD 2 0))] p.2)
 else match sf op 0 with
  | some _=>some (let p:=dy 1 m;dV [c8 ((sf op (p.1.getD 0 0)).getD 0)] p.2)
  | none=>match tf op 0 0 with
   | none=>none
   | some _=>some (
    let p:=dy 2 m
    let n:=(tf op (p.1.getD 0 0) (p.1.getD 1 0)).getD 0
    if op=157 then jv (decide (n ≠ 0)) p.2 else dV [c8 n] p.2)
def fw (main alt:List be):Int:=if (main.all fun x=>decide (x.length≤520)) && (alt.all fun x=>decide (x.length≤520)) then (if main.length+alt.length≤100 then 0 else 13) else 14
def dm (m:Mc):List be × List be × Int :=
 if m.e=0 then (if fw m.main m.alt=0 then (m.main,m.alt,0) else ([],[],fw m.main m.alt)) else ([],[],m.e)
def vI (h1 h2:be→be) (op:Nat) (main alt:List be):List be × List be × Int :=
 match iO op ⟨main,alt,0⟩ with
 | some m=>dm m
 | none=>match uy h1 h2 op ⟨main,alt,0⟩ with
  | some m=>dm m
  | none=>match nX op ⟨main,alt,0⟩ with
   | some m=>dm m
   | none=>([],[],10)
end Go.Proofs.YtmfnimjnneflnaaGreat
namespace Go.Am
end Go.Am
namespace Go.Am
section
variable {P:Program}
def jk (n:Nat) (v v':AV):Prop:=v'=v ∨ v'=.any ∨ ((v=.nil ∨ ∃ e,v=.d (.rof e []))∧((∃ id,id<n∧v'=.own id 0 0 0) ∨ ∃ e,v'=.d (.ro e [])))
theorem Rr {n:Nat} {v v':AV} (h:jk n v v') {w:World} {S:Nat→Prop} {σ:Nat→Option Nat} {hp:Hp} {x:Value} (hx:AIs w S σ hp (fun i=>i<n) v x):AIs w S σ hp (fun i=>i<n) v' x:=by
 rcases h with rfl | rfl | ⟨h,h2⟩
 ·exact hx
 ·exact .any _
 ·have own:∀ A,AIs w S σ hp (fun i=>i<n) v' (.slice A 0 0):=fun A=>by
   rcases h2 with ⟨id,hid,rfl⟩ | ⟨e,rfl⟩
   ·exact .own id 0 0 0 A 0 hid (cL _) (fun _=>rfl) fun b2 hb2=>⟨Nat.zero_le _,fun _=>⟨cL _,cL _,fun h=>aq⟩⟩
   ·exact .d (.ro e [] A 0 (fun _ _=>undef) aw aw aw aw aw)
  rcases h with rfl | ⟨e,rfl⟩
  ·cases hx with
   | nil=>exact own none
  ·cases hx with
   | d hx =>
    cases hx with
    | rof _ _ A vs h1 h2 h3 h4=>exact own A
theorem Vx {st:St} {L:Nat} {b:Blk} {es':List (List AV)} (hb:lk L st.hp=some b) (hz:b.e ≠ 0) (hl:es'.length=b.es.length)
  (hc:∀ (i:Nat) (x x':List AV),b.es[i]?=some x→es'[i]?=some x'→x'.length=x.length∧∀ (j:Nat) (v v':AV),x[j]?=some v→x'[j]?=some v'→jk st.nx v v'):Wk st ⟨st.fr,bX L ⟨b.ty,b.e,es'⟩ st.hp,st.nx⟩:=by
 intro c a w hs;obtain ⟨h1,h2,σ,hr,hf,hist⟩:=hs
 have hlk:∀ i b',lk i (bX L ⟨b.ty,b.e,es'⟩ st.hp)=some b'→∃ b0,lk i st.hp=some b0∧b'.ty=b0.ty∧b'.e=b0.e∧b'.es.length=b0.es.length∧(i ≠ L→b'=b0)∧(i=L→b'=⟨b.ty,b.e,es'⟩∧b0=b):=by
  intro i b' h;rw [km] at h;by_cases hi:i=L
  ·subst hi;rw [if_pos rfl,hb] at h;simp only [Option.map_some,Option.some.injEq] at h;subst h;exact ⟨b,hb,rfl,rfl,hl,fun e=>absurd rfl e,fun _=>⟨rfl,rfl⟩⟩
  ·rw [if_neg hi] at h;exact ⟨b',h,rfl,rfl,rfl,fun _=>rfl,fun e=>absurd e hi⟩
 have hS:∀ b0,bJ c w σ st.hp b0→bJ c w σ (bX L ⟨b.ty,b.e,es'⟩ st.hp) b0:=fun b0 hb0=>⟨⟨hb0.1.1,fun id blk g h hg=>by
  obtain ⟨b1,h3,_⟩:=hlk id blk h
  exact hb0.1.2 id b1 g h3 hg⟩,hb0.2⟩
 have step:Step w (bJ c w σ st.hp) σ st.hp (fun i=>i<st.nx) w (bJ c w σ (bX L ⟨b.ty,b.e,es'⟩ st.hp)) σ (bX L ⟨b.ty,b.e,es'⟩ st.hp) (fun i=>i<st.nx) :=
  ⟨hS,fun _ _=>rfl,fun _ h=>h,fun id b' _ h=>by
   obtain ⟨b1,h3,h4,h5,h6,_⟩:=hlk id b' h
   exact ⟨b1,h3,h5,h4,aq,fun _ g hg=>⟨hg,fun _ h=>h⟩⟩⟩
 refine ⟨h1,h2,σ,⟨fun i j bi bj g hi hj hgi hgj=>?_,fun i b' h=>?_,fun i b' h=>?_,fun i b' g h hg=>?_,hr.os,hr.tape,hr.output,hr.size,hr.old⟩,fun n=>(hf n).step step,hist.trans step⟩
 ·obtain ⟨b1,h3,_⟩:=hlk i bi hi;obtain ⟨b2,h4,_⟩:=hlk j bj hj;exact hr.inj i j b1 b2 g h3 h4 hgi hgj
 ·obtain ⟨b1,h3,_⟩:=hlk i b' h;exact hr.lt i b1 h3
 ·obtain ⟨b1,h3,h4,h5,h6,h7,h8⟩:=hlk i b' h;rcases hr.blk i b1 h3 with ⟨k1,k2⟩ | ⟨g,k1,ccs,k2,k3,k4,k5,k6⟩
  ·refine .inl ⟨k1,?_⟩;by_cases hi:i=L
   ·obtain ⟨rfl,rfl⟩:=h8 hi;have:=k2.none hz;exact .inl (List.length_eq_zero_iff.1 (by rw [h6,this];rfl))
   ·rw [h7 hi];exact k2
  ·refine .inr ⟨g,k1,ccs,by rw [h4];exact k2,k3,?_,by rw [h6,h5];exact k5,?_⟩
   ·by_cases hi:i=L
    ·obtain ⟨rfl,rfl⟩:=h8 hi;intro x hx;obtain ⟨n,hn,rfl⟩:=List.mem_iff_getElem.1 hx;have hn':n<b1.es.length:=by simp only at hn;omega
     obtain ⟨q1,_⟩:=hc n b1.es[n] _ (cm hn') (cm hn);rw [q1];exact k4 _ (List.getElem_mem _)
    ·rw [h7 hi];exact k4
   ·intro i' j x y v a1 a2 a3;rw [h5] at a3;by_cases hi:i=L
    ·obtain ⟨rfl,rfl⟩:=h8 hi;have hn':i'<b1.es.length:=by have:=(ci.1 a1).1;simp only at this;omega
     obtain ⟨q1,q2⟩:=hc i' b1.es[i'] x (cm hn') a1;have hj:j<b1.es[i'].length:=by have:=(ci.1 a2).1;omega
     have hv:=k6 i' j b1.es[i'] b1.es[i'][j] v (cm hn') (cm hj) a3;exact (Rr (q2 j _ y (cm hj) a2) hv).step step
    ·rw [h7 hi] at a1;exact (k6 i' j x y v a1 a2 a3).step step
 ·obtain ⟨b1,h3,_⟩:=hlk i b' h;exact hr.mine i b1 g h3 hg
def IL (n:Nat) (x x':List AV):Prop:=x'.length=x.length∧∀ (j:Nat) (v v':AV),x[j]?=some v→x'[j]?=some v'→jk n v v'
theorem FW {n:Nat} (l r:List AV) {a a':AV} (h:jk n a a'):IL n (l ++ a :: r) (l ++ a' :: r):=by
 refine ⟨aw,fun j v v' h1 h2=>?_⟩;rcases Nat.lt_or_ge j l.length with hj | hj
 ·rw [List.getElem?_append_left hj] at h1 h2;rw [h1] at h2;exact .inl (Option.some.inj h2).symm
 ·rw [dn hj] at h1 h2
  cases hk:j - l.length with
  | zero =>
   rw [hk] at h1 h2;simp at h1 h2;subst h1;subst h2;exact h
  | succ k =>
   rw [hk] at h1 h2;simp at h1 h2;rw [h1] at h2;exact .inl (Option.some.inj h2).symm
theorem Rt {st:St} {L:Nat} {ty:TypeId} {e:Nat} {x x':List AV} (hb:lk L st.hp=some ⟨ty,e,[x]⟩) (he:e ≠ 0) (h:IL st.nx x x'):Wk st ⟨st.fr,bX L ⟨ty,e,[x']⟩ st.hp,st.nx⟩ :=
 Vx hb he rfl fun i y y' h1 h2=>by
  cases i with
  | zero=>simp at h1 h2;subst h1;subst h2;exact h
  | succ i=>simp at h1
end
end Go.Am
namespace Go.Am
def oI (n:Nat) (f:Nat→Nat):Prop:=∀ i j,i<n→j<n→f i=f j→i=j
def jY (n:Nat) (f g:Nat→Nat):List (Nat × Nat):=(List.range n).map fun i=>(f i,g i)
theorem cY {n:Nat} {f g:Nat→Nat} {p:Nat × Nat}:p ∈ jY n f g ↔ ∃ i,i<n∧p=(f i,g i):=by
 simp only [jY,List.mem_map,List.mem_range];constructor
 ·rintro ⟨i,h,rfl⟩;exact ⟨i,h,rfl⟩
 ·rintro ⟨i,h,rfl⟩;exact ⟨i,h,rfl⟩
theorem aU (n:Nat):oI n id:=fun i j _ _ h=>h
theorem Vy {n:Nat} {f g:Nat→Nat} (hf:oI n f) (hg:oI n g):ff (jY n f g)=true:=by
 refine d7.2 fun p hp=>d7.2 fun q hq=>?_;obtain ⟨i,hi,rfl⟩:=cY.1 hp;obtain ⟨j,hj,rfl⟩:=cY.1 hq;rw [beq_iff_eq,Bool.eq_iff_iff,beq_iff_eq,beq_iff_eq];exact ⟨fun h=>by rw [hf i j hi hj h],fun h=>by rw [hg i j hi hj h]⟩
theorem DI (n:Nat) (f g:Nat→Nat):gu (jY n f g)=jY n g f:=by simp [gu,jY]
theorem IM {n:Nat} {f:Nat→Nat} (g:Nat→Nat) (hf:oI n f) {i:Nat} (hi:i<n):lk (f i) (jY n f g)=some (g i) :=
 kS (fun a b c h1 h2=>by
  obtain ⟨i,hi,e1⟩:=cY.1 h1;obtain ⟨j,hj,e2⟩:=cY.1 h2
  cases e1
  simp only [Prod.mk.injEq] at e2;obtain ⟨e2,rfl⟩:=e2
  rw [hf i j hi hj e2]) (cY.2 ⟨i,hi,rfl⟩)
theorem sk {n:Nat} {f:Nat→Nat} (g:Nat→Nat) (d:Nat) (hf:oI n f) {i:Nat} (hi:i<n):bR (jY n f g) d (f i)=g i:=wW (IM g hf hi)
def Xi (n:Nat) (f:Nat→Nat) (b:Nat→Blk):Hp:=(List.range n).map fun i=>(f i,b i)
theorem lH {n:Nat} {f:Nat→Nat} {b:Nat→Blk} {p:Nat × Blk}:p ∈ Xi n f b ↔ ∃ i,i<n∧p=(f i,b i):=by
 simp only [Xi,List.mem_map,List.mem_range];constructor
 ·rintro ⟨i,h,rfl⟩;exact ⟨i,h,rfl⟩
 ·rintro ⟨i,h,rfl⟩;exact ⟨i,h,rfl⟩
theorem ti {α:Type} {n:Nat} {v:α}:∀ {l:List (Nat × α)},(n,v) ∈ l→(∀ u,(n,u) ∈ l→u=v)→lk n l=some v
 | (m,u) :: t,h,hu=>by
  simp only [lk];by_cases e:m=n
  ·subst e;rw [if_pos rfl,hu u (dz ..)]
  ·rw [if_neg e];rcases d_.1 h with h | h
   ·cases h;exact absurd rfl e
   ·exact ti h fun u hm=>hu u (cS _ hm)
theorem xk {n:Nat} {f:Nat→Nat} (b:Nat→Blk) (hf:oI n f) {i:Nat} (hi:i<n):lk (f i) (Xi n f b)=some (b i) :=
 ti (lH.2 ⟨i,hi,rfl⟩) fun u hu=>by
  obtain ⟨j,hj,e⟩:=lH.1 hu;simp only [Prod.mk.injEq] at e;obtain ⟨e,rfl⟩:=e;rw [hf i j hi hj e]
theorem Pn {F:Nat→Option Blk} {x y:Nat}:∀ {l:List (Nat × Nat)},(x,y) ∈ l→(∀ z,(z,y) ∈ l→z=x)→(∃ v,F x=some v)→lk y (l.filterMap fun p=>(F p.1).map fun b=>(p.2,b))=F x
 | (a,c) :: t,h,hu,hv=>by
  obtain ⟨v,hv'⟩:=hv;by_cases e:c=y
  ·subst e;obtain rfl:a=x:=hu a (dz ..);rw [List.filterMap_cons_some (b:=(c,v)) (by simp [hv'])];simp [lk,hv']
  ·have hm:(x,y) ∈ t:=by
    rcases d_.1 h with h | h
    ·cases h;exact absurd rfl e
    ·exact h
   have ih:=Pn (F:=F) hm (fun z hz=>hu z (cS _ hz)) ⟨v,hv'⟩
   cases hF:F a with
   | none=>rw [List.filterMap_cons_none (by simp [hF])];exact ih
   | some w =>
    rw [List.filterMap_cons_some (b:=(c,w)) (by simp [hF])];simp only [lk,if_neg e];exact ih
theorem BF {F:Nat→Option Blk} {y:Nat}:∀ {l:List (Nat × Nat)},(∀ x,(x,y) ∉ l)→lk y (l.filterMap fun p=>(F p.1).map fun b=>(p.2,b))=none:=by
 intro l h
 cases hl:lk y (l.filterMap fun p=>(F p.1).map fun b=>(p.2,b)) with
 | none=>rfl
 | some v =>
  have:=bL hl;rw [List.mem_filterMap] at this;obtain ⟨⟨a,c⟩,h1,h2⟩:=this;simp only at h2
  cases hF:F a with
  | none=>rw [hF] at h2;simp at h2
  | some w =>
   rw [hF] at h2;simp only [Option.map_some,Option.some.injEq,Prod.mk.injEq] at h2;obtain ⟨rfl,_⟩:=h2;exact absurd h1 (h a)
section
variable {P:Program} {n:Nat} {f:Nat→Nat} {news:List (Nat × Nat)} {N:Nat} {hp hp':Hp}
def vJ (n:Nat) (f:Nat→Nat) (news:List (Nat × Nat)) (N:Nat):Nat→Nat:=bR (bC (jY n id f) news N) (N+31)
theorem zA (hn:cv (jY n id f) news=true):(∀ c j,(c,j) ∈ news→j<31∧n≤c)∧ff news=true:=by
 simp only [cv,Bool.and_eq_true,d7,decide_eq_true_eq,bne_iff_ne,ne_eq] at hn;refine ⟨fun c j h=>⟨(hn.2 _ h).1,?_⟩,hn.1⟩;rcases Nat.lt_or_ge c n with hlt | hge
 ·exact absurd rfl ((hn.2 _ h).2 (c,f c) (cY.2 ⟨c,hlt,rfl⟩))
 ·exact hge
theorem IN (hn:cv (jY n id f) news=true) (hf:oI n f) (hN:∀ i,i<n→f i<N) {x z y:Nat} (h1:(x,y) ∈ bC (jY n id f) news N) (h2:(z,y) ∈ bC (jY n id f) news N):z=x:=by
 obtain ⟨q1,q2⟩:=zA hn;rcases cD.1 h1 with h1 | h1 <;> rcases cD.1 h2 with h2 | h2
 ·obtain ⟨i,hi,e⟩:=cY.1 h1;obtain ⟨j,hj,e2⟩:=cY.1 h2
  cases e
  simp only [Prod.mk.injEq,id_eq] at e2 ⊢;obtain ⟨e3,e2⟩:=e2;rw [e3];exact (hf _ _ hi hj e2).symm
 ·obtain ⟨i,hi,e⟩:=cY.1 h1;obtain ⟨⟨c,j⟩,hj,e2⟩:=List.mem_map.1 h2
  cases e
  simp only [Prod.mk.injEq] at e2;have:=hN i hi;omega
 ·obtain ⟨i,hi,e⟩:=cY.1 h2;obtain ⟨⟨c,j⟩,hj,e2⟩:=List.mem_map.1 h1
  cases e
  simp only [Prod.mk.injEq] at e2;have:=hN i hi;omega
 ·obtain ⟨⟨c,j⟩,hj,e⟩:=List.mem_map.1 h1;obtain ⟨⟨c2,j2⟩,hj2,e2⟩:=List.mem_map.1 h2;simp only [Prod.mk.injEq] at e e2;obtain ⟨rfl,e⟩:=e;obtain ⟨rfl,e2⟩:=e2;exact ((fF q2 hj hj2).2 aq).symm
theorem DJ (hn:cv (jY n id f) news=true) {x y z:Nat} (h1:(x,y) ∈ bC (jY n id f) news N) (h2:(x,z) ∈ bC (jY n id f) news N):y=z:=by
 obtain ⟨q1,q2⟩:=zA hn;rcases cD.1 h1 with h1 | h1 <;> rcases cD.1 h2 with h2 | h2
 ·obtain ⟨i,hi,e⟩:=cY.1 h1;obtain ⟨j,hj,e2⟩:=cY.1 h2
  cases e
  simp only [Prod.mk.injEq,id_eq] at e2;obtain ⟨rfl,rfl⟩:=e2;rfl
 ·obtain ⟨i,hi,e⟩:=cY.1 h1;obtain ⟨⟨c,j⟩,hj,e2⟩:=List.mem_map.1 h2
  cases e
  simp only [Prod.mk.injEq,id_eq] at e2;have:=(q1 _ _ hj).2;omega
 ·obtain ⟨i,hi,e⟩:=cY.1 h2;obtain ⟨⟨c,j⟩,hj,e2⟩:=List.mem_map.1 h1
  cases e
  simp only [Prod.mk.injEq,id_eq] at e2;have:=(q1 _ _ hj).2;omega
 ·obtain ⟨⟨c,j⟩,hj,e⟩:=List.mem_map.1 h1;obtain ⟨⟨c2,j2⟩,hj2,e2⟩:=List.mem_map.1 h2;simp only [Prod.mk.injEq] at e e2;obtain ⟨rfl,rfl⟩:=e;obtain ⟨rfl,rfl⟩:=e2;rw [(fF q2 hj hj2).1 rfl]
theorem xm (hn:cv (jY n id f) news=true) {i:Nat} (hi:i<n):vJ n f news N i=f i :=
 wW (kS (fun a b c h1 h2=>DJ hn h1 h2) (List.mem_append_left _ (cY.2 ⟨i,hi,rfl⟩)))
theorem xn (hn:cv (jY n id f) news=true) {c j:Nat} (h:(c,j) ∈ news):vJ n f news N c=N+j :=
 wW (kS (fun a b c h1 h2=>DJ hn h1 h2) (List.mem_append_right _ (List.mem_map.2 ⟨(c,j),h,rfl⟩)))
theorem DK (hn:cv (jY n id f) news=true) (hf:oI n f) (hN:∀ i,i<n→f i<N) {x y:Nat} (h1:(x,y) ∈ bC (jY n id f) news N) {b:Blk} (hb:lk x hp'=some b) :
  lk y (bP (jY n id f) news N hp' hp)=some (b.ren (vJ n f news N)):=by
 have:=Pn (F:=fun a=>(lk a hp').map fun b=>b.ren (vJ n f news N)) h1 (fun z hz=>IN hn hf hN h1 hz) ⟨b.ren (vJ n f news N),by simp [hb]⟩;simp only [hb,Option.map_some] at this;unfold bP;rw [wV]
 have e:(bC (jY n id f) news N).filterMap (fun p=>(lk p.1 hp').map fun b=>(p.2,b.ren (bR (bC (jY n id f) news N) (N+31))))=(bC (jY n id f) news N).filterMap (fun p=>((lk p.1 hp').map fun b=>b.ren (vJ n f news N)).map fun b=>(p.2,b)):=by
  congr 1;funext p
  cases lk p.1 hp' <;> rfl
 rw [e,this]
theorem Nl (hN:∀ i,i<n→f i<N) {y:Nat} (hy:y<N) (h1:∀ i,i<n→f i ≠ y):lk y (bP (jY n id f) news N hp' hp)=lk y hp:=by
 have hno:∀ x,(x,y) ∉ bC (jY n id f) news N:=by
  intro x hx;rcases cD.1 hx with hx | hx
  ·obtain ⟨i,hi,e⟩:=cY.1 hx
   cases e
   exact h1 i hi rfl
  ·obtain ⟨⟨c,j⟩,hj,e2⟩:=List.mem_map.1 hx;simp only [Prod.mk.injEq] at e2;omega
 have:=BF (F:=fun a=>(lk a hp').map fun b=>b.ren (vJ n f news N)) hno;unfold bP;rw [wV]
 have e:(bC (jY n id f) news N).filterMap (fun p=>(lk p.1 hp').map fun b=>(p.2,b.ren (bR (bC (jY n id f) news N) (N+31))))=(bC (jY n id f) news N).filterMap (fun p=>((lk p.1 hp').map fun b=>b.ren (vJ n f news N)).map fun b=>(p.2,b)):=by
  congr 1;funext p
  cases lk p.1 hp' <;> rfl
 rw [e,this];simp only;rw [qE fun n'=>!((jY n id f).map (·.2)).contains n',if_pos];simp only [Bool.not_eq_true',List.contains_eq_mem,decide_eq_false_iff_not,List.mem_map,not_exists,not_and];intro p hp2 e;obtain ⟨i,hi,rfl⟩:=cY.1 hp2;exact h1 i hi e
end
end Go.Am
namespace Go.Am
section
variable {P:Program}
theorem zB {c:Ctx} {hp hp2:Hp} {U:Nat→Prop} {σ:Nat→Option Nat} {w:World} (hlk:∀ i b,lk i hp2=some b→lk i hp=some b) (hr:Rel c hp U σ w) :
  Rel c hp2 U σ w∧Step w (bJ c w σ hp) σ hp U w (bJ c w σ hp2) σ hp2 U:=by
 have hst:Step w (bJ c w σ hp) σ hp U w (bJ c w σ hp2) σ hp2 U :=
  ⟨fun b h=>⟨⟨h.1.1,fun id blk g hk hg=>h.1.2 id blk g (hlk _ _ hk) hg⟩,h.2⟩,fun _ _=>rfl,fun _ h=>h,fun id b' _ h=>⟨b',hlk _ _ h,rfl,rfl,cL _,fun _ g hg=>⟨hg,fun _ h=>h⟩⟩⟩
 refine ⟨⟨fun i j bi bj g hi hj=>hr.inj i j bi bj g (hlk _ _ hi) (hlk _ _ hj),fun i b h=>hr.lt i b (hlk _ _ h),fun i b h=>?_,fun i b g h=>hr.mine i b g (hlk _ _ h),hr.os,hr.tape,hr.output,hr.size,hr.old⟩,hst⟩;rcases hr.blk i b (hlk _ _ h) with k | ⟨g,k1,k2⟩
 ·exact .inl k
 ·exact .inr ⟨g,k1,k2.step hst rfl⟩
theorem zC {g:FuncId} {args:List AV} {hp:Hp} {N:Nat} {K K':AV→Hp→Prop} (h:fa P g args hp N K') (hk:∀ r hp',K' r hp'→∃ hp2,(∀ i b,lk i hp2=some b→lk i hp'=some b)∧K r hp2):fa P g args hp N K:=by
 refine ⟨h.1,fun c U σ w vs hr hN hl hv=>(h.2 c U σ w vs hr hN hl hv).mono fun e w' he=>?_⟩;obtain ⟨x,rfl,v,hp',σ',k1,k2,k3,k4⟩:=he;obtain ⟨hp2,q1,q2⟩:=hk v hp' k1;obtain ⟨r1,r2⟩:=zB q1 k2;exact ⟨x,rfl,v,hp2,σ',q2,r1,k3.trans r2,k4.step r2⟩
theorem nG {n:Nat} {N:Nat} {hp:Hp} {g:FuncId} {args args0:List AV} {K:AV→Hp→Prop} {Q:AV→Hp→Prop} {hp0:Hp} {b0:Nat→Blk} (f:Nat→Nat) (h:cj P g n hp0 args0 Q) (h0:∀ i b,lk i hp0=some b→i<n∧b=b0 i) (hf:oI n f) (hN:∀ i,i<n→f i<N)
  (hb:∀ i,i<n→∃ b,lk (f i) hp=some b∧b.e ≠ 0∧b0 i=b.ren (bR (jY n f id) n))
  (ha:args0=AV.renL (bR (jY n f id) n) args) (news:List (Nat × Nat)) (hn:cv (jY n id f) news=true)
  (hK:∀ r hp',Q r hp'→∀ hpX,(∀ i,i<n→∀ b,lk i hp'=some b→lk (f i) hpX=some (b.ren (vJ n f news N)))→(∀ c j,(c,j) ∈ news→∀ b,lk c hp'=some b→lk (N+j) hpX=some (b.ren (vJ n f news N))) →
   (∀ y,y<N→(∀ i,i<n→f i ≠ y)→lk y hpX=lk y hp)→∃ hp2,(∀ i b,lk i hp2=some b→lk i hpX=some b)∧K (r.ren (vJ n f news N)) hp2):fa P g args hp N K:=by
 refine (zC (K':=fun v hpX=>∃ hp2,(∀ i b,lk i hp2=some b→lk i hpX=some b)∧K v hp2) ?_ fun r hp' hq=>hq);refine ow (jY n id f) h (Vy (aU n) hf) ?_ ?_ ?_ ?_ ?_
 ·intro p hp1;obtain ⟨i,hi,rfl⟩:=cY.1 hp1;exact hi
 ·intro p hp1;obtain ⟨i,hi,rfl⟩:=cY.1 hp1;obtain ⟨b,q1,q2,_⟩:=hb i hi;exact ⟨b,q1,q2⟩
 ·intro i b1 hi;obtain ⟨hj,rfl⟩:=h0 i b1 hi;obtain ⟨b,q1,q2,q3⟩:=hb i hj;exact ⟨f i,b,IM f (aU n) hj,q1,by rw [DI];exact q3⟩
 ·rw [DI];exact ha
 ·intro r hp' hQ;refine ⟨news,hn,hK r hp' hQ _ (fun i hi b hl=>?_) (fun c j hm b hl=>?_) (fun y hy hz=>?_)⟩
  ·exact DK hn hf hN (List.mem_append_left _ (cY.2 ⟨i,hi,rfl⟩)) hl
  ·exact DK hn hf hN (List.mem_append_right _ (List.mem_map.2 ⟨(c,j),hm,rfl⟩)) hl
  ·exact Nl hN hy hz
theorem lI {i:Nat} {Q:Hp}:∀ {P:Hp},lk i (P ++ Q)=match lk i P with
  | some b=>some b
  | none=>lk i Q
 | []=>rfl
 | (j,b) :: P=>by
  simp only [List.cons_append,lk]
  split
  ·rfl
  ·exact lI
theorem BG {n:Nat} {f:Nat→Nat} {c:Nat} (hc:n≤c):cv (jY n id f) [(c,0)]=true:=by
 simp only [cv,ff,List.all_cons,List.all_nil,Bool.and_true,Bool.and_eq_true,beq_self_eq_true,true_and,decide_eq_true_eq,d7];refine ⟨by decide,fun p hp=>?_⟩;obtain ⟨i,hi,rfl⟩:=cY.1 hp;simp only [id,bne_iff_ne,ne_eq];omega
def rU {S:Type} (n:Nat) (b:S→(Nat→Nat)→Nat→Blk) (s:S) (f:Nat→Nat) (hp:Hp):Prop:=∀ i,i<n→lk (f i) hp=some (b s f i)
def ie {S:Type} (n:Nat) (b:S→(Nat→Nat)→Nat→Blk) (s:S) (f:Nat→Nat):Hp:=Xi n f (b s f)
def FX {S:Type} (n:Nat) (b:S→(Nat→Nat)→Nat→Blk):Prop:=(∀ s f ρ g i,i<n→(∀ j,j<n→ρ (f j)=g j)→(b s f i).ren ρ=b s g i)∧∀ s f i,i<n→(b s f i).e ≠ 0
def cO {S:Type} (P:Program) (n:Nat) (b:S→(Nat→Nat)→Nat→Blk) (g:FuncId) (s:S) (args:List AV) (R:AV→S→Prop):Prop :=
 cj P g n (ie n b s id) args fun v' hp'=>∃ s',R v' s'∧rU n b s' id hp'
theorem DL {S:Type} {n:Nat} {b:S→(Nat→Nat)→Nat→Blk} {s:S}:∀ i x,lk i (ie n b s id)=some x→i<n∧x=b s id i:=by
 intro i x h;obtain ⟨j,hj,e⟩:=lH.1 (bL h)
 cases e
 exact ⟨hj,rfl⟩
theorem rJ {S:Type} {n N:Nat} {b:S→(Nat→Nat)→Nat→Blk} (ho:FX n b) {f:Nat→Nat} {Pp:Hp} {g:FuncId} {s:S} {args args0:List AV} {R:AV→S→Prop} {K:AV→Hp→Prop} (h:cO P n b g s args0 R) (hf:oI n f) (hN:∀ j,j<n→f j<N)
  (hP:∀ p,p ∈ Pp→p.1<N∧∀ j,j<n→f j ≠ p.1) (ha:args0=AV.renL (bR (jY n f id) n) args) (hK:∀ v s' ρ,R v s'→(∀ j,j<n→ρ j=f j)→K (v.ren ρ) (Pp ++ ie n b s' f)):fa P g args (Pp ++ ie n b s f) N K:=by
 have hid:∀ j,j<n→bR (jY n f id) n (f j)=j:=fun j hj=>sk id n hf hj;have hnw:cv (jY n id f) []=true:=rfl
 have hix:rU n b s f (Pp ++ ie n b s f):=fun j hj=>by
  rw [lI]
  cases hl:lk (f j) Pp with
  | none=>exact xk _ hf hj
  | some x=>exact absurd rfl ((hP _ (bL hl)).2 j hj)
 refine nG (n:=n) (b0:=b s id) f h (fun i x hi=>DL i x hi) hf hN (fun j hj=>⟨_,hix j hj,ho.2 _ _ _ hj,(ho.1 s f _ id j hj hid).symm⟩) ha [] hnw ?_;rintro r hp' ⟨s',hR,hs'⟩ hpX q1 q2 q3;have hro:∀ j,j<n→vJ n f [] N (id j)=f j:=fun j hj=>xm hnw hj;refine ⟨_,fun i x hi=>?_,hK _ s' _ hR hro⟩;rw [lI] at hi
 cases hl:lk i Pp with
 | some x' =>
  rw [hl] at hi
  cases hi
  obtain ⟨p1,p2⟩:=hP _ (bL hl);rw [q3 i p1 p2,lI,hl]
 | none =>
  rw [hl] at hi;obtain ⟨j,hj',e⟩:=lH.1 (bL hi)
  cases e
  have:=q1 j hj' _ (hs' j hj');rw [ho.1 s' id _ f j hj' hro] at this;exact this
theorem sn {S:Type} {n N:Nat} {b:S→(Nat→Nat)→Nat→Blk} (ho:FX n b) {f:Nat→Nat} {Pp:Hp} {g:FuncId} {s:S} {args args0:List AV} {R:AV→S→Prop} {K:AV→Hp→Prop} (h:cO P n b g s args0 R) (hf:oI n f) (hN:∀ j,j<n→f j<N)
  (hP:∀ p,p ∈ Pp→p.1<N∧∀ j,j<n→f j ≠ p.1) (ha:args0=AV.renL (bR (jY n f id) n) args) (hK:∀ v s' ρ,R v s'→(∀ j,j<n→ρ j=f j)→K (v.ren ρ) (Pp ++ ie n b s' f)):rY P g args (Pp ++ ie n b s f) N K:=.inl (rJ ho h hf hN hP ha hK)
end
end Go.Am
namespace Go.Sha
inductive Jk where
 | n
 | a
 | i (x:List Nat)
end Go.Sha
namespace Go.Proofs.YtmfnimjnneflnaaGreat
open Go.Am Go.Sha
def Xj:Jk→AV
 | .n=>.nil
 | .a=>.any
 | .i x=>.d (nb x)
def nH (x:be):List AV:=[.d (nb x)]
def Ru (j:Jk):List AV:=[Xj j]
def cM (l:List be) (J:List Jk):List (List AV):=l.map nH ++ J.map Ru
theorem iW (l:List be) (J:List Jk):(cM l J).length=l.length+J.length:=by simp [cM]
theorem kt (ρ:Nat→Nat) (l:List be) (J:List Jk):aL ρ (cM l J)=cM l J:=by
 simp only [aL,cM,List.map_append,List.map_map];congr 1;refine List.map_congr_left fun j _=>?_
 cases j <;> rfl
theorem ku (n:Nat) (l:List be) (J:List Jk):∀ r,r ∈ cM l J→∀ v,v ∈ r→v.low1 n:=by
 intro r hr v hv;rcases cD.1 hr with h | h
 ·obtain ⟨x,_,rfl⟩:=List.mem_map.1 h;simp only [nH,d_,List.mem_nil_iff,or_false] at hv;subst hv;trivial
 ·obtain ⟨x,_,rfl⟩:=List.mem_map.1 h;simp only [Ru,d_,List.mem_nil_iff,or_false] at hv;subst hv
  cases x <;> trivial
theorem tj {l:List be} {J:List Jk} {k:Nat} {x:be} (h:l[k]?=some x):(cM l J)[k]?=some [.d (nb x)]:=by
 unfold cM;rw [List.getElem?_append_left (by have:=(ci.1 h).1;simpa using this),cU,h];rfl
theorem mN {l:List be} {J:List Jk} {k:Nat} (h:k≤l.length):(cM l J).take k=(l.take k).map nH:=by
 unfold cM;rw [List.take_append_of_le_length (by simpa using h),List.map_take]
theorem DN {l:List be} {j:Jk} {J:List Jk} (x:be):(l.map nH) ++ nH x :: (cM l (j :: J)).drop (l.length+1)=cM (l ++ [x]) J:=by
 unfold cM;rw [List.drop_append,List.length_map,List.drop_of_length_le aw,Nat.add_sub_cancel_left];simp
theorem DO {l:List be} (x:be):(l.map nH) ++ [nH x]=cM (l ++ [x]) []:=by simp [cM]
theorem DR {l:List be} {J:List Jk} (k:Nat) (h:k≤l.length):cM l J=cM (l.take k) ((l.drop k).map Jk.i ++ J):=by
 have e:(l.drop k).map nH=((l.drop k).map Jk.i).map Ru:=by
  rw [List.map_map];rfl
 unfold cM;rw [List.map_append,← e,← cA,← List.map_append,List.take_append_drop]
structure McS where
 m:Mc
 J:List Jk
 H:List Jk
def bo:McS→(Nat→Nat)→Nat→Blk
 | ⟨m,J,H⟩,f,0=>⟨283,3,[[.own (f 1) 0 m.main.length (m.main.length+J.length),.own (f 2) 0 m.alt.length (m.alt.length+H.length),.d (.int .i64 m.e)]]⟩
 | ⟨m,J,H⟩,f,1=>⟨31,1,cM m.main J⟩
 | ⟨m,J,H⟩,f,_=>⟨31,1,cM m.alt H⟩
theorem bH:FX 3 bo:=by
 refine ⟨fun s f ρ g i hi h=>?_,fun s f i hi=>?_⟩
 ·obtain ⟨m,J,H⟩:=s
  match i with
  | 0=>simp [bo,Blk.ren,aL,AV.renL,AV.ren,h 1 aq,h 2 aq]
  | 1=>simp only [bo,Blk.ren,kt]
  | i+2=>simp only [bo,Blk.ren,kt]
 ·obtain ⟨m,J,H⟩:=s
  match i with
  | 0=>exact Nat.succ_ne_zero 2
  | 1=>exact Nat.succ_ne_zero 0
  | i+2=>exact Nat.succ_ne_zero 0
theorem bQ (s:McS) (f:Nat→Nat):ie 3 bo s f=[(f 0,bo s f 0),(f 1,bo s f 1),(f 2,bo s f 2)]:=rfl
theorem aW {m:Mc} {J H:List Jk} {hp:Hp} (h0:lk 0 hp=some ⟨283,3,[[.own 1 0 m.main.length (m.main.length+J.length),.own 2 0 m.alt.length (m.alt.length+H.length),.d (.int .i64 m.e)]]⟩)
  (h1:lk 1 hp=some ⟨31,1,cM m.main J⟩) (h2:lk 2 hp=some ⟨31,1,cM m.alt H⟩):rU 3 bo ⟨m,J,H⟩ id hp:=by
 intro i hi
 match i,hi with
 | 0,_=>exact h0
 | 1,_=>exact h1
 | 2,_=>exact h2
theorem dN {N:Nat} {Pp:Hp} {g:FuncId} {s:McS} {ars:List AV} {R:AV→McS→Prop} {K:AV→Hp→Prop} (h:cO Tryz.prog 3 bo g s (.ptr 0 0 0 1 :: ars) R) (hN:3≤N) (hP:∀ p,p ∈ Pp→p.1<N∧3≤p.1) (has:∀ ρ,AV.renL ρ ars=ars)
  (hK:∀ v s' ρ,R v s'→(∀ j,j<3→ρ j=j)→K (v.ren ρ) (Pp ++ ie 3 bo s' id)):rY Tryz.prog g (.ptr 0 0 0 1 :: ars) (Pp ++ ie 3 bo s id) N K:=by
 refine sn bH h (aU 3) (fun j hj=>by show j<N;omega) (fun p hp=>⟨(hP p hp).1,fun j hj=>by have:=(hP p hp).2;show j ≠ p.1;omega⟩) ?_ hK;rw [AV.renL,has,AV.ren];rfl
theorem mO {α β:Type} {f:α→β} {l:List α} {k:Nat} {x:α} (h:l[k]?=some x):(l.take k).map f ++ [f x]=(l.take (k+1)).map f:=by
 rw [List.take_add_one,h];simp
theorem IOa {m:Mc} {J H:List Jk} {hp:Hp} {nx N:Nat} (h0:lk 0 hp=some ⟨283,3,[[.own 1 0 m.main.length (m.main.length+J.length),.own 2 0 m.alt.length (m.alt.length+H.length),.d (.int .i64 m.e)]]⟩)
  (h1:lk 1 hp=some ⟨31,1,cM m.main J⟩) (h2:lk 2 hp=some ⟨31,1,cM m.alt H⟩) (hN:3≤N) (hn:True) :
  ∀ p,p ∈ [(0,(⟨283,3,[[.own 1 0 m.main.length (m.main.length+J.length),.own 2 0 m.alt.length (m.alt.length+H.length),.d (.int .i64 m.e)]]⟩:Blk)),(1,⟨31,1,cM m.main J⟩),(2,⟨31,1,cM m.alt H⟩)] →
   (lk p.1 hp=some p.2 ∨ (nx≤p.1∧p.2.es=[]))∧p.1<N∧∀ r,r ∈ p.2.es→∀ v,v ∈ r→v.low1 N:=by
 intro p hp';simp only [d_,List.mem_nil_iff,or_false] at hp';rcases hp' with rfl | rfl | rfl
 ·refine ⟨.inl h0,by show 0<N;omega,?_⟩;intro r hr v hv;simp only [d_,List.mem_nil_iff,or_false] at hr;subst hr;simp only [d_,List.mem_nil_iff,or_false] at hv;rcases hv with rfl | rfl | rfl
  ·show 1<N;omega
  ·show 2<N;omega
  ·trivial
 ·exact ⟨.inl h1,by show 1<N;omega,ku _ _ _⟩
 ·exact ⟨.inl h2,by show 2<N;omega,ku _ _ _⟩
theorem oJ (m:Mc) (J H:List Jk) (x:Int):cO Tryz.prog 3 bo 257 ⟨m,J,H⟩ [.ptr 0 0 0 1,.d (.int .i64 x)] (fun v s'=>s'=⟨gC x m,J,H⟩):=by
 refine al Tryz.func257 (by kernel_rfl) rfl Tryz.ntmps257 (rs:=[]) rfl (dT rfl) (by decide) ?_;rw [bQ];simp only [bo,id];by_cases h:m.e=0
 ·simp [go_sem,h,ah];refine aW ?_ ?_ ?_
  ·simp [gC,h,lk]
  ·simp [gC,h,lk]
  ·simp [gC,h,lk]
 ·simp [go_sem,h,ah];refine aW ?_ ?_ ?_
  ·simp [gC,h,lk]
  ·simp [gC,h,lk]
  ·simp [gC,h,lk]
theorem kz (m:Mc) (J H:List Jk) (n:Nat):cO Tryz.prog 3 bo 248 ⟨m,J,H⟩ [.ptr 0 0 0 1,.d (.int .i64 (n:Int))] (fun v s'=>v=.d (.bool (decide ((aP n m).e=0)))∧s'=⟨aP n m,J,H⟩):=by
 refine al Tryz.func248 (by kernel_rfl) rfl Tryz.ntmps248 (rs:=[.tmp 4]) rfl (dT rfl) (by decide) ?_;rw [bQ];simp only [bo,id];by_cases h:m.main.length<n
 ·have h':(m.main.length:Int)<(n:Int):=aq;simp [go_sem,h,h'];refine dN (Pp:=[]) (s:=⟨m,J,H⟩) (oJ m J H 12) aq aw (by simp [AV.renL,AV.ren]) ?_;rintro v s' ρ rfl hρ;rw [bQ];have hn:aP n m=gC 12 m:=if_pos h;rw [hn];generalize gC 12 m=m' at *;simp [go_sem,bo,ah];refine aW ?_ ?_ ?_ <;> rfl
 ·have h':¬ (m.main.length:Int)<(n:Int):=aq;have hn:aP n m=m:=if_neg h;rw [hn];simp [go_sem,h,h',ah];refine aW ?_ ?_ ?_ <;> rfl
theorem IP (m:Mc) (J H:List Jk) (n:Nat) (x:be) (hx:m.main[m.main.length - 1 - n]?=some x) (hn:n<m.main.length) (hl:m.main.length≤1000000):cO Tryz.prog 3 bo 249 ⟨m,J,H⟩ [.ptr 0 0 0 1,.d (.int .i64 (n:Int))] (fun v s'=>v=.d (nb x)∧s'=⟨m,J,H⟩):=by
 refine al Tryz.func249 (by kernel_rfl) rfl Tryz.ntmps249 (rs:=[.tmp 4]) rfl (dT rfl) (by decide) ?_;rw [bQ];simp only [bo,id];have w1:IntKind.i64.wrap ((m.main.length:Int) - 1)=((m.main.length - 1:Nat):Int):=by rw [IntWalk.i64_in _ aq];omega
 have w2:IntKind.i64.wrap (((m.main.length - 1:Nat):Int) - (n:Int))=((m.main.length - 1 - n:Nat):Int):=by rw [IntWalk.i64_in _ aq];omega
 have hs:=tj (J:=J) hx;have hlt:m.main.length - 1 - n<m.main.length:=aq;have hlt2:((m.main.length - 1 - n:Nat):Int)<(m.main.length:Int):=aq;have hsg:∀ hh:m.main.length - 1 - n<(cM m.main J).length,(cM m.main J)[m.main.length - 1 - n]=[.d (nb x)]:=fun hh=>Option.some.inj ((cm hh).symm.trans hs);generalize m.main.length - 1 - n=k at *;simp [go_sem];refine cf [0,1,2,3,4,5,6,7,8,9,10,11,12,13,14] [] 0 (k:=15) ?_;intro G hG;simp [go_sem,w1,w2,hs,hlt,hlt2,hsg,iW];refine hG _ _ ?_;clear hG G;simp [go_sem,ah];refine aW ?_ ?_ ?_ <;> rfl
theorem ig {n:Nat} {m:Mc} (h:(aP n m).e=0):n≤m.main.length∧m.e=0∧aP n m=m:=by
 unfold aP at h ⊢
 split at h
 ·unfold gC at h
  split at h
  ·simp at h
  ·rename_i h2;exact absurd h h2
 ·rename_i h2;exact ⟨aq,h,if_neg h2⟩
theorem DT {l:List be} (h:1≤l.length):l[l.length - 1]?=some (l.getLastD []):=by
 rw [List.getLastD_eq_getLast?,List.getLast?_eq_getElem?]
 cases hq:l[l.length - 1]? with
 | none=>rw [List.getElem?_eq_none_iff] at hq;omega
 | some x=>rfl
theorem oK (m:Mc) (J H:List Jk) (x:be) (hx:m.main[m.main.length - 1]?=some x) (h:1≤m.main.length) (hl:m.main.length≤1000000):cO Tryz.prog 3 bo 249 ⟨m,J,H⟩ [.ptr 0 0 0 1,.d (.int .i64 0)] (fun v s'=>v=.d (nb x)∧s'=⟨m,J,H⟩) :=
 IP m J H 0 _ hx aq hl
theorem Nn {l:List be} {x:be} (h:l[l.length - 1]?=some x):∃ a,l=a ++ [x]:=by
 rcases hr:l.reverse with _ | ⟨y,r⟩
 ·have:l=[]:=by simpa using hr
  subst this;simp at h
 ·have e:l=r.reverse ++ [y]:=by rw [← List.reverse_reverse l,hr,List.reverse_cons]
  subst e;simp at h;subst h;exact ⟨_,rfl⟩
theorem vK (m:Mc) (J H:List Jk) (hl:m.main.length≤1000000):cO Tryz.prog 3 bo 243 ⟨m,J,H⟩ [.ptr 0 0 0 1]
  (fun v s'=>(v=if (aP 1 m).e=0 then .d (nb (dh m).1) else .nil)∧∃ J',s'=⟨(dh m).2,J',H⟩):=by
 refine al Tryz.func243 (by kernel_rfl) rfl Tryz.ntmps243 (rs:=[.tmp 2]) rfl (dT rfl) (by decide) ?_;rw [bQ];simp only [bo,id];simp [go_sem];refine dN (Pp:=[]) (s:=⟨m,J,H⟩) (kz m J H 1) aq aw (by simp [AV.renL,AV.ren]) ?_;rintro v s' ρ ⟨rfl,rfl⟩ hρ;rw [bQ];by_cases h:(aP 1 m).e=0
 ·obtain ⟨h1,h2,h3⟩:=ig h;have hx:=DT h1;have hpop:dh m=(m.main.getLastD [],⟨m.main.dropLast,m.alt,m.e⟩):=if_pos h;rw [h3] at *;rw [hpop];obtain ⟨main,alt,e⟩:=m;simp only at h1 h2 hl hx;subst h2;generalize main.getLastD []=x at *;have w1:IntKind.i64.wrap ((main.length:Int) - 1)=((main.length - 1:Nat):Int):=by rw [IntWalk.i64_in _ aq];omega
  have hle:((main.length - 1:Nat):Int)≤(main.length:Int):=aq;simp [go_sem,AV.ren,bo];refine dN (Pp:=[]) (s:=⟨⟨main,alt,0⟩,J,H⟩) (oK ⟨main,alt,0⟩ J H x hx h1 hl) aq aw (by simp [AV.renL,AV.ren]) ?_;rintro v s' ρ ⟨rfl,rfl⟩ hρ;rw [bQ];simp [go_sem,AV.ren,bo,nb];refine cf [0,1,2,3,4,5,6,7,8,9,10,11,12,13] [(14,[])] 0 (k:=15) ?_;intro G hG;simp [go_sem,w1,hle];refine hG _ _ ?_;clear hG G;simp [go_sem,ah];obtain ⟨a,rfl⟩:=Nn hx;refine ⟨_,⟨.i x :: J,rfl⟩,aW ?_ ?_ ?_⟩
  ·simp [lk];omega
  ·simp [lk,cM,nH,Ru,Xj]
  ·rfl
 ·have hpop:dh m=([],aP 1 m):=if_neg h;rw [hpop];generalize aP 1 m=m' at *;simp [go_sem,AV.ren,bo,h,ah];exact ⟨_,⟨J,rfl⟩,by refine aW ?_ ?_ ?_ <;> rfl⟩
theorem fN (m:Mc) (J H:List Jk) (x:be) (hl:m.main.length≤1000000) (hx:x.length≤1000000):cO Tryz.prog 3 bo 222 ⟨m,J,H⟩ [.ptr 0 0 0 1,.d (.ro 1 [[nb x]])]
    (fun v s'=>∃ J',s'=⟨dV [x] m,J',H⟩):=by
  refine al Tryz.func222 (by kernel_rfl) rfl Tryz.ntmps222 (rs:=[]) rfl (dT rfl) (by decide) ?_;obtain ⟨main,alt,e⟩:=m;simp only at hl;rw [bQ];simp only [bo,id,dV];simp [go_sem]
  refine ar (fun u:Nat × List be × List Jk=>⟨[(0,.ptr 0 0 0 1),(6,.d (.ro 1 [[nb x]])),(7,.d (.int .i64 1)),(8,.d (.int .i64 (u.1:Int)))],
      [(0,⟨283,3,[[.own 1 0 u.2.1.length (u.2.1.length+u.2.2.length),.own 2 0 alt.length (alt.length+H.length),.d (.int .i64 e)]]⟩),(1,⟨31,1,cM u.2.1 u.2.2⟩),(2,⟨31,1,cM alt H⟩)],9000⟩)
    (fun u=>(u.1=0∧u.2=(main,J)) ∨ (u.1=1∧u.2.1=main ++ [x])) (fun u=>1 - u.1) (0,main,J) (.inl ⟨rfl,rfl⟩) ⟨by simp [ai,fv,lk,AV.low,AV.low1],IOa (m:=⟨main,alt,e⟩) rfl rfl rfl (dT rfl) trivial,aw⟩ ?_
  rintro ⟨k,l,K⟩ hk;rcases hk with ⟨rfl,hlK⟩ | ⟨hk,rfl⟩
  · simp only [Prod.mk.injEq] at hlK
    obtain ⟨rfl,rfl⟩:=hlK;simp only [go_sem,Nat.reduceEqDiff,Nat.reduceAdd,Nat.reduceLT,↓reduceIte,Nat.reduceMul];simp [go_sem,bD];rcases K with _ | ⟨j,K⟩
    · simp only [List.length_nil,Nat.add_zero]
      refine ek [1,2,3,4,5] [0,6,7,8,9,10,11] [1,2,3,4,5] (.alt (bt 0 (bt 6 (bt 7 (a_ [8,9,10,11])))) (bt 6 (.alt (bt 0 (bt 7 (a_ [8,9,10,11]))) (bt 7 (.alt (bt 0 (a_ [8,9,10,11])) (a_ [8,0,9,10,11])))))) ⟨[(0,.ptr 0 0 0 1),(6,.d (.ro 1 [[nb x]])),(7,.d (.int .i64 1)),(8,.d (.int .i64 0))],[(0,⟨283,3,[[.own 1 0 (l ++ [x]).length ((l ++ [x]).length+([]:List Jk).length),.own 2 0 alt.length (alt.length+H.length),.d (.int .i64 e)]]⟩),(1,⟨31,1,cM (l ++ [x]) []⟩),(2,⟨31,1,cM alt H⟩)],9000⟩ (k:=12) ?h3 ?hq
      case h3 =>
        intro G hG;have hc:=fG x aq;have hT:List.take l.length (cM l [])=l.map nH:=mN (cL _) |>.trans (by rw [List.take_length]);have hln:(cM l []).length=l.length+([]:List Jk).length:=iW _ _;simp (config := { maxSteps := 3000000 }) [go_sem]
        repeat' apply And.intro
        all_goals
          refine ag hc a9 ?_;simp (config := { maxSteps := 3000000 }) [go_sem,d6,Dn,hT,hln]
          repeat' apply And.intro
          all_goals first
            | omega
            | (intro hh;omega)
            | (refine hG _ _ (cz ⟨by simp [ai,fv,lk,AV.low,AV.low1],IOa (m:=⟨l ++ [x],alt,e⟩) ?_ ?_ rfl (dT rfl) trivial,aw⟩)
               · simp [lk] <;> omega
               · exact congrArg (fun r=>some (⟨31,1,r⟩:Blk)) (DO x))
      case hq =>
        have ww:IntKind.i64.wrap 1=1:=IntWalk.i64_in _ aq;simp [go_sem,ww];refine ao (1,l ++ [x],[]) (.inr ⟨rfl,rfl⟩) (by show 1 - 1<1 - 0;omega) ⟨by simp [ai,fv,lk,AV.low,AV.low1],IOa (m:=⟨l ++ [x],alt,e⟩) (by simp [lk]) rfl rfl (dT rfl) trivial,aw⟩
    · simp only [List.length_cons]
      refine ek [1,2,3,4,5] [0,6,7,8,9,10,11] [1,2,3,4,5] (.alt (bt 0 (bt 6 (bt 7 (a_ [8,9,10,11])))) (bt 6 (.alt (bt 0 (bt 7 (a_ [8,9,10,11]))) (bt 7 (.alt (bt 0 (a_ [8,9,10,11])) (a_ [8,0,9,10,11])))))) ⟨[(0,.ptr 0 0 0 1),(6,.d (.ro 1 [[nb x]])),(7,.d (.int .i64 1)),(8,.d (.int .i64 0))],[(0,⟨283,3,[[.own 1 0 (l ++ [x]).length ((l ++ [x]).length+(K:List Jk).length),.own 2 0 alt.length (alt.length+H.length),.d (.int .i64 e)]]⟩),(1,⟨31,1,cM (l ++ [x]) K⟩),(2,⟨31,1,cM alt H⟩)],9000⟩ (k:=12) ?h3 ?hq
      case h3 =>
        intro G hG;have hc:=fG x aq;have hT:List.take l.length (cM l (j :: K))=l.map nH:=mN (cL _) |>.trans (by rw [List.take_length]);have hln:(cM l (j :: K)).length=l.length+(j :: K:List Jk).length:=iW _ _;simp (config := { maxSteps := 3000000 }) [go_sem]
        repeat' apply And.intro
        all_goals
          refine ag hc a9 ?_;simp (config := { maxSteps := 3000000 }) [go_sem,d6,Dn,hT,hln]
          repeat' apply And.intro
          all_goals first
            | omega
            | (intro hh;omega)
            | (refine hG _ _ (cz ⟨by simp [ai,fv,lk,AV.low,AV.low1],IOa (m:=⟨l ++ [x],alt,e⟩) ?_ ?_ rfl (dT rfl) trivial,aw⟩)
               · simp [lk] <;> omega
               · exact congrArg (fun r=>some (⟨31,1,r⟩:Blk)) (DN x))
      case hq =>
        have ww:IntKind.i64.wrap 1=1:=IntWalk.i64_in _ aq;simp [go_sem,ww];refine ao (1,l ++ [x],K) (.inr ⟨rfl,rfl⟩) (by show 1 - 1<1 - 0;omega) ⟨by simp [ai,fv,lk,AV.low,AV.low1],IOa (m:=⟨l ++ [x],alt,e⟩) (by simp [lk]) rfl rfl (dT rfl) trivial,aw⟩
  · simp only at hk
    subst hk;simp [go_sem,ah];exact ⟨_,⟨K,rfl⟩,aW (by simp [lk]) rfl rfl⟩
theorem IQ (l:List be) (hl:l.length≤1000000) (hx:∀ x,x ∈ l→x.length≤1000000):cj Tryz.prog 241 0 [] [.d (.ro 1 (l.map bD))] (fun r hp'=>r=.own 129 0 l.length l.length∧lk 129 hp'=some ⟨31,1,cM l []⟩):=by
 refine al Tryz.func241 (by kernel_rfl) rfl Tryz.ntmps241 (rs:=[.tmp 2]) rfl (dT rfl) (by decide) ?_;have w1:IntKind.i64.wrap ((l.length:Int)+4)=((l.length+4:Nat):Int):=by rw [IntWalk.i64_in _ aq];omega
 simp [go_sem,w1];refine ⟨aq,aq,aq,aq,?_⟩
 refine ar (fun k:Nat=>⟨[(3,.own 129 0 k k),(10,.d (.ro 1 (l.map bD))),(11,.d (.int .i64 (l.length:Int))),(12,.d (.int .i64 (k:Int)))],[(129,⟨31,1,(l.take k).map nH⟩)],6000⟩)
  (fun k=>k≤l.length) (fun k=>l.length - k) 0 aq (by simp [aA,ai,fv,lk,AV.low,AV.low1]) ?_
 intro k hk;simp only [go_sem,Nat.reduceEqDiff,Nat.reduceAdd,Nat.reduceLT,↓reduceIte,Nat.reduceMul];refine ⟨fun hh=>?_,fun hh=>?_⟩
 ·obtain ⟨y,hy1,hd⟩:=bm (l:=l) (k:=k) aq;have w3:=az (k:=k) aq;have hms:=mO (f:=nH) hy1;have hmk:min k l.length=k:=aq;have hyl:=hx y (cr hy1);simp [go_sem,hy1,bD,hmk];refine ag (fG y aq) a9 ?_;simp [go_sem,w3,hmk];have hms':List.take k (l.map nH) ++ [[.d (nb y)]]=List.take (k+1) (l.map nH):=by rw [← List.map_take,← List.map_take];exact hms
  rw [hms'];refine ⟨aq,?_⟩;refine ao (k+1) aq aq ?_;refine ⟨by simp [ai,fv,lk,AV.low,AV.low1],?_,aw⟩;intro p hp;simp only [d_,List.mem_nil_iff,or_false] at hp;subst hp;refine ⟨.inl ?_,by show 129<6000;omega,?_⟩
  ·simp [lk]
  ·intro r hr v hv;obtain ⟨z,_,rfl⟩:=List.mem_map.1 (List.mem_of_mem_take hr);simp only [nH,d_,List.mem_nil_iff,or_false] at hv;subst hv;trivial
 ·have hk2:k=l.length:=aq;subst hk2;simp [go_sem,ah,cM]
theorem Np (l:List be) (J:List Jk) (c n:Nat) (hcn:c+n≤l.length) (hl:l.length≤1000000) (hx:∀ x,x ∈ l→x.length≤1000000):cj Tryz.prog 241 1 [(0,⟨31,1,cM l J⟩)] [.own 0 c n (l.length+J.length)]
  (fun r hp'=>r=.own 130 0 n n∧lk 130 hp'=some ⟨31,1,cM ((l.drop c).take n) []⟩∧lk 0 hp'=some ⟨31,1,cM l J⟩):=by
 refine al Tryz.func241 (by kernel_rfl) rfl Tryz.ntmps241 (rs:=[.tmp 2]) rfl (dT rfl) (by decide) ?_;have w1:IntKind.i64.wrap ((n:Int)+4)=((n+4:Nat):Int):=by rw [IntWalk.i64_in _ aq];omega
 simp [go_sem,w1];refine ⟨aq,aq,aq,aq,?_⟩
 refine ar (fun k:Nat=>⟨[(3,.own 130 0 k k),(10,.own 0 c n (l.length+J.length)),(11,.d (.int .i64 (n:Int))),(12,.d (.int .i64 (k:Int)))],[(130,⟨31,1,((l.drop c).take k).map nH⟩),(0,⟨31,1,cM l J⟩)],6000⟩)
  (fun k=>k≤n) (fun k=>n - k) 0 aq ⟨by simp [ai,fv,lk,AV.low,AV.low1],?_,aw⟩ ?_
 ·intro p hp;simp only [d_,List.mem_nil_iff,or_false] at hp;rcases hp with rfl | rfl
  ·exact ⟨.inl (by simp [lk]),by show 130<6000;omega,aw⟩
  ·exact ⟨.inl (by simp [lk]),by show 0<6000;omega,ku _ _ _⟩
 intro k hk;simp only [go_sem,Nat.reduceEqDiff,Nat.reduceAdd,Nat.reduceLT,↓reduceIte,Nat.reduceMul];refine ⟨fun hh=>?_,fun hh=>?_⟩
 ·have hkn:k<n:=aq;obtain ⟨y,hy⟩:∃ y,l[c+k]?=some y:=⟨_,cm aq⟩;have hy1:(l.drop c)[k]?=some y:=by rw [List.getElem?_drop];exact hy
  have w3:=az (k:=k) aq;have hms:=mO (f:=nH) hy1;have hyl:=hx y (cr hy);have hs:=tj (J:=J) hy;have hsg:∀ h:c+k<(cM l J).length,(cM l J)[c+k]=[.d (nb y)]:=fun h=>Option.some.inj ((cm h).symm.trans hs);have hmk:min k (l.length - c)=k:=aq;simp [go_sem,hs,hsg,hkn,iW];refine ag (fG y aq) a9 ?_;have hmk2:min k (List.drop c (l.map nH)).length=k:=by simp;omega
  have hms':List.take k (List.drop c (l.map nH)) ++ [[.d (nb y)]]=List.take (k+1) (List.drop c (l.map nH)):=by rw [← List.map_drop,← List.map_take,← List.map_take];exact hms
  simp [go_sem,w3,hmk];rw [hms'];refine ⟨aq,?_⟩;refine ao (k+1) aq aq ?_;refine ⟨by simp [ai,fv,lk,AV.low,AV.low1],?_,aw⟩;intro p hp;simp only [d_,List.mem_nil_iff,or_false] at hp;rcases hp with rfl | rfl
  ·refine ⟨.inl (by simp [lk]),by show 130<6000;omega,?_⟩;intro r hr v hv;obtain ⟨z,_,rfl⟩:=List.mem_map.1 (List.mem_of_mem_drop (List.mem_of_mem_take hr));simp only [nH,d_,List.mem_nil_iff,or_false] at hv;subst hv;trivial
  ·exact ⟨.inl (by simp [lk]),by show 0<6000;omega,ku _ _ _⟩
 ·have hk2:k=n:=aq;subst hk2;simp [go_sem,ah,cM]
end Go.Proofs.YtmfnimjnneflnaaGreat
namespace Go.Sha
def zD (a b:List Nat):Nat→Int
 | 0=>0
 | k+1=>if a.getD k 0<b.getD k 0 then -1 else if b.getD k 0<a.getD k 0 then 1 else zD a b k
def iY (l:List Nat):Nat:=l.foldl (fun a x=>a*256+x) 0
theorem IR (l:List Nat) (x:Nat):iY (l ++ [x])=iY l*256+x:=by simp [iY]
def part (b:List Nat) (i j:Nat):List Nat:=((b.take i).drop (8*(3 - j))).take 8
theorem pM (b:List Nat) (i j k:Nat):(part b i j)[k]?=if k<8∧8*(3 - j)+k<i then b[8*(3 - j)+k]? else none:=by
 unfold part;rw [List.getElem?_take];by_cases h1:k<8
 ·rw [if_pos h1,List.getElem?_drop,List.getElem?_take];by_cases h2:8*(3 - j)+k<i
  ·rw [if_pos h2,if_pos ⟨h1,h2⟩]
  ·rw [if_neg h2,if_neg (fun h=>h2 h.2)]
 ·rw [if_neg h1,if_neg (fun h=>h1 h.1)]
theorem tm {b:List Nat} (hb:b.length=32) {i j:Nat} (hi:i≤32) (hj:j≤3):(part b i j).length=min 8 (i - 8*(3 - j)):=by
 unfold part;rw [List.length_take,et,List.length_take,hb];omega
theorem FY {b:List Nat} {i j:Nat} (hi:i<32) (hj:j≤3) (h:j ≠ 3 - i / 8):part b (i+1) j=part b i j:=by
 refine List.ext_getElem? fun k=>?_;rw [pM,pM];by_cases h1:k<8∧8*(3 - j)+k<i
 ·rw [if_pos h1,if_pos ⟨h1.1,aq⟩]
 ·rw [if_neg h1];by_cases h2:k<8∧8*(3 - j)+k<i+1
  ·omega
  ·rw [if_neg h2]
theorem FZ {b:List Nat} (hb:b.length=32) {i c:Nat} (hc:b[i]?=some c):part b (i+1) (3 - i / 8)=part b i (3 - i / 8) ++ [c]:=by
 have hi:i<32:=by have:=(ci.1 hc).1;omega
 have hl:(part b i (3 - i / 8)).length=i % 8:=by rw [tm hb aq aq];omega
 refine List.ext_getElem? fun k=>?_;rw [List.getElem?_append,hl,pM,pM];by_cases h1:k<i % 8
 ·rw [if_pos h1,if_pos ⟨aq,aq⟩,if_pos ⟨aq,aq⟩]
 ·rw [if_neg h1];by_cases h2:k=i % 8
  ·subst h2;rw [if_pos ⟨aq,aq⟩,show 8*(3 - (3 - i / 8))+i % 8=i by omega,hc];simp
  ·rw [if_neg aq];rw [List.getElem?_eq_none (by simp;omega)]
theorem F2 (b:List Nat) (j:Nat):part b 0 j=[]:=by simp [part]
def yA (b:List Nat) (i:Nat):List Nat:=(List.range 4).map fun j=>iY (part b i j)*256 ^ (8 - (part b i j).length)
def uF (b:List Nat) (i:Nat):List Nat:=(List.range 4).map fun j=>iY (part b i j)
theorem Nq {b:List Nat} (hb:b.length=32):yA b 32=uF b 32:=by
 unfold yA uF;refine List.map_congr_left fun j hj=>?_;rw [List.mem_range] at hj;rw [tm hb aq aq,show 8 - min 8 (32 - 8*(3 - j))=0 by omega];simp
theorem zE (b:List Nat):yA b 0=[0,0,0,0]:=by simp [yA,F2,iY,List.range,List.range.loop]
theorem BH:∀ (l:List Nat),(∀ x,x ∈ l→x<256)→iY l<256 ^ l.length:=by
 intro l
 have key:∀ (l:List Nat) (a n:Nat),(∀ x,x ∈ l→x<256)→a<256 ^ n→l.foldl (fun a x=>a*256+x) a<256 ^ (n+l.length):=by
  intro l
  induction l with
  | nil=>intro a n _ h;simpa using h
  | cons x l ih =>
   intro a n hl h;have hx:=hl x aw;rw [List.foldl_cons,List.length_cons,show n+(l.length+1)=(n+1)+l.length by omega];exact ih _ (n+1) (fun y hy=>hl y (by simp [hy])) (by rw [Nat.pow_succ];omega)
 intro h;have:=key l 0 0 h aw
 simpa [iY] using this
theorem Nr (a b:Nat) (ha:a<18446744073709551616) (hb:b<18446744073709551616):Go.bits .or .u64 (a:Int) (b:Int)=((a ||| b:Nat):Int):=by
 show IntKind.u64.wrap (((BitVec.ofInt 64 (a:Int)) ||| (BitVec.ofInt 64 (b:Int))).toNat:Int)=_;rw [BitVec.toNat_or,eQ,eQ,← Nat.or_mod_two_pow,gn];have:a ||| b<2 ^ 64:=Nat.or_lt_two_pow aq aq;omega
theorem IS {b:List Nat} (hb:b.length=32) (hby:∀ x,x ∈ b→x<256) {i c:Nat} (hc:b[i]?=some c) :
  ∃ a,(yA b i)[3 - i / 8]?=some a∧a<18446744073709551616∧c*2 ^ (8*((31 - i) % 8))<18446744073709551616∧(yA b i).set (3 - i / 8) (a ||| c*2 ^ (8*((31 - i) % 8)))=yA b (i+1):=by
 have hi:i<32:=by have:=(ci.1 hc).1;omega
 have hc8:c<256:=hby c (cr hc);have hl:(part b i (3 - i / 8)).length=i % 8:=by rw [tm hb aq aq];omega
 have hpn:=FZ hb hc;have hlt:=BH (part b i (3 - i / 8)) (fun x hx=>hby x (List.mem_of_mem_take (List.mem_of_mem_drop (List.mem_of_mem_take hx))));rw [hl] at hlt;have hm:(31 - i) % 8=7 - i % 8:=aq;have hpow:∀ n,(256:Nat) ^ n=2 ^ (8*n):=fun n=>by rw [Nat.pow_mul]
 generalize hA:iY (part b i (3 - i / 8))=A at hlt;have hr:i % 8<8:=aq;generalize hr':i % 8=r at *;have e1:(256:Nat) ^ (8 - r)=256*256 ^ (7 - r):=by rw [show 8 - r=(7 - r)+1 by omega,Nat.pow_succ,Nat.mul_comm]
 have e2:(256:Nat) ^ r*256 ^ (8 - r)=18446744073709551616:=by rw [← Nat.pow_add,show r+(8 - r)=8 by omega]
 have hcl:c*2 ^ (8*(7 - r))<2 ^ (8*(8 - r)):=by
  rw [← hpow,← hpow,e1];exact Nat.mul_lt_mul_of_pos_right hc8 (Nat.pow_pos aq)
 have hle:(2:Nat) ^ (8*(8 - r))≤18446744073709551616:=by
  rw [← hpow]
  calc (256:Nat) ^ (8 - r)≤256 ^ 8:=Nat.pow_le_pow_right aq aq
   _=18446744073709551616:=by decide
 have hAlt:A*256 ^ (8 - r)<18446744073709551616:=by
  rw [← e2];exact Nat.mul_lt_mul_of_pos_right hlt (Nat.pow_pos aq)
 refine ⟨A*256 ^ (8 - r),?_,hAlt,by rw [hm];omega,?_⟩
 ·unfold yA;rw [cU,List.getElem?_range aq];simp [hA,hl]
 ·rw [hm];refine List.ext_getElem? fun j=>?_;rw [List.getElem?_set];have hlen:(yA b i).length=4:=by simp [yA]
  by_cases hj:3 - i / 8=j
  ·subst hj;rw [if_pos rfl,if_pos aq];unfold yA;rw [cU,List.getElem?_range aq,Option.map_some,hpn,IR,b_,hl,hA];congr 1;have:=Nat.two_pow_add_eq_or_of_lt hcl A;rw [← hpow,Nat.mul_comm] at this;rw [← this,List.length_singleton,show 8 - (r+1)=7 - r by omega,e1,← hpow,Nat.add_mul,Nat.mul_assoc]
  ·rw [if_neg hj];unfold yA;rw [cU,cU];by_cases h4:j<4
   ·rw [List.getElem?_range h4,Option.map_some,Option.map_some,FY hi aq aq]
   ·rw [List.getElem?_eq_none (by simp;omega)];rfl
end Go.Sha
namespace Go.Proofs.YtmfnimjnneflnaaGreat
open Go.Am Go.Sha
def cW (l:List Nat):List AV:=l.map fun (x:Nat)=>AV.d (.int .u64 (x:Int))
theorem oL (l:List Nat):(cW l).length=l.length:=by simp [cW]
theorem BI (l:List Nat) (i:Nat):(cW l)[i]?=(l[i]?).map fun (x:Nat)=>AV.d (.int .u64 (x:Int)):=by simp [cW]
theorem Rw (l:List Nat) (i x:Nat):(cW l).set i (.d (.int .u64 (x:Int)))=cW (l.set i x):=by simp [cW,List.map_set]
theorem DU (l:List Nat):(AV.agg (cW l)).deep:=by
 intro c hc;simp only [cW,List.mem_map] at hc;obtain ⟨x,_,rfl⟩:=hc
 trivial
theorem oM (n:Nat) (l:List Nat):∀ v,v ∈ cW l→v.low1 n:=by
 intro c hc;simp only [cW,List.mem_map] at hc;obtain ⟨x,_,rfl⟩:=hc
 trivial
def gG:List Int:=(List.range 256).map fun y=>if y=0 then 0 else ((Nat.log2 y+1:Nat):Int)
theorem gx {L:List Int} (hL:L=gG) {y:Nat} {b:Int} (h:L[y]?=some b):∃ n:Nat,b=(n:Int)∧(if y=0 then n=0 else 1≤n∧n≤8):=by
 subst hL;unfold gG at h;rw [cU] at h;by_cases hy:y<256
 ·rw [List.getElem?_range hy,Option.map_some,Option.some.injEq] at h;by_cases h0:y=0
  ·rw [if_pos h0] at h;exact ⟨0,h.symm,by rw [if_pos h0]⟩
  ·rw [if_neg h0] at h;refine ⟨_,h.symm,?_⟩;rw [if_neg h0];have:=Nat.log2_lt (n:=y) (k:=8) h0;omega
 ·rw [List.getElem?_eq_none (by simp;omega)] at h
  cases h
theorem gy {L:List Int} (hL:L=gG) {y:Nat} (hy:y<256) (h:L[y]?=none):False:=by
 subst hL;unfold gG at h;rw [cU,List.getElem?_range hy] at h
 cases h
def Ns:Nat→Int
 | 0=>-1
 | k+1=>k
theorem Po:Ns 0=-1:=rfl
theorem IT (k:Nat):Ns (k+1)=(k:Int):=rfl
theorem IU (k:Nat) (h:k<1000):IntKind.i64.wrap ((k:Int) - 1)=Ns k:=by
 cases k with
 | zero=>rfl
 | succ k=>rw [IntWalk.i64_in _ aq];show ((k+1:Nat):Int) - 1=(k:Int);omega
theorem Ry (a b:List Nat) (ha:a.length=4) (hb:b.length=4):ax Tryz.prog 206 [.agg (cW a),.agg (cW b)] (fun r=>r=.d (.int .i64 (zD a b 4))):=by
 refine bO Tryz.func206 Tryz.ntmps206 (rs:=[.tmp 4]) (by intro v hv;simp at hv;rcases hv with rfl | rfl <;> exact DU _) ?_;generalize hF:zD a b 4=F;simp [go_sem]
 refine ar (fun k:Nat=>⟨[(2,.ptr 0 0 0 1),(3,.ptr 32 0 0 1),(5,.d (.int .i64 (Ns k)))],[(32,⟨96,4,[cW b]⟩),(0,⟨96,4,[cW a]⟩)],500⟩)
  (fun k=>k≤4∧zD a b k=F) (fun k=>k) 4 ⟨aq,hF⟩ (by
   simp [aA,ai,fv,lk,AV.low,AV.low1,oL,ha,hb,Ns]
   exact ⟨oM _ _,oM _ _⟩) ?_
 rintro k ⟨hk,hq⟩
 cases k with
 | zero =>
  simp only [zD] at hq;subst hq;simp [go_sem,Po,ah];exact aa a9 rfl
 | succ k =>
  obtain ⟨x,hx,_⟩:=bm (l:=a) (k:=k) aq;obtain ⟨y,hy,_⟩:=bm (l:=b) (k:=k) aq;have ex:a.getD k 0=x:=by rw [cR,hx];rfl
  have ey:b.getD k 0=y:=by rw [cR,hy];rfl
  simp only [zD,ex,ey] at hq;have hw:=IU k aq;simp [go_sem,IT];refine cf [0,1,2,3,4,5,6,7] [] 0 (k:=8) ?_;intro G hG;simp [go_sem,BI,hx,hy];refine ⟨aq,hG _ _ ?_⟩;by_cases h1:x<y
  ·rw [if_pos h1] at hq;subst hq;simp [go_sem,h1,ah];exact aa a9 rfl
  ·rw [if_neg h1] at hq;simp [go_sem,h1];refine cf [0,1,2,3,4,5,6,7] [] 0 (k:=8) ?_;intro G hG;simp [go_sem,BI,hx,hy];refine ⟨aq,hG _ _ ?_⟩;by_cases h2:y<x
   ·rw [if_pos h2] at hq;subst hq;simp [go_sem,h2,ah];exact aa a9 rfl
   ·rw [if_neg h2] at hq;simp [go_sem,h2,hw];refine ao k ⟨aq,hq⟩ aq ?_;simp [aA,ai,fv,lk,AV.low,AV.low1,oL,ha,hb];exact ⟨oM _ _,oM _ _⟩
theorem xo (b:List Nat) (i:Nat):(yA b i).length=4:=by simp [yA]
theorem Nu (b:List Nat) (hb:b.length=32) (hby:∀ x,x ∈ b→x<256):ax Tryz.prog 164 [.agg (cb b)] (fun r=>r=.agg (cW (uF b 32))):=by
 refine bO Tryz.func164 Tryz.ntmps164 (rs:=[.cell 2 96]) (by intro v hv;simp at hv;subst hv;exact dE _) ?_;rw [← Nq hb];have hcl:(cb b).length=32:=by rw [am];exact hb
 have htk:(cb b).take 32=cb b:=cx aq;have hz:[AV.d (DV.int .u64 0),AV.d (DV.int .u64 0),AV.d (DV.int .u64 0),AV.d (DV.int .u64 0)]=cW (yA b 0):=by rw [zE];rfl
 simp [go_sem,hcl,htk]
 refine ar (fun i:Nat=>⟨[(2,.ptr 32 0 0 1),(3,.ptr 64 0 0 1),(7,.agg (cb b)),(8,.d (.int .i64 (i:Int)))],[(32,⟨96,4,[cW [0,0,0,0]]⟩),(64,⟨96,4,[cW (yA b i)]⟩)],500⟩)
  (fun i=>i≤32) (fun i=>32 - i) 0 aq (by
   simp [aA,ai,fv,lk,AV.low,AV.low1,oL,zE]
   exact ⟨aO _ _,rfl,oM _ _⟩) ?_
 intro i hi;simp only [go_sem,Nat.reduceEqDiff,Nat.reduceAdd,Nat.reduceLT,↓reduceIte,Nat.reduceMul];refine ⟨fun h=>?_,fun h=>?_⟩
 ·obtain ⟨c,hc,_⟩:=bm (l:=b) (k:=i) aq;obtain ⟨w,hw1,hw2,hw3,hw4⟩:=IS hb hby hc;have e1:IntKind.i64.wrap (31 - (i:Int))=((31 - i:Nat):Int):=by rw [IntWalk.i64_in _ aq];omega
  have w3:=az (k:=i) aq;have hc8:=hby c (cr hc);obtain ⟨m,hm⟩:∃ m,m=31 - i:=⟨_,rfl⟩;rw [← hm] at e1 hw3 hw4;have hj:m / 8=3 - i / 8:=aq;rw [← hj] at hw1 hw4;have q3:IntKind.i64.wrap ((m:Int) / 8)=((m / 8:Nat):Int):=by rw [IntWalk.i64_in _ aq];omega
  have q4:IntKind.i64.wrap (8*Int.tmod (m:Int) 8)=((8*(m % 8):Nat):Int):=by rw [show Int.tmod (m:Int) 8=((m % 8:Nat):Int) from rfl,IntWalk.i64_in _ aq];omega
  have q5:IntKind.u64.wrap (c:Int)=(c:Int):=by rw [gn];omega
  have hj4:m / 8<4:=aq;have hs64:8*(m % 8)≤64:=aq;generalize m / 8=j at *;generalize 8*(m % 8)=s at *;have q6:min s 64=s:=aq
  have q7:IntKind.u64.wrap ((c:Int)*2 ^ s)=((c*2 ^ s:Nat):Int):=by
   rw [gn,show (2:Int) ^ s=((2 ^ s:Nat):Int) by rw [Int.natCast_pow];rfl,← Int.natCast_mul];omega
  have q8:=Nr w (c*2 ^ s) hw2 hw3;generalize c*2 ^ s=y at *;generalize w ||| y=z at *;simp [go_sem,Bm,hc,e1];refine ⟨aq,?_⟩;refine cf [0,1,2,3,4,5,6,7,8,9,10,11] [(12,[])] 0 (k:=13) ?_;intro G hG;simp [go_sem,q3,q4,q5,BI,hw1,q6,q7,q8,IntKind.bits,oL,xo,Rw,hw4];refine ⟨aq,hj4,hG _ _ ?_⟩;simp [go_sem,w3];refine ao (i+1) aq aq ?_;simp [aA,ai,fv,lk,AV.low,AV.low1,oL];exact ⟨aO _ _,oM _ _,oM _ _⟩
 ·have h32:i=32:=aq;subst h32;have htk4:(cW (yA b 32)).take 4=cW (yA b 32):=cx (by rw [oL,xo];omega);simp [go_sem,ah,oL,xo,htk4];exact aa (DU _) rfl
end Go.Proofs.YtmfnimjnneflnaaGreat
