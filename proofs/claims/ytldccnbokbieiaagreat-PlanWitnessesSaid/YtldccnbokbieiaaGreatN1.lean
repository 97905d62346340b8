/-
 Part 2 of what the claim rests on.
-/
import Derived.Test.YtldccnbokbieiaaGreatN0
import Derived.Laws.Cover3
import Derived.Orders
set_option linter.unusedVariables false
set_option linter.unusedSimpArgs false
set_option maxRecDepth 100000
set_option maxHeartbeats 16000000
namespace Go.Am
section
variable {P:Program} {c:Ctx} {K:AV→Hp→Prop} {fr:Fr} {hp:Hp} {U:Nat→Prop} {N:Nat} {σ:Nat→Option Nat} {w:World} {a:Act} {o:Oper} {S:Nat→Prop}
theorem afq (hr:Rel c hp U σ w) (E:∀ x,AIs w (z7 c w σ hp) σ hp U (ev fr x) (a.eval x)) {s t:TypeId} {x:Operand} (hop:o.op=.convert s t x) {bs:List Int} {el:TypeId} (hx:D9 hp 1 (ev fr x)=some (bs.map fun b=>[.d (.int .u8 b)])) (hb:∀ b,b ∈ bs→0≤b∧b<256) (hs:B7 P s=.slice el) (ht:B7 P t=.str)
  (hel:P.underlying el=some (.int .u8)) (h:K (.d (.str bs)) hp):OpOk P c K hp U N σ w ((execOp a.eval o).run P w):=by
 obtain ⟨A,k,hv,us,h1,h2,h3,h4⟩:=L5 (P:=P) hr (E x) hx;rw [List.length_map] at hv h2 h4
 have hrun:∃ s:ByteArray,(Conv.bytesToString (.slice A bs.length k)).run P w=.ok (.string s) w∧(s.data.toList.map fun c=>(c.toNat:Int))=bs:=by
  rcases bs with _ | ⟨b0,bs'⟩
  ·cases A with
   | none=>exact ⟨.empty,by simp [Conv.bytesToString],rfl⟩
   | some ad =>
    refine ⟨.empty,?_,rfl⟩;exact run_bytesToString (P:=P) w ad 0 k [] (by simp [loadCells,loadCellsFrom])
  ·obtain ⟨ad,rfl,h5⟩:=h4 ab
   have hcell:=run_loadCells_list (P:=P) w ad ((b0 :: bs').map (Value.int .u8)) (fun j u hj=>by
    simp only [List.getElem?_map,Option.map_eq_some_iff] at hj;obtain ⟨b,hb',rfl⟩:=hj;have hj2:j<us.size:=by have:=(List.getElem?_eq_some_iff.1 hb').1;omega
    have g1:=h5 j us[j] (Array.getElem?_eq_getElem hj2);have g2:=h3.is j 0 [.d (.int .u8 b)] (.d (.int .u8 b)) us[j] (by rw [List.getElem?_map,hb'];rfl) rfl (by rw [Nat.mul_one,Nat.add_zero];exact Array.getElem?_eq_getElem hj2);rw [J5 g2] at g1
    exact g1)
   rw [List.length_map] at hcell;have:=run_bytesToString (P:=P) w ad (b0 :: bs').length k (b0 :: bs') hcell;refine ⟨_,this,?_⟩;rw [aa5 _ hb];rfl
 obtain ⟨s',g1,g2⟩:=hrun;refine OpOk.val (x:=.string s') ?_ (Good.same hr h (by rw [← g2];exact .d (.str s')));have hconv:=run_convert_bytes_string (P:=P) w s t el A bs.length k (y6 hs) hel (VL ht);simp only [execOp,hop,hv,Sem.run_bind,hconv,g1,Result.andThen_ok,Sem.run_pure]
theorem afr (hr:Rel c hp U σ w) (E:∀ x,AIs w (z7 c w σ hp) σ hp U (ev fr x) (a.eval x)) {s t:TypeId} {x:Operand} (hop:o.op=.convert s t x) {bs:List Int} {el:TypeId} (hx:ev fr x=.d (.str bs)) (hs:B7 P s=.str) (ht:B7 P t=.slice el)
  (hel:P.underlying el=some (.int .u8)) (h:K (.d (.ro 1 (bs.map fun b=>[.int .u8 b]))) hp):OpOk P c K hp U N σ w ((execOp a.eval o).run P w):=by
 have hx':=E x;rw [hx] at hx';generalize hv:a.eval x=v at hx'
 cases hx' with
 | d hx' =>
  cases hx' with
  | str s0 =>
   have hr0:=run_bytes_of_string (P:=P) w s t el s0 (VL hs) (y6 ht) hel;simp only [execOp,hop,hv,Sem.run_bind,hr0,Result.andThen_ok,Sem.run_pure];have hlen:(((s0.data.toList.map fun c=>(c.toNat:Int)).map fun b=>[DV.int .u8 b])).length=s0.size:=by rw [List.length_map,List.length_map];rfl
   have hbs:s0.size≤(bytesRow s0 (grownCap w s0.size 0 el)).size:=by unfold bytesRow;rw [Array.size_append,Array.size_map];exact Nat.le_add_right _ _
   have:=asi (N:=N) (K:=K) hr (w':=w.drew.alloc (.cells (bytesRow s0 (grownCap w s0.size 0 el)) el ((bytesRow s0 (grownCap w s0.size 0 el)).size,(bytesRow s0 (grownCap w s0.size 0 el)).size+1))) (e:=1) (cap:=grownCap w s0.size 0 el) (C:=bytesRow s0 (grownCap w s0.size 0 el))
    (es:=(s0.data.toList.map fun c=>(c.toNat:Int)).map fun b=>[DV.int .u8 b]) ⟨rfl,rfl,rfl,by simp [World.size_alloc],fun b hb=>P9 w.drew _ b hb⟩ (by rw [World.size_alloc];exact Nat.lt_succ_self _) (fun j v hj=>?_) (fun r hr'=>?_) (by rw [hlen];omega) (by rw [hlen];exact grownCap_ge w s0.size 0 el) (fun i j r y x hi hj hx=>?_) h
   ·rw [hlen] at this;exact this
   ·have h1:=heap_alloc_new w.drew (.cells (bytesRow s0 (grownCap w s0.size 0 el)) el ((bytesRow s0 (grownCap w s0.size 0 el)).size,(bytesRow s0 (grownCap w s0.size 0 el)).size+1));simp only [World.cell?];rw [show w.heap.size=w.drew.heap.size from rfl,h1]
    simpa using hj
   ·obtain ⟨b,_,rfl⟩:=List.mem_map.1 hr';rfl
   ·simp only [List.getElem?_map,Option.map_eq_some_iff] at hi;obtain ⟨b,⟨ch,hch,rfl⟩,rfl⟩:=hi
    cases j with
    | succ j=>simp at hj
    | zero =>
     simp at hj;subst hj;have hlt:=(List.getElem?_eq_some_iff.1 hch);obtain ⟨h1,h2⟩:=hlt;rw [Nat.mul_one,Nat.add_zero,bytesRow_at s0 _ i (by simpa using h1)] at hx;injection hx with hx;subst hx;simp only [Array.getElem_toList] at h2;rw [h2];exact .int _ _
theorem R7 {len cap:Nat} {lo hi:Option Value} {mx:Value} {l h m:Int} (hlo:lo=none∧l=0 ∨ ∃ k,lo=some (.int k l)) (hhi:∃ k,hi=some (.int k h)) (hmx:∃ k,mx=.int k m) (h0:0≤l) (h1:l≤h) (h2:h≤m) (h3:m≤cap) :
  (Instr.sliceBounds true len cap lo hi (some mx)).run P w=.ok (l.toNat,h.toNat,m.toNat) w:=by
 unfold Instr.sliceBounds;obtain ⟨k1,rfl⟩:=hhi;obtain ⟨k2,rfl⟩:=hmx;have a1:h≤(m.toNat:Int):=aa;have a2:l≤(h.toNat:Int):=aa;rcases hlo with ⟨rfl,rfl⟩ | ⟨k,rfl⟩
 ·simp [Instr.sliceBound,asIntOf,show 0≤m∧m≤(cap:Int) by omega,show 0≤h∧h≤max m 0 by omega]
 ·simp [Instr.sliceBound,asIntOf,show 0≤m∧m≤(cap:Int) by omega,show 0≤h∧h≤max m 0 by omega,show 0≤l∧l≤max h 0 by omega]
theorem ab7 {U:Nat→Prop} (E:∀ x,AIs w S σ hp U (ev fr x) (a.eval x)) {x:Operand} {l:Int} (h:(ev fr x).num=some l):∃ k,a.eval x=.int k l:=by
 have hx:=E x;unfold AV.num at h
 split at h
 ·rename_i k n he;injection h with h;subst h;rw [he] at hx;exact ⟨k,J5 hx⟩
 ·cases h
theorem ajn (hr:Rel c hp U σ w) (E:∀ x,AIs w (z7 c w σ hp) σ hp U (ev fr x) (a.eval x)) {t:TypeId} {x:Operand} {lo hi:Option Operand} {m:Operand} (hop:o.op=.slice t x lo hi (some m)) (h:A6 P fr hp N (.slice t x lo hi (some m)) K) :
  OpOk P c K hp U N σ w ((execOp a.eval o).run P w):=by
 simp only [A6] at h
 have run:∀ v,(Instr.sliceAt t (a.eval x) (lo.map a.eval) (hi.map a.eval) (some (a.eval m))).run P w=.ok v w→(execOp a.eval o).run P w=.ok (.value v) w:=by
  intro v hv;simp [execOp,hop,hv]
 have hx:=E x;generalize hxv:a.eval x=xv at hx run;generalize hxa:ev fr x=xa at hx h;generalize hlo:bnd fr 0 lo=blo at h;generalize hhi:afk fr hi=bhi at h;generalize hmx:(ev fr m).num=bmx at h;generalize hk:B7 P t=k at h;unfold UA at h
 have hhi':∀ l,bhi=some l→∃ k,hi.map a.eval=some (.int k l):=by
  intro l hl;rw [hl] at hhi
  cases hi with
  | none=>cases hhi
  | some y =>
   obtain ⟨k,h1⟩:=ab7 E hhi;exact ⟨k,by simp [h1]⟩
 split at h
 ·rename_i e es el l hh mm;obtain ⟨hz,he,h0,h1,rfl,h2,h⟩:=h
  cases hx with
  | d hx =>
   cases hx with
   | ro _ _ A cap vs hc hel hA hv1 hd =>
    have hb:=R7 (P:=P) (w:=w) (len:=es.length) (cap:=cap) (N7 E hlo) (hhi' _ rfl) (ab7 E hmx) h0 h1 (Int.le_refl _) aa;have hlen:((es.take hh.toNat).drop l.toNat).length=hh.toNat - l.toNat:=by simp;omega
    have hel':∀ (i:Nat) (r:List DV),((es.take hh.toNat).drop l.toNat)[i]?=some r→es[l.toNat+i]?=some r:=by
     intro i r hi;rw [List.getElem?_drop,List.getElem?_take] at hi
     split at hi
     ·exact hi
     ·cases hi
    have hne:∀ (i:Nat) (r:List DV),((es.take hh.toNat).drop l.toNat)[i]?=some r→hh.toNat ≠ l.toNat:=by
     intro i r hi;have:=(List.getElem?_eq_some_iff.1 hi).1;omega
    refine OpOk.val (run (.slice (if hh.toNat=l.toNat then A else A.map (·.add (l.toNat*P.cellsOf el))) (hh.toNat - l.toNat) (hh.toNat - l.toNat)) ?_) (Good.same hr h (.d ?_))
    ·simp [Instr.sliceAt,Instr.slice,run_underlying (y6 hk),hb,u7 hz]
    ·rw [← hlen];refine .rof e _ _ (fun i j=>vs (l.toNat+i) j) (fun r hr'=>?_) (fun r hr'=>?_) (fun ad hAd i j r y hi hj=>?_) (fun i j r y (hi:((es.take hh.toNat).drop l.toNat)[i]?=some r) hj=>hd _ j r y (hel' i r hi) hj)
     ·obtain ⟨i,hi⟩:=List.getElem?_of_mem hr';exact hel r (List.mem_of_getElem? (hel' i r hi))
     ·obtain ⟨i,hi⟩:=List.getElem?_of_mem hr';obtain ⟨ad,k1,k2⟩:=hA r (List.mem_of_getElem? (hel' i r hi));rw [if_neg (hne i r hi),k1];exact ⟨_,rfl,by rw [K3];exact k2⟩
     ·rw [if_neg (hne i r hi)] at hAd;obtain ⟨ad',k1,rfl⟩:=Option.map_eq_some_iff.1 hAd;rw [TM,← he,show l.toNat*e+(i*e+j)=(l.toNat+i)*e+j by rw [Nat.add_mul];omega];exact hv1 ad' k1 _ j r y (hel' i r hi) hj
 ·rename_i el l hh mm;obtain ⟨hz,rfl,rfl,rfl,h⟩:=h;have hb:=R7 (P:=P) (w:=w) (len:=0) (cap:=0) (N7 E hlo) (hhi' _ rfl) (ab7 E hmx) aa aa aa aa
  cases hx with
  | nil =>
   refine OpOk.val (run (.slice none 0 0) ?_) (Good.same hr h (.d (.rof _ [] none (fun _ _=>undef) ab ab ab ab)));simp [Instr.sliceAt,Instr.slice,run_underlying (y6 hk),hb,u7 hz]
 ·rename_i id i0 len tot el l hh mm;obtain ⟨hz,rfl,rfl,rfl,h⟩:=h
  cases hx with
  | own _ _ _ _ A cap hN hl h0 hq =>
   have hb:=R7 (P:=P) (w:=w) (len:=len) (cap:=cap) (N7 E hlo) (hhi' _ rfl) (ab7 E hmx) aa aa aa aa;refine OpOk.val (run (.slice A 0 0) ?_) (Good.same hr h (.d (.rof _ [] A (fun _ _=>undef) ab ab ab ab)));simp [Instr.sliceAt,Instr.slice,run_underlying (y6 hk),hb,u7 hz]
 ·exact h.elim
theorem apL (hr:Rel c hp U σ w) (E:∀ x,AIs w (z7 c w σ hp) σ hp U (ev fr x) (a.eval x)) (hN:Free U N) {t:TypeId} {l m:Operand} (hop:o.op=.makeSlice t l m) (h:A6 P fr hp N (.makeSlice t l m) K) :
  OpOk P c K hp U N σ w ((execOp a.eval o).run P w):=by
 simp only [A6] at h
 have run:∀ v w',(Instr.makeSlice t (a.eval l) (a.eval m)).run P w=.ok v w'→(execOp a.eval o).run P w=.ok (.value v) w':=by
  intro v w' hv;simp [execOp,hop,hv]
 have hl:=E l;have hm:=E m;unfold agB at h
 split at h
 ·rename_i el kl n kc q hk hlv hmv
  split at h
  ·rename_i z hz;obtain ⟨h0,h1,h2,h3,h4,h⟩:=h;rw [hlv] at hl;rw [hmv] at hm;obtain ⟨v,i,hi,hzv,hs,hne,_,hli⟩:=aa7 (w:=w) (S:=z7 c w σ hp) (σ:=σ) (hp:=hp) (U:=U) hz;have his:i.size=P.cellsOf el:=by simp [Program.cellsOf,hi]
   have hib:i.bytes=P.bytesOf el:=by simp [Program.bytesOf,hi]
   have hq0:0≤q:=aa
   have hr0:=run_makeSlice (P:=P) w t el i v (y6 hk) hi hzv kl kc n q h0 h1 (by
    rw [his]
    have:((q.toNat*P.cellsOf el:Nat):Int)≤16777216:=by
     rw [Int.natCast_mul,Int.toNat_of_nonneg hq0];exact h2
    omega) (by rw [hib];exact h3) h4
   rw [run _ _ (by rw [J5 hl,J5 hm];exact hr0)];have hrows:=VP (P:=P) (el:=el) hli hs hne q.toNat
   have hrows':RIs w (z7 c w σ hp) σ hp U (P.cellsOf el) (List.replicate n.toNat z) (madeCells v.cells (q.toNat*i.size)):=by
    have e1:madeCells v.cells (q.toNat*i.size)=(Array.range (q.toNat*P.cellsOf el)).map (v.cells[· % v.cells.size]!):=by rw [his];rfl
    rw [e1];refine ⟨?_,fun r hr'=>?_,hrows.one,fun i' j r y x hi' hj hx=>?_⟩
    ·have:=hrows.len;rw [List.length_replicate] at this ⊢;exact Nat.le_trans (Nat.mul_le_mul_right _ aa) this
    ·have hne':0<n.toNat:=by
      rcases Nat.eq_zero_or_pos n.toNat with h' | h'
      ·rw [h'] at hr';simp at hr'
      ·exact h'
     refine hrows.row r ?_;have e2:=List.eq_of_mem_replicate hr';subst e2;exact List.mem_replicate.2 ⟨aa,rfl⟩
    ·refine hrows.is i' j r y x ?_ hj hx;have h5:=(List.getElem?_eq_some_iff.1 hi').1;rw [List.length_replicate] at h5;rw [List.getElem?_replicate] at hi' ⊢;rw [if_pos h5] at hi';rw [if_pos aa];exact hi'
   have hG:=W7 (K:=K) hr hN (el:=el) (cap:=q.toNat) hrows' (by rw [List.length_replicate];omega) (by rw [size_madeCells,his];exact Nat.le_refl _) (by rw [List.length_replicate];exact h);rw [List.length_replicate] at hG;exact hG
  ·exact h.elim
 ·exact h.elim
theorem asj (hr:Rel c hp U σ w) (E:∀ x,AIs w (z7 c w σ hp) σ hp U (ev fr x) (a.eval x)) {t:TypeId} {x:Operand} (hop:o.op=.sliceToArrayPointer t x) (h:A6 P fr hp N (.sliceToArrayPointer t x) K) :
  OpOk P c K hp U N σ w ((execOp a.eval o).run P w):=by
 simp only [A6] at h
 have run:∀ v,(Instr.arrayAt t (a.eval x)).run P w=.ok v w→(execOp a.eval o).run P w=.ok (.value v) w:=by
  intro v hv;simp [execOp,hop,hv]
 have hx:=E x;unfold ah1 at h
 split at h
 ·rename_i n el es hk hv;obtain ⟨h0,h1,h⟩:=h;rw [hv] at hx;generalize a.eval x=xv at hx run
  cases hx with
  | d hx =>
   cases hx with
   | ro _ _ A cap vs hc hel hA hv1 hd =>
    have hpos:0<es.length:=aa;obtain ⟨ad,k1,k2⟩:=hA es[0] (List.getElem_mem hpos);subst k1
    have flat:∀ (l:List (List DV)),(∀ r,r ∈ l→r.length=1)→∀ (j:Nat) (y:DV),l.flatten[j]?=some y→l[j]?=some [y]:=by
     intro l
     induction l with
     | nil=>intro _ j y hj;simp at hj
     | cons r l ih =>
      intro hl j y hj
      match r,hl r (List.mem_cons_self ..) with
      | [u],_ =>
       cases j with
       | zero=>simp at hj;subst hj;rfl
       | succ j=>simp at hj;simpa using ih (fun r hr=>hl r (List.mem_cons_of_mem _ hr)) j y hj
    refine OpOk.val (run (.pointer (some ad)) (run_arrayAt (P:=P) w t el n (some ad) _ _ (RL hk) h1)) (Good.same hr h (.rop _ ad (fun j=>vs j 0) k2 (fun j y hj=>?_) (fun j y hj=>?_)))
    ·have:=hv1 ad rfl j 0 _ y (flat es hel j y hj) rfl;rw [Nat.mul_one,Nat.add_zero] at this;exact this
    ·exact hd j 0 _ y (flat es hel j y hj) rfl
 ·rename_i n el id i off e len cap tot hk hv
  split at h
  ·rename_i b hb;obtain ⟨ht,h0,h1,h⟩:=h;rw [hv] at hx;generalize a.eval x=xv at hx run
   cases hx with
   | sub _ _ _ _ _ _ _ A hN' hl hA0 hA =>
    obtain ⟨q1,q2⟩:=hA b hb;obtain ⟨q3,q4,q5⟩:=q2 ht;obtain ⟨g,hg,rfl⟩:=q5 aa;refine OpOk.val (run (.pointer (some ⟨g,i*b.e+off,none⟩)) (run_arrayAt (P:=P) w t el n (some ⟨g,i*b.e+off,none⟩) _ _ (RL hk) h1)) (Good.same hr h (.ptr id i off tot _ hN' fun b' hb'=>?_));rw [hb] at hb'
    cases hb'
    exact ⟨q1,fun _=>⟨g,hg,rfl⟩⟩
  ·exact h.elim
 ·exact h.elim
theorem ah6 (hr:Rel c hp U σ w) {id g i off:Nat} {b:Blk} {row:List AV} {ccs:Array Value} (hb:lk id hp=some b) (hg:σ id=some g) (hrow:b.es[i]?=some row) (hheap:w.heap[g]?=some (.cells ccs b.ty (0,0)))
  (us:List Value) (cs:List AV) (hcl:cs.length=us.length) (hfit:off+us.length≤row.length) (h1:∀ u ∈ us,u.oneCell'=true) (h2:∀ (j:Nat) (y:AV) (u:Value),cs[j]?=some y→us[j]?=some u→AIs w (z7 c w σ hp) σ hp U y u) :
  let w':=w.setRow g (ccs.toList.take (i*b.e+off) ++ us ++ ccs.toList.drop (i*b.e+off+us.length)).toArray
  let b':Blk:=⟨b.ty,b.e,b.es.set i (row.take off ++ (cs ++ row.drop (off+cs.length)))⟩
  Rel c (A0 id b' hp) U σ w'∧Step w (z7 c w σ hp) σ hp U w' (z7 c w' σ (A0 id b' hp)) σ (A0 id b' hp) U:=by
 have hilt:i<b.es.length:=(List.getElem?_eq_some_iff.1 hrow).1;obtain ⟨cc0,q1,hone,q3,q4,q5⟩:=hr.at hb hg;rw [hheap] at q1;injection q1 with q1;injection q1 with q1;subst q1;have hrl:row.length=b.e:=q3 row (List.mem_of_getElem? hrow)
 have hle:i*b.e+b.e≤ccs.size:=by
  have:(i+1)*b.e≤b.es.length*b.e:=Nat.mul_le_mul_right _ aa;rw [Nat.add_mul,Nat.one_mul] at this;omega
 have hnl:(row.take off ++ (cs ++ row.drop (off+cs.length))).length=b.e:=by simp;omega
 have hnth:∀ m,(ccs.toList.take (i*b.e+off) ++ us ++ ccs.toList.drop (i*b.e+off+us.length)).toArray[m]? =
   if m<i*b.e+off then ccs[m]? else if m<i*b.e+off+us.length then us[m - (i*b.e+off)]? else ccs[m]?:=by
  intro m;simp only [List.getElem?_toArray,List.append_assoc];rw [List.getElem?_append];have hlt:(ccs.toList.take (i*b.e+off)).length=i*b.e+off:=by simp;omega
  rw [hlt];by_cases hm:m<i*b.e+off
  ·simp [hm]
  ·rw [if_neg hm,if_neg hm,List.getElem?_append];by_cases hm2:m<i*b.e+off+us.length
   ·rw [if_pos aa,if_pos hm2]
   ·rw [if_neg aa,if_neg hm2,List.getElem?_drop,Array.getElem?_toList];congr 1;omega
 have hrowth:∀ m,(row.take off ++ (cs ++ row.drop (off+cs.length)))[m]?=if m<off then row[m]? else if m<off+cs.length then cs[m - off]? else row[m]?:=by
  intro m;rw [List.getElem?_append];have hlt:(row.take off).length=off:=by simp;omega
  rw [hlt];by_cases hm:m<off
  ·simp [hm]
  ·rw [if_neg hm,if_neg hm,List.getElem?_append];by_cases hm2:m<off+cs.length
   ·rw [if_pos aa,if_pos hm2]
   ·rw [if_neg aa,if_neg hm2,List.getElem?_drop];congr 1;omega
 exact ab1 hr (b':=⟨b.ty,b.e,b.es.set i (row.take off ++ (cs ++ row.drop (off+cs.length)))⟩) hb hg rfl rfl ab ccs (ccs.toList.take (i*b.e+off) ++ us ++ ccs.toList.drop (i*b.e+off+us.length)).toArray hheap (by simp;omega)
  (fun m y hy=>by
   rw [hnth] at hy
   split at hy
   ·exact hone m y hy
   ·split at hy
    ·exact h1 y (List.mem_of_getElem? hy)
    ·exact hone m y hy)
  (fun y hy=>by
   rcases List.mem_or_eq_of_mem_set hy with h' | rfl
   ·exact q3 y h'
   ·exact hnl)
  (fun k j r y u a1 a2 a3=>by
   rw [hnth] at a3;simp only [List.getElem?_set] at a1;by_cases hk:i=k
   ·subst hk;simp only [if_true,hilt] at a1;injection a1 with a1;subst a1;rw [hrowth] at a2;by_cases p1:j<off
    ·rw [if_pos p1] at a2;rw [if_pos aa] at a3;exact q5 i j row y u hrow a2 a3
    ·rw [if_neg p1] at a2;rw [if_neg aa] at a3;by_cases p2:j<off+cs.length
     ·rw [if_pos p2] at a2;rw [if_pos aa] at a3;rw [show i*b.e+j - (i*b.e+off)=j - off by omega] at a3;exact h2 _ y u a2 a3
     ·rw [if_neg p2] at a2;rw [if_neg aa] at a3;exact q5 i j row y u hrow a2 a3
   ·rw [if_neg hk] at a1
    have hj:j<b.e:=by
     have:=(List.getElem?_eq_some_iff.1 a2).1;rw [q3 r (List.mem_of_getElem? a1)] at this;exact this
    have hout:¬ (i*b.e≤k*b.e+j∧k*b.e+j<i*b.e+b.e):=by
     rintro ⟨p1,p2⟩;rcases Nat.lt_or_gt_of_ne hk with h' | h'
     ·have:(i+1)*b.e≤k*b.e:=Nat.mul_le_mul_right _ aa;rw [Nat.add_mul,Nat.one_mul] at this;omega
     ·have:(k+1)*b.e≤i*b.e:=Nat.mul_le_mul_right _ aa;rw [Nat.add_mul,Nat.one_mul] at this;omega
    have a3':ccs[k*b.e+j]?=some u:=by
     by_cases p1:k*b.e+j<i*b.e+off
     ·rwa [if_pos p1] at a3
     ·rw [if_neg p1,if_neg aa] at a3;exact a3
    exact q5 k j r y u a1 a2 a3')
theorem adD:∀ (xs:List (List AV)),(∀ r,r ∈ xs→r.length=1)→∀ (j:Nat) (y:AV),xs.flatten[j]?=some y→xs[j]?=some [y]
 | [],_,j,y,h=>by simp at h
 | r :: xs,hr,j,y,h=>by
  have h1:=hr r (List.mem_cons_self ..)
  match r,h1 with
  | [x],_ =>
   cases j with
   | zero=>simpa using h
   | succ j =>
    simp only [List.flatten_cons,List.cons_append,List.nil_append,List.getElem?_cons_succ] at h ⊢;exact adD xs (fun r hr'=>hr r (List.mem_cons_of_mem _ hr')) j y h
theorem W8:∀ (xs:List (List AV)),(∀ r,r ∈ xs→r.length=1)→xs.flatten.length=xs.length
 | [],_=>rfl
 | r :: xs,hr=>by
  rw [List.flatten_cons,List.length_append,hr r (List.mem_cons_self ..),W8 xs fun r h=>hr r (List.mem_cons_of_mem _ h),List.length_cons];omega
theorem apM (hr:Rel c hp U σ w) (E:∀ x,AIs w (z7 c w σ hp) σ hp U (ev fr x) (a.eval x)) {ts tx:TypeId} {s x:Operand} {cl:Call} (hop:o.op=.call cl) (hc:cl.callee=.builtin .copy) (ha:cl.args.toList=[s,x]) (ht:cl.argTypes.toList=[ts,tx])
  (h:biW P fr hp N .copy [s,x] [ts,tx] K):OpOk P c K hp U N σ w ((execOp a.eval o).run P w):=by
 simp only [biW] at h;have ha':cl.args=#[s,x]:=by rw [← Array.toArray_toList (xs:=cl.args),ha]
 have ht':cl.argTypes=#[ts,tx]:=by rw [← Array.toArray_toList (xs:=cl.argTypes),ht]
 have run:∀ (v:Value) (w':World),(Builtin.copy_ #[ts,tx] o.type #[a.eval s,a.eval x]).run P w=.ok v w'→(execOp a.eval o).run P w=.ok (.value v) w':=by
  intro v w' hv;simp [execOp,hop,resolve,hc,ha',ht',invoke,builtin,hv]
 split at h
 ·rename_i el el2 hks hkx;have hts:=y6 hks;have htx:=y6 hkx;obtain ⟨hz2,h⟩:=h;have hxx:=E x;have hss:=E s;generalize hxv:a.eval x=xv at hxx run;generalize hsv:a.eval s=sv at hss run;generalize ev fr x=xa at hxx h;generalize ev fr s=sa at hss h;generalize hxs:D9 hp (P.cellsOf el) xa=oxs at h;unfold agC at h
  split at h
  ·rename_i id i0 len tot xs
   split at h
   ·rename_i b hb;obtain ⟨ht1,hbe,hz,h⟩:=h;obtain ⟨B,k,rfl,us,hus,hul,hri,hcell⟩:=L5 (P:=P) hr hxx hxs;rw [hz,Nat.mul_one] at hul
    have hinfo:(P.info? el).map (·.size)=some 1:=by
     have h1:P.cellsOf el=1:=hz;unfold Program.cellsOf at h1
     cases hq:P.info? el with
     | none=>rw [hq] at h1;simp at h1
     | some i=>rw [hq] at h1;simp at h1;simp [h1]
    cases hss with
    | own _ _ _ _ A cap hU hl hA0 h' =>
     obtain ⟨k1,k2⟩:=h' b hb;obtain ⟨k3,k4,k5⟩:=k2 ht1;have hmn:Nat.min xs.length len=min len xs.length:=by rw [Nat.min_comm]
     rcases Nat.eq_zero_or_pos (min len xs.length) with h0 | h0
     ·have hr0:=run_copy_none (P:=P) w ts tx o.type el A B len cap xs.length k hts hinfo (by rw [hmn];exact h0);refine OpOk.val (run _ _ hr0) (Good.same hr (v:=.d (.int .i64 0)) ?_ (.d (.int _ _)));rw [h0] at h
      have hxe:xs.take len=[]:=by
       apply List.eq_nil_of_length_eq_zero;rw [List.length_take];exact h0
      rw [hxe,List.nil_append,Nat.add_zero,List.take_append_drop] at h;have e1:(⟨b.ty,b.e,b.es⟩:Blk)=b:=rfl;rw [e1,VQ hb] at h;exact h
     ·obtain ⟨g,hg,hA,n,hrn,hn⟩:=k5 aa;obtain ⟨ccs,m1,m2,m3,m4,m5⟩:=hr.at hb hg
      have hnsz:ccs.size=n:=by
       obtain ⟨cc,p1,p2⟩:=hrn;rw [m1] at p1;injection p1 with p1;injection p1 with p1;rw [p1];exact p2
      rw [hbe,Nat.mul_one] at hA hn m4;clear hrn k5 k2 h';subst hA;obtain ⟨ad,hBad,hcell2⟩:=hcell aa;subst hBad
      let n0:=min len xs.length
      let cs:=us.toList.take n0
      have hcl:cs.length=n0:=by simp only [cs,List.length_take,Array.length_toList];omega
      have hr0:=run_copy_row (P:=P) w ts tx o.type el g i0 len cap ad xs.length k ccs b.ty cs hts hinfo m1 (by rw [hcl,hmn]) (fun j v hj=>hcell2 j v (by
       rw [List.getElem?_take] at hj
       split at hj
       ·simpa using hj
       ·cases hj)) aa (fun v hv=>by
       obtain ⟨j,hj⟩:=List.getElem?_of_mem (List.mem_of_mem_take hv)
       exact hri.one j v (by simpa using hj))
      rw [run _ _ hr0,hcl]
      have hlen:(b.es.take i0 ++ (xs.take len ++ b.es.drop (i0+n0))).length=b.es.length:=by
       simp only [List.length_append,List.length_take,List.length_drop];omega
      have hC:∀ m,((ccs.toList.take i0 ++ cs ++ ccs.toList.drop (i0+n0)).toArray)[m]?=if m<i0 then ccs[m]? else if m<i0+n0 then us[m - i0]? else ccs[m]?:=by
       intro m;rw [List.getElem?_toArray,List.append_assoc,List.getElem?_append];have e0:(ccs.toList.take i0).length=i0:=by simp;omega
       rw [e0]
       split
       ·rename_i hm;rw [List.getElem?_take,if_pos hm];simp
       ·rename_i hm;rw [List.getElem?_append,hcl];by_cases hm2:m<i0+n0
        ·rw [if_pos aa,if_pos hm2,List.getElem?_take,if_pos aa];simp
        ·rw [if_neg aa,if_neg hm2,List.getElem?_drop,show i0+n0+(m - i0 - n0)=m by omega];simp
      have hE:∀ (m:Nat) (r:List AV),(b.es.take i0 ++ (xs.take len ++ b.es.drop (i0+n0)))[m]?=some r→(m<i0∧b.es[m]?=some r) ∨ (i0≤m∧m<i0+n0∧xs[m - i0]?=some r) ∨ (i0+n0≤m∧b.es[m]?=some r):=by
       intro m r hm;rw [List.getElem?_append] at hm;have e0:(b.es.take i0).length=i0:=by simp;omega
       rw [e0] at hm
       split at hm
       ·rename_i hlt;rw [List.getElem?_take,if_pos hlt] at hm;exact .inl ⟨hlt,hm⟩
       ·rename_i hlt;rw [List.getElem?_append,List.length_take] at hm
        split at hm
        ·rename_i hlt2;rw [List.getElem?_take,if_pos aa] at hm;exact .inr (.inl ⟨aa,aa,hm⟩)
        ·rename_i hlt2;rw [List.getElem?_drop] at hm;refine .inr (.inr ⟨aa,?_⟩);rw [show m=i0+n0+(m - i0 - min len xs.length) by omega];exact hm
      have hup:=ab1 hr hb hg (b':=⟨b.ty,b.e,b.es.take i0 ++ (xs.take len ++ b.es.drop (i0+n0))⟩) rfl rfl hlen ccs (ccs.toList.take i0 ++ cs ++ ccs.toList.drop (i0+n0)).toArray m1 (by
        simp only [List.size_toArray,List.length_append,List.length_take,List.length_drop,hcl,Array.length_toList]
        omega) (fun i' y hy=>by
        rw [hC] at hy
        split at hy
        ·exact m2 _ _ hy
        ·split at hy
         ·exact hri.one _ _ hy
         ·exact m2 _ _ hy) (fun r hr'=>by
        obtain ⟨m,hm⟩:=List.getElem?_of_mem hr';rcases hE m r hm with ⟨_,h1⟩ | ⟨_,_,h1⟩ | ⟨_,h1⟩
        ·exact m3 r (List.mem_of_getElem? h1)
        ·rw [hbe,← hz];exact hri.row r (List.mem_of_getElem? h1)
        ·exact m3 r (List.mem_of_getElem? h1)) (fun i' j r y v hi hj hv=>by
        rw [hC] at hv
        have hj0:j<b.e:=by
         have h1:=(List.getElem?_eq_some_iff.1 hj).1;rcases hE i' r hi with ⟨_,h2⟩ | ⟨_,_,h2⟩ | ⟨_,h2⟩
         ·rw [m3 r (List.mem_of_getElem? h2)] at h1;exact h1
         ·rw [hri.row r (List.mem_of_getElem? h2),hz] at h1;omega
         ·rw [m3 r (List.mem_of_getElem? h2)] at h1;exact h1
        have hj1:j=0:=aa;subst hj1;rw [hbe,Nat.mul_one,Nat.add_zero] at hv;rcases hE i' r hi with ⟨h1,h2⟩ | ⟨h1,h1',h2⟩ | ⟨h1,h2⟩
        ·rw [if_pos h1] at hv;exact m5 i' 0 r y v h2 hj (by rw [hbe,Nat.mul_one,Nat.add_zero];exact hv)
        ·rw [if_neg aa,if_pos h1'] at hv;exact hri.is _ 0 r y v h2 hj (by rw [hz,Nat.mul_one,Nat.add_zero];exact hv)
        ·rw [if_neg aa,if_neg aa] at hv
         exact m5 i' 0 r y v h2 hj (by rw [hbe,Nat.mul_one,Nat.add_zero];exact hv))
      obtain ⟨r1,r2⟩:=hup;exact ⟨_,_,_,h,r1.more,r2.trans Step.more,.d (.int _ _)⟩
   ·exact h.elim
  ·rename_i id i off e len cap tot xs
   split at h
   ·rename_i b hb
    split at h
    ·rename_i row hrow;obtain ⟨ht1,rfl,hz,h⟩:=h;obtain ⟨B,k,rfl,us,hus,hul,hri,hcell⟩:=L5 (P:=P) hr hxx hxs;rw [hz,Nat.mul_one] at hul
     have hinfo:(P.info? el).map (·.size)=some 1:=by
      have h1:P.cellsOf el=1:=hz;unfold Program.cellsOf at h1
      cases hq:P.info? el with
      | none=>rw [hq] at h1;simp at h1
      | some i=>rw [hq] at h1;simp at h1;simp [h1]
     have hx1:∀ r,r ∈ xs.take len→r.length=1:=fun r hr'=>by
      have:=hri.row r (List.mem_of_mem_take hr');rw [hz] at this;exact this
     have hfl:=W8 _ hx1;have htl:(xs.take len).length=min len xs.length:=List.length_take
     cases hss with
     | sub _ _ _ _ _ _ _ A hU hl hA0 h' =>
      obtain ⟨k1,k2⟩:=h' b hb;obtain ⟨k3,k4,k5⟩:=k2 ht1;have hmn:Nat.min xs.length len=min len xs.length:=by rw [Nat.min_comm]
      rcases Nat.eq_zero_or_pos (min len xs.length) with h0 | h0
      ·have hr0:=run_copy_none (P:=P) w ts tx o.type el A B len cap xs.length k hts hinfo (by rw [hmn];exact h0);refine OpOk.val (run _ _ hr0) (Good.same hr (v:=.d (.int .i64 0)) ?_ (.d (.int _ _)));rw [h0] at h;have hxe:xs.take len=[]:=List.eq_nil_of_length_eq_zero (by rw [htl];exact h0)
       have hrs:b.es.set i row=b.es:=by
        obtain ⟨hlt,he⟩:=List.getElem?_eq_some_iff.1 hrow;rw [← he];exact List.set_getElem_self hlt
       rw [hxe,List.flatten_nil,List.nil_append,List.length_nil,Nat.add_zero,List.take_append_drop,hrs] at h;have e1:(⟨b.ty,b.e,b.es⟩:Blk)=b:=rfl;rw [e1,VQ hb] at h;exact h
      ·obtain ⟨g,hg,hA⟩:=k5 aa;obtain ⟨ccs,m1,m2,m3,m4,m5⟩:=hr.at hb hg;have hrl:row.length=b.e:=m3 row (List.mem_of_getElem? hrow);have hilt:i<b.es.length:=(List.getElem?_eq_some_iff.1 hrow).1
       have hle:i*b.e+b.e≤ccs.size:=by
        have:(i+1)*b.e≤b.es.length*b.e:=Nat.mul_le_mul_right _ aa;rw [Nat.add_mul,Nat.one_mul] at this;omega
       subst hA;obtain ⟨ad,hBad,hcell2⟩:=hcell aa;subst hBad
       let n0:=min len xs.length
       let cs:=us.toList.take n0
       have hcl:cs.length=n0:=by simp only [cs,List.length_take,Array.length_toList];omega
       have hr0:=run_copy_row (P:=P) w ts tx o.type el g (i*b.e+off) len cap ad xs.length k ccs b.ty cs hts hinfo m1 (by rw [hcl,hmn]) (fun j v hj=>hcell2 j v (by
        rw [List.getElem?_take] at hj
        split at hj
        ·simpa using hj
        ·cases hj)) aa (fun v hv=>by
        obtain ⟨j,hj⟩:=List.getElem?_of_mem (List.mem_of_mem_take hv)
        exact hri.one j v (by simpa using hj))
       rw [run _ _ hr0]
       obtain ⟨r1,r2⟩:=ah6 hr (off:=off) hb hg hrow m1 cs (xs.take len).flatten (by rw [hfl,htl,hcl]) aa (fun v hv=>by
        obtain ⟨j,hj⟩:=List.getElem?_of_mem (List.mem_of_mem_take hv)
        exact hri.one j v (by simpa using hj)) (fun j y u hy hu=>by
        have hy':=adD _ hx1 j y hy;rw [List.getElem?_take] at hy';simp only [cs] at hu;rw [List.getElem?_take] at hu
        split at hy'
        ·split at hu
         ·exact hri.is j 0 [y] y u hy' rfl (by rw [hz,Nat.mul_one,Nat.add_zero];simpa using hu)
         ·cases hu
        ·cases hy')
       rw [hcl] at r1 r2 ⊢;exact ⟨_,_,_,h,r1.more,r2.trans Step.more,.d (.int _ _)⟩
    ·exact h.elim
   ·exact h.elim
  ·exact h.elim
 ·exact h.elim
theorem W9 {t:TypeId} {v:AV} {cells:List AV} {xs:Array Value} {off:Nat} {S:Nat→Prop} (hl:ldv P t cells=some v)
  (hx:∀ (j:Nat) (y:AV),cells[j]?=some y→∃ x,xs[off+j]?=some x∧x.oneCell'=true∧AIs w S σ hp U y x) :
  ∃ x,(part t xs off).run P w=.ok x w∧AIs w S σ hp U v x:=by
 have agg:∀ d,P.underlying t=some d→isA d=true→P.cellsOf t≤cells.length→v=.agg (cells.take (P.cellsOf t)) →
   ∃ x,(part t xs off).run P w=.ok x w∧AIs w S σ hp U v x:=by
  intro d hu hd' hle hv';subst hv';refine ⟨.agg (xs.extract off (off+P.cellsOf t)),?_,?_⟩
  ·unfold part;rw [Sem.run_bind,K8 hu,hd'];simp [W6 hu]
  ·have hsz:P.cellsOf t=0 ∨ off+P.cellsOf t≤xs.size:=by
    rcases Nat.eq_zero_or_pos (P.cellsOf t) with h0 | h0
    ·exact .inl h0
    ·obtain ⟨x,q1,_,_⟩:=hx (P.cellsOf t - 1) _ (List.getElem?_eq_getElem aa);have:=(Array.getElem?_eq_some_iff.1 q1).1;exact .inr aa
   refine .agg _ _ (by simp;omega) (fun i x hxi=>?_) (fun i c' x hc hxi=>?_)
   ·rw [Array.getElem?_extract] at hxi
    split at hxi
    ·rename_i hlt;obtain ⟨x',q1,q2,_⟩:=hx i _ (List.getElem?_eq_getElem aa);rw [q1] at hxi;injection hxi with hxi;subst hxi;exact q2
    ·cases hxi
   ·rw [Array.getElem?_extract] at hxi;rw [List.getElem?_take] at hc
    split at hc
    ·split at hxi
     ·obtain ⟨x',q1,_,q3⟩:=hx i _ hc;rw [q1] at hxi;injection hxi with hxi;subst hxi;exact q3
     ·cases hxi
    ·cases hc
 have scal:∀ d,P.underlying t=some d→isA d=false→cells.head?=some v →
   ∃ x,(part t xs off).run P w=.ok x w∧AIs w S σ hp U v x:=by
  intro d hu hd' hh;have h0:cells[0]?=some v:=by rw [← List.head?_eq_getElem?];exact hh
  obtain ⟨x,q1,_,q3⟩:=hx 0 v h0;rw [Nat.add_zero] at q1;refine ⟨x,?_,q3⟩;unfold part;rw [Sem.run_bind,K8 hu,hd'];simp [q1]
 unfold ldv at hl
 cases hu:P.underlying t with
 | none=>simp [B7,hu] at hl
 | some d =>
  cases d with
  | struct F =>
   simp only [B7,hu] at hl
   split at hl
   ·injection hl with hl;exact agg _ hu rfl ‹_› hl.symm
   ·cases hl
  | array n e =>
   simp only [B7,hu] at hl
   split at hl
   ·injection hl with hl;exact agg _ hu rfl ‹_› hl.symm
   ·cases hl
  | _=>simp only [B7,hu] at hl;exact scal _ hu rfl hl
theorem amI (hr:Rel c hp U σ w) (E:∀ x,AIs w (z7 c w σ hp) σ hp U (ev fr x) (a.eval x)) {t:TypeId} {x:Operand} {i:Nat} (hop:o.op=.field t x i) (h:A6 P fr hp N (.field t x i) K) :
  OpOk P c K hp U N σ w ((execOp a.eval o).run P w):=by
 simp only [A6] at h
 split at h
 ·rename_i cs o' ft hx hf;have hx':=E x;rw [hx] at hx';generalize hvx:a.eval x=vx at hx'
  cases hx' with
  | agg _ xs hl h2 h3 =>
   split at h
   ·rename_i v hv;obtain ⟨F,f,hu,hF,rfl,rfl⟩:=YB hf
    obtain ⟨y,hy,hi⟩:=W9 (w:=w) (xs:=xs) (off:=f.offset) hv fun j y hy=>by
     rw [List.getElem?_drop] at hy;have hlt:f.offset+j<xs.size:=by rw [← hl];exact (List.getElem?_eq_some_iff.1 hy).1
     exact ⟨xs[f.offset+j],Array.getElem?_eq_getElem hlt,h2 _ _ (Array.getElem?_eq_getElem hlt),h3 _ y _ hy (Array.getElem?_eq_getElem hlt)⟩
    refine OpOk.val (x:=y) ?_ (Good.same hr h hi);simp [execOp,hop,hvx,Instr.field,asAgg,run_underlying hu,hF,hy]
   ·exact h.elim
 ·exact h.elim
theorem amJ (hr:Rel c hp U σ w) (E:∀ x,AIs w (z7 c w σ hp) σ hp U (ev fr x) (a.eval x)) {t:TypeId} {x i:Operand} (hop:o.op=.index t x i) (h:A6 P fr hp N (.index t x i) K) :
  OpOk P c K hp U N σ w ((execOp a.eval o).run P w):=by
 simp only [A6] at h
 split at h
 ·rename_i n el cs k m hk hx hi;obtain ⟨h0,h1,h⟩:=h;have hx':=E x;rw [hx] at hx';have hi':=J5 (hi ▸ E i);generalize hvx:a.eval x=vx at hx'
  cases hx' with
  | agg _ xs hl h2 h3 =>
   split at h
   ·rename_i hs;obtain ⟨hz,h⟩:=h
    split at h
    ·rename_i v hv;have hlt:m.toNat<xs.size:=by rw [← hl];exact (List.getElem?_eq_some_iff.1 hv).1
     refine OpOk.val (x:=xs[m.toNat]) ?_ (Good.same hr h (h3 _ v _ hv (Array.getElem?_eq_getElem hlt)))
     have hagg:(isAgg el).run P w=.ok false w:=by
      have hd:∃ d,P.underlying el=some d∧isA d=false:=by
       unfold B7 at hs
       cases hu:P.underlying el with
       | none=>rw [hu] at hs;cases hs
       | some d =>
        rw [hu] at hs;refine ⟨d,rfl,?_⟩
        cases d <;> first | rfl | cases hs
      obtain ⟨d,hu,hda⟩:=hd;rw [K8 hu,hda]
     have hmn:m.toNat*1=m.toNat:=Nat.mul_one _;simp [execOp,hop,hvx,hi',Instr.index,asIntOf,run_underlying (RL hk),h0,h1,u7 (P:=P) (w:=w) (t:=el) (by rw [hz];decide),hz,part,hagg,hlt]
    ·exact h.elim
   ·obtain ⟨hz,h⟩:=h
    split at h
    ·rename_i v hv
     obtain ⟨y,hy,hiy⟩:=W9 (w:=w) (xs:=xs) (off:=m.toNat*P.cellsOf el) hv fun j y hy=>by
      rw [List.getElem?_drop] at hy;have hlt:m.toNat*P.cellsOf el+j<xs.size:=by rw [← hl];exact (List.getElem?_eq_some_iff.1 hy).1
      exact ⟨xs[m.toNat*P.cellsOf el+j],Array.getElem?_eq_getElem hlt,h2 _ _ (Array.getElem?_eq_getElem hlt),h3 _ y _ hy (Array.getElem?_eq_getElem hlt)⟩
     refine OpOk.val (x:=y) ?_ (Good.same hr h hiy);simp [execOp,hop,hvx,hi',Instr.index,asIntOf,run_underlying (RL hk),h0,h1,u7 (P:=P) (w:=w) (t:=el) hz,hy]
    ·exact h.elim
   ·exact h.elim
 ·rename_i bs k m hk hx hi;obtain ⟨h0,h⟩:=h;have hx':=E x;rw [hx] at hx';have hi':=J5 (hi ▸ E i)
  split at h
  ·rename_i b hv;generalize hvx:a.eval x=vx at hx'
   cases hx' with
   | d hd =>
    cases hd with
    | str s =>
     rw [List.getElem?_map,Option.map_eq_some_iff] at hv;obtain ⟨c',hc',rfl⟩:=hv;rw [Array.getElem?_toList] at hc';have hlt:m.toNat<s.size:=(Array.getElem?_eq_some_iff.1 hc').1
     have hs:s[m.toNat]?=some c':=by
      rw [getElem?_pos s m.toNat hlt];exact congrArg some (Array.getElem?_eq_some_iff.1 hc').2
     refine OpOk.val (x:=.int .u8 (c'.toNat:Int)) ?_ (Good.same hr h (.d (.int .u8 _)));simp [execOp,hop,hvx,hi',Instr.index,asIntOf,run_underlying (VL hk),h0,hs]
  ·exact h.elim
 ·exact h.elim
section
variable {ts tx ty el:TypeId} {i:TypeInfo} {z:Value}
theorem aaO {k':IntKind} (hts:P.underlying ts=some (.slice el)) (htx:P.underlying tx=some (.int k')) (hi:P.info? el=some i) (hz:i.zero=some z) (hzs:z.cells.size=i.size) (hne:i.size ≠ 0) {base:Option Addr} {sLen sCap:Nat} {n:Int} {w':World} (h0:0≤n) (h1:n≤4294967296) (h2:i.bytes*n≤281474976710656)
  (hneed:sLen+n.toNat≤sCap) (hsto:(match base with | some a=>storeCells (a.add (sLen*i.size)) (Builtin.zeroCells z.cells n.toNat).toList | none=>pure ()).run P w=.ok () w') :
  (Builtin.append_ #[ts,tx] ty #[.slice base sLen sCap,.int k' n]).run P w=.ok (.slice base (sLen+n.toNat) sCap) w':=by
 have hw:IntKind.i64.wrap n=n:=IntWalk.i64_in _ aa;have h3:¬ (281474976710656<n*i.bytes):=by rw [Int.mul_comm];omega
 have h4:¬ n<0:=aa;by_cases hn0:n.toNat*i.size=0
 ·have hn1:n.toNat=0:=by
   rcases Nat.mul_eq_zero.1 hn0 with h | h
   ·exact h
   ·exact absurd h hne
  have hzc:Builtin.zeroCells z.cells n.toNat=#[]:=by rw [hn1];simp [Builtin.zeroCells]
  rw [hzc] at hsto
  cases base with
  | none =>
   simp at hsto;subst hsto;simp [Builtin.append_,run_underlying hts,run_underlying htx,sizeOf,typeInfo,hi,asInt,asIntOf,hw,h3,h4,hneed,hn0]
  | some ad =>
   simp only at hsto;simp [Builtin.append_,run_underlying hts,run_underlying htx,sizeOf,typeInfo,hi,asInt,asIntOf,hw,h3,h4,hneed,hn0,hsto]
 ·cases base with
  | none =>
   simp at hsto;subst hsto;simp [Builtin.append_,run_underlying hts,run_underlying htx,sizeOf,typeInfo,hi,hz,zeroValue,asInt,asIntOf,hw,h3,h4,hneed,hn0]
  | some ad =>
   simp only at hsto;simp [Builtin.append_,run_underlying hts,run_underlying htx,sizeOf,typeInfo,hi,hz,zeroValue,asInt,asIntOf,hw,h3,h4,hneed,hn0,hsto]
theorem aaP {k':IntKind} (hts:P.underlying ts=some (.slice el)) (htx:P.underlying tx=some (.int k')) (hi:P.info? el=some i) (hz:i.zero=some z) (hzs:z.cells.size=i.size) (hne:i.size ≠ 0) {base:Option Addr} {sLen sCap:Nat} {n:Int} {os:Array Value} (h0:0≤n) (h1:n≤4294967296) (h2:i.bytes*n≤281474976710656)
  (hfo:(Builtin.firstCells i.size sLen (.slice base sLen sCap)).run P w.drew=.ok os w.drew) (hneed:sCap<sLen+n.toNat) (hb:i.bytes ≠ 0) (hfit:(sLen+n.toNat)*i.bytes≤140737488355328) :
  (Builtin.append_ #[ts,tx] ty #[.slice base sLen sCap,.int k' n]).run P w=.ok (.slice (some ⟨w.heap.size,0,none⟩) (sLen+n.toNat) (grownCap w (sLen+n.toNat) sCap el))
    (w.drew.alloc (.cells (os ++ Builtin.zeroCells z.cells n.toNat ++ Builtin.zeroCells z.cells (grownCap w (sLen+n.toNat) sCap el - (sLen+n.toNat))) el)):=by
 have hw:IntKind.i64.wrap n=n:=IntWalk.i64_in _ aa;have h3:¬ (281474976710656<n*i.bytes):=by rw [Int.mul_comm];omega
 have h4:¬ n<0:=aa;have hn:¬ (sLen+n.toNat≤sCap):=aa
 have h48':¬ (281474976710656<Builtin.nextslicecap (sLen+n.toNat) sCap*i.bytes):=by
  have:=growslice_fits hneed hfit;omega
 have hbig:¬ ((IntKind.i64.max:Int)<sLen+n.toNat):=by
  have h5:sLen+n.toNat≤(sLen+n.toNat)*i.bytes:=Nat.le_mul_of_pos_right _ aa;have h6:IntKind.i64.max=9223372036854775807:=by decide
  omega
 have hbig2:¬ (9223372036854775807<(sLen:Int)+max n 0):=by
  have h6:IntKind.i64.max=9223372036854775807:=by decide
  rw [h6] at hbig;omega
 by_cases hn0:n.toNat*i.size=0
 ·have hn1:n.toNat=0:=by
   rcases Nat.mul_eq_zero.1 hn0 with h | h
   ·exact h
   ·exact absurd h hne
  have hzc:Builtin.zeroCells z.cells n.toNat=#[]:=by rw [hn1];simp [Builtin.zeroCells]
  rw [hzc];simp [Builtin.append_,run_underlying hts,run_underlying htx,sizeOf,typeInfo,zeroValue,hi,hz,asInt,asIntOf,hw,h3,h4,hn,hn0,hb,h48',Question.forced,hfo,newRow,grownCap]
  all_goals (intro hh;exact absurd hh hbig2)
 ·simp [Builtin.append_,run_underlying hts,run_underlying htx,sizeOf,typeInfo,zeroValue,hi,hz,asInt,asIntOf,hw,h3,h4,hn,hn0,hb,h48',Question.forced,hfo,newRow,grownCap]
  all_goals (intro hh;exact absurd hh hbig2)
end
theorem ah7 (hr:Rel c hp U σ w) (E:∀ x,AIs w (z7 c w σ hp) σ hp U (ev fr x) (a.eval x)) {ts tx:TypeId} {s x:Operand} {cl:Call} (hop:o.op=.call cl) (hc:cl.callee=.builtin .append) (ha:cl.args.toList=[s,x]) (ht:cl.argTypes.toList=[ts,tx])
  {el:TypeId} {id i0 len tot:Nat} {k:IntKind} {n:Int} {z:List AV} (hks:B7 P ts=.slice el) (hkx:B7 P tx=.scal) (hs:ev fr s=.own id i0 len tot) (hx:ev fr x=.d (.int k n)) (hk:SU P tx=some k) (h0:0≤n) (h1:n≤4294967296) (h2:P.bytesOf el*n≤281474976710656) (hz:P2 P el=some z)
  (h:M5 P el (.own id i0 len tot) (some (List.replicate n.toNat z)) N K hp):OpOk P c K hp U N σ w ((execOp a.eval o).run P w):=by
 have ha':cl.args=#[s,x]:=by rw [← Array.toArray_toList (xs:=cl.args),ha]
 have ht':cl.argTypes=#[ts,tx]:=by rw [← Array.toArray_toList (xs:=cl.argTypes),ht]
 have hxi:=J5 (hx ▸ E x)
 have run:∀ (v:Value) (w':World),(Builtin.append_ #[ts,tx] o.type #[a.eval s,.int k n]).run P w=.ok v w'→(execOp a.eval o).run P w=.ok (.value v) w':=by
  intro v w' hv;simp [execOp,hop,resolve,hc,ha',ht',invoke,builtin,hxi,hv]
 have hss:=E s;rw [hs] at hss;generalize hsv:a.eval s=sv at hss run;have hts:=y6 hks
 have htx:P.underlying tx=some (.int k):=by
  unfold SU at hk
  split at hk
  ·rename_i k' hu;injection hk with hk;rw [hu,hk]
  ·cases hk
 obtain ⟨v,i,hi,hzv,hzs,hne,hzl,hli⟩:=aa7 (w:=w) (S:=z7 c w σ hp) (σ:=σ) (hp:=hp) (U:=U) hz;have his:i.size=P.cellsOf el:=by simp [Program.cellsOf,hi]
 have hib:i.bytes=P.bytesOf el:=by simp [Program.bytesOf,hi]
 have zone:∀ (z:Value) (m:Nat),(∀ (n:Nat) (v:Value),z.cells[n]?=some v→v.oneCell'=true)→z.cells.size ≠ 0→∀ (n:Nat) (v:Value),(Builtin.zeroCells z.cells m)[n]?=some v→v.oneCell'=true:=by
  intro z m hz1 hz0 n v hv;unfold Builtin.zeroCells at hv;simp only [Array.getElem?_map,Option.map_eq_some_iff] at hv;obtain ⟨k,_,rfl⟩:=hv;have hlt:k % z.cells.size<z.cells.size:=Nat.mod_lt _ aa;exact hz1 (k % z.cells.size) _ (by simp [hlt])
 unfold M5 at h
 split at h
 ·rename_i hq _
  cases hq
 ·rename_i id' len' tot' xs hq hxs;injection hq with q1 q2 q3 q4;subst q1;subst q2;subst q3;subst q4;injection hxs with hxs;subst hxs
  split at h
  ·rename_i b hb;obtain ⟨ht1,ht2,ht3,q,hby,hfit,hst,hgr⟩:=h;rw [List.length_replicate] at hfit;refine agH (i:=i) (z:=v) hr hss hb ht1 ht2 ht3 hst hgr his hzs hne hli.one zone (fun A cap e hneed=>?_) (fun A cap os e hneed hos=>?_)
   ·subst e;rw [List.length_replicate] at hneed ⊢;refine ⟨Builtin.zeroCells v.cells n.toNat,by rw [size_zeroCells,hzs],?_,fun w' hsto=>run _ _ (aaO (ty:=o.type) hts htx hi hzv (by rw [hzs,his]) (by rw [his];exact hne) h0 h1 (by rw [hib];exact h2) hneed hsto)⟩;have:=VP (P:=P) (el:=el) hli hzs hne n.toNat
    rw [← hzs] at this ⊢;exact this
   ·subst e;rw [List.length_replicate] at hneed ⊢;refine ⟨Builtin.zeroCells v.cells n.toNat,by rw [size_zeroCells,hzs],?_,run _ _ (aaP (ty:=o.type) hts htx hi hzv (by rw [hzs,his]) (by rw [his];exact hne) h0 h1 (by rw [hib];exact h2) hos aa (by rw [hib];exact hby) (by rw [hib];exact hfit))⟩;have hli':LIs w.drew (z7 c w.drew σ hp) σ hp U z v.cells:=⟨hli.len,hli.one,fun i c x hc hx=>(hli.is i c x hc hx).step C2⟩;have:=VP (P:=P) (el:=el) hli' hzs hne n.toNat
    rw [← hzs] at this ⊢;exact this
  ·exact h.elim
 ·rename_i hq _
  cases hq
 ·rename_i hq _
  cases hq
 ·exact h.elim
theorem afs (hr:Rel c hp U σ w) (E:∀ x,AIs w (z7 c w σ hp) σ hp U (ev fr x) (a.eval x)) {f:FuncId} {caps:Array Operand} (hop:o.op=.makeFunc (.func f) #[] caps) (h:K (.fn f (caps.toList.map (ev fr))) hp):OpOk P c K hp U N σ w ((execOp a.eval o).run P w):=by
 have run:(execOp a.eval o).run P w=.ok (.value (.func (.func f) #[] (caps.map a.eval))) w:=by simp [execOp,hop,Instr.makeFunc]
 refine OpOk.val run (Good.same hr h (.fn f _ _ ab fun i cc x hc hx=>?_));rw [List.getElem?_map,Array.getElem?_toList] at hc;rw [Array.getElem?_map] at hx
 cases hq:caps[i]? with
 | none=>rw [hq] at hc;cases hc
 | some y =>
  rw [hq] at hc hx;simp only [Option.map_some,Option.some.injEq] at hc hx;subst hc;subst hx;exact E y
theorem asl (hr:Rel c hp U σ w) (E:∀ x,AIs w (z7 c w σ hp) σ hp U (ev fr x) (a.eval x)) {x y:Operand} {tx ty:TypeId} {cl:Call} (hop:o.op=.call cl) (hc:cl.callee=.builtin .max) (ha:cl.args.toList=[x,y]) (ht:cl.argTypes.toList=[tx,ty])
  (h:biW P fr hp N .max [x,y] [tx,ty] K):OpOk P c K hp U N σ w ((execOp a.eval o).run P w):=by
 simp only [biW] at h;have ha':cl.args=#[x,y]:=by rw [← Array.toArray_toList (xs:=cl.args),ha]
 have ht':cl.argTypes=#[tx,ty]:=by rw [← Array.toArray_toList (xs:=cl.argTypes),ht]
 split at h
 ·rename_i k m k' n hx hy;have h1:=J5 (hx ▸ E x);have h2:=J5 (hy ▸ E y)
  have run:(execOp a.eval o).run P w=.ok (.value (.int k (if n > m then n else m))) w:=by
   simp [execOp,hop,resolve,hc,ha',ht',invoke,builtin,h1,h2,Builtin.max_,Builtin.max2]
  exact OpOk.val run (Good.same hr h (.d (.int k _)))
 ·exact h.elim
theorem asm (hr:Rel c hp U σ w) (E:∀ x,AIs w (z7 c w σ hp) σ hp U (ev fr x) (a.eval x)) {x y:Operand} {tx ty:TypeId} {cl:Call} (hop:o.op=.call cl) (hc:cl.callee=.builtin .min) (ha:cl.args.toList=[x,y]) (ht:cl.argTypes.toList=[tx,ty])
  (h:biW P fr hp N .min [x,y] [tx,ty] K):OpOk P c K hp U N σ w ((execOp a.eval o).run P w):=by
 simp only [biW] at h;have ha':cl.args=#[x,y]:=by rw [← Array.toArray_toList (xs:=cl.args),ha]
 have ht':cl.argTypes=#[tx,ty]:=by rw [← Array.toArray_toList (xs:=cl.argTypes),ht]
 split at h
 ·rename_i k m k' n hx hy;have h1:=J5 (hx ▸ E x);have h2:=J5 (hy ▸ E y)
  have run:(execOp a.eval o).run P w=.ok (.value (.int k (if n<m then n else m))) w:=by
   simp [execOp,hop,resolve,hc,ha',ht',invoke,builtin,h1,h2,Builtin.min_,Builtin.min2]
  exact OpOk.val run (Good.same hr h (.d (.int k _)))
 ·exact h.elim
theorem Xa (hr:Rel c hp U σ w) (E:∀ x,AIs w (z7 c w σ hp) σ hp U (ev fr x) (a.eval x)) (hN:Free U N) (h:A6 P fr hp N o.op K):OpOk P c K hp U N σ w ((execOp a.eval o).run P w):=by
 generalize hop:o.op=op at h
 cases op with
 | move x=>exact aje hr E (.inl hop) h
 | assign x=>exact aje hr E (.inr hop) h
 | pick x y z=>exact apG hr E hop h
 | binOp op t x y t'=>exact asf hr E hop h
 | unOp op t x=>exact au5 hr E hop h
 | nilCheck x=>exact afn hr E hop h
 | extract x i=>exact ah2 hr E hop h
 | convert s t x=>exact ah3 hr E hop (fun bs el h1 h2 h3 h4 h5=>afr hr E hop h1 h2 h3 h4 h5) (fun bs el h1 h2 h3 h4 h5 h6=>afq hr E hop h1 h2 h3 h4 h5 h6) h
 | load t x=>exact apI hr E hop h
 | fieldAddr t x i=>exact adv hr E hop h
 | indexAddr t x ix=>exact adw hr E hop h
 | alloc t=>exact amE hr hN hop h
 | build t parts=>exact amF hr E hop h
 | buildSlice t n parts=>exact ab6 hr E hN hop h
 | slice t x lo hi m =>
  cases m with
  | none=>exact amG hr E hop h
  | some m=>exact ajn hr E hop h
 | index t x i=>exact amJ hr E hop h
 | field t x i=>exact amI hr E hop h
 | makeSlice t l m=>exact apL hr E hN hop h
 | makeFunc fn first caps =>
  cases fn with
  | func f =>
   obtain ⟨rfl,h⟩:=h;exact afs hr E hop h
  | _=>exact h.elim
 | sliceToArrayPointer t x=>exact asj hr E hop h
 | box t x=>exact asg hr E hN hop h
 | store t x v=>exact amD hr E hop h
 | makeMap t r =>
  cases r with
  | none=>exact ah5 hr hN hop h
  | some r=>exact h.elim
 | lookup t m x ok =>
  cases ok with
  | false=>exact ajm hr E hop h
  | true=>exact h.elim
 | mapUpdate t m x v=>exact adC hr E hop h
 | call cl =>
  simp only [A6] at h
  split at h
  ·rename_i b hb;generalize ha:cl.args.toList=as at h;generalize ht:cl.argTypes.toList=ts at h
   cases b with
   | len =>
    match as,ts,h with
    | [x],[t],h=>exact ash hr E hop hb ha ht h
   | append =>
    match as,ts,h with
    | [s,x],[t,u],h=>exact aji hr E hN hop hb ha ht (fun el id i0 len tot k n z h1 h2 h3 h4 h5 h6 h7 h8 h9 h10=>ah7 hr E hop hb ha ht h1 h2 h3 h4 h5 h6 h7 h8 h9 h10) h
   | copy =>
    match as,ts,h with
    | [s,x],[t,u],h=>exact apM hr E hop hb ha ht h
   | max =>
    match as,ts,h with
    | [s,x],[t,u],h=>exact asl hr E hop hb ha ht h
   | min =>
    match as,ts,h with
    | [s,x],[t,u],h=>exact asm hr E hop hb ha ht h
   | _=>exact h.elim
  ·rename_i f hf
   split at h
   ·exact apJ hr E hN hop hf ‹_› h
   ·exact h.elim
  ·exact h.elim
 | _=>exact h.elim
end
end Go.Am
namespace Go.Am
section
variable {P:Program} {fr fr':Fr} {hp hp':Hp} {N N':Nat} {K K':AV→Hp→Prop}
theorem XZ {d:Int} {x:Option Operand} (h:∀ y,x=some y→ev fr y=ev fr' y):bnd fr d x=bnd fr' d x:=by
 cases x with
 | none=>rfl
 | some y=>simp only [bnd,h y rfl]
theorem Xb {l:List (Nat × Operand)} (h:∀ p,p ∈ l→ev fr p.2=ev fr' p.2):(l.map fun p=>(p.1,ev fr p.2))=l.map fun p=>(p.1,ev fr' p.2):=by
 apply List.map_congr_left;intro p hp;rw [h p hp]
theorem X0 {op:Op} (h:∀ x,x ∈ op.operands→ev fr x=ev fr' x):A6 P fr hp N op K=A6 P fr' hp N op K:=by
 cases op with
 | build t parts =>
  simp only [A6];rw [Xb (fr:=fr) (fr':=fr') fun p hp=>h p.2 (by simp only [Op.operands,List.mem_toArray,List.mem_map];exact ⟨p,hp,rfl⟩)]
 | buildSlice t n parts =>
  simp only [A6];rw [Xb (fr:=fr) (fr':=fr') fun p hp=>h p.2 (by simp only [Op.operands,List.mem_toArray,List.mem_map];exact ⟨p,hp,rfl⟩)]
 | slice t x lo hi m =>
  cases m with
  | some m =>
   have ho:afk fr hi=afk fr' hi:=by
    cases hi with
    | none=>rfl
    | some y=>simp only [afk];rw [h y (by simp [Op.operands])]
   simp only [A6];rw [h x (by simp [Op.operands]),XZ (fr:=fr) (fr':=fr') (x:=lo) fun y hy=>h y (by subst hy;simp [Op.operands]),ho,h m (by simp [Op.operands])]
  | none =>
   simp only [A6];rw [h x (by simp [Op.operands]),XZ (fr:=fr) (fr':=fr') (x:=lo) fun y hy=>h y (by subst hy;simp [Op.operands]),XZ (fr:=fr) (fr':=fr') (x:=hi) fun y hy=>h y (by subst hy;simp [Op.operands])]
 | call cl =>
  have ha:∀ x,x ∈ cl.args.toList→ev fr x=ev fr' x:=fun x hx=>h x (by
   obtain ⟨callee,args,ats⟩:=cl
   cases callee <;> simp_all [Op.operands,Call.operands])
  simp only [A6]
  cases hc:cl.callee with
  | builtin b =>
   simp only;generalize cl.args.toList=as at ha;generalize cl.argTypes.toList=ts
   cases b with
   | len =>
    match as,ts,ha with
    | [],_,_=>rfl
    | [x],[],_=>rfl
    | [x],[t],ha=>simp only [biW];rw [ha x ab]
    | [x],_ :: _ :: _,_=>rfl
    | _ :: _ :: _,_,_=>rfl
   | append =>
    match as,ts,ha with
    | [],_,_=>rfl
    | [s],_,_=>rfl
    | [s,x],[],_=>rfl
    | [s,x],[_],_=>rfl
    | [s,x],[t,u],ha=>simp only [biW];rw [ha x ab,ha s ab]
    | [s,x],_ :: _ :: _ :: _,_=>rfl
    | _ :: _ :: _ :: _,_,_=>rfl
   | copy =>
    match as,ts,ha with
    | [],_,_=>rfl
    | [s],_,_=>rfl
    | [s,x],[],_=>rfl
    | [s,x],[_],_=>rfl
    | [s,x],[t,u],ha=>simp only [biW];rw [ha x ab,ha s ab]
    | [s,x],_ :: _ :: _ :: _,_=>rfl
    | _ :: _ :: _ :: _,_,_=>rfl
   | max =>
    match as,ts,ha with
    | [],_,_=>rfl
    | [s],_,_=>rfl
    | [s,x],[],_=>rfl
    | [s,x],[_],_=>rfl
    | [s,x],[t,u],ha=>simp only [biW];rw [ha x ab,ha s ab]
    | [s,x],_ :: _ :: _ :: _,_=>rfl
    | _ :: _ :: _ :: _,_,_=>rfl
   | min =>
    match as,ts,ha with
    | [],_,_=>rfl
    | [s],_,_=>rfl
    | [s,x],[],_=>rfl
    | [s,x],[_],_=>rfl
    | [s,x],[t,u],ha=>simp only [biW];rw [ha x ab,ha s ab]
    | [s,x],_ :: _ :: _ :: _,_=>rfl
    | _ :: _ :: _ :: _,_,_=>rfl
   | _=>rfl
  | value f =>
   simp only
   have hf:ev fr f=ev fr' f:=h f (by
    obtain ⟨callee,args,ats⟩:=cl;simp only at hc;subst hc
    simp [Op.operands,Call.operands])
   have hm:cl.args.toList.map (ev fr)=cl.args.toList.map (ev fr'):=List.map_congr_left ha;rw [hf,hm]
  | invoke _ _=>rfl
 | move x=>simp only [A6];rw [h x (by simp [Op.operands])]
 | assign x=>simp only [A6];rw [h x (by simp [Op.operands])]
 | pick x y z=>simp only [A6];rw [h x (by simp [Op.operands]),h y (by simp [Op.operands]),h z (by simp [Op.operands])]
 | binOp op t x y t'=>simp only [A6];rw [h x (by simp [Op.operands]),h y (by simp [Op.operands])]
 | unOp op t x =>
  have hx:=h x (by simp [Op.operands])
  cases op <;> simp only [A6] <;> rw [hx]
 | nilCheck x=>simp only [A6];rw [h x (by simp [Op.operands])]
 | extract x i=>simp only [A6];rw [h x (by simp [Op.operands])]
 | convert s t x=>simp only [A6];rw [h x (by simp [Op.operands])]
 | load t x=>simp only [A6];rw [h x (by simp [Op.operands])]
 | fieldAddr t x i=>simp only [A6];rw [h x (by simp [Op.operands])]
 | indexAddr t x ix=>simp only [A6];rw [h x (by simp [Op.operands]),h ix (by simp [Op.operands])]
 | box t x=>simp only [A6];rw [h x (by simp [Op.operands])]
 | index t x i=>simp only [A6];rw [h x (by simp [Op.operands]),h i (by simp [Op.operands])]
 | field t x i=>simp only [A6];rw [h x (by simp [Op.operands])]
 | makeFunc fn first caps =>
  cases fn with
  | func f =>
   simp only [A6];have hm:caps.toList.map (ev fr)=caps.toList.map (ev fr'):=List.map_congr_left fun x hx=>h x (by simp [Op.operands];exact .inr (by simpa using hx));rw [hm]
  | _=>rfl
 | makeSlice t l m=>simp only [A6];rw [h l (by simp [Op.operands]),h m (by simp [Op.operands])]
 | sliceToArrayPointer t x=>simp only [A6];rw [h x (by simp [Op.operands])]
 | store t x v=>simp only [A6];rw [h x (by simp [Op.operands]),h v (by simp [Op.operands])]
 | lookup t m x ok=>cases ok <;> first | rfl | (simp only [A6];rw [h m (by simp [Op.operands]),h x (by simp [Op.operands])])
 | mapUpdate t m x v=>simp only [A6];rw [h m (by simp [Op.operands]),h x (by simp [Op.operands]),h v (by simp [Op.operands])]
 | makeMap t r=>cases r <;> rfl
 | _=>rfl
def YC (hp hp':Hp):Prop:=∀ id b,lk id hp=some b→lk id hp'=some b
theorem aft {hp hp':Hp} {sz:Nat} {v:AV} {xs:List (List AV)} (ha:YC hp hp') (h:D9 hp sz v=some xs):D9 hp' sz v=some xs:=by
 cases v with
 | own id i0 len tot =>
  simp only [D9] at h ⊢
  cases hb:lk id hp with
  | none=>rw [hb] at h;cases h
  | some b=>rw [hb] at h;rw [ha _ _ hb];exact h
 | sub id i off e len cap tot =>
  simp only [D9] at h ⊢
  cases hb:lk id hp with
  | none=>rw [hb] at h;cases h
  | some b=>rw [hb] at h;rw [ha _ _ hb];exact h
 | d v=>cases v <;> exact h
 | _=>exact h
def s5 (P:Program):Op→Bool
 | .move _=>true
 | .assign _=>true
 | .pick ..=>true
 | .binOp _ t _ _ _=>match B7 P t with
  | .slice _=>false
  | _=>true
 | .unOp ..=>true
 | .nilCheck _=>true
 | .extract ..=>true
 | .convert _ t _=>match B7 P t with
  | .slice _=>false
  | _=>true
 | .sliceToArrayPointer ..=>true
 | .load ..=>true
 | .fieldAddr ..=>true
 | .indexAddr ..=>true
 | .index ..=>true
 | .field ..=>true
 | .build ..=>true
 | .slice ..=>true
 | .call cl=>match cl.callee with
  | .builtin .len=>true
  | _=>false
 | _=>false
def Vo (P:Program) (fr:Fr) (hp:Hp) (op:Op) (v:AV):Prop:=∀ hp' N' K',YC hp hp'→K' v hp'→A6 P fr hp' N' op K'
theorem afu {op:BinOp} {k:IntKind} {x y:Int} (h:TF op k x y K hp):∃ v,K v hp∧∀ hp' (K':AV→Hp→Prop),K' v hp'→TF op k x y K' hp':=by
 cases op <;> simp only [TF] at h ⊢
 case quo=>exact ⟨_,h.2,fun _ _ q=>⟨h.1,q⟩⟩
 case rem=>exact ⟨_,h.2,fun _ _ q=>⟨h.1,q⟩⟩
 case shl=>exact ⟨_,h.2,fun _ _ q=>⟨h.1,q⟩⟩
 case shr=>exact ⟨_,h.2,fun _ _ q=>⟨h.1,q⟩⟩
 all_goals exact ⟨_,h,fun _ _ q=>q⟩
theorem afv {op:BinOp} {t:TypeId} {x y:AV} (hs:∀ e,B7 P t ≠ .slice e) (h:G9 P op t x y K hp):∃ v,K v hp∧∀ hp' (K':AV→Hp→Prop),K' v hp'→G9 P op t x y K' hp':=by
 unfold G9 at h
 split at h
 ·obtain ⟨h1,h2⟩:=h;obtain ⟨v,q1,q2⟩:=afu h2;exact ⟨v,q1,fun hp' K' q=>by simp only [G9];exact ⟨h1,q2 hp' K' q⟩⟩
 ·split at h
  ·exact ⟨_,h.2,fun hp' K' q=>by simp only [G9];exact ⟨h.1,q⟩⟩
  ·exact ⟨_,h.2,fun hp' K' q=>by simp only [G9];exact ⟨h.1,q⟩⟩
  ·exact h.elim
 ·split at h
  ·exact ⟨_,h,fun hp' K' q=>by simp only [G9];exact q⟩
  ·exact ⟨_,h,fun hp' K' q=>by simp only [G9];exact q⟩
  ·exact ⟨_,h,fun hp' K' q=>by simp only [G9];exact q⟩
  ·exact ⟨_,h,fun hp' K' q=>by simp only [G9];exact q⟩
  ·exact ⟨_,h,fun hp' K' q=>by simp only [G9];exact q⟩
  ·exact ⟨_,h,fun hp' K' q=>by simp only [G9];exact q⟩
  ·exact ⟨_,h.2,fun hp' K' q=>by simp only [G9];exact ⟨h.1,q⟩⟩
  ·exact h.elim
 ·split at h
  all_goals first | exact absurd ‹B7 P t=_› (hs _) | exact h.elim
 ·exact h.elim
theorem ZE {op:BinOp} {t:TypeId} {b:Bool} (h:pnW P op t b K hp):∃ v,K v hp∧∀ hp' (K':AV→Hp→Prop),K' v hp'→pnW P op t b K' hp':=by
 obtain ⟨h1,h⟩:=h
 split at h
 ·exact ⟨_,h,fun hp' K' q=>⟨h1,q⟩⟩
 ·exact ⟨_,h,fun hp' K' q=>⟨h1,q⟩⟩
 ·exact h.elim
theorem ajo {op:BinOp} {t:TypeId} {n:Nat} {el:TypeId} {k:Option IntKind} {a b:List AV} (h:agW P op t n el k a b K hp):∃ v,K v hp∧∀ hp' (K':AV→Hp→Prop),K' v hp'→agW P op t n el k a b K' hp':=by
 unfold agW at h ⊢
 split at h
 ·split at h
  ·obtain ⟨h1,h2,h3,h4,h⟩:=h
   split at h
   ·exact ⟨_,h,fun hp' K' q=>⟨h1,h2,h3,h4,q⟩⟩
   ·exact ⟨_,h,fun hp' K' q=>⟨h1,h2,h3,h4,q⟩⟩
   ·exact h.elim
  ·exact h.elim
 ·exact h.elim
theorem ajp {op:BinOp} {t:TypeId} {a b:List AV} (h:sgW P op t a b K hp):∃ v,K v hp∧∀ hp' (K':AV→Hp→Prop),K' v hp'→sgW P op t a b K' hp':=by
 unfold sgW at h ⊢
 split at h
 ·obtain ⟨h1,h2,h3,h⟩:=h
  split at h
  ·exact ⟨_,h,fun hp' K' q=>⟨h1,h2,h3,q⟩⟩
  ·exact ⟨_,h,fun hp' K' q=>⟨h1,h2,h3,q⟩⟩
  ·exact h.elim
 ·exact h.elim
theorem ah8 {op:BinOp} {t:TypeId} {x y:AV} (hs:∀ e,B7 P t ≠ .slice e) (h:F4 P op t x y K hp):∃ v,K v hp∧∀ hp' (K':AV→Hp→Prop),K' v hp'→F4 P op t x y K' hp':=by
 unfold F4 at h ⊢
 split at h
 ·exact ZE h
 ·exact ZE h
 ·exact ZE h
 ·split at h
  ·exact ajo h
  ·exact ajp h
  ·exact h.elim
 ·exact afv hs h
theorem ah9 {op:Op} (hk:s5 P op=true) (h:A6 P fr hp N op K):∃ v,K v hp∧Vo P fr hp op v:=by
 unfold Vo
 cases op with
 | move x=>exact ⟨_,h,fun _ _ _ _ q=>q⟩
 | assign x=>exact ⟨_,h,fun _ _ _ _ q=>q⟩
 | pick c a b =>
  simp only [A6] at h ⊢
  split at h
  ·rename_i t ht
   split at h
   ·rename_i x y hx hy;exact ⟨_,h,fun hp' N' K' ha q=>q⟩
   ·rename_i hn
    cases t with
    | true =>
     refine ⟨_,h.1 rfl,fun hp' N' K' ha q=>?_⟩;exact ⟨fun _=>q,fun h=>by cases h⟩
    | false =>
     refine ⟨_,h.2 rfl,fun hp' N' K' ha q=>?_⟩;exact ⟨fun h=>(by cases h),fun _=>q⟩
  ·exact h.elim
 | binOp op t x y t' =>
  have hs:∀ e,B7 P t ≠ .slice e:=by
   intro e he;simp [s5,he] at hk
  obtain ⟨v,h1,h2⟩:=ah8 hs h;exact ⟨v,h1,fun hp' N' K' _ q=>h2 hp' K' q⟩
 | unOp op t x =>
  cases op with
  | not =>
   simp only [A6] at h ⊢
   split at h
   ·exact ⟨_,h,fun hp' N' K' ha q=>q⟩
   ·exact h.elim
  | neg =>
   simp only [A6] at h ⊢
   split at h
   ·exact ⟨_,h,fun hp' N' K' ha q=>q⟩
   ·exact h.elim
  | xor =>
   simp only [A6] at h ⊢
   split at h
   ·exact ⟨_,h,fun hp' N' K' ha q=>q⟩
   ·exact h.elim
  | _=>exact h.elim
 | nilCheck x =>
  simp only [A6] at h ⊢
  split at h
  all_goals first | exact ⟨_,h,fun hp' N' K' ha q=>q⟩ | exact h.elim
 | extract x i =>
  simp only [A6] at h ⊢
  split at h
  ·split at h
   ·exact ⟨_,h,fun hp' N' K' ha q=>q⟩
   ·exact h.elim
  ·exact h.elim
 | convert s t x =>
  simp only [A6] at h ⊢
  split at h
  ·obtain ⟨bs,h1,h2,h3⟩:=h
   split at h3
   ·exact ⟨_,h3.2,fun hp' N' K' ha q=>⟨bs,h1,h2,h3.1,q⟩⟩
   ·exact h3.elim
  ·split at h
   ·exact ⟨_,h,fun hp' N' K' ha q=>q⟩
   ·exact h.elim
  ·split at h
   ·rename_i el _ ht;simp [s5,ht] at hk
   ·exact h.elim
  ·rename_i v n1 n2 n3;obtain ⟨bs,h1,h2,h3⟩:=h
   split at h3
   ·refine ⟨_,h3.2,fun hp' N' K' ha q=>⟨bs,aft ha h1,h2,h3.1,q⟩⟩
   ·exact h3.elim
 | sliceToArrayPointer t x =>
  simp only [A6] at h ⊢;unfold ah1 at h ⊢
  split at h
  ·exact ⟨_,h.2.2,fun hp' N' K' ha q=>⟨h.1,h.2.1,q⟩⟩
  ·split at h
   ·rename_i b hb;refine ⟨_,h.2.2.2,fun hp' N' K' ha q=>?_⟩;simp only [ha _ _ hb];exact ⟨h.1,h.2.1,h.2.2.1,q⟩
   ·exact h.elim
  ·exact h.elim
 | load t x =>
  simp only [A6] at h ⊢
  split at h
  ·split at h
   ·rename_i b hb
    split at h
    ·rename_i row hrow;obtain ⟨ht,h⟩:=h
     split at h
     ·rename_i v hv;refine ⟨v,h,fun hp' N' K' ha q=>?_⟩;rw [ha _ _ hb];simp only [hrow,hv];exact ⟨ht,q⟩
     ·exact h.elim
    ·exact h.elim
   ·exact h.elim
  ·split at h
   ·exact ⟨_,h,fun hp' N' K' ha q=>q⟩
   ·exact h.elim
  ·exact h.elim
 | fieldAddr t x i =>
  simp only [A6] at h ⊢
  split at h
  ·exact ⟨_,h.2,fun hp' N' K' ha q=>⟨h.1,q⟩⟩
  ·exact ⟨_,h.2,fun hp' N' K' ha q=>⟨h.1,q⟩⟩
  ·exact h.elim
 | indexAddr t x ix =>
  simp only [A6] at h ⊢
  split at h
  ·split at h
   ·obtain ⟨h0,h1,h2,h⟩:=h
    split at h
    ·exact ⟨_,h,fun hp' N' K' ha q=>⟨h0,h1,h2,q⟩⟩
    ·exact h.elim
   ·obtain ⟨h0,h1,h⟩:=h
    split at h
    ·rename_i b hb;obtain ⟨k1,k2,k3,h⟩:=h;refine ⟨_,h,fun hp' N' K' ha q=>?_⟩;rw [ha _ _ hb];exact ⟨h0,h1,k1,k2,k3,q⟩
    ·exact h.elim
   ·obtain ⟨h0,h1,h⟩:=h
    split at h
    ·rename_i b hb;obtain ⟨k1,k2,k3,h⟩:=h;refine ⟨_,h,fun hp' N' K' ha q=>?_⟩;rw [ha _ _ hb];exact ⟨h0,h1,k1,k2,k3,q⟩
    ·exact h.elim
   ·exact ⟨_,h.2.2.2,fun hp' N' K' ha q=>⟨h.1,h.2.1,h.2.2.1,q⟩⟩
   ·exact ⟨_,h.2.2.2,fun hp' N' K' ha q=>⟨h.1,h.2.1,h.2.2.1,q⟩⟩
   ·exact h.elim
  ·exact h.elim
 | field t x i =>
  simp only [A6] at h ⊢
  split at h
  ·split at h
   ·exact ⟨_,h,fun hp' N' K' ha q=>q⟩
   ·exact h.elim
  ·exact h.elim
 | index t x i =>
  simp only [A6] at h ⊢
  split at h
  ·obtain ⟨h0,h1,h⟩:=h
   split at h
   ·obtain ⟨h2,h⟩:=h
    split at h
    ·exact ⟨_,h,fun hp' N' K' ha q=>⟨h0,h1,h2,q⟩⟩
    ·exact h.elim
   ·obtain ⟨h2,h⟩:=h
    split at h
    ·exact ⟨_,h,fun hp' N' K' ha q=>⟨h0,h1,h2,q⟩⟩
    ·exact h.elim
   ·exact h.elim
  ·obtain ⟨h0,h⟩:=h
   split at h
   ·exact ⟨_,h,fun hp' N' K' ha q=>⟨h0,q⟩⟩
   ·exact h.elim
  ·exact h.elim
 | build t parts =>
  simp only [A6] at h ⊢
  split at h
  ·unfold XX at h ⊢
   split at h
   ·obtain ⟨h1,h⟩:=h
    split at h
    ·exact ⟨_,h,fun hp' N' K' ha q=>⟨h1,q⟩⟩
    ·exact h.elim
   ·obtain ⟨h1,h⟩:=h
    split at h
    ·exact ⟨_,h,fun hp' N' K' ha q=>⟨h1,q⟩⟩
    ·exact h.elim
   ·exact h.elim
  ·exact h.elim
 | slice t x lo hi m =>
  cases m with
  | some m =>
   simp only [A6] at h ⊢;unfold UA at h ⊢
   split at h
   ·exact ⟨_,h.2.2.2.2.2.2,fun hp' N' K' ha q=>⟨h.1,h.2.1,h.2.2.1,h.2.2.2.1,h.2.2.2.2.1,h.2.2.2.2.2.1,q⟩⟩
   ·exact ⟨_,h.2.2.2.2,fun hp' N' K' ha q=>⟨h.1,h.2.1,h.2.2.1,h.2.2.2.1,q⟩⟩
   ·exact ⟨_,h.2.2.2.2,fun hp' N' K' ha q=>⟨h.1,h.2.1,h.2.2.1,h.2.2.2.1,q⟩⟩
   ·exact h.elim
  | none =>
   simp only [A6] at h ⊢;generalize ev fr x=xa at h ⊢;generalize B7 P t=k at h ⊢;generalize bnd fr 0 lo=bl at h ⊢;generalize bnd fr (AV.topLen k xa) hi=bh at h ⊢;unfold Rp at h
   split at h
   ·obtain ⟨q1,q2,q3,h⟩:=h;exact ⟨_,h,fun hp' N' K' ha q=>⟨q1,q2,q3,q⟩⟩
   ·obtain ⟨q1,q2,q3,q4,q5,h⟩:=h;exact ⟨_,h,fun hp' N' K' ha q=>⟨q1,q2,q3,q4,q5,q⟩⟩
   ·split at h
    ·rename_i b hb;obtain ⟨q1,q2,q3,q4,q5,h⟩:=h;refine ⟨_,h,fun hp' N' K' ha q=>?_⟩;simp only [Rp];rw [ha _ _ hb];exact ⟨q1,q2,q3,q4,q5,q⟩
    ·exact h.elim
   ·obtain ⟨q1,q2,q3,q4,q5,h⟩:=h;exact ⟨_,h,fun hp' N' K' ha q=>⟨q1,q2,q3,q4,q5,q⟩⟩
   ·split at h
    ·rename_i b hb;obtain ⟨q1,q2,q3,q4,q5,q6,h⟩:=h;refine ⟨_,h,fun hp' N' K' ha q=>?_⟩;simp only [Rp];rw [ha _ _ hb];exact ⟨q1,q2,q3,q4,q5,q6,q⟩
    ·exact h.elim
   ·obtain ⟨q1,q2,q3,q4,q5,h⟩:=h;exact ⟨_,h,fun hp' N' K' ha q=>⟨q1,q2,q3,q4,q5,q⟩⟩
   ·obtain ⟨q1,q2,q3,h⟩:=h;exact ⟨_,h,fun hp' N' K' ha q=>⟨q1,q2,q3,q⟩⟩
   ·exact h.elim
 | call cl =>
  simp only [A6] at h ⊢
  cases hc:cl.callee with
  | builtin b =>
   simp only [hc] at h;generalize cl.args.toList=as at h;generalize cl.argTypes.toList=ts at h
   cases b with
   | len =>
    simp only
    match as,ts,h with
    | [x],[t],h =>
     simp only [biW] at h ⊢
     split at h
     ·exact ⟨_,h,fun hp' N' K' ha q=>q⟩
     ·exact ⟨_,h,fun hp' N' K' ha q=>q⟩
     ·split at h
      ·exact ⟨_,h,fun hp' N' K' ha q=>q⟩
      ·exact h.elim
     ·exact h.elim
   | _=>simp [s5,hc] at hk
  | _=>simp [s5,hc] at hk
 | _=>simp [s5] at hk
end
end Go.Am
namespace Go.Am
def B0 (ops:Array Oper) (j:Nat):Option Tmp:=(ops[j]?).bind (·.dst)
def Q0 (ops:Array Oper) (j:Nat):List Tmp:=match ops[j]? with
 | some o=>o.looksAt ops
 | none=>[]
inductive Waits (ops:Array Oper):Nat→Nat→Prop
 | edge {j:Nat} {o:Oper} {e:Edge} (ho:ops[j]?=some o) (he:e ∈ o.after) (hb:Region.binds .any e=true):Waits ops j e.on
 | step {j i:Nat} {o:Oper} {e:Edge} (ho:ops[j]?=some o) (he:e ∈ o.after) (hb:Region.binds .any e=true) (h:Waits ops e.on i):Waits ops j i
def agJ (ms:List Nat):List Edge→Nat→Nat
 | [],acc=>acc
 | e :: r,acc=>agJ ms r (if Region.binds .any e=true then acc ||| 2 ^ e.on ||| ms.getD e.on 0 else acc)
def ajq:List Oper→List Nat→List Nat
 | [],ms=>ms
 | o :: r,ms=>ajq r (ms ++ [agJ ms o.after.toList 0])
def wt (ms:List Nat) (j i:Nat):Bool:=(ms.getD j 0).testBit i
theorem aa8 (ms:List Nat) (i:Nat):∀ (l:List Edge) (acc:Nat),(agJ ms l acc).testBit i=true→acc.testBit i=true ∨ ∃ e,e ∈ l∧Region.binds .any e=true∧(e.on=i ∨ wt ms e.on i=true)
 | [],acc,h=>.inl h
 | e :: r,acc,h=>by
  rcases aa8 ms i r _ h with h1 | ⟨e',h1,h2,h3⟩
  ·split at h1
   ·rename_i hb;rw [Nat.testBit_or,Nat.testBit_or,Bool.or_eq_true,Bool.or_eq_true] at h1;rcases h1 with (h1 | h1) | h1
    ·exact .inl h1
    ·rw [Nat.testBit_two_pow] at h1;exact .inr ⟨e,List.mem_cons_self ..,hb,.inl (by simpa using h1)⟩
    ·exact .inr ⟨e,List.mem_cons_self ..,hb,.inr h1⟩
   ·exact .inl h1
  ·exact .inr ⟨e',List.mem_cons_of_mem _ h1,h2,h3⟩
theorem adE {ops:Array Oper}:∀ (l:List Oper) (ms:List Nat),(∀ k o,l[k]?=some o→ops[ms.length+k]?=some o)→(∀ j i,wt ms j i=true→Waits ops j i)→∀ j i,wt (ajq l ms) j i=true→Waits ops j i
 | [],ms,_,h,j,i,hw=>h j i hw
 | o :: r,ms,ho,h,j,i,hw=>by
  refine adE r (ms ++ [agJ ms o.after.toList 0]) (fun k o' hk=>?_) (fun j i hw=>?_) j i hw
  ·have:=ho (k+1) o' (by simpa using hk);rw [List.length_append,List.length_singleton,show ms.length+1+k=ms.length+(k+1) by omega];exact this
  ·unfold wt at hw;rcases Nat.lt_trichotomy j ms.length with hj | hj | hj
   ·rw [List.getD_eq_getElem?_getD,List.getElem?_append_left hj,← List.getD_eq_getElem?_getD] at hw;exact h j i hw
   ·subst hj;rw [List.getD_eq_getElem?_getD,List.getElem?_append_right (Nat.le_refl _),Nat.sub_self,List.getElem?_cons_zero,Option.getD_some] at hw;have ho0:ops[ms.length]?=some o:=by simpa using ho 0 o rfl
    rcases aa8 ms i _ _ hw with h1 | ⟨e,h1,h2,h3⟩
    ·simp at h1
    ·rw [Array.mem_toList_iff] at h1;rcases h3 with rfl | h3
     ·exact .edge ho0 h1 h2
     ·exact .step ho0 h1 h2 (h _ _ h3)
   ·rw [List.getD_eq_getElem?_getD,List.getElem?_eq_none (by simp;omega)] at hw;simp at hw
def mks (ops:Array Oper):List Nat:=ajq ops.toList []
theorem Ti {ops:Array Oper} {j i:Nat} (h:wt (mks ops) j i=true):Waits ops j i :=
 adE ops.toList [] (fun k o hk=>by simpa using hk) (fun j i h=>by simp [wt] at h) j i h
def ab8 (ms:List Nat):List Nat→Bool
 | a :: b :: r=>wt ms b a && ab8 ms (b :: r)
 | _=>true
def X1 (ops:Array Oper):List Nat→Prop
 | a :: b :: r=>Waits ops b a∧X1 ops (b :: r)
 | _=>True
def P4 (ops:Array Oper):List Nat→Bool
 | []=>true
 | z :: r=>(z :: r).all (fun y=>match B0 ops y with
   | some d=>!(Q0 ops z).contains d
   | none=>true) && P4 ops r
def I8:List Nat→Bool
 | []=>true
 | a :: r=>!r.contains a && I8 r
abbrev SX:=List (Nat × List Nat)
def N8:SX→List Nat
 | []=>[]
 | s :: r=>s.1 :: N8 r
def Xc:SX→List Nat
 | []=>[]
 | s :: r=>s.2 ++ Xc r
def ZF:SX→List Nat
 | []=>[]
 | s :: r=>s.1 :: (s.2 ++ ZF r)
def amK (ops:Array Oper) (ms:List Nat):List Nat→SX→Bool
 | _,[]=>true
 | zv,s :: r=>(match B0 ops s.1 with
   | some d=>zv.all fun z=>!(Q0 ops z).contains d || wt ms s.1 z
   | none=>true) && (s.2.all fun z=>wt ms z s.1) && amK ops ms (zv ++ s.2) r
def ajr (ops:Array Oper):List Nat→SX→Prop
 | _,[]=>True
 | zv,s :: r=>(∀ d,B0 ops s.1=some d→∀ z,z ∈ zv→d ∈ Q0 ops z→Waits ops s.1 z)∧(∀ z,z ∈ s.2→Waits ops z s.1)∧ajr ops (zv ++ s.2) r
theorem ajs {ops:Array Oper}:∀ {zv:List Nat} {ss:SX},amK ops (mks ops) zv ss=true→ajr ops zv ss
 | _,[],_=>trivial
 | zv,s :: r,h=>by
  simp only [amK,Bool.and_eq_true] at h;obtain ⟨⟨h1,h2⟩,h3⟩:=h;refine ⟨fun d hd z hz hl=>?_,fun z hz=>Ti (List.all_eq_true.1 h2 z hz),ajs h3⟩;simp only [hd] at h1;have:=List.all_eq_true.1 h1 z hz;simp only [hl,List.contains_eq_mem,decide_true,Bool.not_true,Bool.false_or] at this;exact Ti this
theorem adG {ops:Array Oper}:∀ {l:List Nat},ab8 (mks ops) l=true→X1 ops l
 | [],_=>trivial
 | [_],_=>trivial
 | a :: b :: r,h=>by
  simp only [ab8,Bool.and_eq_true] at h;exact ⟨Ti h.1,adG h.2⟩
def asn (n:Nat) (ops:Array Oper) (ms:List Nat) (zs:List Nat) (ss:SX) (m:Nat) (za is:List Nat):Bool :=
 (List.range ops.size).all (fun j=>(za.contains j || is.contains j) && !(za.contains j && is.contains j)) &&
 is.all (fun j=>decide (j<ops.size)) && za.all (fun j=>decide (j<ops.size)) && I8 is && I8 za &&
 (List.range ops.size).all (fun i=>match B0 ops i with
  | some d=>decide (d<n) && (List.range ops.size).all fun j=>j == i || B0 ops j != some d
  | none=>true) &&
 za.all (fun z=>match B0 ops z with
  | some d=>(List.range ops.size).all fun j=>!(Q0 ops j).contains d || wt ms j z
  | none=>true) &&
 amK ops ms zs ss &&
 ab8 ms is && P4 ops za &&
 (is.drop m).all (fun i=>za.all fun z=>wt ms i z) &&
 (List.range ops.size).all (fun j=>match ops[j]? with
  | some o=>o.after.all fun e=>!Region.binds .any e || decide (e.on<j)
  | none=>true)
def afw (n:Nat) (ops:Array Oper) (zs:List Nat) (ss:SX) (m:Nat):Bool:=asn n ops (mks ops) zs ss m (zs ++ Xc ss) (N8 ss)
section
variable (P:Program) (n:Nat) (ops:Array Oper) (base:Nat) (hp0:Hp) (K:Fr→Hp→Prop)
def y9 (hp':Hp):Prop:=∀ p,p ∈ hp0→lk p.1 hp'=lk p.1 hp0
def zOp (fr:Fr) (N:Nat) (op:Op) (next:AV→Prop):Prop :=
 if s5 P op=true then A6 P fr hp0 N op (fun v _=>next v) else ∃ v,Vo P fr hp0 op v∧next v
def zW (C:Fr→Prop):List Nat→Fr→Prop
 | [],fr=>C fr
 | z :: r,fr=>match ops[z]? with
  | some o=>(match o.guard with
   | none=>zOp P hp0 fr base o.op fun v=>zW C r (w9 fr o.dst v)
   | some (g,want)=>(match (ops[g]?).bind (·.dst) with
    | some d=>(match fv d fr with
     | .d (.bool b)=>(b=want→zOp P hp0 fr base o.op fun v=>zW C r (w9 fr o.dst v))∧(b=!want→zW C r (w9 fr o.dst (.tup [])))
     | .tup []=>zW C r (w9 fr o.dst (.tup []))
     | _=>False)
    | none=>False))
  | none=>False
def chW:SX→Nat→Fr→Hp→Prop
 | [],_,fr,hp=>K fr hp
 | s :: r,m,fr,hp=>match ops[s.1]? with
  | some o=>(match o.guard with
   | none=>A6 P fr hp (base+32*s.1) o.op fun v hp'=>(m ≠ 0→y9 hp0 hp')∧zW P ops base hp0 (fun fr=>chW r (m - 1) fr hp') s.2 (w9 fr o.dst v)
   | some (g,want)=>(match (ops[g]?).bind (·.dst) with
    | some d=>(match fv d fr with
     | .d (.bool b)=>(b=want→A6 P fr hp (base+32*s.1) o.op fun v hp'=>(m ≠ 0→y9 hp0 hp')∧zW P ops base hp0 (fun fr=>chW r (m - 1) fr hp') s.2 (w9 fr o.dst v)) ∧
       (b=!want→zW P ops base hp0 (fun fr=>chW r (m - 1) fr hp) s.2 (w9 fr o.dst (.tup [])))
     | .tup []=>zW P ops base hp0 (fun fr=>chW r (m - 1) fr hp) s.2 (w9 fr o.dst (.tup []))
     | _=>False)
    | none=>False))
  | none=>False
def ZOk (fr:Fr) (v:AV) (o:Oper):Prop :=
 match o.guard with
 | none=>Vo P fr hp0 o.op v
 | some (g,want)=>∃ d,(ops[g]?).bind (·.dst)=some d∧((∃ b,fv d fr=.d (.bool b)∧(b=want→Vo P fr hp0 o.op v)∧(b=!want→v=.tup [])) ∨ (fv d fr=.tup []∧v=.tup []))
def aju (z:Nat) (fr:Fr):Prop:=∃ v o,ops[z]?=some o∧(∀ d,o.dst=some d→fv d fr=v)∧ZOk P ops hp0 fr v o
end
section
variable {P:Program} {c:Ctx} {ops:Array Oper} {base:Nat} {hp0:Hp} {K:Fr→Hp→Prop} {fr fr':Fr}
theorem ZG {o:Oper} (h:∀ t,t ∈ o.looksAt ops→fv t fr=fv t fr'):∀ x,x ∈ o.op.operands→ev fr x=ev fr' x:=by
 intro x hx
 cases x with
 | tmp t =>
  refine h t ?_;unfold Oper.looksAt;rw [List.mem_append];left;rw [List.mem_filterMap];exact ⟨.tmp t,by simpa using hx,rfl⟩
 | _=>rfl
theorem SB {o:Oper} {g:Nat} {want:Bool} {d:Tmp} (hg:o.guard=some (g,want)) (hd:(ops[g]?).bind (·.dst)=some d):d ∈ o.looksAt ops:=by
 unfold Oper.looksAt;rw [List.mem_append];right;simp [hg,hd]
theorem TN {o:Oper} {v:AV} (h:∀ t,t ∈ o.looksAt ops→fv t fr=fv t fr') (hs:Vo P fr hp0 o.op v):Vo P fr' hp0 o.op v:=by
 intro hp' N' K' ha hk;rw [← X0 (ZG h)];exact hs hp' N' K' ha hk
theorem X2 {o:Oper} {v:AV} (h:∀ t,t ∈ o.looksAt ops→fv t fr=fv t fr') (hz:ZOk P ops hp0 fr v o):ZOk P ops hp0 fr' v o:=by
 unfold ZOk at hz ⊢
 split at hz
 ·exact TN h hz
 ·rename_i g want hg;obtain ⟨d,h1,hz⟩:=hz;have e:=h d (SB hg h1);rcases hz with ⟨b,h2,h3,h4⟩ | ⟨h2,h3⟩
  ·exact ⟨d,h1,.inl ⟨b,by rw [← e];exact h2,fun q=>TN h (h3 q),h4⟩⟩
  ·exact ⟨d,h1,.inr ⟨by rw [← e];exact h2,h3⟩⟩
theorem TX {dst:Option Tmp} {v:AV} {t:Nat} (h:dst ≠ some t):fv t (w9 fr dst v)=fv t fr:=by
 cases dst with
 | none=>rfl
 | some d =>
  simp only [w9,Sg];rw [if_neg (fun e=>h (by rw [e]))]
theorem SC {d:Tmp} {v:AV}:fv d (w9 fr (some d) v)=v:=by simp [w9,Sg]
theorem Vp {C:Fr→Prop} (hu:∀ i j d,B0 ops i=some d→B0 ops j=some d→i=j):∀ (zs:List Nat) (fr:Fr),P4 ops zs=true→I8 zs=true→zW P ops base hp0 C zs fr →
  ∃ frZ,C frZ∧(∀ t,(∀ z,z ∈ zs→B0 ops z ≠ some t)→fv t frZ=fv t fr)∧∀ z,z ∈ zs→aju P ops hp0 z frZ
 | [],fr,_,_,h=>⟨fr,h,fun _ _=>rfl,ab⟩
 | z :: r,fr,ho,hn,h=>by
  simp only [P4,Bool.and_eq_true] at ho;simp only [I8,Bool.and_eq_true] at hn;obtain ⟨ho1,ho2⟩:=ho;simp only [zW] at h
  cases hz:ops[z]? with
  | none=>rw [hz] at h;exact h.elim
  | some o =>
   rw [hz] at h;simp only at h;have hdz:B0 ops z=o.dst:=by simp [B0,hz]
   have hlz:Q0 ops z=o.looksAt ops:=by simp [Q0,hz]
   -- what is read is put by none of these
   have hno:∀ y,y ∈ z :: r→∀ t,t ∈ o.looksAt ops→B0 ops y ≠ some t:=by
    intro y hy t ht he;have:=List.all_eq_true.1 ho1 y hy;simp only [he,hlz,Bool.not_eq_true',List.contains_eq_mem,decide_eq_false_iff_not] at this;exact this ht
   -- from one value
   have go:∀ v,ZOk P ops hp0 fr v o→zW P ops base hp0 C r (w9 fr o.dst v)→∃ frZ,C frZ∧(∀ t,(∀ y,y ∈ z :: r→B0 ops y ≠ some t)→fv t frZ=fv t fr)∧∀ y,y ∈ z :: r→aju P ops hp0 y frZ:=by
    intro v hv hrest;obtain ⟨frZ,h1,h2,h3⟩:=Vp hu r _ ho2 hn.2 hrest;refine ⟨frZ,h1,fun t ht=>?_,fun y hy=>?_⟩
    ·rw [h2 t fun y hy=>ht y (List.mem_cons_of_mem _ hy)];exact TX (by rw [← hdz];exact ht z (List.mem_cons_self ..))
    ·rcases List.mem_cons.1 hy with rfl | hy
     ·refine ⟨v,o,hz,fun d hd=>?_,X2 (fun t ht=>?_) hv⟩
      ·rw [h2 d fun y' hy' he=>?_]
       ·rw [hd];exact SC
       ·have:=hu y' y d he (by rw [hdz];exact hd);subst this;have hn1:=hn.1;simp only [Bool.not_eq_true',List.contains_eq_mem,decide_eq_false_iff_not] at hn1;exact hn1 hy'
      ·rw [h2 t fun y' hy'=>hno y' (List.mem_cons_of_mem _ hy') t ht,TX];rw [← hdz];exact hno _ (List.mem_cons_self ..) t ht
     ·exact h3 y hy
   have one:∀ next:AV→Prop,zOp P hp0 fr base o.op next→∃ v,Vo P fr hp0 o.op v∧next v:=by
    intro next hq;unfold zOp at hq
    split at hq
    ·rename_i hk;obtain ⟨v,q1,q2⟩:=ah9 hk hq;exact ⟨v,q2,q1⟩
    ·exact hq
   split at h
   ·rename_i hg;obtain ⟨v,q1,q2⟩:=one _ h;exact go v (by unfold ZOk;rw [hg];exact q1) q2
   ·rename_i g want hg
    split at h
    ·rename_i d hd
     split at h
     ·rename_i b hb;by_cases hbw:b=want
      ·obtain ⟨v,q1,q2⟩:=one _ (h.1 hbw);exact go v (by unfold ZOk;rw [hg];exact ⟨d,hd,.inl ⟨b,hb,fun _=>q1,fun h'=>by rw [hbw] at h';cases want <;> cases h'⟩⟩) q2
      ·have hbn:b=!want:=by cases b <;> cases want <;> simp_all
       exact go (.tup []) (by unfold ZOk;rw [hg];exact ⟨d,hd,.inl ⟨b,hb,fun h'=>absurd h' hbw,fun _=>rfl⟩⟩) (h.2 hbn)
     ·rename_i hb;exact go (.tup []) (by unfold ZOk;rw [hg];exact ⟨d,hd,.inr ⟨hb,rfl⟩⟩) h
     ·exact h.elim
    ·exact h.elim
theorem afx (fr:Fr):∀ l:List Tmp,∃ frm:Fr,(∀ t,t ∈ l→fv t frm=.any)∧∀ t,t ∉ l→fv t frm=fv t fr
 | []=>⟨fr,ab,fun _ _=>rfl⟩
 | d :: l=>by
  obtain ⟨frm,h1,h2⟩:=afx fr l;refine ⟨(d,.any) :: frm,fun t ht=>?_,fun t ht=>?_⟩
  ·rw [Sg]
   split
   ·rfl
   ·rename_i hne;rcases List.mem_cons.1 ht with rfl | h
    ·exact absurd rfl hne
    ·exact h1 t h
  ·rw [Sg,if_neg (fun e=>ht (by rw [← e];exact List.mem_cons_self ..))];exact h2 t fun h=>ht (List.mem_cons_of_mem _ h)
def unl (listed:Array Bool):Nat:=(listed.toList.filter fun b=>!b).length
theorem Y8 {listed:Array Bool} {i:Nat} (h:listed.getD i true=false):unl (listed.setIfInBounds i true)+1=unl listed:=by
 unfold unl;rw [Array.toList_setIfInBounds]
 have h':listed.toList[i]?=some false:=by
  cases hi:listed[i]? with
  | none=>simp [Array.getD_eq_getD_getElem?,hi] at h
  | some b=>simp [Array.getD_eq_getD_getElem?,hi] at h;subst h;simpa using hi
 clear h;generalize listed.toList=l at h'
 induction l generalizing i with
 | nil=>simp at h'
 | cons b r ih =>
  cases i with
  | zero=>simp at h';subst h';simp
  | succ i =>
   simp only [List.getElem?_cons_succ] at h';have:=ih h';simp only [List.set_cons_succ,List.filter_cons]
   split <;> simp_all <;> omega
structure RInv (P:Program) (c:Ctx) (ops:Array Oper) (base:Nat) (hp0:Hp) (za zs rest:List Nat) (listed:Array Bool) (fr:Fr) (hp:Hp) (a:Act) (w:World):Prop where
 size:listed.size=ops.size
 closed:∀ j o,ops[j]?=some o→listed.getD j false=true→∀ e,e ∈ o.after→Region.binds .any e=true→listed.getD e.on false=true
 un:∀ j,j ∈ rest→listed.getD j true=false
 done:∀ j,j<ops.size→j ∉ zs→j ∉ rest→listed.getD j false=true
 def_:a.defers=[]
 tmps:a.tmps.size=c.n
 sim:∃ U σ,Rel c hp U σ w∧adu c hp U σ w∧(∀ k,U k→k<base ∨ ∃ j,base+32*j≤k∧k<base+32*j+32∧listed.getD j false=true) ∧
  ∀ t,(∀ z,z ∈ zs→listed.getD z true=false→B0 ops z ≠ some t)→AIs w (z7 c w σ hp) σ hp U (fv t fr) (a.tmps.getD t undef)
 facts:∀ z,z ∈ zs→listed.getD z true=false→aju P ops hp0 z fr
 sa:YC hp0 hp ∨ ∀ z,z ∈ za→listed.getD z true=true
theorem UC {listed:Array Bool} (hc:∀ j o,ops[j]?=some o→listed.getD j false=true→∀ e,e ∈ o.after→Region.binds .any e=true→listed.getD e.on false=true) {j i:Nat} (hw:Waits ops j i) :
  (∀ o,ops[j]?=some o→∀ e,e ∈ o.after→Region.binds .any e=true→listed.getD e.on false=true)→listed.getD i false=true:=by
 induction hw with
 | edge ho he hb=>intro h;exact h _ ho _ he hb
 | step ho he hb _ ih=>intro h;exact ih fun o' ho'=>hc _ o' ho' (h _ ho _ he hb)
theorem SY {listed:Array Bool} {i:Nat} (h:listed.getD i false=true):listed.getD i true=true:=by
 simp only [Array.getD_eq_getD_getElem?] at h ⊢
 cases hi:listed[i]? with
 | none=>rfl
 | some b=>rw [hi] at h;simpa using h
theorem Sj {listed:Array Bool} {i:Nat} (hi:i<listed.size) (h:listed.getD i false=false):listed.getD i true=false:=by
 simp only [Array.getD_eq_getD_getElem?] at h ⊢;rw [Array.getElem?_eq_getElem hi] at h ⊢
 simpa using h
theorem pC {listed:Array Bool} {i j:Nat} (d:Bool) (hi:i<listed.size):(listed.setIfInBounds i true).getD j d=if i=j then true else listed.getD j d:=by
 simp only [Array.getD_eq_getD_getElem?,Array.getElem?_setIfInBounds]
 split
 ·rename_i h;subst h;simp [hi]
 ·rfl
theorem ZH:∀ (l:List Nat) (j:Nat),X1 ops (j :: l)→∀ i,i ∈ l→∃ p,p ∈ j :: l∧Waits ops i p
 | [],_,_,_,h=>by simp at h
 | b :: r,j,hc,i,hi=>by
  rcases List.mem_cons.1 hi with rfl | h
  ·exact ⟨j,List.mem_cons_self ..,hc.1⟩
  ·obtain ⟨p,h1,h2⟩:=ZH r b hc.2 i h;exact ⟨p,List.mem_cons_of_mem _ h1,h2⟩
theorem WF:∀ {ss:SX} {i:Nat},i ∈ N8 ss→i ∈ ZF ss
 | s :: r,i,h=>by
  rcases List.mem_cons.1 h with rfl | h
  ·exact List.mem_cons_self ..
  ·exact List.mem_cons_of_mem _ (List.mem_append.2 (.inr (WF h)))
theorem aa9:∀ {ss:SX} {i:Nat},i ∈ Xc ss→i ∈ ZF ss
 | s :: r,i,h=>by
  rcases List.mem_append.1 h with h | h
  ·exact List.mem_cons_of_mem _ (List.mem_append.2 (.inl h))
  ·exact List.mem_cons_of_mem _ (List.mem_append.2 (.inr (aa9 h)))
theorem Xd:∀ {ss:SX} {i:Nat},i ∈ ZF ss→i ∈ N8 ss ∨ i ∈ Xc ss
 | s :: r,i,h=>by
  rcases List.mem_cons.1 h with rfl | h
  ·exact .inl (List.mem_cons_self ..)
  ·rcases List.mem_append.1 h with h | h
   ·exact .inr (List.mem_append.2 (.inl h))
   ·rcases Xd h with h | h
    ·exact .inl (List.mem_cons_of_mem _ h)
    ·exact .inr (List.mem_append.2 (.inr h))
theorem adH:∀ {zv:List Nat} {ss:SX} {i:Nat},ajr ops zv ss→i ∈ Xc ss→∃ p,p ∈ N8 ss∧Waits ops i p
 | zv,s :: r,i,h,hi=>by
  rcases List.mem_append.1 hi with h1 | h1
  ·exact ⟨s.1,List.mem_cons_self ..,h.2.1 i h1⟩
  ·obtain ⟨p,h2,h3⟩:=adH h.2.2 h1;exact ⟨p,List.mem_cons_of_mem _ h2,h3⟩
theorem Tj:∀ {a b:List Nat},P4 ops (a ++ b)=true→P4 ops a=true∧P4 ops b=true∧∀ z,z ∈ a→∀ y,y ∈ b→∀ t,t ∈ Q0 ops z→B0 ops y ≠ some t
 | [],b,h=>⟨rfl,h,ab⟩
 | z :: r,b,h=>by
  simp only [List.cons_append,P4,Bool.and_eq_true] at h;obtain ⟨h1,h2⟩:=h;obtain ⟨k1,k2,k3⟩:=Tj h2;refine ⟨?_,k2,fun x hx y hy t ht he=>?_⟩
  ·simp only [P4,Bool.and_eq_true];refine ⟨List.all_eq_true.2 fun y hy=>List.all_eq_true.1 h1 y ?_,k1⟩;rcases List.mem_cons.1 hy with rfl | h
   ·exact List.mem_cons_self ..
   ·exact List.mem_cons_of_mem _ (List.mem_append.2 (.inl h))
  ·rcases List.mem_cons.1 hx with rfl | hx
   ·have:=List.all_eq_true.1 h1 y (List.mem_cons_of_mem _ (List.mem_append.2 (.inr hy)));simp only [he,Bool.not_eq_true',List.contains_eq_mem,decide_eq_false_iff_not] at this;exact this ht
   ·exact k3 x hx y hy t ht he
theorem R8:∀ {a b:List Nat},I8 (a ++ b)=true→I8 a=true∧I8 b=true∧∀ z,z ∈ a→z ∉ b
 | [],b,h=>⟨rfl,h,ab⟩
 | z :: r,b,h=>by
  simp only [List.cons_append,I8,Bool.and_eq_true,Bool.not_eq_true',List.contains_eq_mem,decide_eq_false_iff_not,List.mem_append,not_or] at h;obtain ⟨⟨h1,h1'⟩,h2⟩:=h;obtain ⟨k1,k2,k3⟩:=R8 h2;refine ⟨by simp [I8,h1,k1],k2,fun x hx=>?_⟩;rcases List.mem_cons.1 hx with rfl | hx
  ·exact h1'
  ·exact k3 x hx
theorem adI {hp':Hp} (h:y9 hp0 hp'):YC hp0 hp':=by
 intro id b hb
 have hmem:∀ {l:Hp},lk id l=some b→(id,b) ∈ l:=by
  intro l
  induction l with
  | nil=>intro h;cases h
  | cons p t ih =>
   intro h;obtain ⟨m,u⟩:=p;simp only [lk] at h
   split at h
   ·rename_i e;injection h with h;subst e;subst h;exact List.mem_cons_self ..
   ·exact List.mem_cons_of_mem _ (ih h)
 have:=h _ (hmem hb);simp only at this;rw [this,hb]
structure RegOk (n:Nat) (ops:Array Oper) (za is:List Nat):Prop where
 part:∀ j,j<ops.size→(j ∈ za ∨ j ∈ is)∧¬ (j ∈ za∧j ∈ is)
 inb:∀ j,j ∈ is→j<ops.size
 lt:∀ i d,B0 ops i=some d→d<n
 uniq:∀ i j d,B0 ops i=some d→B0 ops j=some d→i=j
 zdst:∀ z,z ∈ za→∀ d,B0 ops z=some d→∀ j,d ∈ Q0 ops j→Waits ops j z
 low:∀ j o,ops[j]?=some o→∀ e,e ∈ o.after→Region.binds .any e=true→e.on<j
structure RegMore (ops:Array Oper) (zs:List Nat) (ss:SX) (m:Nat) (za is:List Nat):Prop where
 nis:I8 is=true
 nza:I8 za=true
 seg:ajr ops zs ss
 chain:X1 ops is
 order:P4 ops za=true
 tail:∀ i,i ∈ is.drop m→∀ z,z ∈ za→Waits ops i z
 inz:∀ z,z ∈ za→z<ops.size
theorem amM {n:Nat} {zs:List Nat} {ss:SX} {m:Nat} (h:afw n ops zs ss m=true):RegOk n ops (zs ++ Xc ss) (N8 ss)∧RegMore ops zs ss m (zs ++ Xc ss) (N8 ss):=by
 unfold afw at h;generalize zs ++ Xc ss=za at h;generalize N8 ss=is at h;simp only [asn,Bool.and_eq_true] at h;obtain ⟨⟨⟨⟨⟨⟨⟨⟨⟨⟨⟨h1,h2⟩,h2b⟩,h3⟩,h3b⟩,h4⟩,h5⟩,h6⟩,h7⟩,h8⟩,h9⟩,h10⟩:=h
 have inr:∀ {i d},B0 ops i=some d→i ∈ List.range ops.size:=by
  intro i d hi;rw [List.mem_range];rcases Nat.lt_or_ge i ops.size with h | h
  ·exact h
  ·simp [B0,Array.getElem?_eq_none h] at hi
 refine ⟨⟨fun j hj=>?_,fun j hj=>?_,fun i d hi=>?_,fun i j d hi hj=>?_,fun z hz d hd j hj=>?_,fun j o ho e he hb=>?_⟩,⟨h3,h3b,ajs h6,adG h7,h8,fun i hi z hz=>?_,fun z hz=>by simpa using List.all_eq_true.1 h2b z hz⟩⟩
 ·have:=List.all_eq_true.1 h1 j (List.mem_range.2 hj);simp at this;exact ⟨this.1,fun h=>by rcases this.2 with h' | h' <;> simp_all⟩
 ·simpa using List.all_eq_true.1 h2 j hj
 ·have:=List.all_eq_true.1 h4 i (inr hi);simp only [hi,Bool.and_eq_true,decide_eq_true_eq] at this;exact this.1
 ·have:=List.all_eq_true.1 h4 i (inr hi);simp only [hi,Bool.and_eq_true] at this;have:=List.all_eq_true.1 this.2 j (inr hj);simp only [hj,bne_self_eq_false,Bool.or_false,beq_iff_eq] at this;exact this.symm
 ·have:=List.all_eq_true.1 h5 z hz;simp only [hd] at this
  have hjr:j ∈ List.range ops.size:=by
   rw [List.mem_range];rcases Nat.lt_or_ge j ops.size with h | h
   ·exact h
   ·simp [Q0,Array.getElem?_eq_none h] at hj
  have:=List.all_eq_true.1 this j hjr;simp only [hj,List.contains_eq_mem,decide_true,Bool.not_true,Bool.false_or] at this;exact Ti this
 ·have hjr:j ∈ List.range ops.size:=by
   rw [List.mem_range];exact (Array.getElem?_eq_some_iff.1 ho).1
  have:=List.all_eq_true.1 h10 j hjr;simp only [ho] at this;have:=Array.all_eq_true_iff_forall_mem.1 this e he
  simpa [hb] using this
 ·have:=List.all_eq_true.1 h9 i hi;exact Ti (List.all_eq_true.1 this z hz)
theorem TO {frm:Fr} {hp:Hp} {U:Nat→Prop} {N:Nat} {σ:Nat→Option Nat} {a:Act} {w:World} {dst:Option Tmp} (hd:a.defers=[]) (hn:a.tmps.size=c.n) (hr:Rel c hp U σ w) (hh:adu c hp U σ w)
  (hf:∀ t,AIs w (z7 c w σ hp) σ hp U (fv t frm) (a.tmps.getD t undef)):U8 c (w9 frm dst (.tup [])) hp (I6 U N) (a.put dst undef) w:=by
 cases dst with
 | none=>exact ⟨hd,hn,σ,hr.more,fun n=>(hf n).step Step.more,hh.trans Step.more⟩
 | some d =>
  refine ⟨hd,by simp [Act.put,hn],σ,hr.more,fun n=>?_,hh.trans Step.more⟩;simp only [w9,Act.put,Sg];by_cases h:d=n
  ·subst h
   have hu:(a.tmps.setIfInBounds d undef).getD d undef=.tuple #[]:=by
    simp only [Array.getD_eq_getD_getElem?,Array.getElem?_setIfInBounds,if_true]
    split <;> rfl
   rw [hu];simp only [if_true];exact .tup [] #[] rfl ab
  ·simp only [if_neg h]
   have:(a.tmps.setIfInBounds d undef).getD n undef=a.tmps.getD n undef:=by
    simp only [Array.getD_eq_getD_getElem?,Array.getElem?_setIfInBounds,if_neg h]
   rw [this];exact (hf n).step Step.more
/-- Every order. -/
theorem apO {za is:List Nat} {Q:Exit→Act→World→Prop} (hB:RegOk c.n ops za is)
  (hQ:∀ fr hp a w U,K fr hp→(∀ k,U k→k<base+32*ops.size)→U8 c fr hp U a w→Q .normal a w) :
  ∀ (fuel:Nat) (listed:Array Bool) (zs:List Nat) (rest:SX) (m:Nat) (fr:Fr) (hp:Hp) (a:Act) (w:World),unl listed≤fuel→(∀ i,i ∈ (N8 rest).drop m→∀ z,z ∈ za→Waits ops i z)→X1 ops (N8 rest)→I8 (N8 rest)=true→(∀ i,i ∈ N8 rest→i ∈ is) →
   ajr ops zs rest→P4 ops (zs ++ Xc rest)=true→I8 (zs ++ Xc rest)=true→(∀ z,z ∈ zs ++ Xc rest→z ∈ za) →
   RInv P c ops base hp0 za zs (ZF rest) listed fr hp a w→chW P ops base hp0 K rest m fr hp→wpAny P .any ops Q fuel listed a w:=by
 have notboth:∀ {listed:Array Bool} {i:Nat},listed.getD i true=false→listed.getD i false=true→False:=by
  intro listed i h1 h2;rw [SY h2] at h1
  cases h1
 -- where nothing is left
 have Ye:∀ (listed:Array Bool) (zs:List Nat) (rest:SX) (m:Nat) (fr:Fr) (hp:Hp) (a:Act) (w:World),(∀ i,i ∈ N8 rest→i ∈ is)→RInv P c ops base hp0 za zs (ZF rest) listed fr hp a w→chW P ops base hp0 K rest m fr hp→Region.ready .any ops listed=[]→Q .normal a w:=by
  intro listed zs rest m fr hp a w hsub hI hW hr0
  have all:∀ k j,j≤k→j<ops.size→listed.getD j false=true:=by
   intro k
   induction k with
   | zero =>
    intro j hj hjs
    cases hl:listed.getD j false with
    | true=>rfl
    | false =>
     have hmem:j ∈ Region.ready .any ops listed:=mem_ready.2 ⟨Sj (by rw [hI.size];exact hjs) hl,ops[j],Array.getElem?_eq_getElem hjs,fun e he hb=>by
      have:=hB.low j _ (Array.getElem?_eq_getElem hjs) e he hb
      omega⟩
     rw [hr0] at hmem;simp at hmem
   | succ k ih =>
    intro j hj hjs
    cases hl:listed.getD j false with
    | true=>rfl
    | false =>
     have hmem:j ∈ Region.ready .any ops listed:=mem_ready.2 ⟨Sj (by rw [hI.size];exact hjs) hl,ops[j],Array.getElem?_eq_getElem hjs,fun e he hb=>by
      have:=hB.low j _ (Array.getElem?_eq_getElem hjs) e he hb
      exact ih e.on aa aa⟩
     rw [hr0] at hmem;simp at hmem
  have hnil:rest=[]:=by
   cases rest with
   | nil=>rfl
   | cons j r =>
    have h1:=hI.un j.1 (List.mem_cons_self ..);exact (notboth h1 (all j.1 j.1 (Nat.le_refl _) (hB.inb j.1 (hsub j.1 (List.mem_cons_self ..))))).elim
  subst hnil;simp only [chW] at hW;obtain ⟨U,σ,hr,hh,hU,hf⟩:=hI.sim;refine hQ fr hp a w U hW (fun k hk=>?_) ⟨hI.def_,hI.tmps,σ,hr,fun t=>hf t fun z hz hun=>?_,hh⟩
  ·rcases hU k hk with h | ⟨j,hj1,hj2,hj⟩
   ·omega
   ·have:j<listed.size:=by
     rcases Nat.lt_or_ge j listed.size with h | h
     ·exact h
     ·simp [Array.getD_eq_getD_getElem?,Array.getElem?_eq_none h] at hj
    have:=hI.size;omega
  ·intro he
   have:z<ops.size:=by
    rcases Nat.lt_or_ge z ops.size with h | h
    ·exact h
    ·simp [B0,Array.getElem?_eq_none h] at he
   exact notboth hun (all z z (Nat.le_refl _) this)
 intro fuel
 induction fuel with
 | zero =>
  intro listed zs rest m fr hp a w hf ht hc hn hsub hsg hord hnz hza hI hW
  have hr0:Region.ready .any ops listed=[]:=by
   rw [List.eq_nil_iff_forall_not_mem];intro i hi;have:=Y8 (mem_ready.1 hi).1;omega
  exact ⟨hr0,Ye listed zs rest m fr hp a w hsub hI hW hr0⟩
 | succ fuel ih =>
  intro listed zs rest m fr hp a w hfuel ht hc hn hsub hsg hord hnz hza hI hW;refine ⟨Ye listed zs rest m fr hp a w hsub hI hW,fun i hi=>?_⟩;obtain ⟨hun,o,ho,haft⟩:=mem_ready.1 hi;have his:i<ops.size:=(Array.getElem?_eq_some_iff.1 ho).1;have hil:i<listed.size:=by rw [hI.size];exact his
  have hdi:B0 ops i=o.dst:=by simp [B0,ho]
  have hli:Q0 ops i=o.looksAt ops:=by simp [Q0,ho]
  have hwl:∀ z,Waits ops i z→listed.getD z false=true:=fun z hz=>UC hI.closed hz fun o' ho'=>by
   rw [ho] at ho';injection ho' with ho';subst ho';exact haft
  have hzza:∀ z,z ∈ zs→z ∈ za:=fun z hz=>hza z (List.mem_append.2 (.inl hz))
  have hdst:P8 c.n o.dst:=by
   unfold P8
   cases hd:o.dst with
   | none=>trivial
   | some d=>exact hB.lt i d (by rw [hdi,hd])
  have hun':∀ z,(listed.setIfInBounds i true).getD z true=false→listed.getD z true=false∧z ≠ i:=by
   intro z hz;rw [pC true hil] at hz
   split at hz
   ·cases hz
   ·rename_i hne;exact ⟨hz,fun h=>hne h.symm⟩
  have hclosed':∀ j o',ops[j]?=some o'→(listed.setIfInBounds i true).getD j false=true→∀ e,e ∈ o'.after→Region.binds .any e=true→(listed.setIfInBounds i true).getD e.on false=true:=by
   intro j o' hj hl e he hb;rw [pC false hil] at hl ⊢
   split
   ·rfl
   ·split at hl
    ·rename_i hij;subst hij;rw [ho] at hj;injection hj with hj;subst hj;exact haft e he hb
    ·exact hI.closed j o' hj hl e he hb
  have hfuel':unl (listed.setIfInBounds i true)≤fuel:=by
   have:=Y8 hun;omega
  obtain ⟨U,σ,hr,hh,hU,hf⟩:=hI.sim
  have hNU:Free U (base+32*i):=by
   intro k k1 k2 h;rcases hU _ h with h | ⟨j,hj,hj2,hl⟩
   ·omega
   ·have:j=i:=aa;subst this;exact notboth hun hl
  have hU':∀ k,I6 U (base+32*i) k→k<base ∨ ∃ j,base+32*j≤k∧k<base+32*j+32∧(listed.setIfInBounds i true).getD j false=true:=by
   rintro k (h | h)
   ·rcases hU k h with h | ⟨j,h1,h1',h2⟩
    ·exact .inl h
    ·exact .inr ⟨j,h1,h1',by rw [pC false hil];split <;> simp [h2]⟩
   ·exact .inr ⟨i,h.1,h.2,by rw [pC false hil];simp⟩
  obtain ⟨frm,hm1,hm2⟩:=afx fr (zs.filterMap fun z=>if listed.getD z true=true then none else B0 ops z)
  have hml:∀ t,t ∈ (zs.filterMap fun z=>if listed.getD z true=true then none else B0 ops z) ↔ ∃ z,z ∈ zs∧listed.getD z true=false∧B0 ops z=some t:=by
   intro t;rw [List.mem_filterMap];constructor
   ·rintro ⟨z,hz,h⟩
    split at h
    ·cases h
    ·rename_i hne;exact ⟨z,hz,by simpa using hne,h⟩
   ·rintro ⟨z,hz,h1,h2⟩;exact ⟨z,hz,by simp [h1,h2]⟩
  have hfm:∀ t,AIs w (z7 c w σ hp) σ hp U (fv t frm) (a.tmps.getD t undef):=by
   intro t;by_cases hm:t ∈ (zs.filterMap fun z=>if listed.getD z true=true then none else B0 ops z)
   ·rw [hm1 t hm];exact .any _
   ·rw [hm2 t hm];exact hf t fun z hz hzu he=>hm ((hml t).2 ⟨z,hz,hzu,he⟩)
  have hlook:∀ t,t ∈ o.looksAt ops→fv t frm=fv t fr:=by
   intro t ht';refine hm2 t fun hm=>?_;obtain ⟨z,hz,hzu,he⟩:=(hml t).1 hm;exact notboth hzu (hwl z (hB.zdst z (hzza z hz) t he i (by rw [hli];exact ht')))
  have hlook':∀ t,t ∈ o.looksAt ops→fv t fr=fv t frm:=fun t ht'=>(hlook t ht').symm
  have hgu:∀ {g want d},o.guard=some (g,want)→(ops[g]?).bind (·.dst)=some d→fv d fr=.tup []→¬ (yielded ops a.tmps g=some want):=by
   intro g want d hg hd hb;have hx:=hfm d;rw [hlook d (SB hg hd),hb] at hx;unfold yielded;rw [hd]
   cases ht:a.tmps[d]? with
   | none=>simp [ht]
   | some u =>
    have e:a.tmps.getD d undef=u:=by simp [Array.getD_eq_getD_getElem?,ht]
    rw [e] at hx
    cases hx with
    | tup _ xs _ _=>simp [ht]
  have hgv:∀ {g want d b},o.guard=some (g,want)→(ops[g]?).bind (·.dst)=some d→fv d fr=.d (.bool b)→yielded ops a.tmps g=some b:=by
   intro g want d b hg hd hb;have hx:=hfm d;rw [hlook d (SB hg hd),hb] at hx;have hv:=O6 hx;unfold yielded;rw [hd];have hv':a.tmps[d]?.getD undef=.bool b:=by simpa using hv
   cases ht:a.tmps[d]? with
   | none=>rw [ht] at hv';cases hv'
   | some u=>rw [ht] at hv';simp at hv';subst hv';simp [ht]
  unfold wpOp;simp only [ho];by_cases hz:i ∈ zs
  ·
   have hag:YC hp0 hp:=by
    rcases hI.sa with h | h
    ·exact h
    ·have:=h i (hzza i hz);rw [hun] at this;cases this
   have hirest:i ∉ ZF rest:=fun h=>by
    rcases Xd h with h | h
    ·exact (hB.part i his).2 ⟨hzza i hz,hsub i h⟩
    ·exact (R8 hnz).2.2 i hz h
   obtain ⟨v,o',ho',hdv,hzk⟩:=hI.facts i hz hun;rw [ho] at ho';injection ho' with ho';subst ho'
   have next:∀ a' w',U8 c (w9 frm o.dst v) hp (I6 U (base+32*i)) a' w'→wpAny P .any ops Q fuel (listed.setIfInBounds i true) a' w':=by
    rintro a' w' ⟨q1,q2,σ',q3,q4,q5⟩;refine ih _ zs rest m fr hp a' w' hfuel' ht hc hn hsub hsg hord hnz hza ⟨by simp [hI.size],hclosed',fun j hj=>?_,fun j hj hjz hjr=>?_,q1,q2,⟨_,σ',q3,q5,hU',fun t htu=>?_⟩,fun z hz' hzu=>hI.facts z hz' (hun' z hzu).1,.inl hag⟩ hW
    ·rw [pC true hil,if_neg (fun e=>hirest (by rw [e];exact hj))];exact hI.un j hj
    ·rw [pC false hil]
     split
     ·rfl
     ·exact hI.done j hj hjz hjr
    ·have:=q4 t;by_cases hd:o.dst=some t
     ·rw [hd,SC] at this;rw [hdv t hd];exact this
     ·rw [TX hd,hm2 t fun hm=>?_] at this
      ·exact this
      ·obtain ⟨z,hz',hzu,he⟩:=(hml t).1 hm;refine htu z hz' ?_ he;rw [pC true hil,if_neg]
       ·exact hzu
       ·intro e;subst e;exact hd (by rw [← hdi];exact he)
   have exec:Vo P fr hp0 o.op v→o.wp P a w (wpAny P .any ops Q fuel (listed.setIfInBounds i true)) Q:=by
    intro hs;have hop:=TN hlook' hs hp (base+32*i) (fun v' hp'=>v'=v∧hp'=hp) hag ⟨rfl,rfl⟩;have hok:=Xa (o:=o) hr (fun x=>aa2 hfm x) hNU hop;refine WZ hI.def_ hI.tmps hdst hfm hh hok fun v' hp' a' w' hK hS=>?_;obtain ⟨rfl,rfl⟩:=hK;exact next a' w' hS
   unfold ZOk at hzk
   split at hzk
   ·rename_i hg;rw [if_pos (by simp [Region.wanted,hg])];exact .inl (exec hzk)
   ·rename_i g want hg;obtain ⟨d,hd,⟨b,hb,h1,h2⟩ | ⟨hb,hv⟩⟩:=hzk
    ·have hy:=hgv hg hd hb;by_cases hbw:b=want
     ·rw [if_pos (by simp [Region.wanted,hg,hy,hbw])];exact .inl (exec (h1 hbw))
     ·rw [if_neg (by simp [Region.wanted,hg,hy,hbw])];have hv:=h2 (by cases b <;> cases want <;> simp_all)
      subst hv;exact next _ _ (TO hI.def_ hI.tmps hr hh hfm)
    ·have hy:=hgu hg hd hb;rw [if_neg (by simp [Region.wanted,hg,hy])];subst hv;exact next _ _ (TO hI.def_ hI.tmps hr hh hfm)
  ·
   have hir:i ∈ ZF rest:=by
    rcases Classical.em (i ∈ ZF rest) with h | h
    ·exact h
    ·exact (notboth hun (hI.done i his hz h)).elim
   cases rest with
   | nil=>simp [ZF] at hir
   | cons s r =>
    obtain ⟨j,zj⟩:=s
    have hij:i=j:=by
     have far:∀ p,p ∈ N8 ((j,zj) :: r)→Waits ops i p→False:=fun p hp1 hp2=>notboth (hI.un p (WF hp1)) (hwl p hp2);rcases Xd hir with h | h
     ·rcases List.mem_cons.1 h with h | h
      ·exact h
      ·obtain ⟨p,hp1,hp2⟩:=ZH (N8 r) j hc i h;exact (far p hp1 hp2).elim
     ·obtain ⟨p,hp1,hp2⟩:=adH hsg h;exact (far p hp1 hp2).elim
    subst hij;have hiza:i ∉ za:=fun h=>(hB.part i his).2 ⟨h,hsub i (List.mem_cons_self ..)⟩
    have hni:i ∉ N8 r:=by
     simp only [N8,I8,Bool.and_eq_true,Bool.not_eq_true',List.contains_eq_mem,decide_eq_false_iff_not] at hn;exact hn.1
    have hns:i ∉ ZF r:=fun h=>by
     rcases Xd h with h | h
     ·exact hni h
     ·exact hiza (hza i (List.mem_append.2 (.inr (List.mem_append.2 (.inr h)))))
    have hnr:I8 (N8 r)=true:=by
     simp only [N8,I8,Bool.and_eq_true] at hn;exact hn.2
    have hcr:X1 ops (N8 r):=by
     cases r with
     | nil=>trivial
     | cons b r=>exact hc.2
    have htr:∀ k,k ∈ (N8 r).drop (m - 1)→∀ z,z ∈ za→Waits ops k z:=by
     intro k hk;refine ht k ?_
     cases m with
     | zero=>exact List.mem_cons_of_mem _ (by simpa using hk)
     | succ m=>simpa [N8] using hk
    have hord':P4 ops ((zs ++ zj) ++ Xc r)=true:=by rw [List.append_assoc];exact hord
    have hnz':I8 ((zs ++ zj) ++ Xc r)=true:=by rw [List.append_assoc];exact hnz
    have hza':∀ z,z ∈ (zs ++ zj) ++ Xc r→z ∈ za:=by rw [List.append_assoc];exact hza
    have hzj:∀ z,z ∈ zj→z ∈ za:=fun z hz'=>hza' z (List.mem_append.2 (.inl (List.mem_append.2 (.inr hz'))));have hordj:=Tj (Tj hord').1;have hnzj:=R8 (R8 hnz').1;have hunj:∀ z,z ∈ zj→listed.getD z true=false:=fun z hz'=>hI.un z (List.mem_cons_of_mem _ (List.mem_append.2 (.inl hz')));simp only [chW,ho] at hW
    have next:∀ v hp' a' w',(m ≠ 0→YC hp0 hp' ∨ ∀ z,z ∈ za→listed.getD z true=true)→zW P ops base hp0 (fun fr=>chW P ops base hp0 K r (m - 1) fr hp') zj (w9 fr o.dst v)→U8 c (w9 frm o.dst v) hp' (I6 U (base+32*i)) a' w'→wpAny P .any ops Q fuel (listed.setIfInBounds i true) a' w':=by
     rintro v hp' a' w' hsa hW' ⟨q1,q2,σ',q3,q4,q5⟩;obtain ⟨frZ,g1,g2,g3⟩:=Vp hB.uniq zj _ hordj.2.1 hnzj.2.1 hW';refine ih _ (zs ++ zj) r (m - 1) frZ hp' a' w' hfuel' htr hcr hnr (fun k hk=>hsub k (List.mem_cons_of_mem _ hk)) hsg.2.2 hord' hnz' hza' ⟨by simp [hI.size],hclosed',fun k hk=>?_,fun k hk hkz hkr=>?_,q1,q2,⟨_,σ',q3,q5,hU',fun t htu=>?_⟩,fun z hz' hzu=>?_,?_⟩ g1
     ·rw [pC true hil,if_neg (fun e=>hns (by rw [e];exact hk))];exact hI.un k (List.mem_cons_of_mem _ (List.mem_append.2 (.inr hk)))
     ·rw [pC false hil]
      split
      ·rfl
      ·rename_i hne
       exact hI.done k hk (fun h=>hkz (List.mem_append.2 (.inl h))) (fun h=>by
        rcases List.mem_cons.1 h with h | h
        ·exact hne h.symm
        ·rcases List.mem_append.1 h with h | h
         ·exact hkz (List.mem_append.2 (.inr h))
         ·exact hkr h)
     ·have hnj:∀ z,z ∈ zj→B0 ops z ≠ some t:=fun z hz'=>htu z (List.mem_append.2 (.inr hz')) (by
       rw [pC true hil,if_neg (fun e=>hiza (by rw [e];exact hzj z hz'))]
       exact hunj z hz')
      rw [g2 t hnj];have:=q4 t;by_cases hd:o.dst=some t
      ·rw [hd,SC] at this ⊢;exact this
      ·rw [TX hd] at this ⊢;rw [hm2 t fun hm=>?_] at this
       ·exact this
       ·obtain ⟨z,hz',hzu,he⟩:=(hml t).1 hm;refine htu z (List.mem_append.2 (.inl hz')) ?_ he;rw [pC true hil,if_neg (fun e=>hz (by rw [e];exact hz'))];exact hzu
     ·rcases List.mem_append.1 hz' with hz' | hz'
      ·obtain ⟨hzu1,hzi⟩:=hun' z hzu;obtain ⟨vz,oz,hoz,hdz,hzk⟩:=hI.facts z hz' hzu1;have hdz':B0 ops z=oz.dst:=by simp [B0,hoz]
       have hlz:Q0 ops z=oz.looksAt ops:=by simp [Q0,hoz]
       refine ⟨vz,oz,hoz,fun d hd=>?_,X2 (fun t ht'=>?_) hzk⟩
       ·rw [g2 d fun y hy he=>?_,TX]
        ·exact hdz d hd
        ·intro he;exact hzi (hB.uniq z i d (by rw [hdz'];exact hd) (by rw [hdi];exact he))
        ·have:=hB.uniq z y d (by rw [hdz'];exact hd) he;subst this;exact hnzj.2.2 z hz' hy
       ·rw [g2 t fun y hy=>hordj.2.2 z hz' y hy t (by rw [hlz];exact ht'),TX];intro he;exact notboth hzu1 (hwl z (hsg.1 t (by rw [hdi];exact he) z hz' (by rw [hlz];exact ht')))
      ·exact g3 z hz'
     ·cases m with
      | zero =>
       right;intro z hz';have:=hwl z (ht i (by simp [N8]) z hz');rw [pC true hil]
       split
       ·rfl
       ·exact SY this
      | succ m =>
       rcases hsa aa with h | h
       ·exact .inl h
       ·right;intro z hz';rw [pC true hil]
        split
        ·rfl
        ·exact h z hz'
    have exec:A6 P fr hp (base+32*i) o.op (fun v hp'=>(m ≠ 0→y9 hp0 hp')∧zW P ops base hp0 (fun fr=>chW P ops base hp0 K r (m - 1) fr hp') zj (w9 fr o.dst v))→o.wp P a w (wpAny P .any ops Q fuel (listed.setIfInBounds i true)) Q:=by
     intro hop;rw [X0 (ZG hlook')] at hop;have hok:=Xa (o:=o) hr (fun x=>aa2 hfm x) hNU hop;refine WZ hI.def_ hI.tmps hdst hfm hh hok fun v' hp' a' w' hK hS=>?_;exact next v' hp' a' w' (fun h=>.inl (adI (hK.1 h))) hK.2 hS
    split at hW
    ·rename_i hg;rw [if_pos (by simp [Region.wanted,hg])];exact .inl (exec hW)
    ·rename_i g want hg
     split at hW
     ·rename_i d hd
      split at hW
      ·rename_i b hb;have hy:=hgv hg hd hb;by_cases hbw:b=want
       ·rw [if_pos (by simp [Region.wanted,hg,hy,hbw])];exact .inl (exec (hW.1 hbw))
       ·rw [if_neg (by simp [Region.wanted,hg,hy,hbw])];have hv:=hW.2 (by cases b <;> cases want <;> simp_all)
        exact next (.tup []) hp _ _ (fun hm=>hI.sa) hv (TO hI.def_ hI.tmps hr hh hfm)
      ·rename_i hb;have hy:=hgu hg hd hb;rw [if_neg (by simp [Region.wanted,hg,hy])];exact next (.tup []) hp _ _ (fun hm=>hI.sa) hW (TO hI.def_ hI.tmps hr hh hfm)
      ·exact hW.elim
     ·exact hW.elim
theorem afy {zs:List Nat} {ss:SX} {m:Nat} {id:Nat} {U:Nat→Prop} {a:Act} {w:World} {Q:Exit→Act→World→Prop} (hmix:P.follows .mixedOrders=true) (hB:afw c.n ops zs ss m=true)
  (hQ:∀ fr hp a w U,K fr hp→(∀ k,U k→k<base+32*ops.size)→U8 c fr hp U a w→Q .normal a w)
  (hU:∀ k,U k→k<base) (hs:U8 c fr hp0 U a w) (h:zW P ops base hp0 (fun fr=>chW P ops base hp0 K ss m fr hp0) zs fr):(Code.region id ops true).wp P Q a w:=by
 obtain ⟨hok,hmore⟩:=amM hB;obtain ⟨frZ,h1,h2,h3⟩:=Vp hok.uniq zs fr (Tj hmore.order).1 (R8 hmore.nza).1 h;obtain ⟨q1,q2,σ,q3,q4,q5⟩:=hs;have hrd:=Sz q3
 have rep:∀ j,(Array.replicate ops.size false).getD j false=false:=by
  intro j;simp only [Array.getD_eq_getD_getElem?,Array.getElem?_replicate]
  split <;> rfl
 have rep':∀ j,j<ops.size→(Array.replicate ops.size false).getD j true=false:=by
  intro j hj;simp [Array.getD_eq_getD_getElem?,Array.getElem?_replicate,hj]
 refine wp_region_any hmix (apO hok hQ ops.size _ zs ss m frZ hp0 a w.drew ?_ hmore.tail hmore.chain hmore.nis (fun _ h=>h) hmore.seg hmore.order hmore.nza (fun _ h=>h) ⟨ab,fun j o ho hl=>(by rw [rep] at hl;cases hl),fun j hj=>?_,fun j hj hz hi=>?_,q1,q2,
  ⟨U,σ,hrd,q5.trans C2,fun k hk=>.inl (hU k hk),fun t ht=>?_⟩,fun z hz _=>h3 z hz,.inl fun _ _ h=>h⟩ h1)
 ·unfold unl;refine Nat.le_trans (List.length_filter_le _ _) ?_;simp
 ·refine rep' j ?_;rcases Xd hj with h | h
  ·exact hok.inb j h
  ·rcases Nat.lt_or_ge j ops.size with h' | h'
   ·exact h'
   ·exact absurd h' (by have:=hmore.inz j (List.mem_append.2 (.inr h));omega)
 ·rcases (hok.part j hj).1 with h | h
  ·rcases List.mem_append.1 h with h | h
   ·exact absurd h hz
   ·exact absurd (aa9 h) hi
  ·exact absurd (WF h) hi
 ·rw [h2 t fun z hz he=>?_]
  ·exact (q4 t).step C2
  ·refine ht z hz (rep' z ?_) he;rcases Nat.lt_or_ge z ops.size with h | h
   ·exact h
   ·simp [B0,Array.getElem?_eq_none h] at he
end
end Go.Am
namespace Go.Am
inductive Tr where
 | done
 | alt (a b:Tr)
 | step (i:Nat) (zs:List Nat) (keep:Bool) (t:Tr)
def rmv (i:Nat) (hs:List Nat):List Nat:=hs.filter fun j=>j != i
def ab9 (za zs:List Nat):List Nat:=za.filter fun z=>!zs.contains z
theorem Xe {i k:Nat} {hs:List Nat}:k ∈ rmv i hs ↔ k ∈ hs∧k ≠ i:=by simp [rmv]
theorem N9 {za zs:List Nat} {k:Nat}:k ∈ ab9 za zs ↔ k ∈ za∧k ∉ zs:=by simp [ab9]
def Vq:Tr→List Nat
 | .done=>[]
 | .alt a b=>Vq a ++ Vq b
 | .step i _ _ _=>[i]
def apP (ms:List Nat) (hs:List Nat) (t:Tr):Bool:=hs.all fun j=>(Vq t).contains j || hs.any fun p=>wt ms j p
def amN (ops:Array Oper) (hs:List Nat) (t:Tr):Prop:=∀ j,j ∈ hs→j ∈ Vq t ∨ ∃ p,p ∈ hs∧Waits ops j p
def trB (ops:Array Oper) (ms za is:List Nat):List Nat→List Nat→Tr→Bool
 | zv,hs,.done=>hs.isEmpty && za.all fun z=>zv.contains z
 | zv,hs,.alt a b=>trB ops ms za is zv hs a && trB ops ms za is zv hs b
 | zv,hs,.step i zs keep t=>hs.contains i && (keep || za.all fun z=>wt ms i z || is.any fun h=>!hs.contains h && wt ms h z) && (match B0 ops i with
   | some d=>zv.all fun z=>!(Q0 ops z).contains d || wt ms i z
   | none=>true) && (zs.all fun z=>wt ms z i) && (zs.all fun z=>za.contains z) && P4 ops (zv ++ zs) && I8 (zv ++ zs) && apP ms (rmv i hs) t && trB ops ms za is (zv ++ zs) (rmv i hs) t
def trP (ops:Array Oper) (za is:List Nat):List Nat→List Nat→Tr→Prop
 | zv,hs,.done=>hs=[]∧∀ z,z ∈ za→z ∈ zv
 | zv,hs,.alt a b=>trP ops za is zv hs a∧trP ops za is zv hs b
 | zv,hs,.step i zs keep t=>(i ∈ hs∧(keep=false→∀ z,z ∈ za→Waits ops i z ∨ ∃ h,h ∈ is∧h ∉ hs∧Waits ops h z))∧(∀ d,B0 ops i=some d→∀ z,z ∈ zv→d ∈ Q0 ops z→Waits ops i z)∧(∀ z,z ∈ zs→Waits ops z i)∧(∀ z,z ∈ zs→z ∈ za) ∧
   P4 ops (zv ++ zs)=true∧I8 (zv ++ zs)=true∧amN ops (rmv i hs) t∧trP ops za is (zv ++ zs) (rmv i hs) t
theorem ajw {ops:Array Oper} {hs:List Nat} {t:Tr} (h:apP (mks ops) hs t=true):amN ops hs t:=by
 intro j hj;have:=List.all_eq_true.1 h j hj;rw [Bool.or_eq_true] at this;rcases this with h | h
 ·exact .inl (by simpa using h)
 ·obtain ⟨p,h1,h2⟩:=List.any_eq_true.1 h;exact .inr ⟨p,h1,Ti h2⟩
theorem agL {ops:Array Oper} {za is:List Nat}:∀ (t:Tr) {zv hs:List Nat},trB ops (mks ops) za is zv hs t=true→trP ops za is zv hs t
 | .done,zv,hs,h=>by
  simp only [trB,Bool.and_eq_true,List.isEmpty_iff] at h;exact ⟨h.1,fun z hz=>by simpa using List.all_eq_true.1 h.2 z hz⟩
 | .alt a b,zv,hs,h=>by
  simp only [trB,Bool.and_eq_true] at h;exact ⟨agL a h.1,agL b h.2⟩
 | .step i zs keep t,zv,hs,h=>by
  simp only [trB,Bool.and_eq_true] at h;obtain ⟨⟨⟨⟨⟨⟨⟨⟨h1,h2⟩,h3⟩,h4⟩,h5⟩,h6⟩,h7⟩,h8⟩,h9⟩:=h;refine ⟨⟨by simpa using h1,fun hk z hz=>?_⟩,fun d hd z hz hl=>?_,fun z hz=>Ti (List.all_eq_true.1 h4 z hz),fun z hz=>by simpa using List.all_eq_true.1 h5 z hz,h6,h7,ajw h8,agL t h9⟩
  ·rw [hk,Bool.false_or] at h2;have h2':=List.all_eq_true.1 h2 z hz;rw [Bool.or_eq_true] at h2';rcases h2' with h | h
   ·exact .inl (Ti h)
   ·obtain ⟨q,q1,q2⟩:=List.any_eq_true.1 h;rw [Bool.and_eq_true] at q2;exact .inr ⟨q,q1,by simpa using q2.1,Ti q2.2⟩
  ·simp only [hd] at h3;have:=List.all_eq_true.1 h3 z hz;simp only [hl,List.contains_eq_mem,decide_true,Bool.not_true,Bool.false_or] at this;exact Ti this
section
variable (P:Program) (ops:Array Oper) (base:Nat) (hp0:Hp) (K:Fr→Hp→Prop)
def trW:Tr→Fr→Hp→Prop
 | .done,fr,hp=>K fr hp
 | .alt a b,fr,hp=>trW a fr hp∧trW b fr hp
 | .step i zs keep t,fr,hp=>match ops[i]? with
  | some o=>(match o.guard with
   | none=>A6 P fr hp (base+32*i) o.op fun v hp'=>(keep=true→y9 hp0 hp')∧zW P ops base hp0 (fun fr=>trW t fr hp') zs (w9 fr o.dst v)
   | some (g,want)=>(match (ops[g]?).bind (·.dst) with
    | some d=>(match fv d fr with
     | .d (.bool b)=>(b=want→A6 P fr hp (base+32*i) o.op fun v hp'=>(keep=true→y9 hp0 hp')∧zW P ops base hp0 (fun fr=>trW t fr hp') zs (w9 fr o.dst v)) ∧
       (b=!want→zW P ops base hp0 (fun fr=>trW t fr hp) zs (w9 fr o.dst (.tup [])))
     | .tup []=>zW P ops base hp0 (fun fr=>trW t fr hp) zs (w9 fr o.dst (.tup []))
     | _=>False)
    | none=>False))
  | none=>False
end
section
variable {P:Program} {c:Ctx} {ops:Array Oper} {base:Nat} {hp0:Hp} {K:Fr→Hp→Prop} {fr fr':Fr}
theorem adJ {za is zs:List Nat} {hp:Hp}:∀ (t:Tr),trP ops za is zs [] t→trW P ops base hp0 K t fr hp→K fr hp
 | .done,_,h=>h
 | .alt a b,hT,h=>adJ a hT.1 h.1
 | .step i zs keep t,hT,h=>by have:=hT.1.1;simp at this
theorem ZI {za is:List Nat}:∀ (t:Tr) {zs hs:List Nat} {z:Nat},trP ops za is zs hs t→z ∈ za→z ∉ zs→∃ p,p ∈ hs∧Waits ops z p
 | .done,zs,hs,z,hT,h1,h2=>absurd (hT.2 z h1) h2
 | .alt a b,zs,hs,z,hT,h1,h2=>ZI a hT.1 h1 h2
 | .step i zj keep t,zs,hs,z,hT,h1,h2=>by
  obtain ⟨p1,p2,p3,p4,p5,p6,p7,p8⟩:=hT;rcases Classical.em (z ∈ zj) with h | h
  ·exact ⟨i,p1.1,p3 z h⟩
  ·obtain ⟨p,q1,q2⟩:=ZI t p8 h1 (fun e=>(List.mem_append.1 e).elim h2 h);exact ⟨p,(Xe.1 q1).1,q2⟩
theorem X3 {za is zs hs:List Nat} {hp:Hp} {i:Nat}:∀ (t:Tr),i ∈ Vq t→trP ops za is zs hs t→trW P ops base hp0 K t fr hp→∃ zj keep t',trP ops za is zs hs (.step i zj keep t')∧trW P ops base hp0 K (.step i zj keep t') fr hp
 | .done,h,_,_=>by simp [Vq] at h
 | .alt a b,h,hT,hW=>by
  rcases List.mem_append.1 h with h | h
  ·exact X3 a h hT.1 hW.1
  ·exact X3 b h hT.2 hW.2
 | .step j zj keep t',h,hT,hW=>by
  simp only [Vq,List.mem_singleton] at h;subst h;exact ⟨zj,keep,t',hT,hW⟩
/-- Every order. -/
theorem apQ {za is:List Nat} {Q:Exit→Act→World→Prop} (hB:RegOk c.n ops za is)
  (hQ:∀ fr hp a w U,K fr hp→(∀ k,U k→k<base+32*ops.size)→U8 c fr hp U a w→Q .normal a w) :
  ∀ (fuel:Nat) (listed:Array Bool) (zs hs:List Nat) (t:Tr) (fr:Fr) (hp:Hp) (a:Act) (w:World),unl listed≤fuel→trP ops za is zs hs t→amN ops hs t→(∀ i,i ∈ hs→i ∈ is)→(∀ z,z ∈ zs→z ∈ za) →
   RInv P c ops base hp0 za zs (hs ++ ab9 za zs) listed fr hp a w→trW P ops base hp0 K t fr hp→wpAny P .any ops Q fuel listed a w:=by
 have notboth:∀ {listed:Array Bool} {i:Nat},listed.getD i true=false→listed.getD i false=true→False:=by
  intro listed i h1 h2;rw [SY h2] at h1
  cases h1
 -- where nothing is left
 have Ye:∀ (listed:Array Bool) (zs hs:List Nat) (t:Tr) (fr:Fr) (hp:Hp) (a:Act) (w:World),trP ops za is zs hs t→(∀ i,i ∈ hs→i ∈ is)→RInv P c ops base hp0 za zs (hs ++ ab9 za zs) listed fr hp a w→trW P ops base hp0 K t fr hp→Region.ready .any ops listed=[]→Q .normal a w:=by
  intro listed zs hs t fr hp a w hT hsub hI hW hr0
  have all:∀ k j,j≤k→j<ops.size→listed.getD j false=true:=by
   intro k
   induction k with
   | zero =>
    intro j hj hjs
    cases hl:listed.getD j false with
    | true=>rfl
    | false =>
     have hmem:j ∈ Region.ready .any ops listed:=mem_ready.2 ⟨Sj (by rw [hI.size];exact hjs) hl,ops[j],Array.getElem?_eq_getElem hjs,fun e he hb=>by
      have:=hB.low j _ (Array.getElem?_eq_getElem hjs) e he hb
      omega⟩
     rw [hr0] at hmem;simp at hmem
   | succ k ih =>
    intro j hj hjs
    cases hl:listed.getD j false with
    | true=>rfl
    | false =>
     have hmem:j ∈ Region.ready .any ops listed:=mem_ready.2 ⟨Sj (by rw [hI.size];exact hjs) hl,ops[j],Array.getElem?_eq_getElem hjs,fun e he hb=>by
      have:=hB.low j _ (Array.getElem?_eq_getElem hjs) e he hb
      exact ih e.on aa aa⟩
     rw [hr0] at hmem;simp at hmem
  have hnil:hs=[]:=by
   cases hs with
   | nil=>rfl
   | cons j r =>
    have h1:=hI.un j (List.mem_append.2 (.inl (List.mem_cons_self ..)));exact (notboth h1 (all j j (Nat.le_refl _) (hB.inb j (hsub j (List.mem_cons_self ..))))).elim
  subst hnil;have hW:=adJ t hT hW;obtain ⟨U,σ,hr,hh,hU,hf⟩:=hI.sim;refine hQ fr hp a w U hW (fun k hk=>?_) ⟨hI.def_,hI.tmps,σ,hr,fun t=>hf t fun z hz hun=>?_,hh⟩
  ·rcases hU k hk with h | ⟨j,hj1,hj2,hj⟩
   ·omega
   ·have:j<listed.size:=by
     rcases Nat.lt_or_ge j listed.size with h | h
     ·exact h
     ·simp [Array.getD_eq_getD_getElem?,Array.getElem?_eq_none h] at hj
    have:=hI.size;omega
  ·intro he
   have:z<ops.size:=by
    rcases Nat.lt_or_ge z ops.size with h | h
    ·exact h
    ·simp [B0,Array.getElem?_eq_none h] at he
   exact notboth hun (all z z (Nat.le_refl _) this)
 intro fuel
 induction fuel with
 | zero =>
  intro listed zs hs t fr hp a w hf hT hcov hsub hza hI hW
  have hr0:Region.ready .any ops listed=[]:=by
   rw [List.eq_nil_iff_forall_not_mem];intro i hi;have:=Y8 (mem_ready.1 hi).1;omega
  exact ⟨hr0,Ye listed zs hs t fr hp a w hT hsub hI hW hr0⟩
 | succ fuel ih =>
  intro listed zs hs tr fr hp a w hfuel hT hcov hsub hza hI hW;refine ⟨Ye listed zs hs tr fr hp a w hT hsub hI hW,fun i hi=>?_⟩;obtain ⟨hun,o,ho,haft⟩:=mem_ready.1 hi;have his:i<ops.size:=(Array.getElem?_eq_some_iff.1 ho).1;have hil:i<listed.size:=by rw [hI.size];exact his
  have hdi:B0 ops i=o.dst:=by simp [B0,ho]
  have hli:Q0 ops i=o.looksAt ops:=by simp [Q0,ho]
  have hwl:∀ z,Waits ops i z→listed.getD z false=true:=fun z hz=>UC hI.closed hz fun o' ho'=>by
   rw [ho] at ho';injection ho' with ho';subst ho';exact haft
  have hzza:∀ z,z ∈ zs→z ∈ za:=hza
  have hdst:P8 c.n o.dst:=by
   unfold P8
   cases hd:o.dst with
   | none=>trivial
   | some d=>exact hB.lt i d (by rw [hdi,hd])
  have hun':∀ z,(listed.setIfInBounds i true).getD z true=false→listed.getD z true=false∧z ≠ i:=by
   intro z hz;rw [pC true hil] at hz
   split at hz
   ·cases hz
   ·rename_i hne;exact ⟨hz,fun h=>hne h.symm⟩
  have hclosed':∀ j o',ops[j]?=some o'→(listed.setIfInBounds i true).getD j false=true→∀ e,e ∈ o'.after→Region.binds .any e=true→(listed.setIfInBounds i true).getD e.on false=true:=by
   intro j o' hj hl e he hb;rw [pC false hil] at hl ⊢
   split
   ·rfl
   ·split at hl
    ·rename_i hij;subst hij;rw [ho] at hj;injection hj with hj;subst hj;exact haft e he hb
    ·exact hI.closed j o' hj hl e he hb
  have hfuel':unl (listed.setIfInBounds i true)≤fuel:=by
   have:=Y8 hun;omega
  obtain ⟨U,σ,hr,hh,hU,hf⟩:=hI.sim
  have hNU:Free U (base+32*i):=by
   intro k k1 k2 h;rcases hU _ h with h | ⟨j,hj,hj2,hl⟩
   ·omega
   ·have:j=i:=aa;subst this;exact notboth hun hl
  have hU':∀ k,I6 U (base+32*i) k→k<base ∨ ∃ j,base+32*j≤k∧k<base+32*j+32∧(listed.setIfInBounds i true).getD j false=true:=by
   rintro k (h | h)
   ·rcases hU k h with h | ⟨j,h1,h1',h2⟩
    ·exact .inl h
    ·exact .inr ⟨j,h1,h1',by rw [pC false hil];split <;> simp [h2]⟩
   ·exact .inr ⟨i,h.1,h.2,by rw [pC false hil];simp⟩
  obtain ⟨frm,hm1,hm2⟩:=afx fr (zs.filterMap fun z=>if listed.getD z true=true then none else B0 ops z)
  have hml:∀ t,t ∈ (zs.filterMap fun z=>if listed.getD z true=true then none else B0 ops z) ↔ ∃ z,z ∈ zs∧listed.getD z true=false∧B0 ops z=some t:=by
   intro t;rw [List.mem_filterMap];constructor
   ·rintro ⟨z,hz,h⟩
    split at h
    ·cases h
    ·rename_i hne;exact ⟨z,hz,by simpa using hne,h⟩
   ·rintro ⟨z,hz,h1,h2⟩;exact ⟨z,hz,by simp [h1,h2]⟩
  have hfm:∀ t,AIs w (z7 c w σ hp) σ hp U (fv t frm) (a.tmps.getD t undef):=by
   intro t;by_cases hm:t ∈ (zs.filterMap fun z=>if listed.getD z true=true then none else B0 ops z)
   ·rw [hm1 t hm];exact .any _
   ·rw [hm2 t hm];exact hf t fun z hz hzu he=>hm ((hml t).2 ⟨z,hz,hzu,he⟩)
  have hlook:∀ t,t ∈ o.looksAt ops→fv t frm=fv t fr:=by
   intro t ht';refine hm2 t fun hm=>?_;obtain ⟨z,hz,hzu,he⟩:=(hml t).1 hm;exact notboth hzu (hwl z (hB.zdst z (hzza z hz) t he i (by rw [hli];exact ht')))
  have hlook':∀ t,t ∈ o.looksAt ops→fv t fr=fv t frm:=fun t ht'=>(hlook t ht').symm
  have hgu:∀ {g want d},o.guard=some (g,want)→(ops[g]?).bind (·.dst)=some d→fv d fr=.tup []→¬ (yielded ops a.tmps g=some want):=by
   intro g want d hg hd hb;have hx:=hfm d;rw [hlook d (SB hg hd),hb] at hx;unfold yielded;rw [hd]
   cases ht:a.tmps[d]? with
   | none=>simp [ht]
   | some u =>
    have e:a.tmps.getD d undef=u:=by simp [Array.getD_eq_getD_getElem?,ht]
    rw [e] at hx
    cases hx with
    | tup _ xs _ _=>simp [ht]
  have hgv:∀ {g want d b},o.guard=some (g,want)→(ops[g]?).bind (·.dst)=some d→fv d fr=.d (.bool b)→yielded ops a.tmps g=some b:=by
   intro g want d b hg hd hb;have hx:=hfm d;rw [hlook d (SB hg hd),hb] at hx;have hv:=O6 hx;unfold yielded;rw [hd];have hv':a.tmps[d]?.getD undef=.bool b:=by simpa using hv
   cases ht:a.tmps[d]? with
   | none=>rw [ht] at hv';cases hv'
   | some u=>rw [ht] at hv';simp at hv';subst hv';simp [ht]
  unfold wpOp;simp only [ho];by_cases hz:i ∈ zs
  ·
   have hag:YC hp0 hp:=by
    rcases hI.sa with h | h
    ·exact h
    ·have:=h i (hzza i hz);rw [hun] at this;cases this
   have hirest:i ∉ hs ++ ab9 za zs:=fun h=>by
    rcases List.mem_append.1 h with h | h
    ·exact (hB.part i his).2 ⟨hzza i hz,hsub i h⟩
    ·exact (N9.1 h).2 hz
   obtain ⟨v,o',ho',hdv,hzk⟩:=hI.facts i hz hun;rw [ho] at ho';injection ho' with ho';subst ho'
   have next:∀ a' w',U8 c (w9 frm o.dst v) hp (I6 U (base+32*i)) a' w'→wpAny P .any ops Q fuel (listed.setIfInBounds i true) a' w':=by
    rintro a' w' ⟨q1,q2,σ',q3,q4,q5⟩;refine ih _ zs hs tr fr hp a' w' hfuel' hT hcov hsub hza ⟨by simp [hI.size],hclosed',fun j hj=>?_,fun j hj hjz hjr=>?_,q1,q2,⟨_,σ',q3,q5,hU',fun t htu=>?_⟩,fun z hz' hzu=>hI.facts z hz' (hun' z hzu).1,.inl hag⟩ hW
    ·rw [pC true hil,if_neg (fun e=>hirest (by rw [e];exact hj))];exact hI.un j hj
    ·rw [pC false hil]
     split
     ·rfl
     ·exact hI.done j hj hjz hjr
    ·have:=q4 t;by_cases hd:o.dst=some t
     ·rw [hd,SC] at this;rw [hdv t hd];exact this
     ·rw [TX hd,hm2 t fun hm=>?_] at this
      ·exact this
      ·obtain ⟨z,hz',hzu,he⟩:=(hml t).1 hm;refine htu z hz' ?_ he;rw [pC true hil,if_neg]
       ·exact hzu
       ·intro e;subst e;exact hd (by rw [← hdi];exact he)
   have exec:Vo P fr hp0 o.op v→o.wp P a w (wpAny P .any ops Q fuel (listed.setIfInBounds i true)) Q:=by
    intro hs;have hop:=TN hlook' hs hp (base+32*i) (fun v' hp'=>v'=v∧hp'=hp) hag ⟨rfl,rfl⟩;have hok:=Xa (o:=o) hr (fun x=>aa2 hfm x) hNU hop;refine WZ hI.def_ hI.tmps hdst hfm hh hok fun v' hp' a' w' hK hS=>?_;obtain ⟨rfl,rfl⟩:=hK;exact next a' w' hS
   unfold ZOk at hzk
   split at hzk
   ·rename_i hg;rw [if_pos (by simp [Region.wanted,hg])];exact .inl (exec hzk)
   ·rename_i g want hg;obtain ⟨d,hd,⟨b,hb,h1,h2⟩ | ⟨hb,hv⟩⟩:=hzk
    ·have hy:=hgv hg hd hb;by_cases hbw:b=want
     ·rw [if_pos (by simp [Region.wanted,hg,hy,hbw])];exact .inl (exec (h1 hbw))
     ·rw [if_neg (by simp [Region.wanted,hg,hy,hbw])];have hv:=h2 (by cases b <;> cases want <;> simp_all)
      subst hv;exact next _ _ (TO hI.def_ hI.tmps hr hh hfm)
    ·have hy:=hgu hg hd hb;rw [if_neg (by simp [Region.wanted,hg,hy])];subst hv;exact next _ _ (TO hI.def_ hI.tmps hr hh hfm)
  ·
   have hir:i ∈ hs ++ ab9 za zs:=by
    rcases Classical.em (i ∈ hs ++ ab9 za zs) with h | h
    ·exact h
    ·exact (notboth hun (hI.done i his hz h)).elim
   have far:∀ p,p ∈ hs→Waits ops i p→False:=fun p hp1 hp2=>notboth (hI.un p (List.mem_append.2 (.inl hp1))) (hwl p hp2)
   have hih:i ∈ hs:=by
    rcases List.mem_append.1 hir with h | h
    ·exact h
    ·obtain ⟨p,hp1,hp2⟩:=ZI tr hT (N9.1 h).1 (N9.1 h).2;exact (far p hp1 hp2).elim
   have hfi:i ∈ Vq tr:=by
    rcases hcov i hih with h | ⟨p,hp1,hp2⟩
    ·exact h
    ·exact (far p hp1 hp2).elim
   obtain ⟨zj,keep,t',hT',hW'⟩:=X3 tr hfi hT hW;clear hT hW hcov hfi;obtain ⟨p1,p2,p3,p4,p5,p6,p7,p8⟩:=hT';have hW:=hW';clear hW'
   ·have hiza:i ∉ za:=fun h=>(hB.part i his).2 ⟨h,hsub i hih⟩;have hzj:∀ z,z ∈ zj→z ∈ za:=p4;have hza':∀ z,z ∈ zs ++ zj→z ∈ za:=fun z hz'=>(List.mem_append.1 hz').elim (hza z) (p4 z);have hordj:=Tj p5;have hnzj:=R8 p6
    have hmr:∀ {k},k ∈ rmv i hs ++ ab9 za (zs ++ zj)→k ∈ hs ++ ab9 za zs∧k ≠ i:=by
     intro k hk;rcases List.mem_append.1 hk with h | h
     ·exact ⟨List.mem_append.2 (.inl (Xe.1 h).1),(Xe.1 h).2⟩
     ·have h':=N9.1 h;exact ⟨List.mem_append.2 (.inr (N9.2 ⟨h'.1,fun e=>h'.2 (List.mem_append.2 (.inl e))⟩)),fun e=>hiza (by rw [← e];exact h'.1)⟩
    have hunj:∀ z,z ∈ zj→listed.getD z true=false:=fun z hz'=>hI.un z (List.mem_append.2 (.inr (N9.2 ⟨hzj z hz',fun e=>hnzj.2.2 z e hz'⟩)));simp only [trW,ho] at hW
    have next:∀ v hp' a' w',(keep=true→YC hp0 hp' ∨ ∀ z,z ∈ za→listed.getD z true=true)→zW P ops base hp0 (fun fr=>trW P ops base hp0 K t' fr hp') zj (w9 fr o.dst v)→U8 c (w9 frm o.dst v) hp' (I6 U (base+32*i)) a' w'→wpAny P .any ops Q fuel (listed.setIfInBounds i true) a' w':=by
     rintro v hp' a' w' hsa hW' ⟨q1,q2,σ',q3,q4,q5⟩;obtain ⟨frZ,g1,g2,g3⟩:=Vp hB.uniq zj _ hordj.2.1 hnzj.2.1 hW';refine ih _ (zs ++ zj) (rmv i hs) t' frZ hp' a' w' hfuel' p8 p7 (fun k hk=>hsub k (Xe.1 hk).1) hza' ⟨by simp [hI.size],hclosed',fun k hk=>?_,fun k hk hkz hkr=>?_,q1,q2,⟨_,σ',q3,q5,hU',fun t htu=>?_⟩,fun z hz' hzu=>?_,?_⟩ g1
     ·rw [pC true hil,if_neg (fun e=>(hmr hk).2 e.symm)];exact hI.un k (hmr hk).1
     ·rw [pC false hil]
      split
      ·rfl
      ·rename_i hne
       exact hI.done k hk (fun h=>hkz (List.mem_append.2 (.inl h))) (fun h=>by
        rcases List.mem_append.1 h with h | h
        ·exact hkr (List.mem_append.2 (.inl (Xe.2 ⟨h,fun e=>hne e.symm⟩)))
        ·exact hkr (List.mem_append.2 (.inr (N9.2 ⟨(N9.1 h).1,hkz⟩))))
     ·have hnj:∀ z,z ∈ zj→B0 ops z ≠ some t:=fun z hz'=>htu z (List.mem_append.2 (.inr hz')) (by
       rw [pC true hil,if_neg (fun e=>hiza (by rw [e];exact hzj z hz'))]
       exact hunj z hz')
      rw [g2 t hnj];have:=q4 t;by_cases hd:o.dst=some t
      ·rw [hd,SC] at this ⊢;exact this
      ·rw [TX hd] at this ⊢;rw [hm2 t fun hm=>?_] at this
       ·exact this
       ·obtain ⟨z,hz',hzu,he⟩:=(hml t).1 hm;refine htu z (List.mem_append.2 (.inl hz')) ?_ he;rw [pC true hil,if_neg (fun e=>hz (by rw [e];exact hz'))];exact hzu
     ·rcases List.mem_append.1 hz' with hz' | hz'
      ·obtain ⟨hzu1,hzi⟩:=hun' z hzu;obtain ⟨vz,oz,hoz,hdz,hzk⟩:=hI.facts z hz' hzu1;have hdz':B0 ops z=oz.dst:=by simp [B0,hoz]
       have hlz:Q0 ops z=oz.looksAt ops:=by simp [Q0,hoz]
       refine ⟨vz,oz,hoz,fun d hd=>?_,X2 (fun t ht'=>?_) hzk⟩
       ·rw [g2 d fun y hy he=>?_,TX]
        ·exact hdz d hd
        ·intro he;exact hzi (hB.uniq z i d (by rw [hdz'];exact hd) (by rw [hdi];exact he))
        ·have:=hB.uniq z y d (by rw [hdz'];exact hd) he;subst this;exact hnzj.2.2 z hz' hy
       ·rw [g2 t fun y hy=>hordj.2.2 z hz' y hy t (by rw [hlz];exact ht'),TX];intro he;exact notboth hzu1 (hwl z (p2 t (by rw [hdi];exact he) z hz' (by rw [hlz];exact ht')))
      ·exact g3 z hz'
     ·cases hk:keep with
      | false =>
       right;intro z hz'
       have:listed.getD z false=true:=by
        rcases p1.2 hk z hz' with h | ⟨q,h1,h2,h3⟩
        ·exact hwl z h
        ·have hqz:q ∉ za:=fun e=>(hB.part q (hB.inb q h1)).2 ⟨e,h1⟩;have hl:=hI.done q (hB.inb q h1) (fun e=>hqz (hza q e)) (fun e=>(List.mem_append.1 e).elim h2 fun e=>hqz (N9.1 e).1);exact UC hI.closed h3 fun o' ho'=>hI.closed q o' ho' hl
       rw [pC true hil]
       split
       ·rfl
       ·exact SY this
      | true =>
       rcases hsa hk with h | h
       ·exact .inl h
       ·right;intro z hz';rw [pC true hil]
        split
        ·rfl
        ·exact h z hz'
    have exec:A6 P fr hp (base+32*i) o.op (fun v hp'=>(keep=true→y9 hp0 hp')∧zW P ops base hp0 (fun fr=>trW P ops base hp0 K t' fr hp') zj (w9 fr o.dst v))→o.wp P a w (wpAny P .any ops Q fuel (listed.setIfInBounds i true)) Q:=by
     intro hop;rw [X0 (ZG hlook')] at hop;have hok:=Xa (o:=o) hr (fun x=>aa2 hfm x) hNU hop;refine WZ hI.def_ hI.tmps hdst hfm hh hok fun v' hp' a' w' hK hS=>?_;exact next v' hp' a' w' (fun h=>.inl (adI (hK.1 h))) hK.2 hS
    split at hW
    ·rename_i hg;rw [if_pos (by simp [Region.wanted,hg])];exact .inl (exec hW)
    ·rename_i g want hg
     split at hW
     ·rename_i d hd
      split at hW
      ·rename_i b hb;have hy:=hgv hg hd hb;by_cases hbw:b=want
       ·rw [if_pos (by simp [Region.wanted,hg,hy,hbw])];exact .inl (exec (hW.1 hbw))
       ·rw [if_neg (by simp [Region.wanted,hg,hy,hbw])];have hv:=hW.2 (by cases b <;> cases want <;> simp_all)
        exact next (.tup []) hp _ _ (fun hm=>hI.sa) hv (TO hI.def_ hI.tmps hr hh hfm)
      ·rename_i hb;have hy:=hgu hg hd hb;rw [if_neg (by simp [Region.wanted,hg,hy])];exact next (.tup []) hp _ _ (fun hm=>hI.sa) hW (TO hI.def_ hI.tmps hr hh hfm)
      ·exact hW.elim
     ·exact hW.elim
def ao9 (n:Nat) (ops:Array Oper) (ms:List Nat) (zs is za:List Nat) (t:Tr):Bool :=
 (List.range ops.size).all (fun j=>(za.contains j || is.contains j) && !(za.contains j && is.contains j)) &&
 is.all (fun j=>decide (j<ops.size)) && za.all (fun j=>decide (j<ops.size)) && I8 zs && P4 ops zs && (zs.all fun z=>za.contains z) &&
 (List.range ops.size).all (fun i=>match B0 ops i with
  | some d=>decide (d<n) && (List.range ops.size).all fun j=>j == i || B0 ops j != some d
  | none=>true) &&
 za.all (fun z=>match B0 ops z with
  | some d=>(List.range ops.size).all fun j=>!(Q0 ops j).contains d || wt ms j z
  | none=>true) &&
 trB ops ms za is zs is t && apP ms is t &&
 (List.range ops.size).all (fun j=>match ops[j]? with
  | some o=>o.after.all fun e=>!Region.binds .any e || decide (e.on<j)
  | none=>true)
def ZJ (n:Nat) (ops:Array Oper) (zs is za:List Nat) (t:Tr):Bool:=ao9 n ops (mks ops) zs is za t
theorem ajx {n:Nat} {zs is za:List Nat} {t:Tr} (h:ZJ n ops zs is za t=true):RegOk n ops za is∧trP ops za is zs is t∧amN ops is t∧P4 ops zs=true∧I8 zs=true∧(∀ z,z ∈ zs→z ∈ za)∧∀ z,z ∈ za→z<ops.size:=by
 unfold ZJ at h;simp only [ao9,Bool.and_eq_true] at h;obtain ⟨⟨⟨⟨⟨⟨⟨⟨⟨⟨h1,h2⟩,h2b⟩,h3⟩,h3b⟩,h3c⟩,h4⟩,h5⟩,h6⟩,h7⟩,h10⟩:=h
 have inr:∀ {i d},B0 ops i=some d→i ∈ List.range ops.size:=by
  intro i d hi;rw [List.mem_range];rcases Nat.lt_or_ge i ops.size with h | h
  ·exact h
  ·simp [B0,Array.getElem?_eq_none h] at hi
 refine ⟨⟨fun j hj=>?_,fun j hj=>?_,fun i d hi=>?_,fun i j d hi hj=>?_,fun z hz d hd j hj=>?_,fun j o ho e he hb=>?_⟩,agL t h6,ajw h7,h3b,h3,fun z hz=>by simpa using List.all_eq_true.1 h3c z hz,fun z hz=>by simpa using List.all_eq_true.1 h2b z hz⟩
 ·have:=List.all_eq_true.1 h1 j (List.mem_range.2 hj);simp at this;exact ⟨this.1,fun h=>by rcases this.2 with h' | h' <;> simp_all⟩
 ·simpa using List.all_eq_true.1 h2 j hj
 ·have:=List.all_eq_true.1 h4 i (inr hi);simp only [hi,Bool.and_eq_true,decide_eq_true_eq] at this;exact this.1
 ·have:=List.all_eq_true.1 h4 i (inr hi);simp only [hi,Bool.and_eq_true] at this;have:=List.all_eq_true.1 this.2 j (inr hj);simp only [hj,bne_self_eq_false,Bool.or_false,beq_iff_eq] at this;exact this.symm
 ·have:=List.all_eq_true.1 h5 z hz;simp only [hd] at this
  have hjr:j ∈ List.range ops.size:=by
   rw [List.mem_range];rcases Nat.lt_or_ge j ops.size with h | h
   ·exact h
   ·simp [Q0,Array.getElem?_eq_none h] at hj
  have:=List.all_eq_true.1 this j hjr;simp only [hj,List.contains_eq_mem,decide_true,Bool.not_true,Bool.false_or] at this;exact Ti this
 ·have hjr:j ∈ List.range ops.size:=by
   rw [List.mem_range];exact (Array.getElem?_eq_some_iff.1 ho).1
  have:=List.all_eq_true.1 h10 j hjr;simp only [ho] at this;have:=Array.all_eq_true_iff_forall_mem.1 this e he
  simpa [hb] using this
theorem amO {zs is za:List Nat} {t:Tr} {id:Nat} {U:Nat→Prop} {a:Act} {w:World} {Q:Exit→Act→World→Prop} (hmix:P.follows .mixedOrders=true) (hB:ZJ c.n ops zs is za t=true)
  (hQ:∀ fr hp a w U,K fr hp→(∀ k,U k→k<base+32*ops.size)→U8 c fr hp U a w→Q .normal a w)
  (hU:∀ k,U k→k<base) (hs:U8 c fr hp0 U a w) (h:zW P ops base hp0 (fun fr=>trW P ops base hp0 K t fr hp0) zs fr):(Code.region id ops true).wp P Q a w:=by
 obtain ⟨hok,hT,hcov,hord,hnd,hza,hinz⟩:=ajx hB;obtain ⟨frZ,h1,h2,h3⟩:=Vp hok.uniq zs fr hord hnd h;obtain ⟨q1,q2,σ,q3,q4,q5⟩:=hs;have hrd:=Sz q3
 have rep:∀ j,(Array.replicate ops.size false).getD j false=false:=by
  intro j;simp only [Array.getD_eq_getD_getElem?,Array.getElem?_replicate]
  split <;> rfl
 have rep':∀ j,j<ops.size→(Array.replicate ops.size false).getD j true=false:=by
  intro j hj;simp [Array.getD_eq_getD_getElem?,Array.getElem?_replicate,hj]
 refine wp_region_any hmix (apQ hok hQ ops.size _ zs is t frZ hp0 a w.drew ?_ hT hcov (fun _ h=>h) hza ⟨ab,fun j o ho hl=>(by rw [rep] at hl;cases hl),fun j hj=>?_,fun j hj hz hi=>?_,q1,q2,
  ⟨U,σ,hrd,q5.trans C2,fun k hk=>.inl (hU k hk),fun t ht=>?_⟩,fun z hz _=>h3 z hz,.inl fun _ _ h=>h⟩ h1)
 ·unfold unl;refine Nat.le_trans (List.length_filter_le _ _) ?_;simp
 ·refine rep' j ?_;rcases List.mem_append.1 hj with h | h
  ·exact hok.inb j h
  ·exact hinz j (N9.1 h).1
 ·rcases (hok.part j hj).1 with h | h
  ·exact absurd (List.mem_append.2 (.inr (N9.2 ⟨h,hz⟩))) hi
  ·exact absurd (List.mem_append.2 (.inl h)) hi
 ·rw [h2 t fun z hz he=>?_]
  ·exact (q4 t).step C2
  ·refine ht z hz (rep' z ?_) he;rcases Nat.lt_or_ge z ops.size with h | h
   ·exact h
   ·simp [B0,Array.getElem?_eq_none h] at he
end
end Go.Am
namespace Go.Am
def AV.deep1:AV→Prop
 | .any=>True
 | .d _=>True
 | .rop _=>True
 | .fn _ cs=>cs=[]
 | .nil=>True
 | _=>False
def AV.deep:AV→Prop
 | .agg cs=>∀ c,c ∈ cs→c.deep1
 | .tup cs=>∀ c,c ∈ cs→(c.deep1 ∨ ∃ xs,c=.agg xs∧∀ x,x ∈ xs→x.deep1)
 | .fn _ cs=>∀ c,c ∈ cs→c.deep1
 | v=>v.deep1
def DV.flat:DV→Prop
 | .int _ _=>True
 | .bool _=>True
 | .str _=>True
 | .nilp=>True
 | .ro _ _=>False
 | .rof _ _=>False
 | .box _=>False
def AV.flat1:AV→Prop
 | .d v=>v.flat
 | .any=>True
 | .nil=>True
 | _=>False
def AV.flat:AV→Prop
 | .agg cs=>∀ c,c ∈ cs→c.flat1
 | .tup cs=>∀ c,c ∈ cs→(c.flat1 ∨ ∃ xs,c=.agg xs∧∀ x,x ∈ xs→x.flat1)
 | v=>v.flat1
section
variable {w:World} {S S':Nat→Prop} {σ σ':Nat→Option Nat} {hp hp':Hp} {U U':Nat→Prop}
theorem Uc {v:AV} {x:Value} (hv:v.deep1) (hS:∀ b,S b→S' b) (h:AIs w S σ hp U v x):AIs w S' σ' hp' U' v x:=by
 cases h with
 | any=>exact .any _
 | d h=>exact .d (h.mono hS fun _ _=>rfl)
 | rop cs ad vs h1 h2 h3=>exact .rop cs ad vs (hS _ h1) h2 fun j y hy=>(h3 j y hy).mono hS fun _ _=>rfl
 | fn f cs xs hl h=>obtain rfl:cs=[]:=hv;exact .fn f [] xs hl ab
 | agg=>exact hv.elim
 | tup=>exact hv.elim
 | own=>exact hv.elim
 | sub=>exact hv.elim
 | ptr=>exact hv.elim
 | nil=>exact .nil
 | mp=>exact hv.elim
theorem UD {v:AV} {x:Value} (hv:v.deep) (hS:∀ b,S b→S' b) (h:AIs w S σ hp U v x):AIs w S' σ' hp' U' v x:=by
 cases v with
 | agg cs =>
  cases h with
  | agg _ xs hl h1 h=>exact .agg cs xs hl h1 fun i c x hc hx=>Uc (hv c (List.mem_of_getElem? hc)) hS (h i c x hc hx)
 | tup cs =>
  cases h with
  | tup _ xs hl h =>
   refine .tup cs xs hl fun i c x hc hx=>?_;have h0:=h i c x hc hx;rcases hv c (List.mem_of_getElem? hc) with h1 | ⟨ys,rfl,h1⟩
   ·exact Uc h1 hS h0
   ·cases h0 with
    | agg _ zs hl h2 h=>exact .agg ys zs hl h2 fun i c x hc hx=>Uc (h1 c (List.mem_of_getElem? hc)) hS (h i c x hc hx)
 | fn f cs =>
  cases h with
  | fn _ _ xs hl h=>exact .fn f cs xs hl fun i c x hc hx=>Uc (hv c (List.mem_of_getElem? hc)) hS (h i c x hc hx)
 | _=>exact Uc hv hS h
theorem ajy {v:DV} {x:Value} (hv:v.flat) (h:DIs w S v x):DIs w S' v x:=by
 cases h with
 | int=>exact .int _ _
 | bool=>exact .bool _
 | str=>exact .str _
 | nilp=>exact .nilp
 | ro=>exact hv.elim
 | rof=>exact hv.elim
 | box=>exact hv.elim
theorem Xf {v:AV} {x:Value} (hv:v.flat1) (h:AIs w S σ hp U v x):AIs w S' σ' hp' U' v x:=by
 cases h with
 | d h=>exact .d (ajy hv h)
 | any=>exact .any _
 | nil=>exact .nil
 | _=>exact hv.elim
theorem amP {v:AV} {x:Value} (hv:v.flat) (h:AIs w S σ hp U v x):AIs w S' σ' hp' U' v x:=by
 cases v with
 | agg cs =>
  cases h with
  | agg _ xs hl h1 h=>exact .agg cs xs hl h1 fun i c x hc hx=>Xf (hv c (List.mem_of_getElem? hc)) (h i c x hc hx)
 | tup cs =>
  cases h with
  | tup _ xs hl h =>
   refine .tup cs xs hl fun i c x hc hx=>?_;have h0:=h i c x hc hx;rcases hv c (List.mem_of_getElem? hc) with h1 | ⟨ys,rfl,h1⟩
   ·exact Xf h1 h0
   ·cases h0 with
    | agg _ zs hl h2 h=>exact .agg ys zs hl h2 fun i c x hc hx=>Xf (h1 c (List.mem_of_getElem? hc)) (h i c x hc hx)
 | _=>exact Xf hv h
end
inductive SnapD (hp:Hp) (I:Nat→Prop):AV→DV→Prop
 | d (v:DV):SnapD hp I (.d v) v
 | nil (e:Nat):SnapD hp I .nil (.ro e [])
 | own {id i0 len tot:Nat} {b:Blk} {es:List (List DV)} (hI:I id) (hb:lk id hp=some b) (ht:b.es.length=tot) (hl:es.length=len) (he:∀ r,r ∈ es→r.length=b.e)
   (hes:∀ (i j:Nat) (row:List AV) (c:AV) (r:List DV) (y:DV),b.es[i0+i]?=some row→row[j]?=some c→es[i]?=some r→r[j]?=some y→SnapD hp I c y):SnapD hp I (.own id i0 len tot) (.ro b.e es)
 | sub {id i off e len cap tot:Nat} {b:Blk} {row:List AV} {es:List (List DV)} (hI:I id) (hb:lk id hp=some b) (ht:b.es.length=tot) (hr:b.es[i]?=some row) (he:0<e) (hl:es.length=len) (hel:∀ r,r ∈ es→r.length=e)
   (hes:∀ (k j:Nat) (c:AV) (r:List DV) (y:DV),row[off+k*e+j]?=some c→es[k]?=some r→r[j]?=some y→SnapD hp I c y):SnapD hp I (.sub id i off e len cap tot) (.ro e es)
theorem ZK {c:Ctx} {hp:Hp} {U:Nat→Prop} {σ:Nat→Option Nat} {w:World} {I S':Nat→Prop} (hS:∀ b,z7 c w σ hp b→S' b) (hS2:∀ id blk g,I id→lk id hp=some blk→σ id=some g→S' g) (hr:Rel c hp U σ w) {v:AV} {d:DV} (hs:SnapD hp I v d) :
  ∀ {x:Value},AIs w (z7 c w σ hp) σ hp U v x→DIs w S' d x:=by
 induction hs with
 | d v =>
  intro x h
  cases h with | d h=>exact h.mono hS fun _ _=>rfl
 | nil e =>
  intro x h
  cases h with | nil=>exact .ro _ [] none 0 (fun _ _=>default) ab ab ab ab ab
 | own hI hb ht hl he hes ih =>
  rename_i id i0 len tot b es;intro x h
  cases h with
  | own _ _ _ _ A cap hN hlc hA0 h =>
   subst hl;obtain ⟨h1,h2⟩:=h _ hb;obtain ⟨h3,h3',h4⟩:=h2 ht;rcases Nat.eq_zero_or_pos es.length with hl0 | hl0
   ·have:es=[]:=List.eq_nil_of_length_eq_zero hl0;subst this;exact .ro _ [] A cap (fun _ _=>default) ab ab ab ab ab
   obtain ⟨g,hg,h5,_⟩:=h4 aa;obtain ⟨ccs,k1,k2,k3,k4,k5⟩:=hr.at hb hg
   have hcell:∀ i r j y,es[i]?=some r→r[j]?=some y→∃ u,ccs[(i0+i)*b.e+j]?=some u∧DIs w S' y u:=by
    intro i r j y hi hj;have hil:=(List.getElem?_eq_some_iff.1 hi).1;have hrow:b.es[i0+i]?=some b.es[i0+i]:=List.getElem?_eq_getElem aa;have hrl:=k3 _ (List.mem_of_getElem? hrow)
    have hjl:j<b.e:=by
     have:=(List.getElem?_eq_some_iff.1 hj).1;rw [he r (List.mem_of_getElem? hi)] at this;exact this
    have hc:(b.es[i0+i])[j]?=some (b.es[i0+i])[j]:=List.getElem?_eq_getElem aa
    have hlt:(i0+i)*b.e+j<ccs.size:=by
     have:(i0+i+1)*b.e≤b.es.length*b.e:=Nat.mul_le_mul_right _ aa;rw [Nat.add_mul,Nat.one_mul] at this;omega
    exact ⟨ccs[(i0+i)*b.e+j],Array.getElem?_eq_getElem hlt,ih i j _ _ r y hrow hc hi hj (k5 (i0+i) j _ _ _ hrow hc (Array.getElem?_eq_getElem hlt))⟩
   refine .ro b.e es A cap (fun i j=>ccs.getD ((i0+i)*b.e+j) undef) hlc he (fun r hr'=>⟨_,h5,hS2 id _ g hI hb hg⟩) (fun ad hA i j r y hi hj=>?_) (fun i j r y hi hj=>?_)
   ·rw [h5] at hA;injection hA with hA;subst hA;obtain ⟨u,hu,_⟩:=hcell i r j y hi hj;rw [P3,cell_of_row w _ _ ccs _ _ k1];rw [show i0*b.e+(i*b.e+j)=(i0+i)*b.e+j by rw [Nat.add_mul];omega,hu];simp [Array.getD_eq_getD_getElem?,hu]
   ·obtain ⟨u,hu,hd⟩:=hcell i r j y hi hj;simp only [Array.getD_eq_getD_getElem?,hu,Option.getD_some];exact hd
 | sub hI hb ht hrow hpe hl hel hes ih =>
  rename_i id i off e len cap tot b row es;intro x h
  cases h with
  | sub _ _ _ _ _ _ _ A hN hlc hA0 h =>
   subst hl;obtain ⟨h1,h2⟩:=h _ hb;obtain ⟨h3,h4,h5⟩:=h2 ht;by_cases hz:es.length=0
   ·obtain rfl:=List.eq_nil_of_length_eq_zero hz;exact .ro e [] A cap (fun _ _=>undef) hlc ab ab ab ab
   obtain ⟨g,hg,hAe⟩:=h5 aa;obtain ⟨ccs,k1,k2,k3,k4,k5⟩:=hr.at hb hg;have h5':∀ hc:0<cap,A=some ⟨g,i*b.e+off,none⟩:=fun hc=>hAe;have hrl:row.length=b.e:=k3 _ (List.mem_of_getElem? hrow)
   have hke:∀ k,k<es.length→off+k*e+e≤b.e:=by
    intro k hk;have h6:(k+1)*e≤es.length*e:=Nat.mul_le_mul_right _ aa;have h7:es.length*e≤cap*e:=Nat.mul_le_mul_right _ hlc;rw [Nat.add_mul,Nat.one_mul] at h6;omega
   have hcell:∀ k r j y,es[k]?=some r→r[j]?=some y→∃ u,ccs[i*b.e+off+(k*e+j)]?=some u∧DIs w S' y u:=by
    intro k r j y hk' hj;have hk2:=hke k (List.getElem?_eq_some_iff.1 hk').1
    have hje:j<e:=by
     have:=(List.getElem?_eq_some_iff.1 hj).1;rw [hel r (List.mem_of_getElem? hk')] at this;exact this
    have hc:row[off+k*e+j]?=some row[off+k*e+j]:=List.getElem?_eq_getElem aa
    have hlt:i*b.e+off+(k*e+j)<ccs.size:=by
     have:(i+1)*b.e≤b.es.length*b.e:=Nat.mul_le_mul_right _ aa;rw [Nat.add_mul,Nat.one_mul] at this;omega
    refine ⟨ccs[i*b.e+off+(k*e+j)],Array.getElem?_eq_getElem hlt,ih k j _ r y hc hk' hj (k5 i (off+k*e+j) _ _ _ hrow hc ?_)⟩;rw [show i*b.e+(off+k*e+j)=i*b.e+off+(k*e+j) by omega];exact Array.getElem?_eq_getElem hlt
   refine .ro e es A cap (fun k j=>ccs.getD (i*b.e+off+(k*e+j)) undef) hlc hel (fun r hr'=>?_) (fun ad hA k j r y hk' hj=>?_) (fun k j r y hk' hj=>?_)
   ·have hpos:0<cap:=by
     have:=List.length_pos_of_mem hr';omega
    exact ⟨_,h5' hpos,hS2 id _ g hI hb hg⟩
   ·have hpos:0<cap:=by
     have:=(List.getElem?_eq_some_iff.1 hk').1;omega
    rw [h5' hpos] at hA;injection hA with hA;subst hA;obtain ⟨u,hu,_⟩:=hcell k r j y hk' hj;rw [P3,cell_of_row w _ _ ccs _ _ k1,hu];simp [Array.getD_eq_getD_getElem?,hu]
   ·obtain ⟨u,hu,hd⟩:=hcell k r j y hk' hj;simp only [Array.getD_eq_getD_getElem?,hu,Option.getD_some];exact hd
inductive CellsR (hp:Hp) (I:Nat→Prop):List AV→List DV→Prop
 | nil:CellsR hp I [] []
 | cons {c:AV} {y:DV} {cs:List AV} {ys:List DV} (h:SnapD hp I c y) (t:CellsR hp I cs ys):CellsR hp I (c :: cs) (y :: ys)
inductive RowsR (hp:Hp) (I:Nat→Prop):List (List AV)→List (List DV)→Prop
 | nil:RowsR hp I [] []
 | cons {c:List AV} {y:List DV} {cs:List (List AV)} {ys:List (List DV)} (h:CellsR hp I c y) (t:RowsR hp I cs ys):RowsR hp I (c :: cs) (y :: ys)
theorem CellsR.at {hp:Hp} {I:Nat→Prop} {cs:List AV} {ys:List DV} (h:CellsR hp I cs ys):∀ (j:Nat) (c:AV) (y:DV),cs[j]?=some c→ys[j]?=some y→SnapD hp I c y:=by
 induction h with
 | nil=>intro j c y h;simp at h
 | cons h t ih =>
  intro j c y hc hy
  cases j with
  | zero=>simp at hc hy;subst hc;subst hy;exact h
  | succ j=>simp at hc hy;exact ih j c y hc hy
theorem CellsR.len {hp:Hp} {I:Nat→Prop} {cs:List AV} {ys:List DV} (h:CellsR hp I cs ys):cs.length=ys.length:=by
 induction h with
 | nil=>rfl
 | cons _ _ ih=>simp [ih]
theorem RowsR.at {hp:Hp} {I:Nat→Prop} {cs:List (List AV)} {ys:List (List DV)} (h:RowsR hp I cs ys):∀ (j:Nat) (c:List AV) (y:List DV),cs[j]?=some c→ys[j]?=some y→CellsR hp I c y:=by
 induction h with
 | nil=>intro j c y h;simp at h
 | cons h t ih =>
  intro j c y hc hy
  cases j with
  | zero=>simp at hc hy;subst hc;subst hy;exact h
  | succ j=>simp at hc hy;exact ih j c y hc hy
theorem RowsR.len {hp:Hp} {I:Nat→Prop} {cs:List (List AV)} {ys:List (List DV)} (h:RowsR hp I cs ys):cs.length=ys.length:=by
 induction h with
 | nil=>rfl
 | cons _ _ ih=>simp [ih]
theorem O7 {hp:Hp} {I:Nat→Prop}:∀ ys:List DV,CellsR hp I (ys.map .d) ys
 | []=>.nil
 | y :: r=>.cons (.d y) (O7 r)
theorem adK {hp:Hp} {I:Nat→Prop}:∀ ys:List (List DV),RowsR hp I (ys.map fun r=>r.map .d) ys
 | []=>.nil
 | y :: r=>.cons (O7 y) (adK r)
theorem RowsR.append {hp:Hp} {I:Nat→Prop} {a c:List (List AV)} {b d:List (List DV)} (h:RowsR hp I a b) (h2:RowsR hp I c d):RowsR hp I (a ++ c) (b ++ d):=by
 induction h with
 | nil=>exact h2
 | cons h t ih=>exact .cons h ih
theorem ZL {hp:Hp} {I:Nat→Prop} {id i0 len tot:Nat} {ty:TypeId} {e:Nat} {rows:List (List AV)} {es:List (List DV)} (hb:lk id hp=some ⟨ty,e,rows⟩) (hI:I id) (ht:rows.length=tot) (hR:RowsR hp I ((rows.drop i0).take len) es) (hl:es.length=len) (he:∀ r,r ∈ es→r.length=e) :
  SnapD hp I (.own id i0 len tot) (.ro e es):=by
 refine .own (b:=⟨ty,e,rows⟩) hI hb ht hl he fun i j row c r y h1 h2 h3 h4=>?_
 have hi:i<len:=by
  have:=(List.getElem?_eq_some_iff.1 h3).1;omega
 refine (hR.at i row r ?_ h3).at j c y h2 h4;rw [List.getElem?_take,if_pos hi,List.getElem?_drop];exact h1
theorem C4 {hp:Hp} {I:Nat→Prop} {id n:Nat} {ty:TypeId} {e:Nat} {es:List (List DV)} (hb:lk id hp=some ⟨ty,e,es.map fun r=>r.map .d⟩) (hI:I id) (hn:es.length=n) (he:∀ r,r ∈ es→r.length=e):SnapD hp I (.own id 0 n n) (.ro e es):=by
 refine ZL hb hI (by simp [hn]) ?_ hn he
 have:((es.map fun r=>r.map AV.d).drop 0).take n=es.map fun r=>r.map .d:=by
  rw [List.drop_zero,List.take_of_length_le (by simp [hn])]
 rw [this];exact adK es
def SV (hp:Hp) (I:Nat→Prop) (c c':AV):Prop:=(c'=c∧c.deep1) ∨ ∃ d,c'=.d d∧SnapD hp I c d
def ajz (hp:Hp) (I:Nat→Prop) (cs cs':List AV):Prop:=cs'.length=cs.length∧∀ (i:Nat) (c c':AV),cs[i]?=some c→cs'[i]?=some c'→SV hp I c c'
inductive Snap (hp:Hp) (I:Nat→Prop):AV→AV→Prop
 | one {v v':AV} (h:SV hp I v v'):Snap hp I v v'
 | deep {v:AV} (h:v.deep):Snap hp I v v
 | agg {cs cs':List AV} (h:ajz hp I cs cs'):Snap hp I (.agg cs) (.agg cs')
 | tup {cs cs':List AV} (hl:cs'.length=cs.length) (h:∀ (i:Nat) (c c':AV),cs[i]?=some c→cs'[i]?=some c'→SV hp I c c' ∨ ∃ xs xs',c=.agg xs∧c'=.agg xs'∧ajz hp I xs xs'):Snap hp I (.tup cs) (.tup cs')
 | ptr {id i off tot:Nat} {b:Blk} {row:List AV} {cs:List DV} (hI:I id) (hb:lk id hp=some b) (ht:b.es.length=tot) (hr:b.es[i]?=some row) (hc:CellsR hp I (row.drop off) cs):Snap hp I (.ptr id i off tot) (.rop cs)
 | fnp {f:FuncId} {id i off tot:Nat} {b:Blk} {row:List AV} {cs:List DV} (hI:I id) (hb:lk id hp=some b) (ht:b.es.length=tot) (hr:b.es[i]?=some row) (hc:CellsR hp I (row.drop off) cs):Snap hp I (.fn f [.ptr id i off tot]) (.fn f [.rop cs])
theorem UE {c:Ctx} {hp:Hp} {U U':Nat→Prop} {σ σ':Nat→Option Nat} {hp':Hp} {w:World} {I:Nat→Prop} {v v':AV} {x:Value} {S':Nat→Prop} (hS:∀ b,z7 c w σ hp b→S' b) (hS2:∀ id blk g,I id→lk id hp=some blk→σ id=some g→S' g) (hr:Rel c hp U σ w) (hs:Snap hp I v v') (h:AIs w (z7 c w σ hp) σ hp U v x) :
  AIs w S' σ' hp' U' v' x:=by
 have one:∀ {v v':AV} {x:Value},SV hp I v v'→AIs w (z7 c w σ hp) σ hp U v x→AIs w S' σ' hp' U' v' x:=by
  intro v v' x hs h;rcases hs with ⟨rfl,hd⟩ | ⟨d,rfl,hd⟩
  ·exact Uc hd hS h
  ·exact .d (ZK hS hS2 hr hd h)
 have cells:∀ {cs cs':List AV} {xs:Array Value},ajz hp I cs cs'→cs.length=xs.size→(∀ (i:Nat) (x:Value),xs[i]?=some x→x.oneCell'=true)→(∀ (i:Nat) (c':AV) (x:Value),cs[i]?=some c'→xs[i]?=some x→AIs w (z7 c w σ hp) σ hp U c' x)→AIs w S' σ' hp' U' (.agg cs') (.agg xs):=by
  intro cs cs' xs hs hl h1 h;refine .agg cs' xs (by rw [hs.1,hl]) h1 fun i u x hu hx=>?_
  have hi:i<cs.length:=by
   have:=(List.getElem?_eq_some_iff.1 hu).1;rw [hs.1] at this;exact this
  exact one (hs.2 i _ u (List.getElem?_eq_getElem hi) hu) (h i _ x (List.getElem?_eq_getElem hi) hx)
 have pcase:∀ {id i off tot:Nat} {b:Blk} {row:List AV} {cs:List DV} {x:Value},I id→lk id hp=some b→b.es.length=tot→b.es[i]?=some row→CellsR hp I (row.drop off) cs→AIs w (z7 c w σ hp) σ hp U (.ptr id i off tot) x→AIs w S' σ' hp' U' (.rop cs) x:=by
  intro id i off tot b row cs x hI hb ht hrow hcs h;obtain ⟨g,ccs,hg,rfl,hheap,hone,hrl,hle,hcell⟩:=VM hr h hb hrow ht
  have key:∀ (j:Nat) (y:DV),cs[j]?=some y→∃ u,ccs[i*b.e+off+j]?=some u∧DIs w S' y u:=by
   intro j y hy
   have hj:j<(row.drop off).length:=by
    rw [hcs.len];exact (List.getElem?_eq_some_iff.1 hy).1
   have hy':(row.drop off)[j]?=some (row.drop off)[j]:=List.getElem?_eq_getElem hj;have hy'':=hy';rw [List.getElem?_drop] at hy'';obtain ⟨u,hu,hd⟩:=hcell (off+j) _ hy'';exact ⟨u,by rw [Nat.add_assoc];exact hu,ZK hS hS2 hr (hcs.at j _ y hy' hy) hd⟩
  refine .rop _ _ (fun j=>ccs.getD (i*b.e+off+j) undef) (hS2 id b g hI hb hg) (fun j y hy=>?_) (fun j y hy=>?_)
  ·obtain ⟨u,hu,_⟩:=key j y hy;rw [P3,cell_of_row w _ _ ccs _ _ hheap,hu];simp [Array.getD_eq_getD_getElem?,hu]
  ·obtain ⟨u,hu,hd⟩:=key j y hy;simp only [Array.getD_eq_getD_getElem?,hu,Option.getD_some];exact hd
 cases hs with
 | one h1=>exact one h1 h
 | deep hd=>exact UD hd hS h
 | agg hc =>
  cases h with
  | agg _ xs hl h1 h=>exact cells hc hl h1 h
 | tup hl' hc =>
  rename_i cs cs'
  cases h with
  | tup _ xs hl h =>
   refine .tup cs' xs (by rw [hl',hl]) fun i u x hu hx=>?_
   have hi:i<cs.length:=by
    have:=(List.getElem?_eq_some_iff.1 hu).1;rw [hl'] at this;exact this
   have hx':=h i _ x (List.getElem?_eq_getElem hi) hx;rcases hc i _ u (List.getElem?_eq_getElem hi) hu with h1 | ⟨ys,ys',e1,e2,h1⟩
   ·exact one h1 hx'
   ·rw [e1] at hx';subst e2
    cases hx' with
    | agg _ xs' hl2 h2 h3=>exact cells h1 hl2 h2 h3
 | ptr hI hb ht hrow hcs=>exact pcase hI hb ht hrow hcs h
 | fnp hI hb ht hrow hcs =>
  cases h with
  | fn _ _ xs hl h =>
   refine .fn _ _ xs (by simpa using hl) fun i u x hu hx=>?_
   cases i with
   | succ i=>simp at hu
   | zero =>
    simp only [List.getElem?_cons_zero,Option.some.injEq] at hu;subst hu;exact pcase hI hb ht hrow hcs (h 0 _ x rfl hx)
def s7 (ids:List Nat):Hp→Hp
 | []=>[]
 | (m,b) :: t=>if ids.contains m then s7 ids t else (m,b) :: s7 ids t
theorem Q1 (ids:List Nat) (i:Nat):∀ hp:Hp,lk i (s7 ids hp)=if ids.contains i=true then none else lk i hp
 | []=>by simp [s7,lk]
 | (m,b) :: t=>by
  have ih:=Q1 ids i t;simp only [s7];by_cases hm:ids.contains m=true
  ·rw [if_pos hm,ih]
   split
   ·rfl
   ·rename_i hi;simp only [lk];rw [if_neg (fun e=>hi (by rw [← e];exact hm))]
  ·rw [if_neg hm];simp only [lk,ih];by_cases e:m=i
   ·subst e;rw [if_pos rfl,if_neg hm];simp
   ·rw [if_neg e];simp [e]
theorem Xg {c:Ctx} {hp:Hp} {U:Nat→Prop} {σ:Nat→Option Nat} {w:World} (ids:List Nat) (hr:Rel c hp U σ w) :
  Rel c (s7 ids hp) U σ w∧Step w (z7 c w σ hp) σ hp U w (z7 c w σ (s7 ids hp)) σ (s7 ids hp) U:=by
 have hlk:∀ i b,lk i (s7 ids hp)=some b→lk i hp=some b:=by
  intro i b h;rw [Q1] at h
  split at h
  ·cases h
  ·exact h
 have hst:Step w (z7 c w σ hp) σ hp U w (z7 c w σ (s7 ids hp)) σ (s7 ids hp) U :=
  ⟨fun b h=>⟨⟨h.1.1,fun id blk g hk hg=>h.1.2 id blk g (hlk _ _ hk) hg⟩,h.2⟩,fun _ _=>rfl,fun _ h=>h,fun id b' _ h=>⟨b',hlk _ _ h,rfl,rfl,Nat.le_refl _,fun _ g hg=>⟨hg,fun _ h=>h⟩⟩⟩
 refine ⟨⟨fun i j bi bj g hi hj=>hr.inj i j bi bj g (hlk _ _ hi) (hlk _ _ hj),fun i b h=>hr.lt i b (hlk _ _ h),fun i b h=>?_,fun i b g h=>hr.mine i b g (hlk _ _ h),hr.os,hr.tape,hr.output,hr.size,hr.old⟩,hst⟩;rcases hr.blk i b (hlk _ _ h) with k | ⟨g,k1,k2⟩
 ·exact .inl k
 ·exact .inr ⟨g,k1,k2.step hst rfl⟩
theorem apR (fz fr:Fr) (n:Nat):fv n (fz ++ fr)=match lk n fz with
  | some v=>v
  | none=>fv n fr:=by
 induction fz with
 | nil=>rfl
 | cons p r ih =>
  obtain ⟨m,v⟩:=p;show fv n ((m,v) :: (r ++ fr))=_;rw [Sg,ih];simp only [lk]
  split <;> rfl
theorem apa {α:Type} {n:Nat} {v:α}:∀ {l:List (Nat × α)},lk n l=some v→(n,v) ∈ l
 | [],h=>by simp [lk] at h
 | (m,u) :: t,h=>by
  simp only [lk] at h
  split at h
  ·rename_i hm;injection h with h;subst hm;subst h;exact List.mem_cons_self ..
  ·exact List.mem_cons_of_mem _ (apa h)
theorem ajA {c:Ctx} {fr:Fr} {hp:Hp} {U:Nat→Prop} {a:Act} {w:World} (ids:List Nat) (fz:Fr) (hz:∀ p,p ∈ fz→Snap hp (fun id=>id ∈ ids) (fv p.1 fr) p.2)
  (hs:U8 c fr hp U a w):U8 c (fz ++ fr) (s7 ids hp) U a w:=by
 obtain ⟨q1,q2,σ,hr,hf,hh⟩:=hs;obtain ⟨d1,d2⟩:=Xg ids hr;refine ⟨q1,q2,σ,d1,fun n=>?_,hh.trans d2⟩;rw [apR]
 cases hl:lk n fz with
 | none=>exact (hf n).step d2
 | some v =>
  refine UE (fun b hb=>d2.sub b hb) (fun id blk g hid hk hg=>⟨⟨H4 (hr.at hk hg),fun id' blk' g' hk' hg' e=>?_⟩,?_⟩) hr (hz _ (apa hl)) (hf n)
  ·subst e;rw [Q1] at hk'
   split at hk'
   ·cases hk'
   ·rename_i hn;have:=hr.inj id id' blk blk' g hk hk' hg hg';subst this;exact hn (by simpa using hid)
  ·rcases hr.mine id blk g hk hg with h | h
   ·exact .inl (c.hM g h)
   ·exact .inr h
end Go.Am
namespace Go.Am
structure St where
 fr:Fr
 hp:Hp
 nx:Nat
def TY (c:Ctx) (st:St) (a:Act) (w:World):Prop:=U8 c st.fr st.hp (fun i=>i<st.nx) a w
def OpK (f:St→Prop) (fr:Fr) (nx:Nat) (dst:Option Tmp) (v:AV) (hp:Hp):Prop:=f ⟨w9 fr dst v,hp,nx+32⟩
def Xh (P:Program) (n:Nat) (ops:Array Oper):List Oper→(St→Prop)→St→Prop
 | [],K,st=>K st
 | o :: rest,K,st =>
  match o.guard with
  | none=>P8 n o.dst∧A6 P st.fr st.hp st.nx o.op (OpK (Xh P n ops rest K) st.fr st.nx o.dst)
  | some (j,want) =>
   match (ops[j]?).bind (·.dst) with
   | some d =>
    (match fv d st.fr with
    | .d (.bool b)=>P8 n o.dst∧(b=want→A6 P st.fr st.hp st.nx o.op (OpK (Xh P n ops rest K) st.fr st.nx o.dst)) ∧
      (b=!want→OpK (Xh P n ops rest K) st.fr st.nx o.dst (.tup []) st.hp)
    | .tup []=>P8 n o.dst∧OpK (Xh P n ops rest K) st.fr st.nx o.dst (.tup []) st.hp
    | _=>False)
   | none=>False
def ajB (Q:Exit→St→Prop) (st:St):Prop:=Q .normal st
def X4 (f:St→Prop) (Q:Exit→St→Prop):Exit→St→Prop
 | .normal,st=>f st
 | e,st=>Q e st
def X5 (id:Nat) (Q:Exit→St→Prop):Exit→St→Prop
 | .exit i,st=>if i=id then Q .normal st else Q (.exit i) st
 | e,st=>Q e st
def AV.low1 (N:Nat):AV→Prop
 | .own id _ _ _=>id<N
 | .sub id _ _ _ _ _ _=>id<N
 | .ptr id _ _ _=>id<N
 | .mp id=>id<N
 | .agg _=>False
 | .tup _=>False
 | .fn _ cs=>cs=[]
 | _=>True
def AV.low (N:Nat):AV→Prop
 | .agg cs=>∀ c,c ∈ cs→c.low1 N
 | .fn _ cs=>∀ c,c ∈ cs→c.low1 N
 | v=>v.low1 N
def c6 (st st':St) (v u:AV):Prop :=
 u=v ∨ (v=.nil∧match u with
  | .own id 0 0 0=>(match lk id st'.hp with
   | some b=>b.es=[]
   | none=>False)
  | _=>False)
def m6 (st st':St):Prop :=
 (∀ p,p ∈ st'.fr→c6 st st' (fv p.1 st.fr) p.2∧p.2.low st'.nx) ∧
 (∀ p,p ∈ st'.hp→(lk p.1 st.hp=some p.2 ∨ (st.nx≤p.1∧p.2.es=[]))∧p.1<st'.nx∧∀ r,r ∈ p.2.es→∀ v,v ∈ r→v.low1 st'.nx)∧(st.nx≤st'.nx ∨ 64≤st'.nx)
def Wk (st st':St):Prop:=∀ (c:Ctx) (a:Act) (w:World),TY c st a w→TY c st' a w
theorem Wk.trans {s1 s2 s3:St} (h:Wk s1 s2) (k:Wk s2 s3):Wk s1 s3:=fun c a w hs=>k c a w (h c a w hs)
def adL (I:Nat→St→Prop) (m:Nat) (Q:Exit→St→Prop):Exit→St→Prop
 | .normal,st=>∃ m' st',m'<m∧Wk st st'∧I m' st'
 | e,st=>Q e st
def apb (W:(Exit→St→Prop)→St→Prop) (Q:Exit→St→Prop) (st:St):Prop :=
 ∃ I:Nat→St→Prop,(∃ m st',Wk st st'∧I m st')∧∀ m st',I m st'→W (adL I m Q) st'
def U9 (P:Program) (n:Nat):Code→(Exit→St→Prop)→St→Prop
 | .skip,Q,st=>Q .normal st
 | .region _ ops false,Q,st=>Xh P n ops ops.toList (ajB Q) st
 | .region _ ops true,Q,st=>(∃ zs ss m,afw n ops zs ss m=true∧P.follows .mixedOrders=true∧zW P ops st.nx st.hp (fun fr=>chW P ops st.nx st.hp (fun fr hp=>Q .normal ⟨fr,hp,st.nx+32*ops.size⟩) ss m fr st.hp) zs st.fr) ∨
   ∃ zs is za t st',ZJ n ops zs is za t=true∧P.follows .mixedOrders=true∧zW P ops st.nx st.hp (fun fr=>trW P ops st.nx st.hp (fun fr hp=>Wk ⟨fr,hp,st.nx+32*ops.size⟩ st') t fr st.hp) zs st.fr∧Q .normal st'
 | .seq x y,Q,st=>U9 P n x (X4 (U9 P n y Q) Q) st
 | .cond c x y,Q,st =>
  match ev st.fr c with
  | .d (.bool b)=>(b=true→U9 P n x Q st)∧(b=false→U9 P n y Q st)
  | _=>False
 | .block id x,Q,st=>U9 P n x (X5 id Q) st
 | .loop x,Q,st=>apb (U9 P n x) Q st
 | .exit id,Q,st=>Q (.exit id) st
 | .ret,Q,st=>Q .ret st
 | _,_,_=>False
section
variable {P:Program} {c:Ctx}
theorem ajC (nx i:Nat):I6 (fun i=>i<nx) nx i ↔ i<nx+32:=by unfold I6;omega
theorem ZM (nx:Nat):I6 (fun i=>i<nx) nx=fun i=>i<nx+32:=funext fun i=>propext (ajC nx i)
theorem afz {st:St} {a:Act} {w:World} (h:TY c st a w):∃ σ,Rel c st.hp (fun i=>i<st.nx) σ w∧(∀ n,AIs w (z7 c w σ st.hp) σ st.hp (fun i=>i<st.nx) (fv n st.fr) (a.tmps.getD n undef))∧∀ x,AIs w (z7 c w σ st.hp) σ st.hp (fun i=>i<st.nx) (ev st.fr x) (a.eval x):=by
 obtain ⟨_,_,σ,hr,hf,_⟩:=h;exact ⟨σ,hr,hf,fun x=>aa2 hf x⟩
theorem agM {st:St} {a:Act} {w:World} {o:Oper} {f:St→Prop} {next:Act→World→Prop} {Q:Exit→Act→World→Prop}
  (hs:TY c st a w) (hd:P8 c.n o.dst) (h:A6 P st.fr st.hp st.nx o.op (OpK f st.fr st.nx o.dst))
  (hn:∀ st' a' w',f st'→TY c st' a' w'→next a' w'):o.wp P a w next Q:=by
 obtain ⟨h1,h2,σ,hr,hf,hh⟩:=hs;have hok:=Xa (o:=o) (N:=st.nx) hr (fun x=>aa2 hf x) (fun i h1 _ h3=>by have h4:i<st.nx:=h3;omega) h;refine WZ h1 h2 hd hf hh hok fun v hp' a' w' hK hS=>hn _ a' w' hK ?_;rw [ZM] at hS;exact hS
theorem agN {st:St} {a:Act} {w:World} {dst:Option Tmp} (hs:TY c st a w):TY c ⟨w9 st.fr dst (.tup []),st.hp,st.nx+32⟩ (a.put dst undef) w:=by
 obtain ⟨h1,h2,σ,hr,hf,hh⟩:=hs;have hr':Rel c st.hp (fun i=>i<st.nx+32) σ w:=by rw [← ZM];exact hr.more
 have hst:Step w (z7 c w σ st.hp) σ st.hp (fun i=>i<st.nx) w (z7 c w σ st.hp) σ st.hp (fun i=>i<st.nx+32):=by rw [← ZM];exact Step.more
 cases dst with
 | none=>exact ⟨h1,h2,σ,hr',fun n=>(hf n).step hst,hh.trans hst⟩
 | some d =>
  refine ⟨h1,by simp [Act.put,h2],σ,hr',fun n=>?_,hh.trans hst⟩;simp only [w9,Act.put,Sg];by_cases h:d=n
  ·subst h
   have hu:(a.tmps.setIfInBounds d undef).getD d undef=.tuple #[]:=by
    simp only [Array.getD_eq_getD_getElem?,Array.getElem?_setIfInBounds,if_true]
    split <;> rfl
   rw [hu];simp only [if_true];exact .tup [] #[] rfl ab
  ·simp only [if_neg h]
   have:(a.tmps.setIfInBounds d undef).getD n undef=a.tmps.getD n undef:=by
    simp only [Array.getD_eq_getD_getElem?,Array.getElem?_setIfInBounds,if_neg h]
   rw [this];exact (hf n).step hst
theorem agP {ops:Array Oper} {Q:Exit→Act→World→Prop} {K:St→Prop} (hQ:∀ st a w,K st→TY c st a w→Q .normal a w) :
  ∀ (l:List Oper) (st:St) (a:Act) (w:World),Xh P c.n ops l K st→TY c st a w→wpList P ops Q l a w
 | [],st,a,w,h,hs=>hQ st a w h hs
 | o :: rest,st,a,w,h,hs=>by
  have ih:=agP (ops:=ops) (Q:=Q) hQ rest;simp only [Xh] at h;unfold wpList
  split at h
  ·rename_i hg;obtain ⟨hd,h⟩:=h;rw [if_pos (by simp [Region.wanted,hg])];exact .inl (agM hs hd h fun st' a' w' h' hs'=>ih st' a' w' h' hs')
  ·rename_i j want hg
   split at h
   ·rename_i d hd
    split at h
    ·rename_i b hb;obtain ⟨hdst,h1,h2⟩:=h;obtain ⟨σ,hr,hf,_⟩:=afz hs;have hv:=O6 (hb ▸ hf d)
     have hy:yielded ops a.tmps j=some b:=by
      unfold yielded;rw [hd];have hv':a.tmps[d]?.getD undef=.bool b:=by simpa using hv
      cases ht:a.tmps[d]? with
      | none=>rw [ht] at hv';cases hv'
      | some u=>rw [ht] at hv';simp at hv';subst hv';simp [ht]
     by_cases hw:b=want
     ·rw [if_pos (by simp [Region.wanted,hg,hy,hw])];exact .inl (agM hs hdst (h1 hw) fun st' a' w' h' hs'=>ih st' a' w' h' hs')
     ·rw [if_neg (by simp [Region.wanted,hg,hy,hw])];exact ih _ _ _ (h2 (by cases b <;> cases want <;> simp_all)) (agN hs)
    ·rename_i hb;obtain ⟨hdst,h2⟩:=h;obtain ⟨σ,hr,hf,_⟩:=afz hs;have hv:=hb ▸ hf d
     have hy:¬ (yielded ops a.tmps j=some want):=by
      unfold yielded;rw [hd]
      cases ht:a.tmps[d]? with
      | none=>simp [ht]
      | some u =>
       have e:a.tmps.getD d undef=u:=by simp [Array.getD_eq_getD_getElem?,ht]
       rw [e] at hv
       cases hv with
       | tup _ xs _ _=>simp [ht]
     rw [if_neg (by simp [Region.wanted,hg,hy])];exact ih _ _ _ h2 (agN hs)
    ·exact h.elim
   ·exact h.elim
theorem VS {w:World} {S S':Nat→Prop} {σ σ':Nat→Option Nat} {hp hp':Hp} {U:Nat→Prop} {N:Nat} (hS:∀ b,S b→S' b) (hh:∀ id b,U id→lk id hp'=some b→lk id hp=some b) (hσ:∀ id,U id→σ' id=σ id) {v:AV} {x:Value} (hl:v.low1 N) (h:AIs w S σ hp U v x) :
  AIs w S' σ' hp' (fun i=>i<N) v x:=by
 cases h with
 | any=>exact .any _
 | d h=>exact .d (h.mono hS fun _ _=>rfl)
 | agg=>exact hl.elim
 | tup=>exact hl.elim
 | own id i0 len tot A cap hN hle h0 h=>exact .own id i0 len tot A cap hl hle h0 fun b hb=>by rw [hσ id hN];exact h b (hh id b hN hb)
 | sub id i off e len cap tot A hN hle h0 h=>exact .sub id i off e len cap tot A hl hle h0 fun b hb=>by rw [hσ id hN];exact h b (hh id b hN hb)
 | ptr id i off tot a hN h=>exact .ptr id i off tot a hl fun b hb=>by rw [hσ id hN];exact h b (hh id b hN hb)
 | rop cs ad vs h1 h2 h3=>exact .rop cs ad vs (hS _ h1) h2 fun j y hy=>(h3 j y hy).mono hS fun _ _=>rfl
 | fn f cs xs hle h=>obtain rfl:cs=[]:=hl;exact .fn f [] xs hle ab
 | nil=>exact .nil
 | mp id g hN h=>exact .mp id g hl fun b hb=>h b (hh id b hN hb)
theorem ajD {w:World} {S S':Nat→Prop} {σ σ':Nat→Option Nat} {hp hp':Hp} {U:Nat→Prop} {N:Nat} (hS:∀ b,S b→S' b) (hh:∀ id b,U id→lk id hp'=some b→lk id hp=some b) (hσ:∀ id,U id→σ' id=σ id) {v:AV} {x:Value} (hl:v.low N) (h:AIs w S σ hp U v x) :
  AIs w S' σ' hp' (fun i=>i<N) v x:=by
 cases v with
 | agg cs =>
  cases h with
  | agg _ xs hle h1 h=>exact .agg cs xs hle h1 fun i c x hc hx=>VS hS hh hσ (hl c (List.mem_of_getElem? hc)) (h i c x hc hx)
 | fn f cs =>
  cases h with
  | fn _ _ xs hle h=>exact .fn f cs xs hle fun i c x hc hx=>VS hS hh hσ (hl c (List.mem_of_getElem? hc)) (h i c x hc hx)
 | _=>exact VS hS hh hσ hl h
theorem C3 {α:Type} {n:Nat} {v:α}:∀ {l:List (Nat × α)},lk n l=some v→(n,v) ∈ l
 | [],h=>by cases h
 | (m,u) :: t,h=>by
  simp only [lk] at h
  split at h
  ·rename_i e;injection h with h;subst e;subst h;exact List.mem_cons_self ..
  ·exact List.mem_cons_of_mem _ (C3 h)
theorem ajE {st st':St} {a:Act} {w:World} (hw:m6 st st') (hs:TY c st a w):TY c st' a w:=by
 obtain ⟨hf',hh',hnx⟩:=hw;obtain ⟨h1,h2,σ,hr,hf,hist⟩:=hs
 have hh:∀ id b,id<st.nx→lk id st'.hp=some b→lk id st.hp=some b:=fun id b hid h=>by
  rcases (hh' _ (C3 h)).1 with h | ⟨h,_⟩
  ·exact h
  ·simp only at h;omega
 let σ':Nat→Option Nat:=fun id=>if st.nx≤id then none else σ id
 have hσ:∀ id,id<st.nx→σ' id=σ id:=fun id h=>if_neg aa
 have hσ':∀ id g,σ' id=some g→id<st.nx∧σ id=some g:=by
  intro id g h;by_cases hle:st.nx≤id
  ·simp only [σ',if_pos hle] at h;cases h
  ·exact ⟨aa,by rw [hσ id aa] at h;exact h⟩
 have hS:∀ b,z7 c w σ st.hp b→z7 c w σ' st'.hp b:=fun b hb=>⟨⟨hb.1.1,fun id blk g h hg=>by
  obtain ⟨h3,h4⟩:=hσ' id g hg
  exact hb.1.2 id blk g (hh id blk h3 h) h4⟩,hb.2⟩
 refine ⟨h1,h2,σ',⟨fun i j bi bj g hi hj hgi hgj=>?_,fun i b h=>(hh' _ (C3 h)).2.1,fun i b h=>?_,fun i b g h hg=>?_,hr.os,hr.tape,hr.output,hr.size,hr.old⟩,fun n=>?_,⟨fun b h=>hS b (hist.sub b h),hist.cell,fun i h=>?_,fun id b' hu hb'=>?_⟩⟩
 ·obtain ⟨a1,a2⟩:=hσ' i g hgi;obtain ⟨b1,b2⟩:=hσ' j g hgj;exact hr.inj i j bi bj g (hh i bi a1 hi) (hh j bj b1 hj) a2 b2
 ·rcases (hh' _ (C3 h)).1 with h0 | ⟨h0,h3⟩
  ·simp only at h0;have hi:i<st.nx:=hr.lt i b h0;rcases hr.blk i b h0 with ⟨k1,k2⟩ | ⟨g,k1,ccs,k2,k3,k4,k5,k6⟩
   ·exact .inl ⟨(hσ i hi).trans k1,k2⟩
   ·exact .inr ⟨g,(hσ i hi).trans k1,ccs,k2,k3,k4,k5,fun i' j x y v a1 a2 a3=>VS hS hh hσ ((hh' _ (C3 h)).2.2 x (List.mem_of_getElem? a1) y (List.mem_of_getElem? a2)) (k6 i' j x y v a1 a2 a3)⟩
  ·exact .inl ⟨if_pos h0,.inl h3⟩
 ·obtain ⟨a1,a2⟩:=hσ' i g hg;exact hr.mine i b g (hh i b a1 h) a2
 ·cases hl:lk n st'.fr with
  | none=>simp only [fv,hl];exact .any _
  | some v =>
   have:=hf' _ (C3 hl);simp only [fv,hl,Option.getD_some];obtain ⟨h3,h4⟩:=this;simp only at h3 h4;rcases h3 with h3 | ⟨h3,h5⟩
   ·refine ajD (U:=fun i=>i<st.nx) hS hh hσ h4 ?_;rw [h3];exact hf n
   ·have hx:=hf n;rw [h3] at hx;generalize a.tmps.getD n undef=x at hx
    cases hx with
    | nil =>
     split at h5
     ·rename_i id;exact .own id 0 0 0 none 0 h4 (Nat.le_refl _) (fun _=>rfl) fun b hb=>⟨Nat.zero_le _,fun _=>⟨Nat.le_refl _,Nat.le_refl _,fun h=>aa⟩⟩
     ·exact h5.elim
 ·have h0:=hist.le i h;have h3:=c.hk;rcases hnx with h4 | h4
  ·exact Nat.lt_of_lt_of_le h0 h4
  ·exact Nat.lt_of_lt_of_le (Nat.lt_of_lt_of_le h h3) h4
 ·have h0:=hist.le id hu;obtain ⟨b1,f0,f1,f2,f3,f4⟩:=hist.blk id b' hu (hh id b' h0 hb');refine ⟨b1,f0,f1,f2,f3,fun hl g hg=>?_⟩;obtain ⟨p1,p2⟩:=f4 hl g hg;exact ⟨(hσ id h0).trans p1,p2⟩
theorem G2 {st st':St} (h:m6 st st'):Wk st st':=fun _ _ _ hs=>ajE h hs
theorem aca (ids:List Nat) (fz:Fr) {st:St} (hz:∀ p,p ∈ fz→Snap st.hp (fun id=>id ∈ ids) (fv p.1 st.fr) p.2):Wk st ⟨fz ++ st.fr,s7 ids st.hp,st.nx⟩:=fun _ _ _ hs=>ajA ids fz hz hs
theorem SD {st st':St} (ids:List Nat) (fz:Fr) (hz:∀ p,p ∈ fz→Snap st.hp (fun id=>id ∈ ids) (fv p.1 st.fr) p.2) (h:m6 ⟨fz ++ st.fr,s7 ids st.hp,st.nx⟩ st'):Wk st st':=(aca ids fz hz).trans (G2 h)
theorem aba {fr:Fr} {hp:Hp} {U U':Nat→Prop} {a:Act} {w:World} (h:∀ k,U k→U' k) (hs:U8 c fr hp U a w):U8 c fr hp U' a w:=by
 obtain ⟨q1,q2,σ,hr,hf,hh⟩:=hs;have st:Step w (z7 c w σ hp) σ hp U w (z7 c w σ hp) σ hp U':=⟨fun _ h=>h,fun _ _=>rfl,h,fun id b' _ h=>⟨b',h,rfl,rfl,Nat.le_refl _,fun _ g hg=>⟨hg,fun _ h=>h⟩⟩⟩;refine ⟨q1,q2,σ,⟨hr.inj,fun i b hb=>h _ (hr.lt i b hb),fun i b hb=>?_,hr.mine,hr.os,hr.tape,hr.output,hr.size,hr.old⟩,fun n=>(hf n).step st,hh.trans st⟩;rcases hr.blk i b hb with h0 | ⟨g,hg,h0⟩
 ·exact .inl h0
 ·exact .inr ⟨g,hg,h0.step st rfl⟩
theorem SZ:∀ (x:Code) (Q:Exit→St→Prop) (st:St) (a:Act) (w:World),U9 P c.n x Q st→TY c st a w→x.wp P (fun e a' w'=>∃ st',Q e st'∧TY c st' a' w') a w
 | .skip,Q,st,a,w,h,hs=>wp_skip ⟨st,h,hs⟩
 | .region id ops false,Q,st,a,w,h,hs=>wp_region_list (agP (Q:=fun e a' w'=>∃ st',Q e st'∧TY c st' a' w') (fun st a w hK hs=>⟨st,hK,hs⟩) ops.toList st a w h hs)
 | .region id ops true,Q,st,a,w,h,hs=>by
  rcases h with ⟨zs,ss,m,hB,hm,h⟩ | ⟨zs,is,za,t,st',hB,hm,h,hq⟩
  ·exact afy hm hB (fun fr hp a w U hK hU hS=>⟨_,hK,aba hU hS⟩) (fun k hk=>hk) hs h
  ·exact amO hm hB (fun fr hp a w U hK hU hS=>⟨st',hq,hK c _ _ (aba hU hS)⟩) (fun k hk=>hk) hs h
 | .seq x y,Q,st,a,w,h,hs=>by
  refine wp_seq (wp_mono (SZ x _ st a w h hs) fun e a' w' ⟨st',hq,hs'⟩=>?_)
  cases e with
  | normal=>exact SZ y Q st' a' w' hq hs'
  | _=>exact ⟨st',hq,hs'⟩
 | .cond cnd x y,Q,st,a,w,h,hs=>by
  simp only [U9] at h
  split at h
  ·rename_i b hb;obtain ⟨σ,_,_,E⟩:=afz hs;have hv:=O6 (hb ▸ E cnd);refine wp_cond_split hv (fun ht=>?_) (fun hf=>?_)
   ·exact SZ x Q st a w (h.1 ht) hs
   ·exact SZ y Q st a w (h.2 hf) hs
  ·exact h.elim
 | .block id x,Q,st,a,w,h,hs=>by
  refine wp_block (wp_mono (SZ x _ st a w h hs) fun e a' w' ⟨st',hq,hs'⟩=>?_)
  cases e with
  | exit i =>
   simp only [X5] at hq;simp only [Exit.inBlock]
   split at hq
   ·rename_i hi;rw [if_pos hi];exact ⟨st',hq,hs'⟩
   ·rename_i hi;rw [if_neg hi];exact ⟨st',hq,hs'⟩
  | _=>exact ⟨st',hq,hs'⟩
 | .loop x,Q,st,a,w,h,hs=>by
  obtain ⟨I,⟨m0,st0,hw0,hI0⟩,hround⟩:=h
  have key:∀ m st a w,I m st→TY c st a w→(Code.loop x).wp P (fun e a' w'=>∃ st',Q e st'∧TY c st' a' w') a w:=by
   intro m0 st0 a0 w0 hI hsim
   -- a measure: the least m with which some state of the relation is there
   refine wp_loop (fun a w=>∃ m st,I m st∧TY c st a w) (fun a w=>Classical.epsilon fun m=>(∃ st,I m st∧TY c st a w)∧∀ m',(∃ st,I m' st∧TY c st a w)→m≤m') ⟨m0,st0,hI,hsim⟩ ?_;rintro a1 w1 ⟨m1,st1,h1,h2⟩
   have least:∃ m,(∃ st,I m st∧TY c st a1 w1)∧∀ m',(∃ st,I m' st∧TY c st a1 w1)→m≤m':=by
    have hex:∃ m,∃ st,I m st∧TY c st a1 w1:=⟨m1,st1,h1,h2⟩;clear h1 h2
    have:∀ k,(∃ m,m≤k∧∃ st,I m st∧TY c st a1 w1)→∃ m,(∃ st,I m st∧TY c st a1 w1)∧∀ m',(∃ st,I m' st∧TY c st a1 w1)→m≤m':=by
     intro k
     induction k with
     | zero =>
      rintro ⟨m,hm,hx⟩;exact ⟨m,hx,fun m' _=>aa⟩
     | succ k ih =>
      rintro ⟨m,hm,hx⟩;by_cases hk:∃ m,m≤k∧∃ st,I m st∧TY c st a1 w1
      ·exact ih hk
      ·refine ⟨m,hx,fun m' hm'=>?_⟩;rcases Nat.lt_or_ge m' m with hlt | hge
       ·exact absurd ⟨m',aa,hm'⟩ hk
       ·exact hge
    obtain ⟨m,hx⟩:=hex;exact this m ⟨m,Nat.le_refl _,hx⟩
   have hmu:=Classical.epsilon_spec least;generalize (Classical.epsilon fun m=>(∃ st,I m st∧TY c st a1 w1)∧∀ m',(∃ st,I m' st∧TY c st a1 w1)→m≤m')=mu at hmu;obtain ⟨⟨st2,h3,h4⟩,_⟩:=hmu;refine wp_mono (SZ x _ st2 a1 w1 (hround mu st2 h3) h4) fun e a' w' ⟨st',hq,hs'⟩=>?_
   cases e with
   | normal =>
    obtain ⟨m',st'',hlt,hweak,hI'⟩:=hq;have hs'':=hweak c _ _ hs';refine ⟨⟨m',st'',hI',hs''⟩,?_⟩
    have least':∃ m,(∃ st,I m st∧TY c st a' w')∧∀ m',(∃ st,I m' st∧TY c st a' w')→m≤m':=by
     have:∀ k,(∃ m,m≤k∧∃ st,I m st∧TY c st a' w')→∃ m,(∃ st,I m st∧TY c st a' w')∧∀ m',(∃ st,I m' st∧TY c st a' w')→m≤m':=by
      intro k
      induction k with
      | zero =>
       rintro ⟨m,hm,hx⟩;exact ⟨m,hx,fun m' _=>aa⟩
      | succ k ih =>
       rintro ⟨m,hm,hx⟩;by_cases hk:∃ m,m≤k∧∃ st,I m st∧TY c st a' w'
       ·exact ih hk
       ·refine ⟨m,hx,fun m' hm'=>?_⟩;rcases Nat.lt_or_ge m' m with hlt | hge
        ·exact absurd ⟨m',aa,hm'⟩ hk
        ·exact hge
     exact this m' ⟨m',Nat.le_refl _,st'',hI',hs''⟩
    have hmu':=Classical.epsilon_spec least';exact Nat.lt_of_le_of_lt (hmu'.2 m' ⟨st'',hI',hs''⟩) hlt
   | _=>exact ⟨st',hq,hs'⟩
  exact key m0 st0 a w hI0 (hw0 c _ _ hs)
 | .exit id,Q,st,a,w,h,hs=>wp_exit ⟨st,h,hs⟩
 | .ret,Q,st,a,w,h,hs=>wp_ret ⟨st,h,hs⟩
 | .rangeFunc ..,Q,st,a,w,h,hs=>h.elim
 | .scope _,Q,st,a,w,h,hs=>h.elim
 | .label _,Q,st,a,w,h,hs=>h.elim
 | .goto _,Q,st,a,w,h,hs=>h.elim
 | .refuse _,Q,st,a,w,h,hs=>h.elim
end
end Go.Am
namespace Go.Am
def d9 (P:Program) (g:FuncId) (args:List AV) (Q:AV→Prop):Prop :=
 (∃ fn, P.funcs[g]? = some fn ∧ (fn.name == "runtime.NumGoroutine") = false ∧ fn.body.isNone = false) ∧
 ∀ (w:World) (S:Nat→Prop) (vs:List Value),(∀ b,S b→b<w.heap.size)→vs.length=args.length →
  (∀ (i:Nat) (v:AV) (x:Value),args[i]?=some v→vs[i]?=some x→AIs w S (fun _=>none) [] (fun _=>False) v x) →
  Calls P g vs.toArray w fun e w'=>∃ x r,e=.returned x∧Q r∧r.deep∧RowKit.Below w.heap.size w w' ∧
   AIs w' (fun b=>S b ∨ (w.heap.size≤b∧b<w'.heap.size)) (fun _=>none) [] (fun _=>False) r x
section
variable {P:Program}
theorem abb {g:FuncId} {args:List AV} {hp:Hp} {N:Nat} {K:AV→Hp→Prop} {Q:AV→Prop} (h:d9 P g args Q) (hd:∀ v,v ∈ args→v.deep) (hK:∀ r,Q r→K r hp):Uz P g args hp N K:=by
 refine ⟨h.1,fun c U σ w vs hr hN hl hv=>?_⟩;refine (h.2 w (z7 c w σ hp) vs (fun b hb=>hb.1.1) hl (fun i v x hi hx=>UD (hd v (List.mem_of_getElem? hi)) (fun _ h=>h) (hv i v x hi hx))).mono fun e w' he=>?_;obtain ⟨x,r,rfl,hQ,hdr,hb,hx⟩:=he;obtain ⟨r1,r2⟩:=VR (N:=N) hr hb;refine ⟨x,rfl,r,hp,σ,hK r hQ,r1,r2,UD hdr (fun b hb'=>?_) hx⟩;rcases hb' with h | ⟨h1,h2⟩
 ·exact ⟨⟨Nat.lt_of_lt_of_le h.1.1 hb.size,h.1.2⟩,h.2⟩
 ·exact ⟨⟨h2,fun id blk g hk hg=>by have:=H4 (hr.at hk hg);omega⟩,.inr (Nat.le_trans hr.size h1)⟩
theorem adM {g:FuncId} {args args':List AV} {hp:Hp} {N:Nat} {K:AV→Hp→Prop} {Q:AV→Prop} (h:d9 P g args' Q) (hl':args.length=args'.length)
  (hs:∀ (i:Nat) (v v':AV),args[i]?=some v→args'[i]?=some v'→Snap hp (fun _=>True) v v') (hf:∀ r,Q r→r.flat) (hK:∀ r,Q r→K r hp):Uz P g args hp N K:=by
 refine ⟨h.1,fun c U σ w vs hr hN hl hv=>?_⟩;refine (h.2 w (fun b=>b<w.heap.size) vs (fun b hb=>hb) (hl.trans hl') (fun i v' x hi hx=>?_)).mono fun e w' he=>?_
 ·have hlt:i<args.length:=by have:=(List.getElem?_eq_some_iff.1 hi).1;omega
  exact UE (fun b hb=>hb.1.1) (fun id blk g _ hk hg=>H4 (hr.at hk hg)) hr (hs i _ v' (List.getElem?_eq_getElem hlt) hi) (hv i _ x (List.getElem?_eq_getElem hlt) hx)
 ·obtain ⟨x,r,rfl,hQ,hdr,hb,hx⟩:=he;obtain ⟨r1,r2⟩:=VR (N:=N) hr hb;exact ⟨x,rfl,r,hp,σ,hK r hQ,r1,r2,amP (hf r hQ) hx⟩
theorem adN (ids:List Nat) {g:FuncId} {args args':List AV} {hp:Hp} {N:Nat} {K:AV→Hp→Prop} {Q:AV→Prop} (h:d9 P g args' Q) (hl':args.length=args'.length)
  (hs:∀ (i:Nat) (v v':AV),args[i]?=some v→args'[i]?=some v'→Snap hp (fun id=>id ∈ ids) v v') (hK:∀ r,Q r→K r (s7 ids hp)):Uz P g args hp N K:=by
 refine ⟨h.1,fun c U σ w vs hr hN hl hv=>?_⟩;obtain ⟨d1,d2⟩:=Xg ids hr;refine (h.2 w (z7 c w σ (s7 ids hp)) vs (fun b hb=>hb.1.1) (hl.trans hl') (fun i v' x hi hx=>?_)).mono fun e w' he=>?_
 ·have hlt:i<args.length:=by have:=(List.getElem?_eq_some_iff.1 hi).1;omega
  refine UE (fun b hb=>d2.sub b hb) (fun id blk g hid hk hg=>⟨⟨H4 (hr.at hk hg),fun id' blk' g' hk' hg' e=>?_⟩,?_⟩) hr (hs i _ v' (List.getElem?_eq_getElem hlt) hi) (hv i _ x (List.getElem?_eq_getElem hlt) hx)
  ·subst e;rw [Q1] at hk'
   split at hk'
   ·cases hk'
   ·rename_i hn;have:=hr.inj id id' blk blk' g hk hk' hg hg';subst this;exact hn (by simpa using hid)
  ·rcases hr.mine id blk g hk hg with h | h
   ·exact .inl (c.hM g h)
   ·exact .inr h
 ·obtain ⟨x,r,rfl,hQ,hdr,hb,hx⟩:=he;obtain ⟨r1,r2⟩:=VR (N:=N) d1 hb;refine ⟨x,rfl,r,_,σ,hK r hQ,r1,d2.trans r2,UD hdr (fun b hb'=>?_) hx⟩;rcases hb' with h | ⟨h1,h2⟩
  ·exact ⟨⟨Nat.lt_of_lt_of_le h.1.1 hb.size,h.1.2⟩,h.2⟩
  ·refine ⟨⟨h2,fun id blk g hk hg e=>?_⟩,.inr (Nat.le_trans hr.size h1)⟩;have:=H4 (d1.at hk hg);omega
def acb (tmps:Array Value):ResultVar→Sem Value
 | .tmp t=>pure (tmps.getD t undef)
 | .cell a t=>do loadVar t (← asAddr (tmps.getD a undef))
theorem afA (fn:Func) (tmps:Array Value):results fn tmps=(do let vs ← fn.results.toList.toArray.mapM (acb tmps);pure (if h:vs.size=1 then vs[0] else .tuple vs)):=by
 unfold results
 have:(fun x:ResultVar=>(match x with | .tmp t=>pure (tmps.getD t undef) | .cell a t=>do loadVar t (← asAddr (tmps.getD a undef)):Sem Value))=acb tmps:=by
  funext x;cases x <;> rfl
 rw [← this,Array.toArray_toList];rfl
def d6 (P:Program) (st:St):ResultVar→Option AV
 | .tmp t=>some (fv t st.fr)
 | .cell t ty =>
  match fv t st.fr with
  | .ptr id i off tot =>
   (match lk id st.hp with
   | some b =>
    (match b.es[i]? with
    | some row=>if b.es.length=tot then ldv P ty (row.drop off) else none
    | none=>none)
   | none=>none)
  | _=>none
def adO (P:Program) (rs:List ResultVar) (R:AV→St→Prop) (st:St):Prop :=
 match rs with
 | []=>R (.tup []) st
 | [x]=>(match d6 P st x with
  | some v=>R v st
  | none=>False)
 | [x,y]=>(match d6 P st x,d6 P st y with
  | some v,some u=>R (.tup [v,u]) st
  | _,_=>False)
 | [x,y,z]=>(match d6 P st x,d6 P st y,d6 P st z with
  | some v,some u,some t=>R (.tup [v,u,t]) st
  | _,_,_=>False)
 | _=>False
def ajF (P:Program) (rs:List ResultVar) (R:AV→St→Prop):Exit→St→Prop
 | .normal,st=>adO P rs R st
 | .ret,st=>adO P rs R st
 | _,_=>False
theorem VT {c:Ctx} {st:St} {w:World} {σ:Nat→Option Nat} {tmps:Array Value} (hr:Rel c st.hp (fun i=>i<st.nx) σ w)
  (hf:∀ n,AIs w (z7 c w σ st.hp) σ st.hp (fun i=>i<st.nx) (fv n st.fr) (tmps.getD n undef)) {rv:ResultVar} {v:AV} (h:d6 P st rv=some v) :
  ∃ x,(acb tmps rv).run P w=.ok x w∧AIs w (z7 c w σ st.hp) σ st.hp (fun i=>i<st.nx) v x:=by
 cases rv with
 | tmp t =>
  simp only [d6] at h;injection h with h;subst h;exact ⟨_,rfl,hf t⟩
 | cell t ty =>
  simp only [d6] at h
  split at h
  ·rename_i id i off tot hx;have hx':=hf t;rw [hx] at hx'
   split at h
   ·rename_i b hb
    split at h
    ·rename_i row hrow
     split at h
     ·rename_i ht;obtain ⟨g,ccs,hg,hxv,hheap,hone,hrl,hle,hcell⟩:=VM hr hx' hb hrow ht
      have hat:∀ (j:Nat) (y:AV),(row.drop off)[j]?=some y→∃ u,ccs[i*b.e+off+j]?=some u∧AIs w (z7 c w σ st.hp) σ st.hp (fun i=>i<st.nx) y u:=by
       intro j y hy;rw [List.getElem?_drop] at hy;obtain ⟨u,h1,h2⟩:=hcell _ y hy;exact ⟨u,by rw [Nat.add_assoc];exact h1,h2⟩
      obtain ⟨u,hu1,hu2⟩:=RN (P:=P) (w:=w) (S:=z7 c w σ st.hp) (σ:=σ) (hp:=st.hp) (U:=fun i=>i<st.nx) (ad:=⟨g,i*b.e+off,none⟩) (vs:=fun j=>ccs.getD (i*b.e+off+j) undef) h
       (fun j y hy=>by
        obtain ⟨u,h1,h2⟩:=hat j y hy;rw [P3,cell_of_row w _ _ ccs _ _ hheap,h1]
        simp [Array.getD_eq_getD_getElem?,h1])
       (fun j y hy=>by
        obtain ⟨u,h1,h2⟩:=hat j y hy;simp only [Array.getD_eq_getD_getElem?,h1,Option.getD_some]
        exact hone _ u h1)
       (fun j y hy=>by
        obtain ⟨u,h1,h2⟩:=hat j y hy;simp only [Array.getD_eq_getD_getElem?,h1,Option.getD_some]
        exact h2)
      refine ⟨u,?_,hu2⟩;simp only [acb,hxv,asAddr,Sem.run_bind,Sem.run_pure,Result.andThen_ok,hu1]
     ·cases h
    ·cases h
   ·cases h
  ·cases h
theorem acd {c:Ctx} {fn:Func} {R:AV→St→Prop} {st:St} {a:Act} {w:World} (hs:TY c st a w) (h:adO P fn.results.toList R st) :
  ∃ v x,R v st∧(results fn a.tmps).run P w=.ok x w∧∃ σ,Rel c st.hp (fun i=>i<st.nx) σ w∧AIs w (z7 c w σ st.hp) σ st.hp (fun i=>i<st.nx) v x∧adu c st.hp (fun i=>i<st.nx) σ w:=by
 obtain ⟨_,_,σ,hr,hf,hh⟩:=hs;rw [afA];generalize fn.results.toList=rs at h;unfold adO at h
 split at h
 ·exact ⟨_,.tuple #[],h,ab,σ,hr,.tup [] #[] rfl ab,hh⟩
 ·rename_i rv
  split at h
  ·rename_i v hv;obtain ⟨x,h1,h2⟩:=VT hr hf hv;exact ⟨v,x,h,by simp [h1],σ,hr,h2,hh⟩
  ·exact h.elim
 ·rename_i r1 r2
  split at h
  ·rename_i v1 v2 hv1 hv2;obtain ⟨x1,h1,k1⟩:=VT hr hf hv1;obtain ⟨x2,h2,k2⟩:=VT hr hf hv2;refine ⟨_,.tuple #[x1,x2],h,by simp [h1,h2],σ,hr,.tup _ _ rfl fun i c x hc hx=>?_,hh⟩
   match i,hc,hx with
   | 0,hc,hx=>simp at hc hx;subst hc;subst hx;exact k1
   | 1,hc,hx=>simp at hc hx;subst hc;subst hx;exact k2
   | n+2,hc,hx=>simp at hc
  ·exact h.elim
 ·rename_i r1 r2 r3
  split at h
  ·rename_i v1 v2 v3 hv1 hv2 hv3;obtain ⟨x1,h1,k1⟩:=VT hr hf hv1;obtain ⟨x2,h2,k2⟩:=VT hr hf hv2;obtain ⟨x3,h3,k3⟩:=VT hr hf hv3;refine ⟨_,.tuple #[x1,x2,x3],h,by simp [h1,h2,h3],σ,hr,.tup _ _ rfl fun i c x hc hx=>?_,hh⟩
   match i,hc,hx with
   | 0,hc,hx=>simp at hc hx;subst hc;subst hx;exact k1
   | 1,hc,hx=>simp at hc hx;subst hc;subst hx;exact k2
   | 2,hc,hx=>simp at hc hx;subst hc;subst hx;exact k3
   | n+3,hc,hx=>simp at hc
  ·exact h.elim
 ·exact h.elim
def fr0 (k:Nat):List AV→Fr
 | []=>[]
 | v :: r=>(k,v) :: fr0 (k+1) r
theorem ace:∀ (args:List AV) (k n:Nat),lk n (fr0 k args)=if k≤n then args[n - k]? else none
 | [],k,n=>by simp [fr0,lk]
 | v :: r,k,n=>by
  simp only [fr0,lk,ace r (k+1) n];by_cases h:k=n
  ·subst h;simp
  ·rw [if_neg h];by_cases h2:k≤n
   ·rw [if_pos aa,if_pos h2,show n - k=(n - (k+1))+1 by omega,List.getElem?_cons_succ]
   ·rw [if_neg aa,if_neg h2]
def K9 (Q:AV→Prop) (v:AV) (st:St):Prop:=∃ r,Snap st.hp (fun _=>True) v r∧r.deep∧Q r
theorem b7 {Q:AV→Prop} {v:AV} {st:St} (hd:v.deep) (hq:Q v):K9 Q v st:=⟨v,.deep hd,hd,hq⟩
theorem D1 {Q:AV→Prop} {v v':AV} {st:St} (h:SV st.hp (fun _=>True) v v') (hd:v'.deep) (hq:Q v'):K9 Q v st:=⟨v',.one h,hd,hq⟩
theorem Tk {Q:AV→Prop} {cs cs':List AV} {st:St} (h:∀ (i:Nat) (c c':AV),cs[i]?=some c→cs'[i]?=some c'→SV st.hp (fun _=>True) c c') (hl:cs'.length=cs.length) (hd:(AV.tup cs').deep) (hq:Q (.tup cs')):K9 Q (.tup cs) st :=
 ⟨.tup cs',.tup hl (fun i c c' h1 h2=>.inl (h i c c' h1 h2)),hd,hq⟩
theorem Q2 {Q:AV→Prop} {cs cs':List AV} {st:St} (h:∀ (i:Nat) (c c':AV),cs[i]?=some c→cs'[i]?=some c'→SV st.hp (fun _=>True) c c') (hl:cs'.length=cs.length) (hd:(AV.agg cs').deep) (hq:Q (.agg cs')):K9 Q (.agg cs) st :=
 ⟨.agg cs',.agg ⟨hl,h⟩,hd,hq⟩
theorem aia {g : FuncId} {fn : Func} {code : Code} {args : List AV} {Q : AV → Prop} (hf : P.funcs[g]? = some fn) (hn : (fn.name == "runtime.NumGoroutine") = false) (hb : fn.body = some code)
  {n:Nat} {rs:List ResultVar} (hnt:fn.ntmps=n) (hrs:fn.results.toList=rs) (hle:args.length≤n) (hd:∀ v,v ∈ args→v.deep)
  (h:U9 P n code (ajF P rs (K9 Q)) ⟨fr0 0 args,[],0⟩):d9 P g args Q:=by
 subst hnt;subst hrs;refine ⟨⟨fn,hf,hn,by simp [hb]⟩,fun w S vs hS hl hv=>?_⟩;have hsz:((vs.toArray ++ Array.replicate (fn.ntmps - vs.toArray.size) undef):Array Value).size=fn.ntmps:=by simp;omega
 refine calls_of_wp hf hb ?_
 let c:Ctx:=⟨w,fun _=>False,S,fn.ntmps,fun _ h=>h.elim,fun _=>False,fun _=>none,[],0,aa⟩
 have hsim:TY c ⟨fr0 0 args,[],0⟩ { tmps:=vs.toArray ++ Array.replicate (fn.ntmps - vs.toArray.size) undef,defers:=[] } w:=by
  refine ⟨rfl,hsz,fun _=>none,⟨(fun i j bi bj g h=>by cases h),(fun i b h=>by cases h),(fun i b h=>by cases h),(fun i b g h=>by cases h),rfl,rfl,rfl,Nat.le_refl _,fun _ _ _=>rfl⟩,fun n=>?_,⟨fun _ h=>h.elim,fun _ h=>h.elim,fun i h=>absurd h (Nat.not_lt_zero _),fun i b' h=>absurd h (Nat.not_lt_zero _)⟩⟩;simp only [fv,ace,Nat.zero_le,if_true,Nat.sub_zero]
  cases hn:args[n]? with
  | none=>exact .any _
  | some v =>
   have hlt:n<vs.length:=by have:=(List.getElem?_eq_some_iff.1 hn).1;omega
   have hx:vs[n]?=some vs[n]:=List.getElem?_eq_getElem hlt
   have:(vs.toArray ++ Array.replicate (fn.ntmps - vs.toArray.size) undef).getD n undef=vs[n]:=by
    rw [Array.getD_eq_getD_getElem?,Array.getElem?_append,if_pos (by simpa using hlt)];simp [hx]
   rw [this];simp only [Option.getD_some];exact UD (hd v (List.mem_of_getElem? hn)) (fun b hb=>⟨⟨hS b hb,(fun id blk g h=>by cases h)⟩,.inl hb⟩) (hv n v _ hn hx)
 have Ye:∀ st a w',adO P fn.results.toList (K9 Q) st→TY c st a w'→∃ v,(results fn a.tmps).run P w'=.ok v w'∧∃ x r,Ending.returned v=.returned x∧Q r∧r.deep∧RowKit.Below w.heap.size w w' ∧
   AIs w' (fun b=>S b ∨ (w.heap.size≤b∧b<w'.heap.size)) (fun _=>none) [] (fun _=>False) r x:=by
  intro st a w' hret hs;obtain ⟨v,x,⟨r,hsn,hrd,hQ⟩,hrun,σ,hr,hx,_⟩:=acd hs hret;refine ⟨x,hrun,x,r,rfl,hQ,hrd,⟨hr.os,hr.tape,hr.output,hr.size,fun b hb=>hr.old b hb (fun h=>h)⟩,?_⟩;refine UE (fun b hb=>?_) (fun id blk g _ hk hg=>?_) hr hsn hx
  ·rcases hb.2 with h | h
   ·exact .inl h
   ·exact .inr ⟨h,hb.1.1⟩
  ·rcases hr.mine id blk g hk hg with h | h
   ·exact h.elim
   ·exact .inr ⟨h,H4 (hr.at hk hg)⟩
 refine wp_mono (SZ (c:=c) code _ _ _ w h hsim) fun e a w' ⟨st,hq,hs⟩=>?_
 cases e with
 | normal=>exact ⟨hs.1,Ye st a w' hq hs⟩
 | ret=>exact ⟨hs.1,Ye st a w' hq hs⟩
 | _=>exact hq.elim
end
end Go.Am
namespace Go.Am
theorem ae {P:Prop} (h:P:=by simp [AV.deep,AV.deep1]):P:=h
end Go.Am
namespace Go.Am
def ag:List Nat → Tr
| []=>.done
| n::r=>.step n [] false (ag r)
abbrev ah (n:Nat) (t:Tr):=Tr.step n [] true t
abbrev ai (n:Nat) (t:Tr):=Tr.step n [] false t
end Go.Am
