/-
 Part 2 of what the claim rests on.
-/
import Derived.Test.YtmfnimjnneflnaaGreatP0
import Derived.Laws.Cover3
import Derived.Orders
set_option linter.unusedVariables false
set_option linter.unusedSimpArgs false
set_option maxRecDepth 100000
set_option maxHeartbeats 16000000
namespace Go.Am
section
variable {P:Program} {c:Ctx} {K:AV→Hp→Prop} {fr:Fr} {hp:Hp} {U:Nat→Prop} {N:Nat} {σ:Nat→Option Nat} {w:World} {a:Act} {o:Oper} {S:Nat→Prop}
theorem ca:Step w (bI c w σ hp) σ hp U w.drew (bI c w.drew σ hp) σ hp U :=
 ⟨fun _ h=>h,fun _ _=>rfl,fun _ h=>h,fun id b' _ h=>⟨b',h,rfl,rfl,cR _,fun _ g hg=>⟨hg,fun _ h=>h⟩⟩⟩
theorem i7(hr:Rel c hp U σ w):Rel c hp U σ w.drew:=by
 refine⟨hr.inj,hr.lt,fun i b h=>?_,hr.mine,hr.os,hr.tape,hr.output,hr.size,hr.old⟩;rcases hr.blk i b h with h0|⟨g,hg,hb⟩
 ·exact .inl ⟨h0.1,h0.2.keep fun _ _ _ _=>rfl⟩
 ·exact .inr ⟨g,hg,hb.step ca rfl⟩
theorem ja{sz:Nat}{r1 r2:List (List AV)}{x1 x2 rest:Array Value}(h1:RIs w S σ hp U sz r1 x1)(hx1:x1.size=r1.length*sz)(h2:RIs w S σ hp U sz r2 x2)(hr:∀(i:Nat)(x:Value),rest[i]?=some x→x.oneCell'=true) :
  RIs w S σ hp U sz (r1++r2) (x1++x2++rest):=by
 have l1:=h1.len;have l2:=h2.len;refine⟨by simp[Nat.add_mul];omega,fun r hr'=>?_,fun i x hx=>?_,fun i j r y x hi hj hx=>?_⟩
 ·rcases cL.1 hr' with h|h
  ·exact h1.row r h
  ·exact h2.row r h
 ·rw[Array.getElem?_append]at hx
  split at hx
  ·rw[Array.getElem?_append]at hx
   split at hx
   ·exact h1.one _ _ hx
   ·exact h2.one _ _ hx
  ·exact hr _ _ hx
 ·rw[List.getElem?_append]at hi
  split at hi
  ·rename_i hlt
   have hjl:j<sz:=by
    have:=(ci.1 hj).1;rw[h1.row r (cr hi)]at this;exact this
   have hlt2:i*sz+j<x1.size:=by
    have:(i+1)*sz≤r1.length*sz:=d_ _ aq;rw[Nat.add_mul,Nat.one_mul]at this;omega
   rw[Array.getElem?_append,if_pos (by simp;omega),Array.getElem?_append,if_pos hlt2]at hx;exact h1.is i j r y x hi hj hx
  ·rename_i hge
   have hjl:j<sz:=by
    have:=(ci.1 hj).1;rw[h2.row r (cr hi)]at this;exact this
   have hil:=(ci.1 hi).1
   have hm:(i-r1.length)*sz+j<r2.length*sz:=by
    have:(i-r1.length+1)*sz≤r2.length*sz:=d_ _ aq;rw[Nat.add_mul,Nat.one_mul]at this;omega
   have hsub:i*sz=r1.length*sz+(i-r1.length)*sz:=by
    rw[←Nat.add_mul];congr 1;omega
   rw[Array.getElem?_append,if_pos (by simp;omega),Array.getElem?_append,if_neg aq]at hx;rw[show i*sz+j-x1.size=(i-r1.length)*sz+j by omega]at hx;exact h2.is _ j r y x hi hj hx
section
variable {ts tx ty el el2:TypeId} {i:TypeInfo} {z:Value}
theorem lp(hts:P.underlying ts=some (.slice el))(htx:P.underlying tx=some (.slice el2))(hi:P.info? el=some i){base:Option Addr}{sLen sCap n k:Nat}{B:Option Addr}{us:Array Value}{w':World}
  (hf:(Builtin.firstCells i.size n (.slice B n k)).run P w=.ok us w) (hneed:sLen+n≤sCap) (hsto:(match base with|some a=>storeCells (a.add (sLen*i.size)) us.toList|none=>pure ()).run P w=.ok () w') :
  (Builtin.append_ #[ts,tx] ty #[.slice base sLen sCap,.slice B n k]).run P w=.ok (.slice base (sLen+n) sCap) w':=by
 cases base with
 |none =>
  simp at hsto;subst hsto;simp[Builtin.append_,run_underlying hts,run_underlying htx,sizeOf,typeInfo,hi,Builtin.lenOf,hneed,hf]
 |some ad =>
  simp only at hsto;simp[Builtin.append_,run_underlying hts,run_underlying htx,sizeOf,typeInfo,hi,Builtin.lenOf,hneed,hf,hsto]
theorem gK(hts:P.underlying ts=some (.slice el))(htx:P.underlying tx=some (.slice el2))(hi:P.info? el=some i)(hz:i.zero=some z){base:Option Addr}{sLen sCap n k:Nat}{B:Option Addr}{us os:Array Value}
  (hf:(Builtin.firstCells i.size n (.slice B n k)).run P w.drew=.ok us w.drew) (hfo:(Builtin.firstCells i.size sLen (.slice base sLen sCap)).run P w.drew=.ok os w.drew) (hneed:sCap<sLen+n) (hb:i.bytes≠0) (hfit:(sLen+n)*i.bytes≤140737488355328) :
  (Builtin.append_ #[ts,tx] ty #[.slice base sLen sCap,.slice B n k]).run P w=.ok (.slice (some ⟨w.heap.size,0,none⟩) (sLen+n) (grownCap w (sLen+n) sCap el))
    (w.drew.alloc (.cells (os++us++Builtin.zeroCells z.cells (grownCap w (sLen+n) sCap el-(sLen+n))) el)):=by
 have hn:¬(sLen+n≤sCap):=aq
 have h48':¬(281474976710656<Builtin.nextslicecap (sLen+n) sCap*i.bytes):=by
  have:=growslice_fits hneed hfit;omega
 simp[Builtin.append_,run_underlying hts,run_underlying htx,sizeOf,typeInfo,zeroValue,hi,hz,Builtin.lenOf,hn,hb,h48',Question.forced,hf,hfo,newRow,grownCap]
end
theorem np{id:Nat}{b:Blk}:∀{hp:Hp},lk id hp=some b→bW id b hp=hp
 |[],h=>by cases h
 |(m,v)::t,h=>by
  simp only[lk]at h;simp only[bW]
  split at h
  ·rename_i e;injection h with h;subst h;rw[if_pos e]
  ·rename_i e;rw[if_neg e,np h]
theorem yT(hr:Rel c hp U σ w){id g len cap:Nat}{b:Blk}{xs es':List (List AV)}{us ccs:Array Value}(hb:lk id hp=some b)(hg:σ id=some g)(m1:w.heap[g]?=some (.cells ccs b.ty (0,0)))
  (hri:RIs w (bI c w σ hp) σ hp U b.e xs us) (hul:us.size=xs.length*b.e) (hcm:cap*b.e≤ccs.size) (hneed:len+xs.length≤cap) (hle:b.es.length≤es'.length) (hcap:es'.length≤cap) (hlen3:len+xs.length≤es'.length)
  (hes:∀k r,es'[k]?=some r→(k<len∧b.es[k]?=some r)∨(len≤k∧k<len+xs.length∧xs[k-len]?=some r)∨(len+xs.length≤k∧b.es[k]?=some r))
  (hU:U id) (hK:K (.own id 0 (len+xs.length) es'.length) (bW id ⟨b.ty,b.e,es'⟩ hp)) :
  Good c K hp U N σ w (.slice (some ⟨g,0,none⟩) (len+xs.length) cap) (w.setRow g (ccs.toList.take (len*b.e)++us.toList++ccs.toList.drop (len*b.e+us.toList.length)).toArray):=by
 obtain⟨cc,q1,m2,m3,m4,m5⟩:=hr.at hb hg;rw[m1]at q1;injection q1 with q1;injection q1 with q1;subst q1;have hle1:(len+xs.length)*b.e≤cap*b.e:=d_ _ hneed;rw[Nat.add_mul]at hle1;have hull:us.toList.length=xs.length*b.e:=by simpa using hul
 have hnth:∀m,(ccs.toList.take (len*b.e)++us.toList++ccs.toList.drop (len*b.e+us.toList.length)).toArray[m]? =
   if m<len*b.e then ccs[m]? else if m<len*b.e+xs.length*b.e then us[m-len*b.e]? else ccs[m]?:=by
  intro m;simp only[List.getElem?_toArray,cD];rw[List.getElem?_append];have hlt:(ccs.toList.take (len*b.e)).length=len*b.e:=by simp;omega
  rw[hlt];by_cases hm:m<len*b.e
  ·simp[hm]
  ·rw[if_neg hm,if_neg hm,List.getElem?_append];by_cases hm2:m<len*b.e+xs.length*b.e
   ·rw[if_pos aq,if_pos hm2,Array.getElem?_toList]
   ·rw[if_neg aq,if_neg hm2,List.getElem?_drop,Array.getElem?_toList];congr 1;omega
 have hrow:∀r,r∈es'→r.length=b.e:=by
  intro r hr';obtain⟨k,hk⟩:=List.getElem?_of_mem hr';rcases hes k r hk with ⟨_,h1⟩|⟨_,_,h1⟩|⟨_,h1⟩
  ·exact m3 r (cr h1)
  ·exact hri.row r (cr h1)
  ·exact m3 r (cr h1)
 have hszn:(ccs.toList.take (len*b.e)++us.toList++ccs.toList.drop (len*b.e+us.toList.length)).toArray.size=ccs.size:=by
  simp only[List.size_toArray,b_,List.length_take,e_,hull,Array.length_toList];omega
 have hcapm:es'.length*b.e≤cap*b.e:=d_ _ hcap
 obtain⟨r1,r2⟩:=sS hr (b':=⟨b.ty,b.e,es'⟩) hb hg rfl rfl hle ccs _ (by rw[hszn];exact Nat.le_trans hcapm hcm) m1 hszn
  (fun m y hy=>by
   rw[hnth]at hy
   split at hy
   ·exact m2 m y hy
   ·split at hy
    ·exact hri.one _ y hy
    ·exact m2 m y hy)
  hrow
  (fun k j r y u a1 a2 a3=>by
   have hj:j<b.e:=by
    have:=(ci.1 a2).1;rw[hrow r (cr a1)]at this;exact this
   rw[hnth]at a3;rcases hes k r a1 with ⟨q1,q2⟩|⟨q0,q1,q2⟩|⟨q1,q2⟩
   ·have:(k+1)*b.e≤len*b.e:=d_ _ aq;rw[Nat.add_mul,Nat.one_mul]at this;rw[if_pos aq]at a3;exact m5 k j r y u q2 a2 a3
   ·have e1:k*b.e=len*b.e+(k-len)*b.e:=by rw[←Nat.add_mul];congr 1;omega
    have e2:(k-len+1)*b.e≤xs.length*b.e:=d_ _ aq;rw[Nat.add_mul,Nat.one_mul]at e2;rw[if_neg aq,if_pos aq,show k*b.e+j-len*b.e=(k-len)*b.e+j by omega]at a3;exact hri.is (k-len) j r y u q2 a2 a3
   ·have e1:(len+xs.length)*b.e≤k*b.e:=d_ _ q1;rw[Nat.add_mul]at e1;rw[if_neg aq,if_neg aq]at a3
    exact m5 k j r y u q2 a2 a3)
 refine⟨_,_,_,hK,r1.more,r2.trans Step.more,.own _ _ _ _ _ _ (.inl hU) hneed (fun h=>by cases h) fun b1 hb1=>?_⟩;rw[ki,if_pos rfl,hb]at hb1;simp only[Option.map_some,Option.some.injEq]at hb1;subst hb1;refine⟨cR _,fun _=>⟨aq,aq,fun _=>⟨g,hg,aw,ccs.size,⟨_,setRow_heap w g ccs _ b.ty (0,0) m1,hszn⟩,by simp only[Nat.zero_add];exact hcm⟩⟩⟩
theorem nq{w':World}(hr:Rel c hp U σ w)(hb:RowKit.Below w.heap.size w w') :
  Rel c hp (dJ U N) σ w'∧Step w (bI c w σ hp) σ hp U w' (bI c w' σ hp) σ hp (dJ U N):=by
 have hst:Step w (bI c w σ hp) σ hp U w' (bI c w' σ hp) σ hp (dJ U N):=by
  refine⟨fun b h=>⟨⟨Nat.lt_of_lt_of_le h.1.1 hb.size,h.1.2⟩,h.2⟩,fun p h=>hb.cell h.1.1,fun _ h=>.inl h,fun id b' _ h=>⟨b',h,rfl,rfl,cR _,fun _ g hg=>⟨hg,fun n hn=>?_⟩⟩⟩;obtain⟨ccs,h1,h2⟩:=hn;exact⟨ccs,(hb.block _ (dK (hr.at h hg))).trans h1,h2⟩
 refine⟨⟨hr.inj,fun i b h=>.inl (hr.lt i b h),fun i b h=>?_,hr.mine,hb.os.trans hr.os,hb.tape.trans hr.tape,hb.output.trans hr.output,Nat.le_trans hr.size hb.size,fun b h1 h2=>?_⟩,hst⟩
 ·rcases hr.blk i b h with h0|⟨g,k1,k2⟩
  ·exact .inl ⟨h0.1,h0.2.keep fun _ _ _ hm=>hb.block _ (sP hm)⟩
  ·exact .inr ⟨g,k1,k2.step hst (hb.block _ (dK k2))⟩
 ·rw[hb.block b (Nat.lt_of_lt_of_le h1 hr.size)];exact hr.old b h1 h2
theorem Hm(w:World)(C:Array Value)(t:TypeId)(j:Nat)(v:Value)(hj:C[j]?=some v):(w.alloc (.cells C t)).cell? ⟨w.heap.size,j,none⟩=some v:=by
 have:=heap_alloc_new w (.cells C t);simp only[World.cell?,this]
 simpa using hj
theorem Up(hr:Rel c hp U σ w){es:List (List DV)}{e cap:Nat}{C:Array Value}{w':World}(hb:RowKit.Below w.heap.size w w')(hsz:w.heap.size<w'.heap.size)
  (hcell:∀(j:Nat)(v:Value),C[j]?=some v→w'.cell? ⟨w.heap.size,j,none⟩=some v) (hrow:∀r,r∈es→r.length=e) (hlen:es.length*e≤C.size) (hcap:es.length≤cap)
  (his:∀(i j:Nat)(r:List DV)(y:DV)(x:Value),es[i]?=some r→r[j]?=some y→C[i*e+j]?=some x→DIs w (bI c w σ hp) y x) (hK:K (.d (.ro e es)) hp) :
  Good c K hp U N σ w (.slice (some ⟨w.heap.size,0,none⟩) es.length cap) w':=by
 obtain⟨r1,r2⟩:=nq (N:=N) hr hb
 have hin:∀(i j:Nat)(r:List DV)(y:DV),es[i]?=some r→r[j]?=some y→i*e+j<C.size:=by
  intro i j r y hi hj;have h1:=(ci.1 hi).1;have h2:=(ci.1 hj).1;rw[hrow r (cr hi)]at h2;have h3:(i+1)*e≤es.length*e:=d_ _ h1;rw[Nat.add_mul,Nat.one_mul]at h3;omega
 refine⟨.d (.ro e es),hp,σ,hK,r1,r2,.d (.ro e es _ cap (fun i j=>C[i*e+j]!) hcap hrow (fun r hr'=>⟨_,rfl,⟨⟨hsz,fun id blk g hi hg=>?_⟩,.inr hr.size⟩⟩) (fun ad hAd i j r y hi hj=>?_) fun i j r y hi hj=>?_)⟩
 ·exact Nat.ne_of_gt (dK (hr.at hi hg))
 ·injection hAd with hAd;subst hAd;rw[fK,Nat.zero_add];have:=hin i j r y hi hj;exact hcell _ _ (by simp[this])
 ·have h0:=hin i j r y hi hj;exact(his i j r y (C[i*e+j]!) hi hj (by simp[h0])).mono (fun b h=>r2.sub b h) (fun p h=>r2.cell p h)
theorem LG{len:Nat}{es xs:List (List AV)}(hl:len≤es.length)(k:Nat)(r:List AV)(hk:(es.take len++(xs++es.drop (len+xs.length)))[k]?=some r) :
  (k<len∧es[k]?=some r)∨(len≤k∧k<len+xs.length∧xs[k-len]?=some r)∨(len+xs.length≤k∧es[k]?=some r):=by
 rw[List.getElem?_append]at hk;have hlt:(es.take len).length=len:=by simp;omega
 rw[hlt]at hk
 split at hk
 ·rename_i hkl;rw[List.getElem?_take,if_pos hkl]at hk;exact .inl ⟨hkl,hk⟩
 ·rename_i hkl;rw[List.getElem?_append]at hk
  split at hk
  ·exact .inr (.inl ⟨aq,aq,hk⟩)
  ·rw[List.getElem?_drop]at hk;refine .inr (.inr ⟨aq,?_⟩);rw[show k=len+xs.length+(k-len-xs.length)by omega];exact hk
theorem Hn{len:Nat}{es xs:List (List AV)}(hl:len≤es.length)(k:Nat)(r:List AV)(hk:(es.take len++xs)[k]?=some r) :
  (k<len∧es[k]?=some r)∨(len≤k∧k<len+xs.length∧xs[k-len]?=some r)∨(len+xs.length≤k∧es[k]?=some r):=by
 rw[List.getElem?_append]at hk;have hlt:(es.take len).length=len:=by simp;omega
 rw[hlt]at hk
 split at hk
 ·rename_i hkl;rw[List.getElem?_take,if_pos hkl]at hk;exact .inl ⟨hkl,hk⟩
 ·rename_i hkl;have:=(ci.1 hk).1;exact .inr (.inl ⟨aq,aq,hk⟩)
/-- append to a row of the call's own;what is appended comes from anywhere. -/
theorem Dt(hr:Rel c hp U σ w){el:TypeId}{id len tot:Nat}{xs:List (List AV)}{b:Blk}{sv:Value}{i:TypeInfo}{z:Value}(hss:AIs w (bI c w σ hp) σ hp U (.own id 0 len tot) sv)(hb:lk id hp=some b)
  (ht1:b.es.length=tot) (ht2:b.ty=el) (ht3:b.e=P.cellsOf el)
  (hst:len+xs.length≤tot→K (.own id 0 (len+xs.length) tot) (bW id ⟨b.ty,b.e,b.es.take len++(xs++b.es.drop (len+xs.length))⟩ hp))
  (hgr:tot<len+xs.length→K (.own id 0 (len+xs.length) (len+xs.length)) (bW id ⟨b.ty,b.e,b.es.take len++xs⟩ hp))
  (hisz:i.size=P.cellsOf el) (hzsz:z.cells.size=P.cellsOf el) (hne:P.cellsOf el≠0) (hz1:∀(n:Nat)(v:Value),z.cells[n]?=some v→v.oneCell'=true)
  (zone:∀(z:Value)(m:Nat),(∀(n:Nat)(v:Value),z.cells[n]?=some v→v.oneCell'=true)→z.cells.size≠0→∀(n:Nat)(v:Value),(Builtin.zeroCells z.cells m)[n]?=some v→v.oneCell'=true)
  (hstay:∀A cap,sv=.slice A len cap→len+xs.length≤cap→∃us:Array Value,us.size=xs.length*P.cellsOf el∧RIs w (bI c w σ hp) σ hp U (P.cellsOf el) xs us∧∀w',(match A with|some ad=>storeCells (ad.add (len*i.size)) us.toList|none=>pure ()).run P w=.ok () w'→(execOp a.eval o).run P w=.ok (.value (.slice A (len+xs.length) cap)) w')
  (hgrow:∀A cap os,sv=.slice A len cap→¬(len+xs.length≤cap)→(Builtin.firstCells i.size len (.slice A len cap)).run P w.drew=.ok os w.drew→∃us:Array Value,us.size=xs.length*P.cellsOf el∧RIs w.drew (bI c w.drew σ hp) σ hp U (P.cellsOf el) xs us ∧
   (execOp a.eval o).run P w=.ok (.value (.slice (some ⟨w.heap.size,0,none⟩) (len+xs.length) (grownCap w (len+xs.length) cap el))) (w.drew.alloc (.cells (os++us++Builtin.zeroCells z.cells (grownCap w (len+xs.length) cap el-(len+xs.length))) el))) :
  OpOk P c K hp U N σ w ((execOp a.eval o).run P w):=by
 have hss':=hss
 cases hss with
 | own _ _ _ _ A cap hU hl hA0 h' =>
  obtain⟨k1,k2⟩:=h' b hb;obtain⟨k3,k4,k5⟩:=k2 ht1;by_cases hneed:len+xs.length≤cap
  ·obtain⟨us,hul,hri,hgo⟩:=hstay A cap rfl hneed;rcases Nat.eq_zero_or_pos xs.length with h0|h0
   ·
    have hx0:xs=[]:=List.eq_nil_of_length_eq_zero h0;subst hx0;have hu0:us=#[]:=Array.eq_empty_of_size_eq_zero (by simpa using hul);subst hu0;have hr0:=hgo w (by cases A<;>simp[storeCells]);have hh:=hst (by simp;omega);simp only[List.length_nil,Nat.add_zero,List.nil_append,List.take_append_drop]at hh;rw[np (b:=⟨b.ty,b.e,b.es⟩) hb]at hh;exact OpOk.val hr0 (Good.same hr hh hss')
   ·obtain⟨g,hg,hA,n,hrn,hn⟩:=k5 aq;obtain⟨ccs,m1,m2,m3,m4,m5⟩:=hr.at hb hg
    have hnsz:ccs.size=n:=by
     obtain⟨cc,p1,p2⟩:=hrn;rw[m1]at p1;injection p1 with p1;injection p1 with p1;rw[p1];exact p2
    rw[Nat.zero_mul]at hA;subst hA;have hn':cap*b.e≤ccs.size:=by rw[hnsz];simpa using hn
    have hle1:(len+xs.length)*b.e≤cap*b.e:=d_ _ hneed;rw[Nat.add_mul]at hle1;have hull:us.toList.length=xs.length*b.e:=by simp[hul,ht3]
    have hsto:=run_storeCells_at P g (len*b.e) b.ty us.toList 0 ccs w m1 aq (fun u hu=>by
     obtain⟨j,hj⟩:=List.getElem?_of_mem hu
     exact hri.one j u (by simpa using hj))
    simp only[Nat.add_zero]at hsto
    have hr0:=hgo (w.setRow g (ccs.toList.take (len*b.e)++us.toList++ccs.toList.drop (len*b.e+us.toList.length)).toArray) (by
      simp only[fK,Nat.zero_add];rw[hisz,←ht3]
      exact hsto)
    rw[hr0];have hlb:len≤b.es.length:=aq;rcases Nat.lt_or_ge tot (len+xs.length)with htot|htot
    ·have hK:=hgr htot;have hl':(b.es.take len++xs).length=len+xs.length:=by rw[b_,List.length_take];omega
     rw[←hl']at hK;exact yT hr hb hg m1 (ht3▸hri) (ht3▸hul) hn' hneed aq aq aq (Hn hlb) hU (by rw[hl'];rw[hl']at hK;exact hK)
    ·have hK:=hst htot;have hl':(b.es.take len++(xs++b.es.drop (len+xs.length))).length=tot:=by rw[b_,b_,List.length_take,e_];omega
     exact yT hr hb hg m1 (ht3▸hri) (ht3▸hul) hn' hneed aq aq aq (LG hlb) hU (by rw[hl'];exact hK)
  ·
   clear k5 k2;have hrd:=i7 hr
   have hso:cT hp (P.cellsOf el) (.own id 0 len tot)=some (b.es.take len):=by
    simp only[cT,hb];rw[if_pos ⟨ht1,ht3⟩,List.drop_zero]
   obtain⟨A2,k',hA2,os,hos,hol,hro,_⟩:=eB hrd (hss'.step ca) hso;have htl:(b.es.take len).length=len:=by simp;omega
   rw[htl]at hA2 hos;injection hA2 with e1 _ e3;subst e1;subst e3;obtain⟨us,hul,hri,hr0⟩:=hgrow A cap os rfl hneed (by rw[hisz];exact hos);have hge:=grownCap_ge w (len+xs.length) cap el;have hrows:=ja (rest:=Builtin.zeroCells z.cells (grownCap w (len+xs.length) cap el-(len+xs.length))) hro hol hri (zone z _ hz1 aq);have hK:=hgr aq;have hl':(b.es.take len++xs).length=len+xs.length:=by simp;omega
   have hgt:b.es.length<(b.es.take len++xs).length:=aq
   have hsz:(os++us++Builtin.zeroCells z.cells (grownCap w (len+xs.length) cap el-(len+xs.length))).size=grownCap w (len+xs.length) cap el*P.cellsOf el:=by
    simp only[Array.size_append,size_zeroCells,hzsz,hol,hul,htl,←Nat.add_mul];congr 1;omega
   obtain⟨r1,r2⟩:=Hh hrd (b':=⟨b.ty,b.e,b.es.take len++xs⟩) hb rfl rfl hgt _ hrows.one (by rw[ht3];exact hrows.row) (by rw[ht3];exact hrows.len) (by rw[ht3];exact hrows.is);rw[hr0,←ht2];rw[←ht2]at r1 r2;refine⟨_,_,_,hK,r1.more,ca.trans (r2.trans Step.more),.own _ _ _ _ _ _ (.inl hU) (by rw[ht2];exact hge) (fun h=>by cases h) fun b1 hb1=>?_⟩;rw[ki,if_pos rfl,hb]at hb1;simp only[Option.map_some,Option.some.injEq]at hb1;subst hb1;refine⟨Nat.le_of_eq hl'.symm,fun _=>⟨aq,by rw[ht2];omega,fun _=>⟨w.heap.size,aw,aw,_,⟨_,heap_alloc_new w.drew _,rfl⟩,?_⟩⟩⟩;simp only[Nat.zero_add];rw[ht2,hsz,ht3];exact cR _
theorem Ho (hr:Rel c hp U σ w) (E:∀ x,AIs w (bI c w σ hp) σ hp U (ev fr x) (a.eval x)) (hN:Free U N) {ts tx:TypeId} {s x:Operand} {cl:Call} (hop:o.op=.call cl) (hc:cl.callee=.builtin .append) (ha:cl.args.toList=[s,x]) (ht:cl.argTypes.toList=[ts,tx])
  (hint:∀el id i0 len tot k n z,bR P ts=.slice el→bR P tx=.scal→ev fr s=.own id i0 len tot→ev fr x=.d (.int k n)→iZ P tx=some k→0≤n→n≤4294967296→P.bytesOf el*n≤281474976710656→eW P el=some z→fa P el (.own id i0 len tot) (some (List.replicate n.toNat z)) N K hp→OpOk P c K hp U N σ w ((execOp a.eval o).run P w))
  (h:uN P fr hp N .append [s,x] [ts,tx] K):OpOk P c K hp U N σ w ((execOp a.eval o).run P w):=by
 simp only[uN]at h;have ha':cl.args=#[s,x]:=by rw[←Array.toArray_toList (xs:=cl.args),ha]
 have ht':cl.argTypes=#[ts,tx]:=by rw[←Array.toArray_toList (xs:=cl.argTypes),ht]
 have run:∀(v:Value)(w':World),(Builtin.append_ #[ts,tx] o.type #[a.eval s,a.eval x]).run P w=.ok v w'→(execOp a.eval o).run P w=.ok (.value v) w':=by
  intro v w' hv;simp[execOp,hop,resolve,hc,ha',ht',invoke,builtin,hv]
 split at h
 ·rename_i el el2 hks hkx;have hts:=bH hks;have htx:=bH hkx;have hxx:=E x;have hss:=E s;generalize hxv:a.eval x=xv at hxx run;generalize hsv:a.eval s=sv at hss run;generalize ev fr x=xa at hxx h;generalize ev fr s=sa at hss h
  -- facts of the element's type
  have info:∀(q:(eW P el).isSome=true),∃i z,P.info? el=some i∧i.zero=some z∧i.size=P.cellsOf el∧i.bytes=P.bytesOf el∧z.cells.size=P.cellsOf el∧P.cellsOf el≠0∧∀(n:Nat)(v:Value),z.cells[n]?=some v→v.oneCell'=true:=by
   intro q;obtain⟨z',hz'⟩:=Option.isSome_iff_exists.1 q;obtain⟨v,i,hi,hz,hs,hne,_,hl⟩:=vh (w:=w) (S:=fun _=>True) (σ:=σ) (hp:=hp) (U:=U) hz';exact⟨i,v,hi,hz,by simp[Program.cellsOf,hi],by simp[Program.bytesOf,hi],hs,hne,hl.one⟩
  have zone:∀(z:Value)(m:Nat),(∀(n:Nat)(v:Value),z.cells[n]?=some v→v.oneCell'=true)→z.cells.size≠0→∀(n:Nat)(v:Value),(Builtin.zeroCells z.cells m)[n]?=some v→v.oneCell'=true:=by
   intro z m hz1 hz0 n v hv;unfold Builtin.zeroCells at hv;simp only[Array.getElem?_map,Option.map_eq_some_iff]at hv;obtain⟨k,_,rfl⟩:=hv;have hlt:k%z.cells.size<z.cells.size:=Nat.mod_lt _ aq;exact hz1 (k%z.cells.size) _ (by simp[hlt])
  unfold fa at h
  split at h
  ·
   rename_i xs hxs;obtain⟨q,hby,hfit,h⟩:=h;obtain⟨i,z,hi,hz,hisz,hiby,hzsz,hne,hz1⟩:=info q
   cases hss with
   |nil =>
    rcases Nat.eq_zero_or_pos xs.length with h0|h0
    ·have hx0:xs=[]:=List.eq_nil_of_length_eq_zero h0;subst hx0;obtain⟨A,k,rfl,us,hus,hul,hri,_⟩:=eB hr hxx hxs;have hr0:=lp (ty:=o.type) (base:=none) (sLen:=0) (sCap:=0) (w':=w) hts htx hi (hisz▸hus) aw aw;obtain⟨g1,g2⟩:=Hi hr hN ⟨el,P.cellsOf el,[]⟩ rfl;rw[run _ _ hr0];refine⟨_,_,_,h,g1,g2,.own N 0 0 0 _ _ ll (cR _) (fun _=>rfl) fun b hb=>?_⟩;exact⟨Nat.zero_le _,fun _=>⟨cR _,cR _,fun h=>aq⟩⟩
    ·have hrd:=i7 hr;obtain⟨A,k,rfl,us,hus,hul,hri,_⟩:=eB hrd (hxx.step ca) hxs;have hr0:=gK (ty:=o.type) (base:=none) (sLen:=0) (sCap:=0) (os:=#[]) hts htx hi hz (hisz▸hus) (by simp[Builtin.firstCells]) aq aq (by rw[Nat.zero_add,hiby];exact hfit);rw[run _ _ hr0];simp only[Nat.zero_add];have hge:=grownCap_ge w xs.length 0 el;have hrows:=ja (rest:=Builtin.zeroCells z.cells (grownCap w xs.length 0 el-xs.length)) (r1:=[]) (x1:=#[]) (w:=w.drew) ⟨aw,aw,aw,aw⟩ aw hri (zone z _ hz1 aq);rw[List.nil_append]at hrows;have hG:=pe (K:=K) hrd hN (el:=el) hrows hge (by simp[size_zeroCells,hzsz,hul,←Nat.add_mul];rw[show xs.length+(grownCap w xs.length 0 el-xs.length)=grownCap w xs.length 0 el by omega];exact cR _) h;obtain⟨v,hp',σ',k1,k2,k3,k4⟩:=hG;exact⟨v,hp',σ',k1,k2,ca.trans k3,k4⟩
  ·
   rename_i id len tot xs hxs
   split at h
   ·rename_i b hb;obtain⟨ht1,ht2,ht3,q,hby,hfit,hst,hgr⟩:=h;obtain⟨i,z,hi,hz,hisz,hiby,hzsz,hne,hz1⟩:=info q;refine Dt (i:=i) (z:=z) hr hss hb ht1 ht2 ht3 hst hgr hisz hzsz hne hz1 zone (fun A cap e hneed=>?_) (fun A cap os e hneed hos=>?_)
    ·subst e;obtain⟨B,k,rfl,us,hus,hul,hri,_⟩:=eB hr hxx hxs;exact⟨us,hul,hri,fun w' hsto=>run _ _ (lp (ty:=o.type) hts htx hi (hisz▸hus) hneed hsto)⟩
    ·subst e;have hrd:=i7 hr;obtain⟨B,k,rfl,us,hus,hul,hri,_⟩:=eB hrd (hxx.step ca) hxs;exact⟨us,hul,hri,run _ _ (gK (ty:=o.type) hts htx hi hz (hisz▸hus) hos aq aq (by rw[hiby];exact hfit))⟩
   ·exact h.elim
  ·
   rename_i e es xs hxs;obtain⟨he,q,hby,hfit,h⟩:=h;obtain⟨i,z,hi,hz,hisz,hiby,hzsz,hne,hz1⟩:=info q
   cases hss with
   | d hd0 =>
    cases hd0 with
    | rof _ _ A vs hel hA hv1 hdd =>
     rcases h with ⟨ds,rfl,h⟩|⟨hnx,h⟩
     ·rcases Nat.eq_zero_or_pos ds.length with h0|h0
      ·have hx0:ds=[]:=List.eq_nil_of_length_eq_zero h0;subst hx0;obtain⟨B,k,rfl,us,hus,hul,hri,_⟩:=eB hr hxx hxs;have hu0:us=#[]:=Array.eq_empty_of_size_eq_zero (by simpa using hul);subst hu0;have hr0:=lp (ty:=o.type) (base:=A) (sLen:=es.length) (sCap:=es.length) (w':=w) hts htx hi (hisz▸hus) aw (by cases A<;>simp[storeCells]);rw[List.append_nil]at h;exact OpOk.val (run _ _ hr0) (Good.same hr h (.d (.ro e es A _ vs (cR _) hel hA hv1 hdd)))
      ·have hrd:=i7 hr;obtain⟨B,k,rfl,us,hus,hul,hri,_⟩:=eB hrd (hxx.step ca) hxs;have hb0:AIs w (bI c w σ hp) σ hp U (.d (.ro e es)) (.slice A es.length es.length):=.d (.ro e es A _ vs (cR _) hel hA hv1 hdd);obtain⟨A2,k',hA2,os,hos,hol,hro,_⟩:=eB hrd (hb0.step ca) (sz:=P.cellsOf el) (xs:=es.map fun r=>r.map AV.d) (by simp only[cT];rw[if_pos he]);rw[List.length_map]at hA2 hos;have hln:(ds.map fun r=>r.map AV.d).length=ds.length:=List.length_map _;injection hA2 with e1 _ e3;subst e1;subst e3;have hr0:=gK (ty:=o.type) (base:=A) (sLen:=es.length) (sCap:=es.length) hts htx hi hz (hisz▸hus) (hisz▸hos) aq aq (by rw[hiby];exact hfit);have hr1:=run _ _ hr0;rw[hln]at hr1;have hge:=grownCap_ge w (es.length+ds.length) es.length el;have hrows:=ja (rest:=Builtin.zeroCells z.cells (grownCap w (es.length+ds.length) es.length el-(es.length+ds.length))) hro hol hri (zone z _ hz1 aq);rw[hr1];have hG:=Up (N:=N) (K:=K) (es:=es++ds) (e:=e) (cap:=grownCap w (es.length+ds.length) es.length el) (C:=os++us++Builtin.zeroCells z.cells (grownCap w (es.length+ds.length) es.length el-(es.length+ds.length))) (w':=w.drew.alloc (.cells (os++us++Builtin.zeroCells z.cells (grownCap w (es.length+ds.length) es.length el-(es.length+ds.length))) el)) hr ⟨rfl,rfl,rfl,by simp[World.size_alloc],fun b hb=>fU w.drew _ b hb⟩ (by rw[World.size_alloc];exact Nat.lt_succ_self _) (fun j v hj=>?_) (fun r hr'=>?_) ?_ (by rw[b_];exact hge) (fun i' j r y x hi' hj hx=>?_) h
       ·rw[b_]at hG;exact hG
       ·exact Hm w.drew _ _ j v hj
       ·have:=hrows.row (r.map AV.d) (by rw[←List.map_append];exact List.mem_map_of_mem hr');rw[List.length_map]at this;rw[this,he]
       ·have:=hrows.len;rw[←List.map_append,List.length_map]at this;rw[he];exact this
       ·have h1:=hrows.is i' j (r.map AV.d) (.d y) x (by rw[←List.map_append,c_,hi'];rfl) (by rw[c_,hj];rfl) (by rw[←he];exact hx)
        cases h1 with
        |d h1=>exact DIs.mono (w:=w.drew) (w':=w) (S:=bI c w.drew σ hp) (S':=bI c w σ hp) (fun _ h=>h) (fun _ _=>rfl) h1
     ·have h0:0<xs.length:=List.length_pos_iff.2 hnx;have hrd:=i7 hr;obtain⟨B,k,rfl,us,hus,hul,hri,_⟩:=eB hrd (hxx.step ca) hxs;have hb0:AIs w (bI c w σ hp) σ hp U (.d (.ro e es)) (.slice A es.length es.length):=.d (.ro e es A _ vs (cR _) hel hA hv1 hdd);obtain⟨A2,k',hA2,os,hos,hol,hro,_⟩:=eB hrd (hb0.step ca) (sz:=P.cellsOf el) (xs:=es.map fun r=>r.map AV.d) (by simp only[cT];rw[if_pos he]);rw[List.length_map]at hA2 hos;injection hA2 with e1 _ e3;subst e1;subst e3;have hr0:=gK (ty:=o.type) (base:=A) (sLen:=es.length) (sCap:=es.length) hts htx hi hz (hisz▸hus) (hisz▸hos) aq aq (by rw[hiby];exact hfit);have hge:=grownCap_ge w (es.length+xs.length) es.length el;have hrows:=ja (rest:=Builtin.zeroCells z.cells (grownCap w (es.length+xs.length) es.length el-(es.length+xs.length))) hro hol hri (zone z _ hz1 aq);have hln:((es.map fun r=>r.map AV.d)++xs).length=es.length+xs.length:=by rw[b_,List.length_map]
      rw[List.length_map]at hol;rw[run _ _ hr0]
      have hG:=pe (K:=K) hrd hN (el:=el) (cap:=grownCap w (es.length+xs.length) es.length el) hrows (by rw[hln];exact hge) (by
       simp only[Array.size_append,size_zeroCells,hzsz,hol,hul,←Nat.add_mul];rw[show es.length+xs.length+(grownCap w (es.length+xs.length) es.length el-(es.length+xs.length))=grownCap w (es.length+xs.length) es.length el by omega]
       exact cR _) (by rw[hln];exact h)
      rw[hln]at hG;obtain⟨v,hp',σ',k1,k2,k3,k4⟩:=hG;exact⟨v,hp',σ',k1,k2,ca.trans k3,k4⟩
  ·
   rename_i id i0 off e len cap tot xs hxs;obtain⟨hgt,q,hby,hfit,h⟩:=h
   split at h
   ·rename_i rs hrs;obtain⟨i,z,hi,hz,hisz,hiby,hzsz,hne,hz1⟩:=info q;have hss':=hss
    cases hss with
    | sub _ _ _ _ _ _ _ A hU hl hA0 h' =>
     have hrd:=i7 hr;obtain⟨B,k,rfl,us,hus,hul,hri,_⟩:=eB hrd (hxx.step ca) hxs;obtain⟨A2,k',hA2,os,hos,hol,hro,_⟩:=eB hrd (hss'.step ca) hrs;injection hA2 with e1 e2 e3;subst e1;subst e3;rw[←e2]at hos hol;have hr0:=gK (ty:=o.type) (base:=A) (sLen:=len) (sCap:=cap) hts htx hi hz (hisz▸hus) (hisz▸hos) hgt (by rw[hiby];exact hby) (by rw[hiby];exact hfit);have hge:=grownCap_ge w (len+xs.length) cap el;have hol':os.size=rs.length*P.cellsOf el:=by rw[←e2];exact hol
     have hrows:=ja (rest:=Builtin.zeroCells z.cells (grownCap w (len+xs.length) cap el-(len+xs.length))) hro hol' hri (zone z _ hz1 aq);have hln:(rs++xs).length=len+xs.length:=by rw[b_,←e2]
     rw[run _ _ hr0]
     have hG:=pe (K:=K) hrd hN (el:=el) (cap:=grownCap w (len+xs.length) cap el) hrows (by rw[hln];exact hge) (by
      simp only[Array.size_append,size_zeroCells,hzsz,hol,hul,←Nat.add_mul];rw[show len+xs.length+(grownCap w (len+xs.length) cap el-(len+xs.length))=grownCap w (len+xs.length) cap el by omega]
      exact cR _) (by rw[hln];exact h)
     rw[hln]at hG;obtain⟨v,hp',σ',k1,k2,k3,k4⟩:=hG;exact⟨v,hp',σ',k1,k2,ca.trans k3,k4⟩
   ·exact h.elim
  ·exact h.elim
 ·rename_i el hks hkx
  split at h
  ·rename_i id i0 len tot k n k' hs hx hk;obtain⟨rfl,h0,h1,h2,h⟩:=h
   split at h
   ·rename_i z hz;exact hint el id i0 len tot k n z hks hkx hs hx hk h0 h1 h2 hz h
   ·exact h.elim
  ·exact h.elim
 ·exact h.elim
end
end Go.Am
namespace Go.Am
section
variable {P:Program} {c:Ctx} {K:AV→Hp→Prop} {fr:Fr} {hp:Hp} {U:Nat→Prop} {N:Nat} {σ:Nat→Option Nat} {w:World} {a:Act} {o:Oper}
theorem Du{α:Type}{n:Nat}{v:α}:∀{l:List (Nat×α)},lk n l=some v→(n,v)∈l
 |[],h=>by cases h
 |(m,u)::t,h=>by
  simp only[lk]at h
  split at h
  ·rename_i e;injection h with h;subst e;subst h;exact d7 ..
  ·exact cU _ (Du h)
theorem yU:∀{u v:List (IntKind×Int)},oe u=oe v→u=v
 |[],[],_=>rfl
 |[],_::_,h=>by simp[oe]at h
 |_::_,[],h=>by simp[oe]at h
 |(k,n)::u,(k',n')::v,h=>by
  simp only[oe,List.map_cons,List.cons.injEq,AV.d.injEq,DV.int.injEq]at h;obtain⟨⟨rfl,rfl⟩,h⟩:=h;rw[yU (u:=u) (v:=v) h]
theorem yV{u v:List (IntKind×Int)}(h:mo u=mo v):u=v:=by
 have h':u.map (fun p=>Value.int p.1 p.2)=v.map (fun p=>Value.int p.1 p.2):=by simpa[mo]using h
 clear h;have h:=h';clear h'
 induction u generalizing v with
 |nil=>cases v with
  |nil=>rfl
  |cons=>simp at h
 | cons p u ih =>
  cases v with
  |nil=>simp at h
  |cons q v =>
   obtain⟨k,n⟩:=p;obtain⟨k',n'⟩:=q;simp only[List.map_cons,List.cons.injEq,Value.int.injEq]at h;obtain⟨⟨rfl,rfl⟩,h⟩:=h;rw[ih h]
theorem Hq{a b:List (List (IntKind×Int))}(h:nT a=nT b):a=b:=by
 simp only[nT,List.cons.injEq,true_and]at h
 induction a generalizing b with
 |nil=>cases b with
  |nil=>rfl
  |cons=>simp at h
 | cons x a ih =>
  cases b with
  |nil=>simp at h
  |cons y b =>
   simp only[List.map_cons,List.cons.injEq]at h;rw[yU h.1,ih h.2]
theorem Hr{S:Nat→Prop}{u:List (IntKind×Int)}{v:Value}(h:AIs w S σ hp U (.agg (oe u)) v):v=mo u:=by
 cases h with
 | agg _ xs hl h1 h2 =>
  unfold mo;congr 1;apply Array.ext';rw[List.toList_toArray];refine List.ext_getElem? fun i=>?_;rw[c_]
  cases hi:u[i]? with
  | none =>
   have:xs.size≤i:=by
    have:=List.getElem?_eq_none_iff.1 hi;simp only[oe,List.length_map]at hl;omega
   simp[this]
  | some p =>
   have hlt:i<xs.size:=by
    have:=(ci.1 hi).1;simp only[oe,List.length_map]at hl;omega
   have hx:xs[i]?=some xs[i]:=dn hlt;have:=dZ (h2 i (.d (.int p.1 p.2)) xs[i] (by simp[oe,hi]) hx);rw[Array.getElem?_toList,hx,this];rfl
theorem Ht(hr:Rel c hp U σ w){id:Nat}{b:Blk}{ks:List (List (IntKind×Int))}{v:Value}(h:AIs w (bI c w σ hp) σ hp U (.mp id) v)(hb:lk id hp=some b)(he:b.e=0)(hes:b.es=nT ks) :
  ∃ms clock,v=.map (some b.ty)∧σ id=none∧c.w0.heap.size≤b.ty∧w.heap[b.ty]?=some (.map ms clock) ∧
   (∀m∈ms.toList,m.val=.bool true∧∃u∈ks,m.key=mo u)∧∀u∈ks,∃m∈ms.toList,m.key=mo u:=by
 cases h with
 |mp _ g hN h =>
  have hg:=h b hb;subst hg;rcases hr.blk id b hb with ⟨h0,h1|⟨_,hn,ks',ms,clock,k1,k2,k3,k4⟩⟩|⟨g,_,ccs,_,_,k3,_⟩
  ·rw[hes]at h1;simp[nT]at h1
  ·rw[hes]at k1;have:=Hq k1;subst this;exact⟨ms,clock,rfl,h0,hn,k2,k3,k4⟩
  ·have:=k3 [.any] (by rw[hes];simp[nT]);rw[he]at this;simp at this
theorem Ft(hr:Rel c hp U σ w)(hN:Free U N){t:TypeId}(hop:o.op=.makeMap t none)(h:bJ P fr hp N (.makeMap t none) K) :
  OpOk P c K hp U N σ w ((execOp a.eval o).run P w):=by
 have hK:=h w.heap.size
 have hrun:(execOp a.eval o).run P w=.ok (.value (.map (some w.heap.size))) (w.alloc (.map #[] 0)):=by
  have:(Instr.makeMap t none).run P w=.ok (.map (some w.heap.size)) (w.alloc (.map #[] 0)):=rfl;simp[execOp,hop,this]
 rw[hrun]
 let b:Blk:=⟨w.heap.size,0,nT []⟩
 let w':=w.alloc (.map #[] 0)
 let σ':=fun i=>if i=N then none else σ i
 have hlk:∀i b0,lk i ((N,b)::hp)=some b0→(i=N∧b0=b)∨(i≠N∧lk i hp=some b0):=by
  intro i b0 h;rw[nh]at h
  split at h
  ·rename_i e;injection h with h;exact .inl ⟨e.symm,h.symm⟩
  ·rename_i e;exact .inr ⟨fun h'=>e h'.symm,h⟩
 have hσ:∀i,i≠N→σ' i=σ i:=fun i h=>if_neg h;have hσN:σ' N=none:=if_pos rfl;have hsize:w'.heap.size=w.heap.size+1:=World.size_alloc w _;have hold:∀i,i<w.heap.size→w'.heap[i]?=w.heap[i]?:=fun i h=>fU w _ i h;have hlt:∀i b0 g,lk i hp=some b0→σ i=some g→g<w.heap.size:=fun i b0 g h hg=>dK (hr.at h hg)
 have hst:Step w (bI c w σ hp) σ hp U w' (bI c w' σ' ((N,b)::hp)) σ' ((N,b)::hp) (dJ U N):=by
  refine⟨fun g hg=>⟨⟨by rw[hsize];have:=hg.1.1;omega,fun id blk g' hb hg'=>?_⟩,hg.2⟩,fun p hp'=>?_,fun _ h=>.inl h,fun id b' hid hb=>?_⟩
  ·rcases hlk id blk hb with ⟨rfl,rfl⟩|⟨h,hb⟩
   ·rw[hσN]at hg';cases hg'
   ·rw[hσ id h]at hg';exact hg.1.2 id blk g' hb hg'
  ·exact World.cell?_of_block (w:=w) (hold _ hp'.1.1)
  ·rcases hlk id b' hb with ⟨rfl,rfl⟩|⟨h,hb⟩
   ·exact absurd hid hN.at
   ·refine⟨b',hb,rfl,rfl,cR _,fun _ g hg=>⟨(hσ id h).trans hg,fun n hn=>?_⟩⟩;obtain⟨cc,h5,h6⟩:=hn;exact⟨cc,(hold _ (hlt id b' g hb hg)).trans h5,h6⟩
 refine⟨.mp N,_,σ',hK,⟨fun i j bi bj g hi hj hgi hgj=>?_,fun i b0 h=>?_,fun i b0 h=>?_,fun i b0 g h hg=>?_,hr.os,hr.tape,hr.output,by rw[hsize];have:=hr.size;omega,fun g hg hm=>?_⟩,hst,.mp N _ ll fun b0 hb0=>?_⟩
 ·rcases hlk i bi hi with ⟨e1,_⟩|⟨hi',hi1⟩<;>rcases hlk j bj hj with ⟨e2,_⟩|⟨hj',hj1⟩
  ·rw[e1,e2]
  ·rw[e1,hσN]at hgi;cases hgi
  ·rw[e2,hσN]at hgj;cases hgj
  ·rw[hσ i hi']at hgi;rw[hσ j hj']at hgj;exact hr.inj i j bi bj g hi1 hj1 hgi hgj
 ·rcases hlk i b0 h with ⟨rfl,rfl⟩|⟨_,h⟩
  ·exact ll
  ·exact .inl (hr.lt i b0 h)
 ·rcases hlk i b0 h with ⟨rfl,rfl⟩|⟨hi,h⟩
  ·exact .inl ⟨hσN,.inr ⟨rfl,hr.size,[],#[],0,rfl,heap_alloc_new w _,aw,aw⟩⟩
  ·rcases hr.blk i b0 h with ⟨k1,k2⟩|⟨g,k1,k2⟩
   ·exact .inl ⟨(hσ i hi).trans k1,k2.keep fun _ _ _ hm=>hold _ (sP hm)⟩
   ·exact .inr ⟨g,(hσ i hi).trans k1,k2.step hst (hold _ (dK k2))⟩
 ·rcases hlk i b0 h with ⟨rfl,rfl⟩|⟨hi,h⟩
  ·rw[hσN]at hg;cases hg
  ·rw[hσ i hi]at hg;exact hr.mine i b0 g h hg
 ·rw[hold g (by have:=hr.size;omega)];exact hr.old g hg hm
 ·rcases hlk N b0 hb0 with ⟨_,rfl⟩|⟨h,_⟩
  ·rfl
  ·exact absurd rfl h
theorem Hu(hr:Rel c hp U σ w)(E:∀x,AIs w (bI c w σ hp) σ hp U (ev fr x) (a.eval x)){t:TypeId}{m x:Operand}(hop:o.op=.lookup t m x false)(h:bJ P fr hp N (.lookup t m x false) K) :
  OpOk P c K hp U N σ w ((execOp a.eval o).run P w):=by
 simp only[bJ]at h;unfold Xz at h
 split at h
 ·rename_i id cs hm hx;obtain⟨b,ks,u,hb,he,hes,rfl,⟨k,e,ht,Kd,hz,hkeys⟩,hK⟩:=h;obtain⟨ms,clock,hv,_,_,hheap,h1,h2⟩:=Ht hr (hm▸E m) hb he hes;have hkv:=Hr (hx▸E x);obtain⟨l,hl⟩:=hkeys u aw
  have hks:∀m∈ms.toList,∃l,keyOf P k m.key=some l:=fun m hm=>by
   obtain⟨_,v,hv,e⟩:=h1 m hm;rw[e];exact hkeys v (by simp[hv])
  have run:∀r:Value,(Instr.lookup t (.map (some b.ty)) (mo u) false).run P w=.ok r w→(execOp a.eval o).run P w=.ok (.value r) w:=by
   intro r hrun;simp[execOp,hop,hv,hkv,hrun]
  rcases Kd.find w hl ms.toList hks with ⟨q1,q2⟩|⟨j,e0,q1,q2,q3⟩
  ·have hno:decide (u∈ks)=false:=by
    refine decide_eq_false fun hu=>?_;obtain⟨m,hm,e⟩:=h2 u hu;exact q2 m hm e
   rw[hno]at hK;exact OpOk.val (run _ (by simp[Instr.lookup,run_underlying ht,MapKept.run_getObj_map hheap,Kd.check w _ hl,q1,hz,Result.andThen])) (Good.same hr hK (.d (.bool _)))
  ·have hm0:e0∈ms.toList:=cr q2;obtain⟨hval,v,hv2,e⟩:=h1 e0 hm0
   have hyes:decide (u∈ks)=true:=by
    refine decide_eq_true ?_;rw[q3]at e;rw[yV e];exact hv2
   rw[hyes]at hK;exact OpOk.val (run _ (by simp[Instr.lookup,run_underlying ht,MapKept.run_getObj_map hheap,Kd.check w _ hl,q1,hval,Result.andThen])) (Good.same hr hK (.d (.bool _)))
 ·exact h.elim
theorem yW(hr:Rel c hp U σ w)(E:∀x,AIs w (bI c w σ hp) σ hp U (ev fr x) (a.eval x)){t:TypeId}{m x v:Operand}(hop:o.op=.mapUpdate t m x v)(h:bJ P fr hp N (.mapUpdate t m x v) K) :
  OpOk P c K hp U N σ w ((execOp a.eval o).run P w):=by
 simp only[bJ]at h;unfold XA at h
 split at h
 ·rename_i id cs hm hx hvv;obtain⟨b,ks,u,hb,he,hes,rfl,⟨k,e,ht,Kd,_,hkeys⟩,honly,hK⟩:=h;obtain⟨ms,clock,hv,hσ0,hnew,hheap,h1,h2⟩:=Ht hr (hm▸E m) hb he hes;have hkv:=Hr (hx▸E x);have hvt:=fE (hvv▸E v);obtain⟨l,hl⟩:=hkeys u aw
  have hks:∀m∈ms.toList,∃l,keyOf P k m.key=some l:=fun m hm=>by
   obtain⟨_,v,hv,e⟩:=h1 m hm;rw[e];exact hkeys v (by simp[hv])
  have key:∃ms' clock',(Instr.mapUpdate t (.map (some b.ty)) (mo u) (.bool true)).run P w=.ok () (ChangeMaps.setBlock w b.ty (.map ms' clock')) ∧
    (∀m∈ms'.toList,m.val=.bool true∧∃v∈ks++[u],m.key=mo v)∧∀v∈ks++[u],∃m∈ms'.toList,m.key=mo v:=by
   rcases Kd.find w hl ms.toList hks with ⟨q1,q2⟩|⟨j,e0,q1,q2,q3⟩
   ·refine⟨ms.push ⟨mo u,.bool true,clock⟩,clock+1,by simp[Instr.mapUpdate,run_underlying ht,MapKept.run_getObj_map hheap,Kd.check w false hl,q1,MapKept.run_setObj_map _ hheap,Result.andThen,ChangeMaps.setBlock],fun m hm=>?_,fun v hv=>?_⟩
    ·simp only[Array.toList_push,cL,List.mem_singleton]at hm;rcases hm with hm|rfl
     ·obtain⟨p1,v,p2,p3⟩:=h1 m hm;exact⟨p1,v,cL.2 (.inl p2),p3⟩
     ·exact⟨rfl,u,aw,rfl⟩
    ·rcases cL.1 hv with hv|hv
     ·obtain⟨m,p1,p2⟩:=h2 v hv;exact⟨m,by simp[p1],p2⟩
     ·simp only[List.mem_singleton]at hv;subst hv;exact⟨⟨mo v,.bool true,clock⟩,aw,rfl⟩
   ·have hj:ms[j]?=some e0:=by simpa using q2
    have hm0:e0∈ms.toList:=cr q2;obtain⟨hval,v0,hv0,ev0⟩:=h1 e0 hm0
    have hu:u∈ks:=by
     rw[q3]at ev0;rw[yV ev0];exact hv0
    have hsame:ms.modify j (fun e'=>{ e' with key:=mo u,val:=.bool true })=ms:=by
     apply Array.ext';rw[Array.toList_modify];refine List.ext_getElem? fun i=>?_;rw[List.getElem?_modify];by_cases hij:j=i
     ·subst hij;rw[q2];simp only[if_true,Option.map_eq_map,Option.map_some,Option.some.injEq];rw[←q3,←hval]
     ·simp[hij]
    refine⟨ms,clock,?_,fun m hm=>?_,fun v hv=>?_⟩
    ·simp[Instr.mapUpdate,run_underlying ht,MapKept.run_getObj_map hheap,Kd.check w false hl,q1,hj,q3,Kd.stays w hl,hsame,MapKept.run_setObj_map _ hheap,Result.andThen,ChangeMaps.setBlock]
    ·obtain⟨p1,v,p2,p3⟩:=h1 m hm;exact⟨p1,v,cL.2 (.inl p2),p3⟩
    ·refine h2 v ?_;rcases cL.1 hv with hv|hv
     ·exact hv
     ·simp only[List.mem_singleton]at hv;subst hv;exact hu
  obtain⟨ms',clock',hrun0,g1,g2⟩:=key
  have hrun:(execOp a.eval o).run P w=.ok .skip (ChangeMaps.setBlock w b.ty (.map ms' clock')):=by
   simp[execOp,hop,hv,hkv,hvt,hrun0]
  rw[hrun]
  let w':=ChangeMaps.setBlock w b.ty (.map ms' clock')
  let b':Blk:=⟨b.ty,b.e,nT (ks++[u])⟩
  have hsame:w'.heap[b.ty]?=some (.map ms' clock'):=ChangeMaps.heap_setBlock_same hheap _;have hold:∀i,i≠b.ty→w'.heap[i]?=w.heap[i]?:=fun i h=>ChangeMaps.heap_setBlock_other hheap _ h;have hsize:w'.heap.size=w.heap.size:=by simp[w',ChangeMaps.setBlock]
  have hlk:∀i b0,lk i (bW id b' hp)=some b0→(i=id∧b0=b')∨(i≠id∧lk i hp=some b0):=by
   intro i b0 h;rw[ki]at h
   split at h
   ·rename_i e;rw[hb]at h;simp at h;exact .inl ⟨e,h.symm⟩
   ·rename_i e;exact .inr ⟨e,h⟩
  have hcells:∀g ccs ty,w.heap[g]?=some (.cells ccs ty (0,0))→g≠b.ty:=fun g ccs ty h e=>by
   subst e;rw[hheap]at h
   cases h
  have hst:Step w (bI c w σ hp) σ hp U w' (bI c w' σ (bW id b' hp)) σ (bW id b' hp) U:=by
   refine⟨fun g hg=>⟨⟨by rw[hsize];exact hg.1.1,fun i blk g' hb0 hg'=>?_⟩,hg.2⟩,fun p hp'=>?_,fun _ h=>h,fun i b0 hid hb0=>?_⟩
   ·rcases hlk i blk hb0 with ⟨rfl,rfl⟩|⟨h,hb1⟩
    ·rw[hσ0]at hg';cases hg'
    ·exact hg.1.2 i blk g' hb1 hg'
   ·by_cases hp0:p.block=b.ty
    ·simp only[World.cell?,hp0,hsame,hheap]
    ·exact World.cell?_of_block (w:=w) (hold _ hp0)
   ·rcases hlk i b0 hb0 with ⟨rfl,rfl⟩|⟨h,hb1⟩
    ·refine⟨b,hb,rfl,rfl,?_,fun _ g hg=>?_⟩
     ·rw[hes];simp[b',nT]
     ·rw[hσ0]at hg;cases hg
    ·refine⟨b0,hb1,rfl,rfl,cR _,fun _ g hg=>⟨hg,fun n hn=>?_⟩⟩;obtain⟨cc,h5,h6⟩:=hn;exact⟨cc,(hold _ (hcells _ _ _ h5)).trans h5,h6⟩
  have hrel:Rel c (bW id b' hp) U σ w':=by
   refine⟨fun i j bi bj g hi hj hgi hgj=>?_,fun i b0 h=>?_,fun i b0 h=>?_,fun i b0 g h hg=>?_,hr.os,hr.tape,hr.output,by rw[hsize];exact hr.size,fun g hg hm=>?_⟩
   ·rcases hlk i bi hi with ⟨rfl,_⟩|⟨hi',hi1⟩
    ·rw[hσ0]at hgi;cases hgi
    ·rcases hlk j bj hj with ⟨rfl,_⟩|⟨hj',hj1⟩
     ·rw[hσ0]at hgj;cases hgj
     ·exact hr.inj i j bi bj g hi1 hj1 hgi hgj
   ·rcases hlk i b0 h with ⟨rfl,rfl⟩|⟨_,h⟩
    ·exact hr.lt _ b hb
    ·exact hr.lt i b0 h
   ·rcases hlk i b0 h with ⟨rfl,rfl⟩|⟨hi,h⟩
    ·exact .inl ⟨hσ0,.inr ⟨he,hnew,ks++[u],ms',clock',rfl,hsame,g1,g2⟩⟩
    ·rcases hr.blk i b0 h with ⟨k1,k2|⟨k2,_⟩⟩|⟨g,k1,k2⟩
     ·exact .inl ⟨k1,.inl k2⟩
     ·exact absurd (honly _ (Du h) k2) hi
     ·refine .inr ⟨g,k1,k2.step hst (hold _ ?_)⟩;obtain⟨ccs,k3,_⟩:=k2;exact hcells _ _ _ k3
   ·rcases hlk i b0 h with ⟨rfl,rfl⟩|⟨hi,h⟩
    ·rw[hσ0]at hg;cases hg
    ·exact hr.mine i b0 g h hg
   ·rw[hold g (fun e=>by subst e;omega)];exact hr.old _ hg hm
  exact⟨.any,_,σ,hK,hrel.more,hst.trans Step.more,.any _⟩
 ·exact h.elim
end
end Go.Am
namespace Go.Am
section
variable {P:Program} {c:Ctx} {K:AV→Hp→Prop} {fr:Fr} {hp:Hp} {U:Nat→Prop} {N:Nat} {σ:Nat→Option Nat} {w:World} {a:Act} {o:Oper} {S:Nat→Prop}
theorem Bi(hr:Rel c hp U σ w)(E:∀x,AIs w (bI c w σ hp) σ hp U (ev fr x) (a.eval x)){s t:TypeId}{x:Operand}(hop:o.op=.convert s t x){bs:List Int}{el:TypeId}(hx:cT hp 1 (ev fr x)=some (bs.map fun b=>[.d (.int .u8 b)]))(hb:∀b,b∈bs→0≤b∧b<256)(hs:bR P s=.slice el)(ht:bR P t=.str)
  (hel:P.underlying el=some (.int .u8)) (h:K (.d (.str bs)) hp):OpOk P c K hp U N σ w ((execOp a.eval o).run P w):=by
 obtain⟨A,k,hv,us,h1,h2,h3,h4⟩:=eB (P:=P) hr (E x) hx;rw[List.length_map]at hv h2 h4
 have hrun:∃s:ByteArray,(Conv.bytesToString (.slice A bs.length k)).run P w=.ok (.string s) w∧(s.data.toList.map fun c=>(c.toNat:Int))=bs:=by
  rcases bs with _|⟨b0,bs'⟩
  ·cases A with
   |none=>exact⟨.empty,by simp[Conv.bytesToString],rfl⟩
   |some ad =>
    refine⟨.empty,?_,rfl⟩;exact run_bytesToString (P:=P) w ad 0 k [] (by simp[loadCells,loadCellsFrom])
  ·obtain⟨ad,rfl,h5⟩:=h4 aw
   have hcell:=run_loadCells_list (P:=P) w ad ((b0::bs').map (Value.int .u8)) (fun j u hj=>by
    simp only[c_,Option.map_eq_some_iff]at hj;obtain⟨b,hb',rfl⟩:=hj;have hj2:j<us.size:=by have:=(ci.1 hb').1;omega
    have g1:=h5 j us[j] (dn hj2);have g2:=h3.is j 0 [.d (.int .u8 b)] (.d (.int .u8 b)) us[j] (by rw[c_,hb'];rfl) rfl (by rw[Nat.mul_one,Nat.add_zero];exact dn hj2);rw[dZ g2]at g1
    exact g1)
   rw[List.length_map]at hcell;have:=run_bytesToString (P:=P) w ad (b0::bs').length k (b0::bs') hcell;refine⟨_,this,?_⟩;rw[ve _ hb];rfl
 obtain⟨s',g1,g2⟩:=hrun;refine OpOk.val (x:=.string s') ?_ (Good.same hr h (by rw[←g2];exact .d (.str s')));have hconv:=run_convert_bytes_string (P:=P) w s t el A bs.length k (bH hs) hel (ni ht);simp only[execOp,hop,hv,Sem.run_bind,hconv,g1,Result.andThen_ok,Sem.run_pure]
theorem Bj(hr:Rel c hp U σ w)(E:∀x,AIs w (bI c w σ hp) σ hp U (ev fr x) (a.eval x)){s t:TypeId}{x:Operand}(hop:o.op=.convert s t x){bs:List Int}{el:TypeId}(hx:ev fr x=.d (.str bs))(hs:bR P s=.str)(ht:bR P t=.slice el)
  (hel:P.underlying el=some (.int .u8)) (h:K (.d (.ro 1 (bs.map fun b=>[.int .u8 b]))) hp):OpOk P c K hp U N σ w ((execOp a.eval o).run P w):=by
 have hx':=E x;rw[hx]at hx';generalize hv:a.eval x=v at hx'
 cases hx' with
 | d hx' =>
  cases hx' with
  | str s0 =>
   have hr0:=run_bytes_of_string (P:=P) w s t el s0 (ni hs) (bH ht) hel;simp only[execOp,hop,hv,Sem.run_bind,hr0,Result.andThen_ok,Sem.run_pure];have hlen:(((s0.data.toList.map fun c=>(c.toNat:Int)).map fun b=>[DV.int .u8 b])).length=s0.size:=by rw[List.length_map,List.length_map];rfl
   have hbs:s0.size≤(bytesRow s0 (grownCap w s0.size 0 el)).size:=by unfold bytesRow;rw[Array.size_append,Array.size_map];exact Nat.le_add_right _ _
   have:=Up (N:=N) (K:=K) hr (w':=w.drew.alloc (.cells (bytesRow s0 (grownCap w s0.size 0 el)) el ((bytesRow s0 (grownCap w s0.size 0 el)).size,(bytesRow s0 (grownCap w s0.size 0 el)).size+1))) (e:=1) (cap:=grownCap w s0.size 0 el) (C:=bytesRow s0 (grownCap w s0.size 0 el))
    (es:=(s0.data.toList.map fun c=>(c.toNat:Int)).map fun b=>[DV.int .u8 b]) ⟨rfl,rfl,rfl,by simp[World.size_alloc],fun b hb=>fU w.drew _ b hb⟩ (by rw[World.size_alloc];exact Nat.lt_succ_self _) (fun j v hj=>?_) (fun r hr'=>?_) (by rw[hlen];omega) (by rw[hlen];exact grownCap_ge w s0.size 0 el) (fun i j r y x hi hj hx=>?_) h
   ·rw[hlen]at this;exact this
   ·have h1:=heap_alloc_new w.drew (.cells (bytesRow s0 (grownCap w s0.size 0 el)) el ((bytesRow s0 (grownCap w s0.size 0 el)).size,(bytesRow s0 (grownCap w s0.size 0 el)).size+1));simp only[World.cell?];rw[show w.heap.size=w.drew.heap.size from rfl,h1]
    simpa using hj
   ·obtain⟨b,_,rfl⟩:=List.mem_map.1 hr';rfl
   ·simp only[c_,Option.map_eq_some_iff]at hi;obtain⟨b,⟨ch,hch,rfl⟩,rfl⟩:=hi
    cases j with
    |succ j=>simp at hj
    |zero =>
     simp at hj;subst hj;have hlt:=(ci.1 hch);obtain⟨h1,h2⟩:=hlt;rw[Nat.mul_one,Nat.add_zero,bytesRow_at s0 _ i (by simpa using h1)]at hx;injection hx with hx;subst hx;simp only[Array.getElem_toList]at h2;rw[h2];exact .int _ _
theorem iE{len cap:Nat}{lo hi:Option Value}{mx:Value}{l h m:Int}(hlo:lo=none∧l=0∨∃k,lo=some (.int k l))(hhi:∃k,hi=some (.int k h))(hmx:∃k,mx=.int k m)(h0:0≤l)(h1:l≤h)(h2:h≤m)(h3:m≤cap) :
  (Instr.sliceBounds true len cap lo hi (some mx)).run P w=.ok (l.toNat,h.toNat,m.toNat) w:=by
 unfold Instr.sliceBounds;obtain⟨k1,rfl⟩:=hhi;obtain⟨k2,rfl⟩:=hmx;have a1:h≤(m.toNat:Int):=aq;have a2:l≤(h.toNat:Int):=aq;rcases hlo with ⟨rfl,rfl⟩|⟨k,rfl⟩
 ·simp[Instr.sliceBound,asIntOf,show 0≤m∧m≤(cap:Int)by omega,show 0≤h∧h≤max m 0 by omega]
 ·simp[Instr.sliceBound,asIntOf,show 0≤m∧m≤(cap:Int)by omega,show 0≤h∧h≤max m 0 by omega,show 0≤l∧l≤max h 0 by omega]
theorem wY{U:Nat→Prop}(E:∀x,AIs w S σ hp U (ev fr x) (a.eval x)){x:Operand}{l:Int}(h:(ev fr x).num=some l):∃k,a.eval x=.int k l:=by
 have hx:=E x;unfold AV.num at h
 split at h
 ·rename_i k n he;injection h with h;subst h;rw[he]at hx;exact⟨k,dZ hx⟩
 ·cases h
theorem Hv(hr:Rel c hp U σ w)(E:∀x,AIs w (bI c w σ hp) σ hp U (ev fr x) (a.eval x)){t:TypeId}{x:Operand}{lo hi:Option Operand}{m:Operand}(hop:o.op=.slice t x lo hi (some m))(h:bJ P fr hp N (.slice t x lo hi (some m)) K) :
  OpOk P c K hp U N σ w ((execOp a.eval o).run P w):=by
 simp only[bJ]at h
 have run:∀v,(Instr.sliceAt t (a.eval x) (lo.map a.eval) (hi.map a.eval) (some (a.eval m))).run P w=.ok v w→(execOp a.eval o).run P w=.ok (.value v) w:=by
  intro v hv;simp[execOp,hop,hv]
 have hx:=E x;generalize hxv:a.eval x=xv at hx run;generalize hxa:ev fr x=xa at hx h;generalize hlo:wS fr 0 lo=blo at h;generalize hhi:Bc fr hi=bhi at h;generalize hmx:(ev fr m).num=bmx at h;generalize hk:bR P t=k at h;unfold lm at h
 have hhi':∀l,bhi=some l→∃k,hi.map a.eval=some (.int k l):=by
  intro l hl;rw[hl]at hhi
  cases hi with
  |none=>cases hhi
  |some y =>
   obtain⟨k,h1⟩:=wY E hhi;exact⟨k,by simp[h1]⟩
 split at h
 ·rename_i e es el l hh mm;obtain⟨hz,he,h0,h1,rfl,h2,h⟩:=h
  cases hx with
  | d hx =>
   cases hx with
   | ro _ _ A cap vs hc hel hA hv1 hd =>
    have hb:=iE (P:=P) (w:=w) (len:=es.length) (cap:=cap) (fc E hlo) (hhi' _ rfl) (wY E hmx) h0 h1 (Int.le_refl _) aq;have hlen:((es.take hh.toNat).drop l.toNat).length=hh.toNat-l.toNat:=by simp;omega
    have hel':∀(i:Nat)(r:List DV),((es.take hh.toNat).drop l.toNat)[i]?=some r→es[l.toNat+i]?=some r:=by
     intro i r hi;rw[List.getElem?_drop,List.getElem?_take]at hi
     split at hi
     ·exact hi
     ·cases hi
    have hne:∀(i:Nat)(r:List DV),((es.take hh.toNat).drop l.toNat)[i]?=some r→hh.toNat≠l.toNat:=by
     intro i r hi;have:=(ci.1 hi).1;omega
    refine OpOk.val (run (.slice (if hh.toNat=l.toNat then A else A.map (·.add (l.toNat*P.cellsOf el))) (hh.toNat-l.toNat) (hh.toNat-l.toNat)) ?_) (Good.same hr h (.d ?_))
    ·simp[Instr.sliceAt,Instr.slice,run_underlying (bH hk),hb,bf hz]
    ·rw[←hlen];refine .rof e _ _ (fun i j=>vs (l.toNat+i) j) (fun r hr'=>?_) (fun r hr'=>?_) (fun ad hAd i j r y hi hj=>?_) (fun i j r y(hi:((es.take hh.toNat).drop l.toNat)[i]?=some r)hj=>hd _ j r y (hel' i r hi) hj)
     ·obtain⟨i,hi⟩:=List.getElem?_of_mem hr';exact hel r (cr (hel' i r hi))
     ·obtain⟨i,hi⟩:=List.getElem?_of_mem hr';obtain⟨ad,k1,k2⟩:=hA r (cr (hel' i r hi));rw[if_neg (hne i r hi),k1];exact⟨_,rfl,by rw[ec];exact k2⟩
     ·rw[if_neg (hne i r hi)]at hAd;obtain⟨ad',k1,rfl⟩:=Option.map_eq_some_iff.1 hAd;rw[kj,←he,show l.toNat*e+(i*e+j)=(l.toNat+i)*e+j by rw[Nat.add_mul];omega];exact hv1 ad' k1 _ j r y (hel' i r hi) hj
 ·rename_i el l hh mm;obtain⟨hz,rfl,rfl,rfl,h⟩:=h;have hb:=iE (P:=P) (w:=w) (len:=0) (cap:=0) (fc E hlo) (hhi' _ rfl) (wY E hmx) aq aq aq aq
  cases hx with
  |nil =>
   refine OpOk.val (run (.slice none 0 0) ?_) (Good.same hr h (.d (.rof _ [] none (fun _ _=>undef) aw aw aw aw)));simp[Instr.sliceAt,Instr.slice,run_underlying (bH hk),hb,bf hz]
 ·rename_i id i0 len tot el l hh mm;obtain⟨hz,rfl,rfl,rfl,h⟩:=h
  cases hx with
  |own _ _ _ _ A cap hN hl h0 hq =>
   have hb:=iE (P:=P) (w:=w) (len:=len) (cap:=cap) (fc E hlo) (hhi' _ rfl) (wY E hmx) aq aq aq aq;refine OpOk.val (run (.slice A 0 0) ?_) (Good.same hr h (.d (.rof _ [] A (fun _ _=>undef) aw aw aw aw)));simp[Instr.sliceAt,Instr.slice,run_underlying (bH hk),hb,bf hz]
 ·exact h.elim
theorem Qj(hr:Rel c hp U σ w)(E:∀x,AIs w (bI c w σ hp) σ hp U (ev fr x) (a.eval x))(hN:Free U N){t:TypeId}{l m:Operand}(hop:o.op=.makeSlice t l m)(h:bJ P fr hp N (.makeSlice t l m) K) :
  OpOk P c K hp U N σ w ((execOp a.eval o).run P w):=by
 simp only[bJ]at h
 have run:∀v w',(Instr.makeSlice t (a.eval l) (a.eval m)).run P w=.ok v w'→(execOp a.eval o).run P w=.ok (.value v) w':=by
  intro v w' hv;simp[execOp,hop,hv]
 have hl:=E l;have hm:=E m;unfold Dm at h
 split at h
 ·rename_i el kl n kc q hk hlv hmv
  split at h
  ·rename_i z hz;obtain⟨h0,h1,h2,h3,h4,h⟩:=h;rw[hlv]at hl;rw[hmv]at hm;obtain⟨v,i,hi,hzv,hs,hne,_,hli⟩:=vh (w:=w) (S:=bI c w σ hp) (σ:=σ) (hp:=hp) (U:=U) hz;have his:i.size=P.cellsOf el:=by simp[Program.cellsOf,hi]
   have hib:i.bytes=P.bytesOf el:=by simp[Program.bytesOf,hi]
   have hq0:0≤q:=aq
   have hr0:=run_makeSlice (P:=P) w t el i v (bH hk) hi hzv kl kc n q h0 h1 (by
    rw[his]
    have:((q.toNat*P.cellsOf el:Nat):Int)≤16777216:=by
     rw[Int.natCast_mul,Int.toNat_of_nonneg hq0];exact h2
    omega) (by rw[hib];exact h3) h4
   rw[run _ _ (by rw[dZ hl,dZ hm];exact hr0)];have hrows:=nn (P:=P) (el:=el) hli hs hne q.toNat
   have hrows':RIs w (bI c w σ hp) σ hp U (P.cellsOf el) (List.replicate n.toNat z) (madeCells v.cells (q.toNat*i.size)):=by
    have e1:madeCells v.cells (q.toNat*i.size)=(Array.range (q.toNat*P.cellsOf el)).map (v.cells[·%v.cells.size]!):=by rw[his];rfl
    rw[e1];refine⟨?_,fun r hr'=>?_,hrows.one,fun i' j r y x hi' hj hx=>?_⟩
    ·have:=hrows.len;rw[List.length_replicate]at this⊢;exact Nat.le_trans (d_ _ aq) this
    ·have hne':0<n.toNat:=by
      rcases Nat.eq_zero_or_pos n.toNat with h'|h'
      ·rw[h']at hr';simp at hr'
      ·exact h'
     refine hrows.row r ?_;have e2:=List.eq_of_mem_replicate hr';subst e2;exact List.mem_replicate.2 ⟨aq,rfl⟩
    ·refine hrows.is i' j r y x ?_ hj hx;have h5:=(ci.1 hi').1;rw[List.length_replicate]at h5;rw[List.getElem?_replicate]at hi'⊢;rw[if_pos h5]at hi';rw[if_pos aq];exact hi'
   have hG:=pe (K:=K) hr hN (el:=el) (cap:=q.toNat) hrows' (by rw[List.length_replicate];omega) (by rw[size_madeCells,his];exact cR _) (by rw[List.length_replicate];exact h);rw[List.length_replicate]at hG;exact hG
  ·exact h.elim
 ·exact h.elim
theorem Ur(hr:Rel c hp U σ w)(E:∀x,AIs w (bI c w σ hp) σ hp U (ev fr x) (a.eval x)){t:TypeId}{x:Operand}(hop:o.op=.sliceToArrayPointer t x)(h:bJ P fr hp N (.sliceToArrayPointer t x) K) :
  OpOk P c K hp U N σ w ((execOp a.eval o).run P w):=by
 simp only[bJ]at h
 have run:∀v,(Instr.arrayAt t (a.eval x)).run P w=.ok v w→(execOp a.eval o).run P w=.ok (.value v) w:=by
  intro v hv;simp[execOp,hop,hv]
 have hx:=E x;unfold Fh at h
 split at h
 ·rename_i n el es hk hv;obtain⟨h0,h1,h⟩:=h;rw[hv]at hx;generalize a.eval x=xv at hx run
  cases hx with
  | d hx =>
   cases hx with
   | ro _ _ A cap vs hc hel hA hv1 hd =>
    have hpos:0<es.length:=aq;obtain⟨ad,k1,k2⟩:=hA es[0] (List.getElem_mem hpos);subst k1
    have flat:∀(l:List (List DV)),(∀r,r∈l→r.length=1)→∀(j:Nat)(y:DV),l.flatten[j]?=some y→l[j]?=some [y]:=by
     intro l
     induction l with
     |nil=>intro _ j y hj;simp at hj
     | cons r l ih =>
      intro hl j y hj
      match r,hl r (d7 ..)with
      |[u],_ =>
       cases j with
       |zero=>simp at hj;subst hj;rfl
       |succ j=>simp at hj;simpa using ih (fun r hr=>hl r (cU _ hr)) j y hj
    refine OpOk.val (run (.pointer (some ad)) (run_arrayAt (P:=P) w t el n (some ad) _ _ (gj hk) h1)) (Good.same hr h (.rop _ ad (fun j=>vs j 0) k2 (fun j y hj=>?_) (fun j y hj=>?_)))
    ·have:=hv1 ad rfl j 0 _ y (flat es hel j y hj) rfl;rw[Nat.mul_one,Nat.add_zero]at this;exact this
    ·exact hd j 0 _ y (flat es hel j y hj) rfl
 ·rename_i n el id i off e len cap tot hk hv
  split at h
  ·rename_i b hb;obtain⟨ht,h0,h1,h⟩:=h;rw[hv]at hx;generalize a.eval x=xv at hx run
   cases hx with
   |sub _ _ _ _ _ _ _ A hN' hl hA0 hA =>
    obtain⟨q1,q2⟩:=hA b hb;obtain⟨q3,q4,q5⟩:=q2 ht;obtain⟨g,hg,rfl⟩:=q5 aq;refine OpOk.val (run (.pointer (some ⟨g,i*b.e+off,none⟩)) (run_arrayAt (P:=P) w t el n (some ⟨g,i*b.e+off,none⟩) _ _ (gj hk) h1)) (Good.same hr h (.ptr id i off tot _ hN' fun b' hb'=>?_));rw[hb]at hb'
    cases hb'
    exact⟨q1,fun _=>⟨g,hg,rfl⟩⟩
  ·exact h.elim
 ·exact h.elim
theorem Fv(hr:Rel c hp U σ w){id g i off:Nat}{b:Blk}{row:List AV}{ccs:Array Value}(hb:lk id hp=some b)(hg:σ id=some g)(hrow:b.es[i]?=some row)(hheap:w.heap[g]?=some (.cells ccs b.ty (0,0)))
  (us:List Value) (cs:List AV) (hcl:cs.length=us.length) (hfit:off+us.length≤row.length) (h1:∀u∈us,u.oneCell'=true) (h2:∀(j:Nat)(y:AV)(u:Value),cs[j]?=some y→us[j]?=some u→AIs w (bI c w σ hp) σ hp U y u) :
  let w':=w.setRow g (ccs.toList.take (i*b.e+off)++us++ccs.toList.drop (i*b.e+off+us.length)).toArray
  let b':Blk:=⟨b.ty,b.e,b.es.set i (row.take off++(cs++row.drop (off+cs.length)))⟩
  Rel c (bW id b' hp) U σ w'∧Step w (bI c w σ hp) σ hp U w' (bI c w' σ (bW id b' hp)) σ (bW id b' hp) U:=by
 have hilt:i<b.es.length:=(ci.1 hrow).1;obtain⟨cc0,q1,hone,q3,q4,q5⟩:=hr.at hb hg;rw[hheap]at q1;injection q1 with q1;injection q1 with q1;subst q1;have hrl:row.length=b.e:=q3 row (cr hrow)
 have hle:i*b.e+b.e≤ccs.size:=by
  have:(i+1)*b.e≤b.es.length*b.e:=d_ _ aq;rw[Nat.add_mul,Nat.one_mul]at this;omega
 have hnl:(row.take off++(cs++row.drop (off+cs.length))).length=b.e:=by simp;omega
 have hnth:∀m,(ccs.toList.take (i*b.e+off)++us++ccs.toList.drop (i*b.e+off+us.length)).toArray[m]? =
   if m<i*b.e+off then ccs[m]? else if m<i*b.e+off+us.length then us[m-(i*b.e+off)]? else ccs[m]?:=by
  intro m;simp only[List.getElem?_toArray,cD];rw[List.getElem?_append];have hlt:(ccs.toList.take (i*b.e+off)).length=i*b.e+off:=by simp;omega
  rw[hlt];by_cases hm:m<i*b.e+off
  ·simp[hm]
  ·rw[if_neg hm,if_neg hm,List.getElem?_append];by_cases hm2:m<i*b.e+off+us.length
   ·rw[if_pos aq,if_pos hm2]
   ·rw[if_neg aq,if_neg hm2,List.getElem?_drop,Array.getElem?_toList];congr 1;omega
 have hrowth:∀m,(row.take off++(cs++row.drop (off+cs.length)))[m]?=if m<off then row[m]? else if m<off+cs.length then cs[m-off]? else row[m]?:=by
  intro m;rw[List.getElem?_append];have hlt:(row.take off).length=off:=by simp;omega
  rw[hlt];by_cases hm:m<off
  ·simp[hm]
  ·rw[if_neg hm,if_neg hm,List.getElem?_append];by_cases hm2:m<off+cs.length
   ·rw[if_pos aq,if_pos hm2]
   ·rw[if_neg aq,if_neg hm2,List.getElem?_drop];congr 1;omega
 exact wT hr (b':=⟨b.ty,b.e,b.es.set i (row.take off++(cs++row.drop (off+cs.length)))⟩) hb hg rfl rfl aw ccs (ccs.toList.take (i*b.e+off)++us++ccs.toList.drop (i*b.e+off+us.length)).toArray hheap (by simp;omega)
  (fun m y hy=>by
   rw[hnth]at hy
   split at hy
   ·exact hone m y hy
   ·split at hy
    ·exact h1 y (cr hy)
    ·exact hone m y hy)
  (fun y hy=>by
   rcases List.mem_or_eq_of_mem_set hy with h'|rfl
   ·exact q3 y h'
   ·exact hnl)
  (fun k j r y u a1 a2 a3=>by
   rw[hnth]at a3;simp only[List.getElem?_set]at a1;by_cases hk:i=k
   ·subst hk;simp only[if_true,hilt]at a1;injection a1 with a1;subst a1;rw[hrowth]at a2;by_cases p1:j<off
    ·rw[if_pos p1]at a2;rw[if_pos aq]at a3;exact q5 i j row y u hrow a2 a3
    ·rw[if_neg p1]at a2;rw[if_neg aq]at a3;by_cases p2:j<off+cs.length
     ·rw[if_pos p2]at a2;rw[if_pos aq]at a3;rw[show i*b.e+j-(i*b.e+off)=j-off by omega]at a3;exact h2 _ y u a2 a3
     ·rw[if_neg p2]at a2;rw[if_neg aq]at a3;exact q5 i j row y u hrow a2 a3
   ·rw[if_neg hk]at a1
    have hj:j<b.e:=by
     have:=(ci.1 a2).1;rw[q3 r (cr a1)]at this;exact this
    have hout:¬(i*b.e≤k*b.e+j∧k*b.e+j<i*b.e+b.e):=by
     rintro⟨p1,p2⟩;rcases Nat.lt_or_gt_of_ne hk with h'|h'
     ·have:(i+1)*b.e≤k*b.e:=d_ _ aq;rw[Nat.add_mul,Nat.one_mul]at this;omega
     ·have:(k+1)*b.e≤i*b.e:=d_ _ aq;rw[Nat.add_mul,Nat.one_mul]at this;omega
    have a3':ccs[k*b.e+j]?=some u:=by
     by_cases p1:k*b.e+j<i*b.e+off
     ·rwa [if_pos p1]at a3
     ·rw[if_neg p1,if_neg aq]at a3;exact a3
    exact q5 k j r y u a1 a2 a3')
theorem yX:∀(xs:List (List AV)),(∀r,r∈xs→r.length=1)→∀(j:Nat)(y:AV),xs.flatten[j]?=some y→xs[j]?=some [y]
 |[],_,j,y,h=>by simp at h
 | r :: xs,hr,j,y,h=>by
  have h1:=hr r (d7 ..)
  match r,h1 with
  | [x],_ =>
   cases j with
   |zero=>simpa using h
   |succ j =>
    simp only[List.flatten_cons,List.cons_append,List.nil_append,List.getElem?_cons_succ]at h⊢;exact yX xs (fun r hr'=>hr r (cU _ hr')) j y h
theorem pg:∀(xs:List (List AV)),(∀r,r∈xs→r.length=1)→xs.flatten.length=xs.length
 |[],_=>rfl
 |r::xs,hr=>by
  rw[List.flatten_cons,b_,hr r (d7 ..),pg xs fun r h=>hr r (cU _ h),List.length_cons];omega
theorem Qk (hr:Rel c hp U σ w) (E:∀ x,AIs w (bI c w σ hp) σ hp U (ev fr x) (a.eval x)) {ts tx:TypeId} {s x:Operand} {cl:Call} (hop:o.op=.call cl) (hc:cl.callee=.builtin .copy) (ha:cl.args.toList=[s,x]) (ht:cl.argTypes.toList=[ts,tx])
  (h:uN P fr hp N .copy [s,x] [ts,tx] K):OpOk P c K hp U N σ w ((execOp a.eval o).run P w):=by
 simp only[uN]at h;have ha':cl.args=#[s,x]:=by rw[←Array.toArray_toList (xs:=cl.args),ha]
 have ht':cl.argTypes=#[ts,tx]:=by rw[←Array.toArray_toList (xs:=cl.argTypes),ht]
 have run:∀(v:Value)(w':World),(Builtin.copy_ #[ts,tx] o.type #[a.eval s,a.eval x]).run P w=.ok v w'→(execOp a.eval o).run P w=.ok (.value v) w':=by
  intro v w' hv;simp[execOp,hop,resolve,hc,ha',ht',invoke,builtin,hv]
 split at h
 ·rename_i el el2 hks hkx;have hts:=bH hks;have htx:=bH hkx;obtain⟨hz2,h⟩:=h;have hxx:=E x;have hss:=E s;generalize hxv:a.eval x=xv at hxx run;generalize hsv:a.eval s=sv at hss run;generalize ev fr x=xa at hxx h;generalize ev fr s=sa at hss h;generalize hxs:cT hp (P.cellsOf el) xa=oxs at h;unfold Dn at h
  split at h
  ·rename_i id i0 len tot xs
   split at h
   ·rename_i b hb;obtain⟨ht1,hbe,hz,h⟩:=h;obtain⟨B,k,rfl,us,hus,hul,hri,hcell⟩:=eB (P:=P) hr hxx hxs;rw[hz,Nat.mul_one]at hul
    have hinfo:(P.info? el).map (·.size)=some 1:=by
     have h1:P.cellsOf el=1:=hz;unfold Program.cellsOf at h1
     cases hq:P.info? el with
     |none=>rw[hq]at h1;simp at h1
     |some i=>rw[hq]at h1;simp at h1;simp[h1]
    cases hss with
    | own _ _ _ _ A cap hU hl hA0 h' =>
     obtain⟨k1,k2⟩:=h' b hb;obtain⟨k3,k4,k5⟩:=k2 ht1;have hmn:Nat.min xs.length len=min len xs.length:=by rw[Nat.min_comm]
     rcases Nat.eq_zero_or_pos (min len xs.length)with h0|h0
     ·have hr0:=run_copy_none (P:=P) w ts tx o.type el A B len cap xs.length k hts hinfo (by rw[hmn];exact h0);refine OpOk.val (run _ _ hr0) (Good.same hr (v:=.d (.int .i64 0)) ?_ (.d (.int _ _)));rw[h0]at h
      have hxe:xs.take len=[]:=by
       apply List.eq_nil_of_length_eq_zero;rw[List.length_take];exact h0
      rw[hxe,List.nil_append,Nat.add_zero,List.take_append_drop]at h;have e1:(⟨b.ty,b.e,b.es⟩:Blk)=b:=rfl;rw[e1,np hb]at h;exact h
     ·obtain⟨g,hg,hA,n,hrn,hn⟩:=k5 aq;obtain⟨ccs,m1,m2,m3,m4,m5⟩:=hr.at hb hg
      have hnsz:ccs.size=n:=by
       obtain⟨cc,p1,p2⟩:=hrn;rw[m1]at p1;injection p1 with p1;injection p1 with p1;rw[p1];exact p2
      rw[hbe,Nat.mul_one]at hA hn m4;clear hrn k5 k2 h';subst hA;obtain⟨ad,hBad,hcell2⟩:=hcell aq;subst hBad
      let n0:=min len xs.length
      let cs:=us.toList.take n0
      have hcl:cs.length=n0:=by simp only[cs,List.length_take,Array.length_toList];omega
      have hr0:=run_copy_row (P:=P) w ts tx o.type el g i0 len cap ad xs.length k ccs b.ty cs hts hinfo m1 (by rw[hcl,hmn]) (fun j v hj=>hcell2 j v (by
       rw[List.getElem?_take]at hj
       split at hj
       ·simpa using hj
       ·cases hj)) aq (fun v hv=>by
       obtain⟨j,hj⟩:=List.getElem?_of_mem (List.mem_of_mem_take hv)
       exact hri.one j v (by simpa using hj))
      rw[run _ _ hr0,hcl]
      have hlen:(b.es.take i0++(xs.take len++b.es.drop (i0+n0))).length=b.es.length:=by
       simp only[b_,List.length_take,e_];omega
      have hC:∀m,((ccs.toList.take i0++cs++ccs.toList.drop (i0+n0)).toArray)[m]?=if m<i0 then ccs[m]? else if m<i0+n0 then us[m-i0]? else ccs[m]?:=by
       intro m;rw[List.getElem?_toArray,cD,List.getElem?_append];have e0:(ccs.toList.take i0).length=i0:=by simp;omega
       rw[e0]
       split
       ·rename_i hm;rw[List.getElem?_take,if_pos hm];simp
       ·rename_i hm;rw[List.getElem?_append,hcl];by_cases hm2:m<i0+n0
        ·rw[if_pos aq,if_pos hm2,List.getElem?_take,if_pos aq];simp
        ·rw[if_neg aq,if_neg hm2,List.getElem?_drop,show i0+n0+(m-i0-n0)=m by omega];simp
      have hE:∀(m:Nat)(r:List AV),(b.es.take i0++(xs.take len++b.es.drop (i0+n0)))[m]?=some r→(m<i0∧b.es[m]?=some r)∨(i0≤m∧m<i0+n0∧xs[m-i0]?=some r)∨(i0+n0≤m∧b.es[m]?=some r):=by
       intro m r hm;rw[List.getElem?_append]at hm;have e0:(b.es.take i0).length=i0:=by simp;omega
       rw[e0]at hm
       split at hm
       ·rename_i hlt;rw[List.getElem?_take,if_pos hlt]at hm;exact .inl ⟨hlt,hm⟩
       ·rename_i hlt;rw[List.getElem?_append,List.length_take]at hm
        split at hm
        ·rename_i hlt2;rw[List.getElem?_take,if_pos aq]at hm;exact .inr (.inl ⟨aq,aq,hm⟩)
        ·rename_i hlt2;rw[List.getElem?_drop]at hm;refine .inr (.inr ⟨aq,?_⟩);rw[show m=i0+n0+(m-i0-min len xs.length)by omega];exact hm
      have hup:=wT hr hb hg (b':=⟨b.ty,b.e,b.es.take i0++(xs.take len++b.es.drop (i0+n0))⟩) rfl rfl hlen ccs (ccs.toList.take i0++cs++ccs.toList.drop (i0+n0)).toArray m1 (by
        simp only[List.size_toArray,b_,List.length_take,e_,hcl,Array.length_toList]
        omega) (fun i' y hy=>by
        rw[hC]at hy
        split at hy
        ·exact m2 _ _ hy
        ·split at hy
         ·exact hri.one _ _ hy
         ·exact m2 _ _ hy) (fun r hr'=>by
        obtain⟨m,hm⟩:=List.getElem?_of_mem hr';rcases hE m r hm with ⟨_,h1⟩|⟨_,_,h1⟩|⟨_,h1⟩
        ·exact m3 r (cr h1)
        ·rw[hbe,←hz];exact hri.row r (cr h1)
        ·exact m3 r (cr h1)) (fun i' j r y v hi hj hv=>by
        rw[hC]at hv
        have hj0:j<b.e:=by
         have h1:=(ci.1 hj).1;rcases hE i' r hi with ⟨_,h2⟩|⟨_,_,h2⟩|⟨_,h2⟩
         ·rw[m3 r (cr h2)]at h1;exact h1
         ·rw[hri.row r (cr h2),hz]at h1;omega
         ·rw[m3 r (cr h2)]at h1;exact h1
        have hj1:j=0:=aq;subst hj1;rw[hbe,Nat.mul_one,Nat.add_zero]at hv;rcases hE i' r hi with ⟨h1,h2⟩|⟨h1,h1',h2⟩|⟨h1,h2⟩
        ·rw[if_pos h1]at hv;exact m5 i' 0 r y v h2 hj (by rw[hbe,Nat.mul_one,Nat.add_zero];exact hv)
        ·rw[if_neg aq,if_pos h1']at hv;exact hri.is _ 0 r y v h2 hj (by rw[hz,Nat.mul_one,Nat.add_zero];exact hv)
        ·rw[if_neg aq,if_neg aq]at hv
         exact m5 i' 0 r y v h2 hj (by rw[hbe,Nat.mul_one,Nat.add_zero];exact hv))
      obtain⟨r1,r2⟩:=hup;exact⟨_,_,_,h,r1.more,r2.trans Step.more,.d (.int _ _)⟩
   ·exact h.elim
  ·rename_i id i off e len cap tot xs
   split at h
   ·rename_i b hb
    split at h
    ·rename_i row hrow;obtain⟨ht1,rfl,hz,h⟩:=h;obtain⟨B,k,rfl,us,hus,hul,hri,hcell⟩:=eB (P:=P) hr hxx hxs;rw[hz,Nat.mul_one]at hul
     have hinfo:(P.info? el).map (·.size)=some 1:=by
      have h1:P.cellsOf el=1:=hz;unfold Program.cellsOf at h1
      cases hq:P.info? el with
      |none=>rw[hq]at h1;simp at h1
      |some i=>rw[hq]at h1;simp at h1;simp[h1]
     have hx1:∀r,r∈xs.take len→r.length=1:=fun r hr'=>by
      have:=hri.row r (List.mem_of_mem_take hr');rw[hz]at this;exact this
     have hfl:=pg _ hx1;have htl:(xs.take len).length=min len xs.length:=List.length_take
     cases hss with
     | sub _ _ _ _ _ _ _ A hU hl hA0 h' =>
      obtain⟨k1,k2⟩:=h' b hb;obtain⟨k3,k4,k5⟩:=k2 ht1;have hmn:Nat.min xs.length len=min len xs.length:=by rw[Nat.min_comm]
      rcases Nat.eq_zero_or_pos (min len xs.length)with h0|h0
      ·have hr0:=run_copy_none (P:=P) w ts tx o.type el A B len cap xs.length k hts hinfo (by rw[hmn];exact h0);refine OpOk.val (run _ _ hr0) (Good.same hr (v:=.d (.int .i64 0)) ?_ (.d (.int _ _)));rw[h0]at h;have hxe:xs.take len=[]:=List.eq_nil_of_length_eq_zero (by rw[htl];exact h0)
       have hrs:b.es.set i row=b.es:=by
        obtain⟨hlt,he⟩:=ci.1 hrow;rw[←he];exact List.set_getElem_self hlt
       rw[hxe,List.flatten_nil,List.nil_append,List.length_nil,Nat.add_zero,List.take_append_drop,hrs]at h;have e1:(⟨b.ty,b.e,b.es⟩:Blk)=b:=rfl;rw[e1,np hb]at h;exact h
      ·obtain⟨g,hg,hA⟩:=k5 aq;obtain⟨ccs,m1,m2,m3,m4,m5⟩:=hr.at hb hg;have hrl:row.length=b.e:=m3 row (cr hrow);have hilt:i<b.es.length:=(ci.1 hrow).1
       have hle:i*b.e+b.e≤ccs.size:=by
        have:(i+1)*b.e≤b.es.length*b.e:=d_ _ aq;rw[Nat.add_mul,Nat.one_mul]at this;omega
       subst hA;obtain⟨ad,hBad,hcell2⟩:=hcell aq;subst hBad
       let n0:=min len xs.length
       let cs:=us.toList.take n0
       have hcl:cs.length=n0:=by simp only[cs,List.length_take,Array.length_toList];omega
       have hr0:=run_copy_row (P:=P) w ts tx o.type el g (i*b.e+off) len cap ad xs.length k ccs b.ty cs hts hinfo m1 (by rw[hcl,hmn]) (fun j v hj=>hcell2 j v (by
        rw[List.getElem?_take]at hj
        split at hj
        ·simpa using hj
        ·cases hj)) aq (fun v hv=>by
        obtain⟨j,hj⟩:=List.getElem?_of_mem (List.mem_of_mem_take hv)
        exact hri.one j v (by simpa using hj))
       rw[run _ _ hr0]
       obtain⟨r1,r2⟩:=Fv hr (off:=off) hb hg hrow m1 cs (xs.take len).flatten (by rw[hfl,htl,hcl]) aq (fun v hv=>by
        obtain⟨j,hj⟩:=List.getElem?_of_mem (List.mem_of_mem_take hv)
        exact hri.one j v (by simpa using hj)) (fun j y u hy hu=>by
        have hy':=yX _ hx1 j y hy;rw[List.getElem?_take]at hy';simp only[cs]at hu;rw[List.getElem?_take]at hu
        split at hy'
        ·split at hu
         ·exact hri.is j 0 [y] y u hy' rfl (by rw[hz,Nat.mul_one,Nat.add_zero];simpa using hu)
         ·cases hu
        ·cases hy')
       rw[hcl]at r1 r2⊢;exact⟨_,_,_,h,r1.more,r2.trans Step.more,.d (.int _ _)⟩
    ·exact h.elim
   ·exact h.elim
  ·exact h.elim
 ·exact h.elim
theorem pj{t:TypeId}{v:AV}{cells:List AV}{xs:Array Value}{off:Nat}{S:Nat→Prop}(hl:Ba P t cells=some v)
  (hx:∀(j:Nat)(y:AV),cells[j]?=some y→∃x,xs[off+j]?=some x∧x.oneCell'=true∧AIs w S σ hp U y x) :
  ∃x,(part t xs off).run P w=.ok x w∧AIs w S σ hp U v x:=by
 have agg:∀d,P.underlying t=some d→Fj d=true→P.cellsOf t≤cells.length→v=.agg (cells.take (P.cellsOf t)) →
   ∃x,(part t xs off).run P w=.ok x w∧AIs w S σ hp U v x:=by
  intro d hu hd' hle hv';subst hv';refine⟨.agg (xs.extract off (off+P.cellsOf t)),?_,?_⟩
  ·unfold part;rw[Sem.run_bind,dT hu,hd'];simp[o9 hu]
  ·have hsz:P.cellsOf t=0∨off+P.cellsOf t≤xs.size:=by
    rcases Nat.eq_zero_or_pos (P.cellsOf t)with h0|h0
    ·exact .inl h0
    ·obtain⟨x,q1,_,_⟩:=hx (P.cellsOf t-1) _ (cm aq);have:=(Array.getElem?_eq_some_iff.1 q1).1;exact .inr aq
   refine .agg _ _ (by simp;omega) (fun i x hxi=>?_) (fun i c' x hc hxi=>?_)
   ·rw[Array.getElem?_extract]at hxi
    split at hxi
    ·rename_i hlt;obtain⟨x',q1,q2,_⟩:=hx i _ (cm aq);rw[q1]at hxi;injection hxi with hxi;subst hxi;exact q2
    ·cases hxi
   ·rw[Array.getElem?_extract]at hxi;rw[List.getElem?_take]at hc
    split at hc
    ·split at hxi
     ·obtain⟨x',q1,_,q3⟩:=hx i _ hc;rw[q1]at hxi;injection hxi with hxi;subst hxi;exact q3
     ·cases hxi
    ·cases hc
 have scal:∀d,P.underlying t=some d→Fj d=false→cells.head?=some v →
   ∃x,(part t xs off).run P w=.ok x w∧AIs w S σ hp U v x:=by
  intro d hu hd' hh;have h0:cells[0]?=some v:=by rw[←List.head?_eq_getElem?];exact hh
  obtain⟨x,q1,_,q3⟩:=hx 0 v h0;rw[Nat.add_zero]at q1;refine⟨x,?_,q3⟩;unfold part;rw[Sem.run_bind,dT hu,hd'];simp[q1]
 unfold Ba at hl
 cases hu:P.underlying t with
 |none=>simp[bR,hu]at hl
 | some d =>
  cases d with
  |struct F =>
   simp only[bR,hu]at hl
   split at hl
   ·injection hl with hl;exact agg _ hu rfl ‹_› hl.symm
   ·cases hl
  |array n e =>
   simp only[bR,hu]at hl
   split at hl
   ·injection hl with hl;exact agg _ hu rfl ‹_› hl.symm
   ·cases hl
  |_=>simp only[bR,hu]at hl;exact scal _ hu rfl hl
theorem LH(hr:Rel c hp U σ w)(E:∀x,AIs w (bI c w σ hp) σ hp U (ev fr x) (a.eval x)){t:TypeId}{x:Operand}{i:Nat}(hop:o.op=.field t x i)(h:bJ P fr hp N (.field t x i) K) :
  OpOk P c K hp U N σ w ((execOp a.eval o).run P w):=by
 simp only[bJ]at h
 split at h
 ·rename_i cs o' ft hx hf;have hx':=E x;rw[hx]at hx';generalize hvx:a.eval x=vx at hx'
  cases hx' with
  | agg _ xs hl h2 h3 =>
   split at h
   ·rename_i v hv;obtain⟨F,f,hu,hF,rfl,rfl⟩:=rE hf
    obtain⟨y,hy,hi⟩:=pj (w:=w) (xs:=xs) (off:=f.offset) hv fun j y hy=>by
     rw[List.getElem?_drop]at hy;have hlt:f.offset+j<xs.size:=by rw[←hl];exact(ci.1 hy).1
     exact⟨xs[f.offset+j],dn hlt,h2 _ _ (dn hlt),h3 _ y _ hy (dn hlt)⟩
    refine OpOk.val (x:=y) ?_ (Good.same hr h hi);simp[execOp,hop,hvx,Instr.field,asAgg,run_underlying hu,hF,hy]
   ·exact h.elim
 ·exact h.elim
theorem LI (hr:Rel c hp U σ w) (E:∀ x,AIs w (bI c w σ hp) σ hp U (ev fr x) (a.eval x)) {t:TypeId} {x i:Operand} (hop:o.op=.index t x i) (h:bJ P fr hp N (.index t x i) K) :
  OpOk P c K hp U N σ w ((execOp a.eval o).run P w):=by
 simp only[bJ]at h
 split at h
 ·rename_i n el cs k m hk hx hi;obtain⟨h0,h1,h⟩:=h;have hx':=E x;rw[hx]at hx';have hi':=dZ (hi▸E i);generalize hvx:a.eval x=vx at hx'
  cases hx' with
  | agg _ xs hl h2 h3 =>
   split at h
   ·rename_i hs;obtain⟨hz,h⟩:=h
    split at h
    ·rename_i v hv;have hlt:m.toNat<xs.size:=by rw[←hl];exact(ci.1 hv).1
     refine OpOk.val (x:=xs[m.toNat]) ?_ (Good.same hr h (h3 _ v _ hv (dn hlt)))
     have hagg:(isAgg el).run P w=.ok false w:=by
      have hd:∃d,P.underlying el=some d∧Fj d=false:=by
       unfold bR at hs
       cases hu:P.underlying el with
       |none=>rw[hu]at hs;cases hs
       |some d =>
        rw[hu]at hs;refine⟨d,rfl,?_⟩
        cases d<;>first|rfl|cases hs
      obtain⟨d,hu,hda⟩:=hd;rw[dT hu,hda]
     have hmn:m.toNat*1=m.toNat:=Nat.mul_one _;simp[execOp,hop,hvx,hi',Instr.index,asIntOf,run_underlying (gj hk),h0,h1,bf (P:=P) (w:=w) (t:=el) (by rw[hz];decide),hz,part,hagg,hlt]
    ·exact h.elim
   ·rename_i hs;obtain⟨hz,h⟩:=h
    split at h
    ·rename_i v hv;have hlt:m.toNat<xs.size:=by rw[←hl];exact(ci.1 hv).1
     refine OpOk.val (x:=xs[m.toNat]) ?_ (Good.same hr h (h3 _ v _ hv (dn hlt)))
     have hagg:(isAgg el).run P w=.ok false w:=by
      have hd:∃d,P.underlying el=some d∧Fj d=false:=by
       unfold bR at hs
       cases hu:P.underlying el with
       |none=>rw[hu]at hs;cases hs
       |some d =>
        rw[hu]at hs;refine⟨d,rfl,?_⟩
        cases d<;>first|rfl|cases hs
      obtain⟨d,hu,hda⟩:=hd;rw[dT hu,hda]
     have hmn:m.toNat*1=m.toNat:=Nat.mul_one _;simp[execOp,hop,hvx,hi',Instr.index,asIntOf,run_underlying (gj hk),h0,h1,bf (P:=P) (w:=w) (t:=el) (by rw[hz];decide),hz,part,hagg,hlt]
    ·exact h.elim
   ·obtain⟨hz,h⟩:=h
    split at h
    ·rename_i v hv
     obtain⟨y,hy,hiy⟩:=pj (w:=w) (xs:=xs) (off:=m.toNat*P.cellsOf el) hv fun j y hy=>by
      rw[List.getElem?_drop]at hy;have hlt:m.toNat*P.cellsOf el+j<xs.size:=by rw[←hl];exact(ci.1 hy).1
      exact⟨xs[m.toNat*P.cellsOf el+j],dn hlt,h2 _ _ (dn hlt),h3 _ y _ hy (dn hlt)⟩
     refine OpOk.val (x:=y) ?_ (Good.same hr h hiy);simp[execOp,hop,hvx,hi',Instr.index,asIntOf,run_underlying (gj hk),h0,h1,bf (P:=P) (w:=w) (t:=el) hz,hy]
    ·exact h.elim
   ·exact h.elim
 ·rename_i bs k m hk hx hi;obtain⟨h0,h⟩:=h;have hx':=E x;rw[hx]at hx';have hi':=dZ (hi▸E i)
  split at h
  ·rename_i b hv;generalize hvx:a.eval x=vx at hx'
   cases hx' with
   | d hd =>
    cases hd with
    | str s =>
     rw[c_,Option.map_eq_some_iff]at hv;obtain⟨c',hc',rfl⟩:=hv;rw[Array.getElem?_toList]at hc';have hlt:m.toNat<s.size:=(Array.getElem?_eq_some_iff.1 hc').1
     have hs:s[m.toNat]?=some c':=by
      rw[getElem?_pos s m.toNat hlt];exact congrArg some (Array.getElem?_eq_some_iff.1 hc').2
     refine OpOk.val (x:=.int .u8 (c'.toNat:Int)) ?_ (Good.same hr h (.d (.int .u8 _)));simp[execOp,hop,hvx,hi',Instr.index,asIntOf,run_underlying (ni hk),h0,hs]
  ·exact h.elim
 ·exact h.elim
section
variable {ts tx ty el:TypeId} {i:TypeInfo} {z:Value}
theorem uP{k':IntKind}(hts:P.underlying ts=some (.slice el))(htx:P.underlying tx=some (.int k'))(hi:P.info? el=some i)(hz:i.zero=some z)(hzs:z.cells.size=i.size)(hne:i.size≠0){base:Option Addr}{sLen sCap:Nat}{n:Int}{w':World}(h0:0≤n)(h1:n≤4294967296)(h2:i.bytes*n≤281474976710656)
  (hneed:sLen+n.toNat≤sCap) (hsto:(match base with|some a=>storeCells (a.add (sLen*i.size)) (Builtin.zeroCells z.cells n.toNat).toList|none=>pure ()).run P w=.ok () w') :
  (Builtin.append_ #[ts,tx] ty #[.slice base sLen sCap,.int k' n]).run P w=.ok (.slice base (sLen+n.toNat) sCap) w':=by
 have hw:IntKind.i64.wrap n=n:=IntWalk.i64_in _ aq;have h3:¬(281474976710656<n*i.bytes):=by rw[Int.mul_comm];omega
 have h4:¬n<0:=aq;by_cases hn0:n.toNat*i.size=0
 ·have hn1:n.toNat=0:=by
   rcases Nat.mul_eq_zero.1 hn0 with h|h
   ·exact h
   ·exact absurd h hne
  have hzc:Builtin.zeroCells z.cells n.toNat=#[]:=by rw[hn1];simp[Builtin.zeroCells]
  rw[hzc]at hsto
  cases base with
  |none =>
   simp at hsto;subst hsto;simp[Builtin.append_,run_underlying hts,run_underlying htx,sizeOf,typeInfo,hi,asInt,asIntOf,hw,h3,h4,hneed,hn0]
  |some ad =>
   simp only at hsto;simp[Builtin.append_,run_underlying hts,run_underlying htx,sizeOf,typeInfo,hi,asInt,asIntOf,hw,h3,h4,hneed,hn0,hsto]
 ·cases base with
  |none =>
   simp at hsto;subst hsto;simp[Builtin.append_,run_underlying hts,run_underlying htx,sizeOf,typeInfo,hi,hz,zeroValue,asInt,asIntOf,hw,h3,h4,hneed,hn0]
  |some ad =>
   simp only at hsto;simp[Builtin.append_,run_underlying hts,run_underlying htx,sizeOf,typeInfo,hi,hz,zeroValue,asInt,asIntOf,hw,h3,h4,hneed,hn0,hsto]
theorem uQ{k':IntKind}(hts:P.underlying ts=some (.slice el))(htx:P.underlying tx=some (.int k'))(hi:P.info? el=some i)(hz:i.zero=some z)(hzs:z.cells.size=i.size)(hne:i.size≠0){base:Option Addr}{sLen sCap:Nat}{n:Int}{os:Array Value}(h0:0≤n)(h1:n≤4294967296)(h2:i.bytes*n≤281474976710656)
  (hfo:(Builtin.firstCells i.size sLen (.slice base sLen sCap)).run P w.drew=.ok os w.drew) (hneed:sCap<sLen+n.toNat) (hb:i.bytes≠0) (hfit:(sLen+n.toNat)*i.bytes≤140737488355328) :
  (Builtin.append_ #[ts,tx] ty #[.slice base sLen sCap,.int k' n]).run P w=.ok (.slice (some ⟨w.heap.size,0,none⟩) (sLen+n.toNat) (grownCap w (sLen+n.toNat) sCap el))
    (w.drew.alloc (.cells (os++Builtin.zeroCells z.cells n.toNat++Builtin.zeroCells z.cells (grownCap w (sLen+n.toNat) sCap el-(sLen+n.toNat))) el)):=by
 have hw:IntKind.i64.wrap n=n:=IntWalk.i64_in _ aq;have h3:¬(281474976710656<n*i.bytes):=by rw[Int.mul_comm];omega
 have h4:¬n<0:=aq;have hn:¬(sLen+n.toNat≤sCap):=aq
 have h48':¬(281474976710656<Builtin.nextslicecap (sLen+n.toNat) sCap*i.bytes):=by
  have:=growslice_fits hneed hfit;omega
 have hbig:¬((IntKind.i64.max:Int)<sLen+n.toNat):=by
  have h5:sLen+n.toNat≤(sLen+n.toNat)*i.bytes:=Nat.le_mul_of_pos_right _ aq;have h6:IntKind.i64.max=9223372036854775807:=by decide
  omega
 have hbig2:¬(9223372036854775807<(sLen:Int)+max n 0):=by
  have h6:IntKind.i64.max=9223372036854775807:=by decide
  rw[h6]at hbig;omega
 by_cases hn0:n.toNat*i.size=0
 ·have hn1:n.toNat=0:=by
   rcases Nat.mul_eq_zero.1 hn0 with h|h
   ·exact h
   ·exact absurd h hne
  have hzc:Builtin.zeroCells z.cells n.toNat=#[]:=by rw[hn1];simp[Builtin.zeroCells]
  rw[hzc];simp[Builtin.append_,run_underlying hts,run_underlying htx,sizeOf,typeInfo,zeroValue,hi,hz,asInt,asIntOf,hw,h3,h4,hn,hn0,hb,h48',Question.forced,hfo,newRow,grownCap]
  all_goals(intro hh;exact absurd hh hbig2)
 ·simp[Builtin.append_,run_underlying hts,run_underlying htx,sizeOf,typeInfo,zeroValue,hi,hz,asInt,asIntOf,hw,h3,h4,hn,hn0,hb,h48',Question.forced,hfo,newRow,grownCap]
  all_goals(intro hh;exact absurd hh hbig2)
end
theorem Fz(hr:Rel c hp U σ w)(E:∀x,AIs w (bI c w σ hp) σ hp U (ev fr x) (a.eval x)){ts tx:TypeId}{s x:Operand}{cl:Call}(hop:o.op=.call cl)(hc:cl.callee=.builtin .append)(ha:cl.args.toList=[s,x])(ht:cl.argTypes.toList=[ts,tx])
  {el:TypeId} {id i0 len tot:Nat} {k:IntKind} {n:Int} {z:List AV} (hks:bR P ts=.slice el) (hkx:bR P tx=.scal) (hs:ev fr s=.own id i0 len tot) (hx:ev fr x=.d (.int k n)) (hk:iZ P tx=some k) (h0:0≤n) (h1:n≤4294967296) (h2:P.bytesOf el*n≤281474976710656) (hz:eW P el=some z)
  (h:fa P el (.own id i0 len tot) (some (List.replicate n.toNat z)) N K hp):OpOk P c K hp U N σ w ((execOp a.eval o).run P w):=by
 have ha':cl.args=#[s,x]:=by rw[←Array.toArray_toList (xs:=cl.args),ha]
 have ht':cl.argTypes=#[ts,tx]:=by rw[←Array.toArray_toList (xs:=cl.argTypes),ht]
 have hxi:=dZ (hx▸E x)
 have run:∀(v:Value)(w':World),(Builtin.append_ #[ts,tx] o.type #[a.eval s,.int k n]).run P w=.ok v w'→(execOp a.eval o).run P w=.ok (.value v) w':=by
  intro v w' hv;simp[execOp,hop,resolve,hc,ha',ht',invoke,builtin,hxi,hv]
 have hss:=E s;rw[hs]at hss;generalize hsv:a.eval s=sv at hss run;have hts:=bH hks
 have htx:P.underlying tx=some (.int k):=by
  unfold iZ at hk
  split at hk
  ·rename_i k' hu;injection hk with hk;rw[hu,hk]
  ·cases hk
 obtain⟨v,i,hi,hzv,hzs,hne,hzl,hli⟩:=vh (w:=w) (S:=bI c w σ hp) (σ:=σ) (hp:=hp) (U:=U) hz;have his:i.size=P.cellsOf el:=by simp[Program.cellsOf,hi]
 have hib:i.bytes=P.bytesOf el:=by simp[Program.bytesOf,hi]
 have zone:∀(z:Value)(m:Nat),(∀(n:Nat)(v:Value),z.cells[n]?=some v→v.oneCell'=true)→z.cells.size≠0→∀(n:Nat)(v:Value),(Builtin.zeroCells z.cells m)[n]?=some v→v.oneCell'=true:=by
  intro z m hz1 hz0 n v hv;unfold Builtin.zeroCells at hv;simp only[Array.getElem?_map,Option.map_eq_some_iff]at hv;obtain⟨k,_,rfl⟩:=hv;have hlt:k%z.cells.size<z.cells.size:=Nat.mod_lt _ aq;exact hz1 (k%z.cells.size) _ (by simp[hlt])
 unfold fa at h
 split at h
 ·rename_i hq _
  cases hq
 ·rename_i id' len' tot' xs hq hxs;injection hq with q1 q2 q3 q4;subst q1;subst q2;subst q3;subst q4;injection hxs with hxs;subst hxs
  split at h
  ·rename_i b hb;obtain⟨ht1,ht2,ht3,q,hby,hfit,hst,hgr⟩:=h;rw[List.length_replicate]at hfit;refine Dt (i:=i) (z:=v) hr hss hb ht1 ht2 ht3 hst hgr his hzs hne hli.one zone (fun A cap e hneed=>?_) (fun A cap os e hneed hos=>?_)
   ·subst e;rw[List.length_replicate]at hneed⊢;refine⟨Builtin.zeroCells v.cells n.toNat,by rw[size_zeroCells,hzs],?_,fun w' hsto=>run _ _ (uP (ty:=o.type) hts htx hi hzv (by rw[hzs,his]) (by rw[his];exact hne) h0 h1 (by rw[hib];exact h2) hneed hsto)⟩;have:=nn (P:=P) (el:=el) hli hzs hne n.toNat
    rw[←hzs]at this⊢;exact this
   ·subst e;rw[List.length_replicate]at hneed⊢;refine⟨Builtin.zeroCells v.cells n.toNat,by rw[size_zeroCells,hzs],?_,run _ _ (uQ (ty:=o.type) hts htx hi hzv (by rw[hzs,his]) (by rw[his];exact hne) h0 h1 (by rw[hib];exact h2) hos aq (by rw[hib];exact hby) (by rw[hib];exact hfit))⟩;have hli':LIs w.drew (bI c w.drew σ hp) σ hp U z v.cells:=⟨hli.len,hli.one,fun i c x hc hx=>(hli.is i c x hc hx).step ca⟩;have:=nn (P:=P) (el:=el) hli' hzs hne n.toNat
    rw[←hzs]at this⊢;exact this
  ·exact h.elim
 ·rename_i hq _
  cases hq
 ·rename_i hq _
  cases hq
 ·exact h.elim
theorem Bl(hr:Rel c hp U σ w)(E:∀x,AIs w (bI c w σ hp) σ hp U (ev fr x) (a.eval x)){f:FuncId}{caps:Array Operand}(hop:o.op=.makeFunc (.func f) #[] caps)(h:K (.fn f (caps.toList.map (ev fr))) hp):OpOk P c K hp U N σ w ((execOp a.eval o).run P w):=by
 have run:(execOp a.eval o).run P w=.ok (.value (.func (.func f) #[] (caps.map a.eval))) w:=by simp[execOp,hop,Instr.makeFunc]
 refine OpOk.val run (Good.same hr h (.fn f _ _ aw fun i cc x hc hx=>?_));rw[c_,Array.getElem?_toList]at hc;rw[Array.getElem?_map]at hx
 cases hq:caps[i]? with
 |none=>rw[hq]at hc;cases hc
 |some y =>
  rw[hq]at hc hx;simp only[Option.map_some,Option.some.injEq]at hc hx;subst hc;subst hx;exact E y
theorem FA(hr:Rel c hp U σ w)(E:∀x,AIs w (bI c w σ hp) σ hp U (ev fr x) (a.eval x)){f:FuncId}{caps:Array Operand}(hop:o.op=.makeFunc (.func f) caps #[])(h:K (.mth f (caps.toList.map (ev fr))) hp):OpOk P c K hp U N σ w ((execOp a.eval o).run P w):=by
 have run:(execOp a.eval o).run P w=.ok (.value (.func (.func f) (caps.map a.eval) #[])) w:=by simp[execOp,hop,Instr.makeFunc]
 refine OpOk.val run (Good.same hr h (.mth f _ _ aw fun i cc x hc hx=>?_));rw[c_,Array.getElem?_toList]at hc;rw[Array.getElem?_map]at hx
 cases hq:caps[i]? with
 |none=>rw[hq]at hc;cases hc
 |some y =>
  rw[hq]at hc hx;simp only[Option.map_some,Option.some.injEq]at hc hx;subst hc;subst hx;exact E y
theorem Us(hr:Rel c hp U σ w)(E:∀x,AIs w (bI c w σ hp) σ hp U (ev fr x) (a.eval x)){x y:Operand}{tx ty:TypeId}{cl:Call}(hop:o.op=.call cl)(hc:cl.callee=.builtin .max)(ha:cl.args.toList=[x,y])(ht:cl.argTypes.toList=[tx,ty])
  (h:uN P fr hp N .max [x,y] [tx,ty] K):OpOk P c K hp U N σ w ((execOp a.eval o).run P w):=by
 simp only[uN]at h;have ha':cl.args=#[x,y]:=by rw[←Array.toArray_toList (xs:=cl.args),ha]
 have ht':cl.argTypes=#[tx,ty]:=by rw[←Array.toArray_toList (xs:=cl.argTypes),ht]
 split at h
 ·rename_i k m k' n hx hy;have h1:=dZ (hx▸E x);have h2:=dZ (hy▸E y)
  have run:(execOp a.eval o).run P w=.ok (.value (.int k (if n>m then n else m))) w:=by
   simp[execOp,hop,resolve,hc,ha',ht',invoke,builtin,h1,h2,Builtin.max_,Builtin.max2]
  exact OpOk.val run (Good.same hr h (.d (.int k _)))
 ·exact h.elim
theorem Ut(hr:Rel c hp U σ w)(E:∀x,AIs w (bI c w σ hp) σ hp U (ev fr x) (a.eval x)){x y:Operand}{tx ty:TypeId}{cl:Call}(hop:o.op=.call cl)(hc:cl.callee=.builtin .min)(ha:cl.args.toList=[x,y])(ht:cl.argTypes.toList=[tx,ty])
  (h:uN P fr hp N .min [x,y] [tx,ty] K):OpOk P c K hp U N σ w ((execOp a.eval o).run P w):=by
 simp only[uN]at h;have ha':cl.args=#[x,y]:=by rw[←Array.toArray_toList (xs:=cl.args),ha]
 have ht':cl.argTypes=#[tx,ty]:=by rw[←Array.toArray_toList (xs:=cl.argTypes),ht]
 split at h
 ·rename_i k m k' n hx hy;have h1:=dZ (hx▸E x);have h2:=dZ (hy▸E y)
  have run:(execOp a.eval o).run P w=.ok (.value (.int k (if n<m then n else m))) w:=by
   simp[execOp,hop,resolve,hc,ha',ht',invoke,builtin,h1,h2,Builtin.min_,Builtin.min2]
  exact OpOk.val run (Good.same hr h (.d (.int k _)))
 ·exact h.elim
theorem pn(hr:Rel c hp U σ w)(E:∀x,AIs w (bI c w σ hp) σ hp U (ev fr x) (a.eval x))(hN:Free U N)(h:bJ P fr hp N o.op K):OpOk P c K hp U N σ w ((execOp a.eval o).run P w):=by
 generalize hop:o.op=op at h
 cases op with
 |move x=>exact Hk hr E (.inl hop) h
 |assign x=>exact Hk hr E (.inr hop) h
 |pick x y z=>exact Qe hr E hop h
 |binOp op t x y t'=>exact Um hr E hop h
 |unOp op t x=>exact XB hr E hop h
 |nilCheck x=>exact Bf hr E hop h
 |extract x i=>exact Fo hr E hop h
 |convert s t x=>exact Fp hr E hop (fun bs el h1 h2 h3 h4 h5=>Bj hr E hop h1 h2 h3 h4 h5) (fun bs el h1 h2 h3 h4 h5 h6=>Bi hr E hop h1 h2 h3 h4 h5 h6) h
 |load t x=>exact Qg hr E hop h
 |fieldAddr t x i=>exact yP hr E hop h
 |indexAddr t x ix=>exact yQ hr E hop h
 |alloc t=>exact LC hr hN hop h
 |build t parts=>exact LD hr E hop h
 |buildSlice t n parts=>exact wX hr E hN hop h
 |slice t x lo hi m =>
  cases m with
  |none=>exact LF hr E hop h
  |some m=>exact Hv hr E hop h
 |index t x i=>exact LI hr E hop h
 |field t x i=>exact LH hr E hop h
 |makeSlice t l m=>exact Qj hr E hN hop h
 | makeFunc fn first caps =>
  cases fn with
  | func f =>
   simp only[bJ]at h
   split at h
   ·rename_i hf;obtain rfl:first=#[]:=by simpa using hf
    exact Bl hr E hop h
   ·obtain⟨rfl,h⟩:=h;exact FA hr E hop h
  |_=>exact h.elim
 |sliceToArrayPointer t x=>exact Ur hr E hop h
 |box t x=>exact Un hr E hN hop h
 |store t x v=>exact Ly hr E hop h
 |makeMap t r =>
  cases r with
  |none=>exact Ft hr hN hop h
  |some r=>exact h.elim
 |lookup t m x ok =>
  cases ok with
  |false=>exact Hu hr E hop h
  |true=>exact h.elim
 |mapUpdate t m x v=>exact yW hr E hop h
 | call cl =>
  simp only[bJ]at h
  split at h
  ·rename_i b hb;generalize ha:cl.args.toList=as at h;generalize ht:cl.argTypes.toList=ts at h
   cases b with
   |len =>
    match as,ts,h with
    |[x],[t],h=>exact Uo hr E hop hb ha ht h
   |append =>
    match as,ts,h with
    |[s,x],[t,u],h=>exact Ho hr E hN hop hb ha ht (fun el id i0 len tot k n z h1 h2 h3 h4 h5 h6 h7 h8 h9 h10=>Fz hr E hop hb ha ht h1 h2 h3 h4 h5 h6 h7 h8 h9 h10) h
   |copy =>
    match as,ts,h with
    |[s,x],[t,u],h=>exact Qk hr E hop hb ha ht h
   |max =>
    match as,ts,h with
    |[s,x],[t,u],h=>exact Us hr E hop hb ha ht h
   |min =>
    match as,ts,h with
    |[s,x],[t,u],h=>exact Ut hr E hop hb ha ht h
   |_=>exact h.elim
  ·rename_i f hf
   split at h
   ·exact Qh hr E hN hop hf ‹_› h
   ·exact LA hr E hN hop hf ‹_› h
   ·exact h.elim
  ·exact h.elim
 |_=>exact h.elim
end
end Go.Am
namespace Go.Am
section
variable {P:Program} {fr fr':Fr} {hp hp':Hp} {N N':Nat} {K K':AV→Hp→Prop}
theorem qq{d:Int}{x:Option Operand}(h:∀y,x=some y→ev fr y=ev fr' y):wS fr d x=wS fr' d x:=by
 cases x with
 |none=>rfl
 |some y=>simp only[wS,h y rfl]
theorem po{l:List (Nat×Operand)}(h:∀p,p∈l→ev fr p.2=ev fr' p.2):(l.map fun p=>(p.1,ev fr p.2))=l.map fun p=>(p.1,ev fr' p.2):=by
 apply List.map_congr_left;intro p hp;rw[h p hp]
theorem qu{op:Op}(h:∀x,x∈op.operands→ev fr x=ev fr' x):bJ P fr hp N op K=bJ P fr' hp N op K:=by
 cases op with
 |build t parts =>
  simp only[bJ];rw[po (fr:=fr) (fr':=fr') fun p hp=>h p.2 (by simp only[Op.operands,List.mem_toArray,List.mem_map];exact⟨p,hp,rfl⟩)]
 |buildSlice t n parts =>
  simp only[bJ];rw[po (fr:=fr) (fr':=fr') fun p hp=>h p.2 (by simp only[Op.operands,List.mem_toArray,List.mem_map];exact⟨p,hp,rfl⟩)]
 | slice t x lo hi m =>
  cases m with
  | some m =>
   have ho:Bc fr hi=Bc fr' hi:=by
    cases hi with
    |none=>rfl
    |some y=>simp only[Bc];rw[h y (by simp[Op.operands])]
   simp only[bJ];rw[h x (by simp[Op.operands]),qq (fr:=fr) (fr':=fr') (x:=lo) fun y hy=>h y (by subst hy;simp[Op.operands]),ho,h m (by simp[Op.operands])]
  |none =>
   simp only[bJ];rw[h x (by simp[Op.operands]),qq (fr:=fr) (fr':=fr') (x:=lo) fun y hy=>h y (by subst hy;simp[Op.operands]),qq (fr:=fr) (fr':=fr') (x:=hi) fun y hy=>h y (by subst hy;simp[Op.operands])]
 | call cl =>
  have ha:∀x,x∈cl.args.toList→ev fr x=ev fr' x:=fun x hx=>h x (by
   obtain⟨callee,args,ats⟩:=cl
   cases callee<;>simp_all[Op.operands,Call.operands])
  simp only[bJ]
  cases hc:cl.callee with
  | builtin b =>
   simp only;generalize cl.args.toList=as at ha;generalize cl.argTypes.toList=ts
   cases b with
   |len =>
    match as,ts,ha with
    |[],_,_=>rfl
    |[x],[],_=>rfl
    |[x],[t],ha=>simp only[uN];rw[ha x aw]
    |[x],_::_::_,_=>rfl
    |_::_::_,_,_=>rfl
   |append =>
    match as,ts,ha with
    |[],_,_=>rfl
    |[s],_,_=>rfl
    |[s,x],[],_=>rfl
    |[s,x],[_],_=>rfl
    |[s,x],[t,u],ha=>simp only[uN];rw[ha x aw,ha s aw]
    |[s,x],_::_::_::_,_=>rfl
    |_::_::_::_,_,_=>rfl
   |copy =>
    match as,ts,ha with
    |[],_,_=>rfl
    |[s],_,_=>rfl
    |[s,x],[],_=>rfl
    |[s,x],[_],_=>rfl
    |[s,x],[t,u],ha=>simp only[uN];rw[ha x aw,ha s aw]
    |[s,x],_::_::_::_,_=>rfl
    |_::_::_::_,_,_=>rfl
   |max =>
    match as,ts,ha with
    |[],_,_=>rfl
    |[s],_,_=>rfl
    |[s,x],[],_=>rfl
    |[s,x],[_],_=>rfl
    |[s,x],[t,u],ha=>simp only[uN];rw[ha x aw,ha s aw]
    |[s,x],_::_::_::_,_=>rfl
    |_::_::_::_,_,_=>rfl
   |min =>
    match as,ts,ha with
    |[],_,_=>rfl
    |[s],_,_=>rfl
    |[s,x],[],_=>rfl
    |[s,x],[_],_=>rfl
    |[s,x],[t,u],ha=>simp only[uN];rw[ha x aw,ha s aw]
    |[s,x],_::_::_::_,_=>rfl
    |_::_::_::_,_,_=>rfl
   |_=>rfl
  | value f =>
   simp only
   have hf:ev fr f=ev fr' f:=h f (by
    obtain⟨callee,args,ats⟩:=cl;simp only at hc;subst hc
    simp[Op.operands,Call.operands])
   have hm:cl.args.toList.map (ev fr)=cl.args.toList.map (ev fr'):=List.map_congr_left ha;rw[hf,hm]
  |invoke _ _=>rfl
 |move x=>simp only[bJ];rw[h x (by simp[Op.operands])]
 |assign x=>simp only[bJ];rw[h x (by simp[Op.operands])]
 |pick x y z=>simp only[bJ];rw[h x (by simp[Op.operands]),h y (by simp[Op.operands]),h z (by simp[Op.operands])]
 |binOp op t x y t'=>simp only[bJ];rw[h x (by simp[Op.operands]),h y (by simp[Op.operands])]
 |unOp op t x =>
  have hx:=h x (by simp[Op.operands])
  cases op<;>simp only[bJ]<;>rw[hx]
 |nilCheck x=>simp only[bJ];rw[h x (by simp[Op.operands])]
 |extract x i=>simp only[bJ];rw[h x (by simp[Op.operands])]
 |convert s t x=>simp only[bJ];rw[h x (by simp[Op.operands])]
 |load t x=>simp only[bJ];rw[h x (by simp[Op.operands])]
 |fieldAddr t x i=>simp only[bJ];rw[h x (by simp[Op.operands])]
 |indexAddr t x ix=>simp only[bJ];rw[h x (by simp[Op.operands]),h ix (by simp[Op.operands])]
 |box t x=>simp only[bJ];rw[h x (by simp[Op.operands])]
 |index t x i=>simp only[bJ];rw[h x (by simp[Op.operands]),h i (by simp[Op.operands])]
 |field t x i=>simp only[bJ];rw[h x (by simp[Op.operands])]
 | makeFunc fn first caps =>
  cases fn with
  |func f =>
   simp only[bJ];have hm:caps.toList.map (ev fr)=caps.toList.map (ev fr'):=List.map_congr_left fun x hx=>h x (by simp[Op.operands];exact .inr (by simpa using hx));have hf:first.toList.map (ev fr)=first.toList.map (ev fr'):=List.map_congr_left fun x hx=>h x (by simp[Op.operands];exact .inl (by simpa using hx))
   rw[hm,hf]
  |_=>rfl
 |makeSlice t l m=>simp only[bJ];rw[h l (by simp[Op.operands]),h m (by simp[Op.operands])]
 |sliceToArrayPointer t x=>simp only[bJ];rw[h x (by simp[Op.operands])]
 |store t x v=>simp only[bJ];rw[h x (by simp[Op.operands]),h v (by simp[Op.operands])]
 |lookup t m x ok=>cases ok<;>first|rfl|(simp only[bJ];rw[h m (by simp[Op.operands]),h x (by simp[Op.operands])])
 |mapUpdate t m x v=>simp only[bJ];rw[h m (by simp[Op.operands]),h x (by simp[Op.operands]),h v (by simp[Op.operands])]
 |makeMap t r=>cases r<;>rfl
 |_=>rfl
def rF(hp hp':Hp):Prop:=∀id b,lk id hp=some b→lk id hp'=some b
theorem Bm{hp hp':Hp}{sz:Nat}{v:AV}{xs:List (List AV)}(ha:rF hp hp')(h:cT hp sz v=some xs):cT hp' sz v=some xs:=by
 cases v with
 |own id i0 len tot =>
  simp only[cT]at h⊢
  cases hb:lk id hp with
  |none=>rw[hb]at h;cases h
  |some b=>rw[hb]at h;rw[ha _ _ hb];exact h
 |sub id i off e len cap tot =>
  simp only[cT]at h⊢
  cases hb:lk id hp with
  |none=>rw[hb]at h;cases h
  |some b=>rw[hb]at h;rw[ha _ _ hb];exact h
 |d v=>cases v<;>exact h
 |_=>exact h
def aV(P:Program):Op→Bool
 | .move _=>true
 | .assign _=>true
 | .pick ..=>true
 | .binOp _ t _ _ _=>match bR P t with
  | .slice _=>false
  |_=>true
 | .unOp ..=>true
 | .nilCheck _=>true
 | .extract ..=>true
 | .convert _ t _=>match bR P t with
  | .slice _=>false
  |_=>true
 | .sliceToArrayPointer ..=>true
 | .load ..=>true
 | .fieldAddr ..=>true
 | .indexAddr ..=>true
 | .index ..=>true
 | .field ..=>true
 | .build ..=>true
 | .slice ..=>true
 | .call cl=>match cl.callee with
  | .builtin .len=>true
  |_=>false
 |_=>false
def kO(P:Program)(fr:Fr)(hp:Hp)(op:Op)(v:AV):Prop:=∀hp' N' K',rF hp hp'→K' v hp'→bJ P fr hp' N' op K'
theorem Bn{op:BinOp}{k:IntKind}{x y:Int}(h:jM op k x y K hp):∃v,K v hp∧∀hp'(K':AV→Hp→Prop),K' v hp'→jM op k x y K' hp':=by
 cases op<;>simp only[jM]at h⊢
 case quo=>exact⟨_,h.2,fun _ _ q=>⟨h.1,q⟩⟩
 case rem=>exact⟨_,h.2,fun _ _ q=>⟨h.1,q⟩⟩
 case shl=>exact⟨_,h.2,fun _ _ q=>⟨h.1,q⟩⟩
 case shr=>exact⟨_,h.2,fun _ _ q=>⟨h.1,q⟩⟩
 all_goals exact⟨_,h,fun _ _ q=>q⟩
theorem Bo{op:BinOp}{t:TypeId}{x y:AV}(hs:(∀e,bR P t≠.slice e)∨(op≠.eql∧op≠.neq))(h:dc P op t x y K hp):∃v,K v hp∧∀hp'(K':AV→Hp→Prop),K' v hp'→dc P op t x y K' hp':=by
 unfold dc at h
 split at h
 ·obtain⟨h1,h2⟩:=h;obtain⟨v,q1,q2⟩:=Bn h2;exact⟨v,q1,fun hp' K' q=>by simp only[dc];exact⟨h1,q2 hp' K' q⟩⟩
 ·split at h
  ·exact⟨_,h.2,fun hp' K' q=>by simp only[dc];exact⟨h.1,q⟩⟩
  ·exact⟨_,h.2,fun hp' K' q=>by simp only[dc];exact⟨h.1,q⟩⟩
  ·exact h.elim
 ·split at h
  ·exact⟨_,h,fun hp' K' q=>by simp only[dc];exact q⟩
  ·exact⟨_,h,fun hp' K' q=>by simp only[dc];exact q⟩
  ·exact⟨_,h,fun hp' K' q=>by simp only[dc];exact q⟩
  ·exact⟨_,h,fun hp' K' q=>by simp only[dc];exact q⟩
  ·exact⟨_,h,fun hp' K' q=>by simp only[dc];exact q⟩
  ·exact⟨_,h,fun hp' K' q=>by simp only[dc];exact q⟩
  ·exact⟨_,h.2,fun hp' K' q=>by simp only[dc];exact⟨h.1,q⟩⟩
  ·exact h.elim
 ·split at h
  all_goals first|exact h.elim|exact absurd ‹bR P t=_› (hs.elim (fun h=>h _) fun h=>absurd rfl h.1)|exact absurd ‹bR P t=_› (hs.elim (fun h=>h _) fun h=>absurd rfl h.2)
 ·exact h.elim
theorem sV{op:BinOp}{t:TypeId}{b:Bool}(h:Lp P op t b K hp):∃v,K v hp∧∀hp'(K':AV→Hp→Prop),K' v hp'→Lp P op t b K' hp':=by
 obtain⟨h1,h⟩:=h
 split at h
 ·exact⟨_,h,fun hp' K' q=>⟨h1,q⟩⟩
 ·exact⟨_,h,fun hp' K' q=>⟨h1,q⟩⟩
 ·exact h.elim
theorem Hw{op:BinOp}{t:TypeId}{n:Nat}{el:TypeId}{k:Option IntKind}{a b:List AV}(h:Ph P op t n el k a b K hp):∃v,K v hp∧∀hp'(K':AV→Hp→Prop),K' v hp'→Ph P op t n el k a b K' hp':=by
 unfold Ph at h⊢
 split at h
 ·split at h
  ·obtain⟨h1,h2,h3,h4,h⟩:=h
   split at h
   ·exact⟨_,h,fun hp' K' q=>⟨h1,h2,h3,h4,q⟩⟩
   ·exact⟨_,h,fun hp' K' q=>⟨h1,h2,h3,h4,q⟩⟩
   ·exact h.elim
  ·exact h.elim
 ·exact h.elim
theorem Hy{op:BinOp}{t:TypeId}{a b:List AV}(h:Pi P op t a b K hp):∃v,K v hp∧∀hp'(K':AV→Hp→Prop),K' v hp'→Pi P op t a b K' hp':=by
 unfold Pi at h⊢
 split at h
 ·obtain⟨h1,h2,h3,h⟩:=h
  split at h
  ·exact⟨_,h,fun hp' K' q=>⟨h1,h2,h3,q⟩⟩
  ·exact⟨_,h,fun hp' K' q=>⟨h1,h2,h3,q⟩⟩
  ·exact h.elim
 ·exact h.elim
theorem vi{op:BinOp}{t:TypeId}{x y:AV}(hs:(∀e,bR P t≠.slice e)∨(op≠.eql∧op≠.neq))(h:cO P op t x y K hp):∃v,K v hp∧∀hp'(K':AV→Hp→Prop),K' v hp'→cO P op t x y K' hp':=by
 unfold cO at h⊢
 split at h
 ·exact sV h
 ·exact sV h
 ·exact sV h
 ·split at h
  ·exact Hw h
  ·exact Hy h
  ·exact h.elim
 ·exact Bo hs h
theorem FB{op:Op}(hk:aV P op=true)(h:bJ P fr hp N op K):∃v,K v hp∧kO P fr hp op v:=by
 unfold kO
 cases op with
 |move x=>exact⟨_,h,fun _ _ _ _ q=>q⟩
 |assign x=>exact⟨_,h,fun _ _ _ _ q=>q⟩
 | pick c a b =>
  simp only[bJ]at h⊢
  split at h
  ·rename_i t ht
   split at h
   ·rename_i x y hx hy;exact⟨_,h,fun hp' N' K' ha q=>q⟩
   ·rename_i hn
    cases t with
    |true =>
     refine⟨_,h.1 rfl,fun hp' N' K' ha q=>?_⟩;exact⟨fun _=>q,fun h=>by cases h⟩
    |false =>
     refine⟨_,h.2 rfl,fun hp' N' K' ha q=>?_⟩;exact⟨fun h=>(by cases h),fun _=>q⟩
  ·exact h.elim
 | binOp op t x y t' =>
  have hs:∀e,bR P t≠.slice e:=by
   intro e he;simp[aV,he]at hk
  obtain⟨v,h1,h2⟩:=vi (.inl hs) h;exact⟨v,h1,fun hp' N' K' _ q=>h2 hp' K' q⟩
 | unOp op t x =>
  cases op with
  |not =>
   simp only[bJ]at h⊢
   split at h
   ·exact⟨_,h,fun hp' N' K' ha q=>q⟩
   ·exact h.elim
  |neg =>
   simp only[bJ]at h⊢
   split at h
   ·exact⟨_,h,fun hp' N' K' ha q=>q⟩
   ·exact h.elim
  |xor =>
   simp only[bJ]at h⊢
   split at h
   ·exact⟨_,h,fun hp' N' K' ha q=>q⟩
   ·exact h.elim
  |_=>exact h.elim
 |nilCheck x =>
  simp only[bJ]at h⊢
  split at h
  all_goals first|exact⟨_,h,fun hp' N' K' ha q=>q⟩|exact h.elim
 | extract x i =>
  simp only[bJ]at h⊢
  split at h
  ·split at h
   ·exact⟨_,h,fun hp' N' K' ha q=>q⟩
   ·exact h.elim
  ·exact h.elim
 | convert s t x =>
  simp only[bJ]at h⊢
  split at h
  ·obtain⟨bs,h1,h2,h3⟩:=h
   split at h3
   ·exact⟨_,h3.2,fun hp' N' K' ha q=>⟨bs,h1,h2,h3.1,q⟩⟩
   ·exact h3.elim
  ·split at h
   ·exact⟨_,h,fun hp' N' K' ha q=>q⟩
   ·exact h.elim
  ·split at h
   ·rename_i el _ ht;simp[aV,ht]at hk
   ·exact h.elim
  ·rename_i v n1 n2 n3;obtain⟨bs,h1,h2,h3⟩:=h
   split at h3
   ·refine⟨_,h3.2,fun hp' N' K' ha q=>⟨bs,Bm ha h1,h2,h3.1,q⟩⟩
   ·exact h3.elim
 | sliceToArrayPointer t x =>
  simp only[bJ]at h⊢;unfold Fh at h⊢
  split at h
  ·exact⟨_,h.2.2,fun hp' N' K' ha q=>⟨h.1,h.2.1,q⟩⟩
  ·split at h
   ·rename_i b hb;refine⟨_,h.2.2.2,fun hp' N' K' ha q=>?_⟩;simp only[ha _ _ hb];exact⟨h.1,h.2.1,h.2.2.1,q⟩
   ·exact h.elim
  ·exact h.elim
 | load t x =>
  simp only[bJ]at h⊢
  split at h
  ·split at h
   ·rename_i b hb
    split at h
    ·rename_i row hrow;obtain⟨ht,h⟩:=h
     split at h
     ·rename_i v hv;refine⟨v,h,fun hp' N' K' ha q=>?_⟩;rw[ha _ _ hb];simp only[hrow,hv];exact⟨ht,q⟩
     ·exact h.elim
    ·exact h.elim
   ·exact h.elim
  ·split at h
   ·exact⟨_,h,fun hp' N' K' ha q=>q⟩
   ·exact h.elim
  ·exact h.elim
 |fieldAddr t x i =>
  simp only[bJ]at h⊢
  split at h
  ·exact⟨_,h.2,fun hp' N' K' ha q=>⟨h.1,q⟩⟩
  ·exact⟨_,h.2,fun hp' N' K' ha q=>⟨h.1,q⟩⟩
  ·exact h.elim
 | indexAddr t x ix =>
  simp only[bJ]at h⊢
  split at h
  ·split at h
   ·obtain⟨h0,h1,h2,h⟩:=h
    split at h
    ·exact⟨_,h,fun hp' N' K' ha q=>⟨h0,h1,h2,q⟩⟩
    ·exact h.elim
   ·obtain⟨h0,h1,h⟩:=h
    split at h
    ·rename_i b hb;obtain⟨k1,k2,k3,h⟩:=h;refine⟨_,h,fun hp' N' K' ha q=>?_⟩;rw[ha _ _ hb];exact⟨h0,h1,k1,k2,k3,q⟩
    ·exact h.elim
   ·obtain⟨h0,h1,h⟩:=h
    split at h
    ·rename_i b hb;obtain⟨k1,k2,k3,h⟩:=h;refine⟨_,h,fun hp' N' K' ha q=>?_⟩;rw[ha _ _ hb];exact⟨h0,h1,k1,k2,k3,q⟩
    ·exact h.elim
   ·exact⟨_,h.2.2.2,fun hp' N' K' ha q=>⟨h.1,h.2.1,h.2.2.1,q⟩⟩
   ·exact⟨_,h.2.2.2,fun hp' N' K' ha q=>⟨h.1,h.2.1,h.2.2.1,q⟩⟩
   ·exact h.elim
  ·exact h.elim
 | field t x i =>
  simp only[bJ]at h⊢
  split at h
  ·split at h
   ·exact⟨_,h,fun hp' N' K' ha q=>q⟩
   ·exact h.elim
  ·exact h.elim
 | index t x i =>
  simp only[bJ]at h⊢
  split at h
  ·obtain⟨h0,h1,h⟩:=h
   split at h
   ·obtain⟨h2,h⟩:=h
    split at h
    ·exact⟨_,h,fun hp' N' K' ha q=>⟨h0,h1,h2,q⟩⟩
    ·exact h.elim
   ·obtain⟨h2,h⟩:=h
    split at h
    ·exact⟨_,h,fun hp' N' K' ha q=>⟨h0,h1,h2,q⟩⟩
    ·exact h.elim
   ·obtain⟨h2,h⟩:=h
    split at h
    ·exact⟨_,h,fun hp' N' K' ha q=>⟨h0,h1,h2,q⟩⟩
    ·exact h.elim
   ·exact h.elim
  ·obtain⟨h0,h⟩:=h
   split at h
   ·exact⟨_,h,fun hp' N' K' ha q=>⟨h0,q⟩⟩
   ·exact h.elim
  ·exact h.elim
 | build t parts =>
  simp only[bJ]at h⊢
  split at h
  ·unfold qo at h⊢
   split at h
   ·obtain⟨h1,h⟩:=h
    split at h
    ·exact⟨_,h,fun hp' N' K' ha q=>⟨h1,q⟩⟩
    ·exact h.elim
   ·obtain⟨h1,h⟩:=h
    split at h
    ·exact⟨_,h,fun hp' N' K' ha q=>⟨h1,q⟩⟩
    ·exact h.elim
   ·exact h.elim
  ·exact h.elim
 | slice t x lo hi m =>
  cases m with
  |some m =>
   simp only[bJ]at h⊢;unfold lm at h⊢
   split at h
   ·exact⟨_,h.2.2.2.2.2.2,fun hp' N' K' ha q=>⟨h.1,h.2.1,h.2.2.1,h.2.2.2.1,h.2.2.2.2.1,h.2.2.2.2.2.1,q⟩⟩
   ·exact⟨_,h.2.2.2.2,fun hp' N' K' ha q=>⟨h.1,h.2.1,h.2.2.1,h.2.2.2.1,q⟩⟩
   ·exact⟨_,h.2.2.2.2,fun hp' N' K' ha q=>⟨h.1,h.2.1,h.2.2.1,h.2.2.2.1,q⟩⟩
   ·exact h.elim
  | none =>
   simp only[bJ]at h⊢;generalize ev fr x=xa at h⊢;generalize bR P t=k at h⊢;generalize wS fr 0 lo=bl at h⊢;generalize wS fr (AV.topLen k xa) hi=bh at h⊢;unfold gn at h
   split at h
   ·obtain⟨q1,q2,q3,h⟩:=h;exact⟨_,h,fun hp' N' K' ha q=>⟨q1,q2,q3,q⟩⟩
   ·obtain⟨q1,q2,q3,q4,q5,h⟩:=h;exact⟨_,h,fun hp' N' K' ha q=>⟨q1,q2,q3,q4,q5,q⟩⟩
   ·split at h
    ·rename_i b hb;obtain⟨q1,q2,q3,q4,q5,h⟩:=h;refine⟨_,h,fun hp' N' K' ha q=>?_⟩;simp only[gn];rw[ha _ _ hb];exact⟨q1,q2,q3,q4,q5,q⟩
    ·exact h.elim
   ·obtain⟨q1,q2,q3,q4,q5,h⟩:=h;exact⟨_,h,fun hp' N' K' ha q=>⟨q1,q2,q3,q4,q5,q⟩⟩
   ·split at h
    ·rename_i b hb;obtain⟨q1,q2,q3,q4,q5,q6,h⟩:=h;refine⟨_,h,fun hp' N' K' ha q=>?_⟩;simp only[gn];rw[ha _ _ hb];exact⟨q1,q2,q3,q4,q5,q6,q⟩
    ·exact h.elim
   ·obtain⟨q1,q2,q3,q4,q5,h⟩:=h;exact⟨_,h,fun hp' N' K' ha q=>⟨q1,q2,q3,q4,q5,q⟩⟩
   ·obtain⟨q1,q2,q3,h⟩:=h;exact⟨_,h,fun hp' N' K' ha q=>⟨q1,q2,q3,q⟩⟩
   ·exact h.elim
 | call cl =>
  simp only[bJ]at h⊢
  cases hc:cl.callee with
  | builtin b =>
   simp only[hc]at h;generalize cl.args.toList=as at h;generalize cl.argTypes.toList=ts at h
   cases b with
   | len =>
    simp only
    match as,ts,h with
    | [x],[t],h =>
     simp only[uN]at h⊢
     split at h
     ·exact⟨_,h,fun hp' N' K' ha q=>q⟩
     ·exact⟨_,h,fun hp' N' K' ha q=>q⟩
     ·split at h
      ·exact⟨_,h,fun hp' N' K' ha q=>q⟩
      ·exact h.elim
     ·exact h.elim
   |_=>simp[aV,hc]at hk
  |_=>simp[aV,hc]at hk
 |_=>simp[aV]at hk
def FC:Op→Bool
 | .move _=>true
 | .assign _=>true
 | .binOp op _ _ _ _=>match op with
  | .eql=>false
  | .neq=>false
  |_=>true
 |_=>false
theorem LJ{hp0:Hp}{fr:Fr}{op:Op}{v:AV}(hk:FC op=true)(hs:kO P fr hp0 op v)(hp':Hp)(N':Nat)(K':AV→Hp→Prop)(q:K' v hp'):bJ P fr hp' N' op K':=by
 have h:=hs hp0 0 (fun r _=>r=v) (fun _ _ h=>h) rfl
 cases op with
 |move x=>simp only[bJ]at h⊢;rw[h];exact q
 |assign x=>simp only[bJ]at h⊢;rw[h];exact q
 |binOp op t x y t' =>
  simp only[bJ]at h⊢;obtain⟨v',h1,h2⟩:=vi (.inr (by cases op<;>simp[FC]at hk⊢)) h;subst h1;exact h2 hp' K' q
 |_=>simp[FC]at hk
end
end Go.Am
namespace Go.Am
def bS(ops:Array Oper)(j:Nat):Option Tmp:=(ops[j]?).bind (·.dst)
def fV(ops:Array Oper)(j:Nat):List Tmp:=match ops[j]? with
 |some o=>o.looksAt ops
 |none=>[]
inductive Waits(ops:Array Oper):Nat→Nat→Prop
 |edge {j:Nat} {o:Oper} {e:Edge} (ho:ops[j]?=some o) (he:e∈o.after) (hb:Region.binds .any e=true):Waits ops j e.on
 |step {j i:Nat} {o:Oper} {e:Edge} (ho:ops[j]?=some o) (he:e∈o.after) (hb:Region.binds .any e=true) (h:Waits ops e.on i):Waits ops j i
def Dv(ms:List Nat):List Edge→Nat→Nat
 |[],acc=>acc
 |e::r,acc=>Dv ms r (if Region.binds .any e=true then acc ||| 2 ^ e.on ||| ms.getD e.on 0 else acc)
def Hz:List Oper→List Nat→List Nat
 |[],ms=>ms
 |o::r,ms=>Hz r (ms++[Dv ms o.after.toList 0])
def wt(ms:List Nat)(j i:Nat):Bool:=(ms.getD j 0).testBit i
theorem vj(ms:List Nat)(i:Nat):∀(l:List Edge)(acc:Nat),(Dv ms l acc).testBit i=true→acc.testBit i=true∨∃e,e∈l∧Region.binds .any e=true∧(e.on=i∨wt ms e.on i=true)
 |[],acc,h=>.inl h
 | e :: r,acc,h=>by
  rcases vj ms i r _ h with h1|⟨e',h1,h2,h3⟩
  ·split at h1
   ·rename_i hb;rw[Nat.testBit_or,Nat.testBit_or,Bool.or_eq_true,Bool.or_eq_true]at h1;rcases h1 with (h1|h1)|h1
    ·exact .inl h1
    ·rw[Nat.testBit_two_pow]at h1;exact .inr ⟨e,d7 ..,hb,.inl (by simpa using h1)⟩
    ·exact .inr ⟨e,d7 ..,hb,.inr h1⟩
   ·exact .inl h1
  ·exact .inr ⟨e',cU _ h1,h2,h3⟩
theorem yY{ops:Array Oper}:∀(l:List Oper)(ms:List Nat),(∀k o,l[k]?=some o→ops[ms.length+k]?=some o)→(∀j i,wt ms j i=true→Waits ops j i)→∀j i,wt (Hz l ms) j i=true→Waits ops j i
 |[],ms,_,h,j,i,hw=>h j i hw
 | o :: r,ms,ho,h,j,i,hw=>by
  refine yY r (ms++[Dv ms o.after.toList 0]) (fun k o' hk=>?_) (fun j i hw=>?_) j i hw
  ·have:=ho (k+1) o' (by simpa using hk);rw[b_,List.length_singleton,show ms.length+1+k=ms.length+(k+1)by omega];exact this
  ·unfold wt at hw;rcases Nat.lt_trichotomy j ms.length with hj|hj|hj
   ·rw[cS,List.getElem?_append_left hj,←cS]at hw;exact h j i hw
   ·subst hj;rw[cS,dz (cR _),Nat.sub_self,List.getElem?_cons_zero,Option.getD_some]at hw;have ho0:ops[ms.length]?=some o:=by simpa using ho 0 o rfl
    rcases vj ms i _ _ hw with h1|⟨e,h1,h2,h3⟩
    ·simp at h1
    ·rw[Array.mem_toList_iff]at h1;rcases h3 with rfl|h3
     ·exact .edge ho0 h1 h2
     ·exact .step ho0 h1 h2 (h _ _ h3)
   ·rw[cS,List.getElem?_eq_none (by simp;omega)]at hw;simp at hw
def Ql(ops:Array Oper):List Nat:=Hz ops.toList []
theorem jP{ops:Array Oper}{j i:Nat}(h:wt (Ql ops) j i=true):Waits ops j i :=
 yY ops.toList [] (fun k o hk=>by simpa using hk) (fun j i h=>by simp[wt]at h) j i h
def wZ(ms:List Nat):List Nat→Bool
 |a::b::r=>wt ms b a&&wZ ms (b::r)
 |_=>true
def qw(ops:Array Oper):List Nat→Prop
 |a::b::r=>Waits ops b a∧qw ops (b::r)
 |_=>True
def fL(ops:Array Oper):List Nat→Bool
 |[]=>true
 | z :: r=>(z :: r).all (fun y=>match bS ops y with
   |some d=>!(fV ops z).contains d
   |none=>true)&&fL ops r
def dL:List Nat→Bool
 |[]=>true
 |a::r=>!r.contains a&&dL r
abbrev jw:=List (Nat×List Nat)
def fe:jw→List Nat
 |[]=>[]
 |s::r=>s.1::fe r
def pp:jw→List Nat
 |[]=>[]
 |s::r=>s.2++pp r
def sW:jw→List Nat
 |[]=>[]
 |s::r=>s.1::(s.2++sW r)
def LK(ops:Array Oper)(ms:List Nat):List Nat→jw→Bool
 |_,[]=>true
 | zv,s :: r=>(match bS ops s.1 with
   |some d=>zv.all fun z=>!(fV ops z).contains d||wt ms s.1 z
   |none=>true)&&(s.2.all fun z=>wt ms z s.1)&&LK ops ms (zv++s.2) r
def HA(ops:Array Oper):List Nat→jw→Prop
 |_,[]=>True
 |zv,s::r=>(∀d,bS ops s.1=some d→∀z,z∈zv→d∈fV ops z→Waits ops s.1 z)∧(∀z,z∈s.2→Waits ops z s.1)∧HA ops (zv++s.2) r
theorem HB{ops:Array Oper}:∀{zv:List Nat}{ss:jw},LK ops (Ql ops) zv ss=true→HA ops zv ss
 |_,[],_=>trivial
 |zv,s::r,h=>by
  simp only[LK,Bool.and_eq_true]at h;obtain⟨⟨h1,h2⟩,h3⟩:=h;refine⟨fun d hd z hz hl=>?_,fun z hz=>jP (d9.1 h2 z hz),HB h3⟩;simp only[hd]at h1;have:=d9.1 h1 z hz;simp only[hl,List.contains_eq_mem,decide_true,Bool.not_true,Bool.false_or]at this;exact jP this
theorem yZ{ops:Array Oper}:∀{l:List Nat},wZ (Ql ops) l=true→qw ops l
 |[],_=>trivial
 |[_],_=>trivial
 |a::b::r,h=>by
  simp only[wZ,Bool.and_eq_true]at h;exact⟨jP h.1,yZ h.2⟩
def Uu(n:Nat)(ops:Array Oper)(ms:List Nat)(zs:List Nat)(ss:jw)(m:Nat)(za is:List Nat):Bool :=
 (List.range ops.size).all (fun j=>(za.contains j||is.contains j)&&!(za.contains j&&is.contains j)) &&
 is.all (fun j=>decide (j<ops.size))&&za.all (fun j=>decide (j<ops.size))&&dL is&&dL za &&
 (List.range ops.size).all (fun i=>match bS ops i with
  |some d=>decide (d<n)&&(List.range ops.size).all fun j=>j==i||bS ops j != some d
  |none=>true) &&
 za.all (fun z=>match bS ops z with
  |some d=>(List.range ops.size).all fun j=>!(fV ops j).contains d||wt ms j z
  |none=>true) &&
 LK ops ms zs ss &&
 wZ ms is&&fL ops za &&
 (is.drop m).all (fun i=>za.all fun z=>wt ms i z) &&
 (List.range ops.size).all (fun j=>match ops[j]? with
  |some o=>o.after.all fun e=>!Region.binds .any e||decide (e.on<j)
  |none=>true)
def Bq(n:Nat)(ops:Array Oper)(zs:List Nat)(ss:jw)(m:Nat):Bool:=Uu n ops (Ql ops) zs ss m (zs++pp ss) (fe ss)
section
variable (P:Program) (n:Nat) (ops:Array Oper) (base:Nat) (hp0:Hp) (K:Fr→Hp→Prop)
def dM(hp':Hp):Prop:=∀p,p∈hp0→lk p.1 hp'=lk p.1 hp0
def Pl(fr:Fr)(N:Nat)(op:Op)(next:AV→Prop):Prop :=
 if aV P op=true then bJ P fr hp0 N op (fun v _=>next v)else ∃v,kO P fr hp0 op v∧next v
def zW (C:Fr→Prop):List Nat→Fr→Prop
 |[],fr=>C fr
 | z :: r,fr=>match ops[z]? with
  | some o=>(match o.guard with
   |none=>Pl P hp0 fr base o.op fun v=>zW C r (bn fr o.dst v)
   | some (g,want)=>(match (ops[g]?).bind (·.dst) with
    |some d=>(match fv d fr with
     | .d (.bool b)=>(b=want→Pl P hp0 fr base o.op fun v=>zW C r (bn fr o.dst v))∧(b=!want→zW C r (bn fr o.dst (.tup [])))
     | .tup []=>zW C r (bn fr o.dst (.tup []))
     |_=>False)
    |none=>False))
  |none=>False
def A7:jw→Nat→Fr→Hp→Prop
 |[],_,fr,hp=>K fr hp
 | s :: r,m,fr,hp=>match ops[s.1]? with
  | some o=>(match o.guard with
   |none=>bJ P fr hp (base+32*s.1) o.op fun v hp'=>(m≠0→dM hp0 hp')∧zW P ops base hp0 (fun fr=>A7 r (m-1) fr hp') s.2 (bn fr o.dst v)
   | some (g,want)=>(match (ops[g]?).bind (·.dst) with
    |some d=>(match fv d fr with
     | .d (.bool b)=>(b=want→bJ P fr hp (base+32*s.1) o.op fun v hp'=>(m ≠ 0→dM hp0 hp')∧zW P ops base hp0 (fun fr=>A7 r (m - 1) fr hp') s.2 (bn fr o.dst v)) ∧
       (b=!want→zW P ops base hp0 (fun fr=>A7 r (m-1) fr hp) s.2 (bn fr o.dst (.tup [])))
     | .tup []=>zW P ops base hp0 (fun fr=>A7 r (m-1) fr hp) s.2 (bn fr o.dst (.tup []))
     |_=>False)
    |none=>False))
  |none=>False
def HC(fr:Fr)(v:AV)(o:Oper):Prop :=
 match o.guard with
 |none=>kO P fr hp0 o.op v
 |some (g,want)=>∃d,(ops[g]?).bind (·.dst)=some d∧((∃b,fv d fr=.d (.bool b)∧(b=want→kO P fr hp0 o.op v)∧(b=!want→v=.tup []))∨(fv d fr=.tup []∧v=.tup []))
def HD(z:Nat)(fr:Fr):Prop:=∃v o,ops[z]?=some o∧(∀d,o.dst=some d→fv d fr=v)∧HC P ops hp0 fr v o
end
section
variable {P:Program} {c:Ctx} {ops:Array Oper} {base:Nat} {hp0:Hp} {K:Fr→Hp→Prop} {fr fr':Fr}
theorem sX{o:Oper}(h:∀t,t∈o.looksAt ops→fv t fr=fv t fr'):∀x,x∈o.op.operands→ev fr x=ev fr' x:=by
 intro x hx
 cases x with
 |tmp t =>
  refine h t ?_;unfold Oper.looksAt;rw[cL];left;rw[List.mem_filterMap];exact⟨.tmp t,by simpa using hx,rfl⟩
 |_=>rfl
theorem jb{o:Oper}{g:Nat}{want:Bool}{d:Tmp}(hg:o.guard=some (g,want))(hd:(ops[g]?).bind (·.dst)=some d):d∈o.looksAt ops:=by
 unfold Oper.looksAt;rw[cL];right;simp[hg,hd]
theorem km{o:Oper}{v:AV}(h:∀t,t∈o.looksAt ops→fv t fr=fv t fr')(hs:kO P fr hp0 o.op v):kO P fr' hp0 o.op v:=by
 intro hp' N' K' ha hk;rw[←qu (sX h)];exact hs hp' N' K' ha hk
theorem qA{o:Oper}{v:AV}(h:∀t,t∈o.looksAt ops→fv t fr=fv t fr')(hz:HC P ops hp0 fr v o):HC P ops hp0 fr' v o:=by
 unfold HC at hz⊢
 split at hz
 ·exact km h hz
 ·rename_i g want hg;obtain⟨d,h1,hz⟩:=hz;have e:=h d (jb hg h1);rcases hz with ⟨b,h2,h3,h4⟩|⟨h2,h3⟩
  ·exact⟨d,h1,.inl ⟨b,by rw[←e];exact h2,fun q=>km h (h3 q),h4⟩⟩
  ·exact⟨d,h1,.inr ⟨by rw[←e];exact h2,h3⟩⟩
theorem kD{dst:Option Tmp}{v:AV}{t:Nat}(h:dst≠some t):fv t (bn fr dst v)=fv t fr:=by
 cases dst with
 |none=>rfl
 |some d =>
  simp only[bn,jv];rw[if_neg (fun e=>h (by rw[e]))]
theorem jc{d:Tmp}{v:AV}:fv d (bn fr (some d) v)=v:=by simp[bn,jv]
theorem mA{C:Fr→Prop}(hu:∀i j d,bS ops i=some d→bS ops j=some d→i=j):∀(zs:List Nat)(fr:Fr),fL ops zs=true→dL zs=true→zW P ops base hp0 C zs fr →
  ∃frZ,C frZ∧(∀t,(∀z,z∈zs→bS ops z≠some t)→fv t frZ=fv t fr)∧∀z,z∈zs→HD P ops hp0 z frZ
 |[],fr,_,_,h=>⟨fr,h,fun _ _=>rfl,aw⟩
 | z :: r,fr,ho,hn,h=>by
  simp only[fL,Bool.and_eq_true]at ho;simp only[dL,Bool.and_eq_true]at hn;obtain⟨ho1,ho2⟩:=ho;simp only[zW]at h
  cases hz:ops[z]? with
  |none=>rw[hz]at h;exact h.elim
  | some o =>
   rw[hz]at h;simp only at h;have hdz:bS ops z=o.dst:=by simp[bS,hz]
   have hlz:fV ops z=o.looksAt ops:=by simp[fV,hz]
   -- what is read is put by none of these
   have hno:∀y,y∈z::r→∀t,t∈o.looksAt ops→bS ops y≠some t:=by
    intro y hy t ht he;have:=d9.1 ho1 y hy;simp only[he,hlz,Bool.not_eq_true',List.contains_eq_mem,decide_eq_false_iff_not]at this;exact this ht
   -- from one value
   have go:∀v,HC P ops hp0 fr v o→zW P ops base hp0 C r (bn fr o.dst v)→∃frZ,C frZ∧(∀t,(∀y,y∈z::r→bS ops y≠some t)→fv t frZ=fv t fr)∧∀y,y∈z::r→HD P ops hp0 y frZ:=by
    intro v hv hrest;obtain⟨frZ,h1,h2,h3⟩:=mA hu r _ ho2 hn.2 hrest;refine⟨frZ,h1,fun t ht=>?_,fun y hy=>?_⟩
    ·rw[h2 t fun y hy=>ht y (cU _ hy)];exact kD (by rw[←hdz];exact ht z (d7 ..))
    ·rcases et.1 hy with rfl|hy
     ·refine⟨v,o,hz,fun d hd=>?_,qA (fun t ht=>?_) hv⟩
      ·rw[h2 d fun y' hy' he=>?_]
       ·rw[hd];exact jc
       ·have:=hu y' y d he (by rw[hdz];exact hd);subst this;have hn1:=hn.1;simp only[Bool.not_eq_true',List.contains_eq_mem,decide_eq_false_iff_not]at hn1;exact hn1 hy'
      ·rw[h2 t fun y' hy'=>hno y' (cU _ hy') t ht,kD];rw[←hdz];exact hno _ (d7 ..) t ht
     ·exact h3 y hy
   have one:∀next:AV→Prop,Pl P hp0 fr base o.op next→∃v,kO P fr hp0 o.op v∧next v:=by
    intro next hq;unfold Pl at hq
    split at hq
    ·rename_i hk;obtain⟨v,q1,q2⟩:=FB hk hq;exact⟨v,q2,q1⟩
    ·exact hq
   split at h
   ·rename_i hg;obtain⟨v,q1,q2⟩:=one _ h;exact go v (by unfold HC;rw[hg];exact q1) q2
   ·rename_i g want hg
    split at h
    ·rename_i d hd
     split at h
     ·rename_i b hb;by_cases hbw:b=want
      ·obtain⟨v,q1,q2⟩:=one _ (h.1 hbw);exact go v (by unfold HC;rw[hg];exact⟨d,hd,.inl ⟨b,hb,fun _=>q1,fun h'=>by rw[hbw]at h';cases want<;>cases h'⟩⟩) q2
      ·have hbn:b=!want:=by cases b<;>cases want<;>simp_all
       exact go (.tup []) (by unfold HC;rw[hg];exact⟨d,hd,.inl ⟨b,hb,fun h'=>absurd h' hbw,fun _=>rfl⟩⟩) (h.2 hbn)
     ·rename_i hb;exact go (.tup []) (by unfold HC;rw[hg];exact⟨d,hd,.inr ⟨hb,rfl⟩⟩) h
     ·exact h.elim
    ·exact h.elim
theorem Br(fr:Fr):∀l:List Tmp,∃frm:Fr,(∀t,t∈l→fv t frm=.any)∧∀t,t ∉ l→fv t frm=fv t fr
 |[]=>⟨fr,aw,fun _ _=>rfl⟩
 | d :: l=>by
  obtain⟨frm,h1,h2⟩:=Br fr l;refine⟨(d,.any)::frm,fun t ht=>?_,fun t ht=>?_⟩
  ·rw[jv]
   split
   ·rfl
   ·rename_i hne;rcases et.1 ht with rfl|h
    ·exact absurd rfl hne
    ·exact h1 t h
  ·rw[jv,if_neg (fun e=>ht (by rw[←e];exact d7 ..))];exact h2 t fun h=>ht (cU _ h)
def LL(listed:Array Bool):Nat:=(listed.toList.filter fun b=>!b).length
theorem sk{listed:Array Bool}{i:Nat}(h:listed.getD i true=false):LL (listed.setIfInBounds i true)+1=LL listed:=by
 unfold LL;rw[Array.toList_setIfInBounds]
 have h':listed.toList[i]?=some false:=by
  cases hi:listed[i]? with
  |none=>simp[cx,hi]at h
  |some b=>simp[cx,hi]at h;subst h;simpa using hi
 clear h;generalize listed.toList=l at h'
 induction l generalizing i with
 |nil=>simp at h'
 | cons b r ih =>
  cases i with
  |zero=>simp at h';subst h';simp
  |succ i =>
   simp only[List.getElem?_cons_succ]at h';have:=ih h';simp only[List.set_cons_succ,List.filter_cons]
   split<;>simp_all<;>omega
structure RInv(P:Program)(c:Ctx)(ops:Array Oper)(base:Nat)(hp0:Hp)(za zs rest:List Nat)(listed:Array Bool)(fr:Fr)(hp:Hp)(a:Act)(w:World):Prop where
 size:listed.size=ops.size
 closed:∀j o,ops[j]?=some o→listed.getD j false=true→∀e,e∈o.after→Region.binds .any e=true→listed.getD e.on false=true
 un:∀j,j∈rest→listed.getD j true=false
 done:∀j,j<ops.size→j ∉ zs→j ∉ rest→listed.getD j false=true
 def_:a.defers=[]
 tmps:a.tmps.size=c.n
 sim:∃U σ,Rel c hp U σ w∧yN c hp U σ w∧(∀k,U k→k<base∨∃j,base+32*j≤k∧k<base+32*j+32∧listed.getD j false=true) ∧
  ∀t,(∀z,z∈zs→listed.getD z true=false→bS ops z≠some t)→AIs w (bI c w σ hp) σ hp U (fv t fr) (a.tmps.getD t undef)
 facts:∀z,z∈zs→listed.getD z true=false→HD P ops hp0 z fr
 sa:rF hp0 hp∨∀z,z∈za→listed.getD z true=true
theorem lq{listed:Array Bool}(hc:∀j o,ops[j]?=some o→listed.getD j false=true→∀e,e∈o.after→Region.binds .any e=true→listed.getD e.on false=true){j i:Nat}(hw:Waits ops j i) :
  (∀o,ops[j]?=some o→∀e,e∈o.after→Region.binds .any e=true→listed.getD e.on false=true)→listed.getD i false=true:=by
 induction hw with
 |edge ho he hb=>intro h;exact h _ ho _ he hb
 |step ho he hb _ ih=>intro h;exact ih fun o' ho'=>hc _ o' ho' (h _ ho _ he hb)
theorem jx{listed:Array Bool}{i:Nat}(h:listed.getD i false=true):listed.getD i true=true:=by
 simp only[cx]at h⊢
 cases hi:listed[i]? with
 |none=>rfl
 |some b=>rw[hi]at h;simpa using h
theorem iR{listed:Array Bool}{i:Nat}(hi:i<listed.size)(h:listed.getD i false=false):listed.getD i true=false:=by
 simp only[cx]at h⊢;rw[dn hi]at h⊢
 simpa using h
theorem aI{listed:Array Bool}{i j:Nat}(d:Bool)(hi:i<listed.size):(listed.setIfInBounds i true).getD j d=if i=j then true else listed.getD j d:=by
 simp only[cx,Array.getElem?_setIfInBounds]
 split
 ·rename_i h;subst h;simp[hi]
 ·rfl
theorem sY:∀(l:List Nat)(j:Nat),qw ops (j::l)→∀i,i∈l→∃p,p∈j::l∧Waits ops i p
 |[],_,_,_,h=>by simp at h
 |b::r,j,hc,i,hi=>by
  rcases et.1 hi with rfl|h
  ·exact⟨j,d7 ..,hc.1⟩
  ·obtain⟨p,h1,h2⟩:=sY r b hc.2 i h;exact⟨p,cU _ h1,h2⟩
theorem oh:∀{ss:jw}{i:Nat},i∈fe ss→i∈sW ss
 |s::r,i,h=>by
  rcases et.1 h with rfl|h
  ·exact d7 ..
  ·exact cU _ (cL.2 (.inr (oh h)))
theorem vu:∀{ss:jw}{i:Nat},i∈pp ss→i∈sW ss
 |s::r,i,h=>by
  rcases cL.1 h with h|h
  ·exact cU _ (cL.2 (.inl h))
  ·exact cU _ (cL.2 (.inr (vu h)))
theorem pq:∀{ss:jw}{i:Nat},i∈sW ss→i∈fe ss∨i∈pp ss
 | s :: r,i,h=>by
  rcases et.1 h with rfl|h
  ·exact .inl (d7 ..)
  ·rcases cL.1 h with h|h
   ·exact .inr (cL.2 (.inl h))
   ·rcases pq h with h|h
    ·exact .inl (cU _ h)
    ·exact .inr (cL.2 (.inr h))
theorem y7:∀{zv:List Nat}{ss:jw}{i:Nat},HA ops zv ss→i∈pp ss→∃p,p∈fe ss∧Waits ops i p
 |zv,s::r,i,h,hi=>by
  rcases cL.1 hi with h1|h1
  ·exact⟨s.1,d7 ..,h.2.1 i h1⟩
  ·obtain⟨p,h2,h3⟩:=y7 h.2.2 h1;exact⟨p,cU _ h2,h3⟩
theorem jQ:∀{a b:List Nat},fL ops (a++b)=true→fL ops a=true∧fL ops b=true∧∀z,z∈a→∀y,y∈b→∀t,t∈fV ops z→bS ops y≠some t
 |[],b,h=>⟨rfl,h,aw⟩
 | z :: r,b,h=>by
  simp only[List.cons_append,fL,Bool.and_eq_true]at h;obtain⟨h1,h2⟩:=h;obtain⟨k1,k2,k3⟩:=jQ h2;refine⟨?_,k2,fun x hx y hy t ht he=>?_⟩
  ·simp only[fL,Bool.and_eq_true];refine⟨d9.2 fun y hy=>d9.1 h1 y ?_,k1⟩;rcases et.1 hy with rfl|h
   ·exact d7 ..
   ·exact cU _ (cL.2 (.inl h))
  ·rcases et.1 hx with rfl|hx
   ·have:=d9.1 h1 y (cU _ (cL.2 (.inr hy)));simp only[he,Bool.not_eq_true',List.contains_eq_mem,decide_eq_false_iff_not]at this;exact this ht
   ·exact k3 x hx y hy t ht he
theorem iF:∀{a b:List Nat},dL (a++b)=true→dL a=true∧dL b=true∧∀z,z∈a→z ∉ b
 |[],b,h=>⟨rfl,h,aw⟩
 |z::r,b,h=>by
  simp only[List.cons_append,dL,Bool.and_eq_true,Bool.not_eq_true',List.contains_eq_mem,decide_eq_false_iff_not,cL,not_or]at h;obtain⟨⟨h1,h1'⟩,h2⟩:=h;obtain⟨k1,k2,k3⟩:=iF h2;refine⟨by simp[dL,h1,k1],k2,fun x hx=>?_⟩;rcases et.1 hx with rfl|hx
  ·exact h1'
  ·exact k3 x hx
theorem y9{hp':Hp}(h:dM hp0 hp'):rF hp0 hp':=by
 intro id b hb
 have hmem:∀{l:Hp},lk id l=some b→(id,b)∈l:=by
  intro l
  induction l with
  |nil=>intro h;cases h
  |cons p t ih =>
   intro h;obtain⟨m,u⟩:=p;simp only[lk]at h
   split at h
   ·rename_i e;injection h with h;subst e;subst h;exact d7 ..
   ·exact cU _ (ih h)
 have:=h _ (hmem hb);simp only at this;rw[this,hb]
structure RegOk(n:Nat)(ops:Array Oper)(za is:List Nat):Prop where
 part:∀j,j<ops.size→(j∈za∨j∈is)∧¬(j∈za∧j∈is)
 inb:∀j,j∈is→j<ops.size
 lt:∀i d,bS ops i=some d→d<n
 uniq:∀i j d,bS ops i=some d→bS ops j=some d→i=j
 zdst:∀z,z∈za→∀d,bS ops z=some d→∀j,d∈fV ops j→Waits ops j z
 low:∀j o,ops[j]?=some o→∀e,e∈o.after→Region.binds .any e=true→e.on<j
structure RegMore(ops:Array Oper)(zs:List Nat)(ss:jw)(m:Nat)(za is:List Nat):Prop where
 nis:dL is=true
 nza:dL za=true
 seg:HA ops zs ss
 chain:qw ops is
 order:fL ops za=true
 tail:∀i,i∈is.drop m→∀z,z∈za→Waits ops i z
 inz:∀z,z∈za→z<ops.size
theorem LM{n:Nat}{zs:List Nat}{ss:jw}{m:Nat}(h:Bq n ops zs ss m=true):RegOk n ops (zs++pp ss) (fe ss)∧RegMore ops zs ss m (zs++pp ss) (fe ss):=by
 unfold Bq at h;generalize zs++pp ss=za at h;generalize fe ss=is at h;simp only[Uu,Bool.and_eq_true]at h;obtain⟨⟨⟨⟨⟨⟨⟨⟨⟨⟨⟨h1,h2⟩,h2b⟩,h3⟩,h3b⟩,h4⟩,h5⟩,h6⟩,h7⟩,h8⟩,h9⟩,h10⟩:=h
 have inr:∀{i d},bS ops i=some d→i∈List.range ops.size:=by
  intro i d hi;rw[List.mem_range];rcases Nat.lt_or_ge i ops.size with h|h
  ·exact h
  ·simp[bS,Array.getElem?_eq_none h]at hi
 refine⟨⟨fun j hj=>?_,fun j hj=>?_,fun i d hi=>?_,fun i j d hi hj=>?_,fun z hz d hd j hj=>?_,fun j o ho e he hb=>?_⟩,⟨h3,h3b,HB h6,yZ h7,h8,fun i hi z hz=>?_,fun z hz=>by simpa using d9.1 h2b z hz⟩⟩
 ·have:=d9.1 h1 j (List.mem_range.2 hj);simp at this;exact⟨this.1,fun h=>by rcases this.2 with h'|h'<;>simp_all⟩
 ·simpa using d9.1 h2 j hj
 ·have:=d9.1 h4 i (inr hi);simp only[hi,Bool.and_eq_true,decide_eq_true_eq]at this;exact this.1
 ·have:=d9.1 h4 i (inr hi);simp only[hi,Bool.and_eq_true]at this;have:=d9.1 this.2 j (inr hj);simp only[hj,bne_self_eq_false,Bool.or_false,beq_iff_eq]at this;exact this.symm
 ·have:=d9.1 h5 z hz;simp only[hd]at this
  have hjr:j∈List.range ops.size:=by
   rw[List.mem_range];rcases Nat.lt_or_ge j ops.size with h|h
   ·exact h
   ·simp[fV,Array.getElem?_eq_none h]at hj
  have:=d9.1 this j hjr;simp only[hj,List.contains_eq_mem,decide_true,Bool.not_true,Bool.false_or]at this;exact jP this
 ·have hjr:j∈List.range ops.size:=by
   rw[List.mem_range];exact(Array.getElem?_eq_some_iff.1 ho).1
  have:=d9.1 h10 j hjr;simp only[ho]at this;have:=Array.all_eq_true_iff_forall_mem.1 this e he
  simpa[hb]using this
 ·have:=d9.1 h9 i hi;exact jP (d9.1 this z hz)
theorem kn{frm:Fr}{hp:Hp}{U:Nat→Prop}{N:Nat}{σ:Nat→Option Nat}{a:Act}{w:World}{dst:Option Tmp}(hd:a.defers=[])(hn:a.tmps.size=c.n)(hr:Rel c hp U σ w)(hh:yN c hp U σ w)
  (hf:∀t,AIs w (bI c w σ hp) σ hp U (fv t frm) (a.tmps.getD t undef)):nU c (bn frm dst (.tup [])) hp (dJ U N) (a.put dst undef) w:=by
 cases dst with
 |none=>exact⟨hd,hn,σ,hr.more,fun n=>(hf n).step Step.more,hh.trans Step.more⟩
 | some d =>
  refine⟨hd,by simp[Act.put,hn],σ,hr.more,fun n=>?_,hh.trans Step.more⟩;simp only[bn,Act.put,jv];by_cases h:d=n
  ·subst h
   have hu:(a.tmps.setIfInBounds d undef).getD d undef=.tuple #[]:=by
    simp only[cx,Array.getElem?_setIfInBounds,if_true]
    split<;>rfl
   rw[hu];simp only[if_true];exact .tup [] #[] rfl aw
  ·simp only[if_neg h]
   have:(a.tmps.setIfInBounds d undef).getD n undef=a.tmps.getD n undef:=by
    simp only[cx,Array.getElem?_setIfInBounds,if_neg h]
   rw[this];exact(hf n).step Step.more
/-- Every order. -/
theorem Qm {za is:List Nat} {Q:Exit→Act→World→Prop} (hB:RegOk c.n ops za is)
  (hQ:∀fr hp a w U,K fr hp→(∀k,U k→k<base+32*ops.size)→nU c fr hp U a w→Q .normal a w) :
  ∀(fuel:Nat)(listed:Array Bool)(zs:List Nat)(rest:jw)(m:Nat)(fr:Fr)(hp:Hp)(a:Act)(w:World),LL listed≤fuel→(∀i,i∈(fe rest).drop m→∀z,z∈za→Waits ops i z)→qw ops (fe rest)→dL (fe rest)=true→(∀i,i∈fe rest→i∈is) →
   HA ops zs rest→fL ops (zs++pp rest)=true→dL (zs++pp rest)=true→(∀z,z∈zs++pp rest→z∈za) →
   RInv P c ops base hp0 za zs (sW rest) listed fr hp a w→A7 P ops base hp0 K rest m fr hp→wpAny P .any ops Q fuel listed a w:=by
 have notboth:∀{listed:Array Bool}{i:Nat},listed.getD i true=false→listed.getD i false=true→False:=by
  intro listed i h1 h2;rw[jx h2]at h1
  cases h1
 -- where nothing is left
 have rK:∀ (listed:Array Bool) (zs:List Nat) (rest:jw) (m:Nat) (fr:Fr) (hp:Hp) (a:Act) (w:World),(∀ i,i ∈ fe rest→i ∈ is)→RInv P c ops base hp0 za zs (sW rest) listed fr hp a w→A7 P ops base hp0 K rest m fr hp→Region.ready .any ops listed=[]→Q .normal a w:=by
  intro listed zs rest m fr hp a w hsub hI hW hr0
  have all:∀k j,j≤k→j<ops.size→listed.getD j false=true:=by
   intro k
   induction k with
   | zero =>
    intro j hj hjs
    cases hl:listed.getD j false with
    |true=>rfl
    | false =>
     have hmem:j∈Region.ready .any ops listed:=mem_ready.2 ⟨iR (by rw[hI.size];exact hjs) hl,ops[j],dn hjs,fun e he hb=>by
      have:=hB.low j _ (dn hjs) e he hb
      omega⟩
     rw[hr0]at hmem;simp at hmem
   | succ k ih =>
    intro j hj hjs
    cases hl:listed.getD j false with
    |true=>rfl
    | false =>
     have hmem:j∈Region.ready .any ops listed:=mem_ready.2 ⟨iR (by rw[hI.size];exact hjs) hl,ops[j],dn hjs,fun e he hb=>by
      have:=hB.low j _ (dn hjs) e he hb
      exact ih e.on aq aq⟩
     rw[hr0]at hmem;simp at hmem
  have hnil:rest=[]:=by
   cases rest with
   |nil=>rfl
   |cons j r =>
    have h1:=hI.un j.1 (d7 ..);exact(notboth h1 (all j.1 j.1 (cR _) (hB.inb j.1 (hsub j.1 (d7 ..))))).elim
  subst hnil;simp only[A7]at hW;obtain⟨U,σ,hr,hh,hU,hf⟩:=hI.sim;refine hQ fr hp a w U hW (fun k hk=>?_) ⟨hI.def_,hI.tmps,σ,hr,fun t=>hf t fun z hz hun=>?_,hh⟩
  ·rcases hU k hk with h|⟨j,hj1,hj2,hj⟩
   ·omega
   ·have:j<listed.size:=by
     rcases Nat.lt_or_ge j listed.size with h|h
     ·exact h
     ·simp[cx,Array.getElem?_eq_none h]at hj
    have:=hI.size;omega
  ·intro he
   have:z<ops.size:=by
    rcases Nat.lt_or_ge z ops.size with h|h
    ·exact h
    ·simp[bS,Array.getElem?_eq_none h]at he
   exact notboth hun (all z z (cR _) this)
 intro fuel
 induction fuel with
 | zero =>
  intro listed zs rest m fr hp a w hf ht hc hn hsub hsg hord hnz hza hI hW
  have hr0:Region.ready .any ops listed=[]:=by
   rw[List.eq_nil_iff_forall_not_mem];intro i hi;have:=sk (mem_ready.1 hi).1;omega
  exact⟨hr0,rK listed zs rest m fr hp a w hsub hI hW hr0⟩
 | succ fuel ih =>
  intro listed zs rest m fr hp a w hfuel ht hc hn hsub hsg hord hnz hza hI hW;refine⟨rK listed zs rest m fr hp a w hsub hI hW,fun i hi=>?_⟩;obtain⟨hun,o,ho,haft⟩:=mem_ready.1 hi;have his:i<ops.size:=(Array.getElem?_eq_some_iff.1 ho).1;have hil:i<listed.size:=by rw[hI.size];exact his
  have hdi:bS ops i=o.dst:=by simp[bS,ho]
  have hli:fV ops i=o.looksAt ops:=by simp[fV,ho]
  have hwl:∀z,Waits ops i z→listed.getD z false=true:=fun z hz=>lq hI.closed hz fun o' ho'=>by
   rw[ho]at ho';injection ho' with ho';subst ho';exact haft
  have hzza:∀z,z∈zs→z∈za:=fun z hz=>hza z (cL.2 (.inl hz))
  have hdst:fJ c.n o.dst:=by
   unfold fJ
   cases hd:o.dst with
   |none=>trivial
   |some d=>exact hB.lt i d (by rw[hdi,hd])
  have hun':∀z,(listed.setIfInBounds i true).getD z true=false→listed.getD z true=false∧z≠i:=by
   intro z hz;rw[aI true hil]at hz
   split at hz
   ·cases hz
   ·rename_i hne;exact⟨hz,fun h=>hne h.symm⟩
  have hclosed':∀j o',ops[j]?=some o'→(listed.setIfInBounds i true).getD j false=true→∀e,e∈o'.after→Region.binds .any e=true→(listed.setIfInBounds i true).getD e.on false=true:=by
   intro j o' hj hl e he hb;rw[aI false hil]at hl⊢
   split
   ·rfl
   ·split at hl
    ·rename_i hij;subst hij;rw[ho]at hj;injection hj with hj;subst hj;exact haft e he hb
    ·exact hI.closed j o' hj hl e he hb
  have hfuel':LL (listed.setIfInBounds i true)≤fuel:=by
   have:=sk hun;omega
  obtain⟨U,σ,hr,hh,hU,hf⟩:=hI.sim
  have hNU:Free U (base+32*i):=by
   intro k k1 k2 h;rcases hU _ h with h|⟨j,hj,hj2,hl⟩
   ·omega
   ·have:j=i:=aq;subst this;exact notboth hun hl
  have hU':∀k,dJ U (base+32*i) k→k<base∨∃j,base+32*j≤k∧k<base+32*j+32∧(listed.setIfInBounds i true).getD j false=true:=by
   rintro k(h|h)
   ·rcases hU k h with h|⟨j,h1,h1',h2⟩
    ·exact .inl h
    ·exact .inr ⟨j,h1,h1',by rw[aI false hil];split<;>simp[h2]⟩
   ·exact .inr ⟨i,h.1,h.2,by rw[aI false hil];simp⟩
  obtain⟨frm,hm1,hm2⟩:=Br fr (zs.filterMap fun z=>if listed.getD z true=true then none else bS ops z)
  have hml:∀t,t∈(zs.filterMap fun z=>if listed.getD z true=true then none else bS ops z)↔∃z,z∈zs∧listed.getD z true=false∧bS ops z=some t:=by
   intro t;rw[List.mem_filterMap];constructor
   ·rintro⟨z,hz,h⟩
    split at h
    ·cases h
    ·rename_i hne;exact⟨z,hz,by simpa using hne,h⟩
   ·rintro⟨z,hz,h1,h2⟩;exact⟨z,hz,by simp[h1,h2]⟩
  have hfm:∀t,AIs w (bI c w σ hp) σ hp U (fv t frm) (a.tmps.getD t undef):=by
   intro t;by_cases hm:t∈(zs.filterMap fun z=>if listed.getD z true=true then none else bS ops z)
   ·rw[hm1 t hm];exact .any _
   ·rw[hm2 t hm];exact hf t fun z hz hzu he=>hm ((hml t).2 ⟨z,hz,hzu,he⟩)
  have hlook:∀t,t∈o.looksAt ops→fv t frm=fv t fr:=by
   intro t ht';refine hm2 t fun hm=>?_;obtain⟨z,hz,hzu,he⟩:=(hml t).1 hm;exact notboth hzu (hwl z (hB.zdst z (hzza z hz) t he i (by rw[hli];exact ht')))
  have hlook':∀t,t∈o.looksAt ops→fv t fr=fv t frm:=fun t ht'=>(hlook t ht').symm
  have hgu:∀{g want d},o.guard=some (g,want)→(ops[g]?).bind (·.dst)=some d→fv d fr=.tup []→¬(yielded ops a.tmps g=some want):=by
   intro g want d hg hd hb;have hx:=hfm d;rw[hlook d (jb hg hd),hb]at hx;unfold yielded;rw[hd]
   cases ht:a.tmps[d]? with
   |none=>simp[ht]
   |some u =>
    have e:a.tmps.getD d undef=u:=by simp[cx,ht]
    rw[e]at hx
    cases hx with
    |tup _ xs _ _=>simp[ht]
  have hgv:∀{g want d b},o.guard=some (g,want)→(ops[g]?).bind (·.dst)=some d→fv d fr=.d (.bool b)→yielded ops a.tmps g=some b:=by
   intro g want d b hg hd hb;have hx:=hfm d;rw[hlook d (jb hg hd),hb]at hx;have hv:=fE hx;unfold yielded;rw[hd];have hv':a.tmps[d]?.getD undef=.bool b:=by simpa using hv
   cases ht:a.tmps[d]? with
   |none=>rw[ht]at hv';cases hv'
   |some u=>rw[ht]at hv';simp at hv';subst hv';simp[ht]
  unfold wpOp;simp only[ho];by_cases hz:i∈zs
  ·
   have hag:rF hp0 hp:=by
    rcases hI.sa with h|h
    ·exact h
    ·have:=h i (hzza i hz);rw[hun]at this;cases this
   have hirest:i ∉ sW rest:=fun h=>by
    rcases pq h with h|h
    ·exact(hB.part i his).2 ⟨hzza i hz,hsub i h⟩
    ·exact(iF hnz).2.2 i hz h
   obtain⟨v,o',ho',hdv,hzk⟩:=hI.facts i hz hun;rw[ho]at ho';injection ho' with ho';subst ho'
   have next:∀a' w',nU c (bn frm o.dst v) hp (dJ U (base+32*i)) a' w'→wpAny P .any ops Q fuel (listed.setIfInBounds i true) a' w':=by
    rintro a' w'⟨q1,q2,σ',q3,q4,q5⟩;refine ih _ zs rest m fr hp a' w' hfuel' ht hc hn hsub hsg hord hnz hza ⟨by simp[hI.size],hclosed',fun j hj=>?_,fun j hj hjz hjr=>?_,q1,q2,⟨_,σ',q3,q5,hU',fun t htu=>?_⟩,fun z hz' hzu=>hI.facts z hz' (hun' z hzu).1,.inl hag⟩ hW
    ·rw[aI true hil,if_neg (fun e=>hirest (by rw[e];exact hj))];exact hI.un j hj
    ·rw[aI false hil]
     split
     ·rfl
     ·exact hI.done j hj hjz hjr
    ·have:=q4 t;by_cases hd:o.dst=some t
     ·rw[hd,jc]at this;rw[hdv t hd];exact this
     ·rw[kD hd,hm2 t fun hm=>?_]at this
      ·exact this
      ·obtain⟨z,hz',hzu,he⟩:=(hml t).1 hm;refine htu z hz' ?_ he;rw[aI true hil,if_neg]
       ·exact hzu
       ·intro e;subst e;exact hd (by rw[←hdi];exact he)
   have exec:kO P fr hp0 o.op v→o.wp P a w (wpAny P .any ops Q fuel (listed.setIfInBounds i true)) Q:=by
    intro hs;have hop:=km hlook' hs hp (base+32*i) (fun v' hp'=>v'=v∧hp'=hp) hag ⟨rfl,rfl⟩;have hok:=pn (o:=o) hr (fun x=>uZ hfm x) hNU hop;refine o6 hI.def_ hI.tmps hdst hfm hh hok fun v' hp' a' w' hK hS=>?_;obtain⟨rfl,rfl⟩:=hK;exact next a' w' hS
   unfold HC at hzk
   split at hzk
   ·rename_i hg;rw[if_pos (by simp[Region.wanted,hg])];exact .inl (exec hzk)
   ·rename_i g want hg;obtain⟨d,hd,⟨b,hb,h1,h2⟩|⟨hb,hv⟩⟩:=hzk
    ·have hy:=hgv hg hd hb;by_cases hbw:b=want
     ·rw[if_pos (by simp[Region.wanted,hg,hy,hbw])];exact .inl (exec (h1 hbw))
     ·rw[if_neg (by simp[Region.wanted,hg,hy,hbw])];have hv:=h2 (by cases b<;>cases want<;>simp_all)
      subst hv;exact next _ _ (kn hI.def_ hI.tmps hr hh hfm)
    ·have hy:=hgu hg hd hb;rw[if_neg (by simp[Region.wanted,hg,hy])];subst hv;exact next _ _ (kn hI.def_ hI.tmps hr hh hfm)
  ·
   have hir:i∈sW rest:=by
    rcases Classical.em (i∈sW rest)with h|h
    ·exact h
    ·exact(notboth hun (hI.done i his hz h)).elim
   cases rest with
   |nil=>simp[sW]at hir
   | cons s r =>
    obtain⟨j,zj⟩:=s
    have hij:i=j:=by
     have far:∀p,p∈fe ((j,zj)::r)→Waits ops i p→False:=fun p hp1 hp2=>notboth (hI.un p (oh hp1)) (hwl p hp2);rcases pq hir with h|h
     ·rcases et.1 h with h|h
      ·exact h
      ·obtain⟨p,hp1,hp2⟩:=sY (fe r) j hc i h;exact(far p hp1 hp2).elim
     ·obtain⟨p,hp1,hp2⟩:=y7 hsg h;exact(far p hp1 hp2).elim
    subst hij;have hiza:i ∉ za:=fun h=>(hB.part i his).2 ⟨h,hsub i (d7 ..)⟩
    have hni:i ∉ fe r:=by
     simp only[fe,dL,Bool.and_eq_true,Bool.not_eq_true',List.contains_eq_mem,decide_eq_false_iff_not]at hn;exact hn.1
    have hns:i ∉ sW r:=fun h=>by
     rcases pq h with h|h
     ·exact hni h
     ·exact hiza (hza i (cL.2 (.inr (cL.2 (.inr h)))))
    have hnr:dL (fe r)=true:=by
     simp only[fe,dL,Bool.and_eq_true]at hn;exact hn.2
    have hcr:qw ops (fe r):=by
     cases r with
     |nil=>trivial
     |cons b r=>exact hc.2
    have htr:∀k,k∈(fe r).drop (m-1)→∀z,z∈za→Waits ops k z:=by
     intro k hk;refine ht k ?_
     cases m with
     |zero=>exact cU _ (by simpa using hk)
     |succ m=>simpa[fe]using hk
    have hord':fL ops ((zs++zj)++pp r)=true:=by rw[cD];exact hord
    have hnz':dL ((zs++zj)++pp r)=true:=by rw[cD];exact hnz
    have hza':∀z,z∈(zs++zj)++pp r→z∈za:=by rw[cD];exact hza
    have hzj:∀z,z∈zj→z∈za:=fun z hz'=>hza' z (cL.2 (.inl (cL.2 (.inr hz'))));have hordj:=jQ (jQ hord').1;have hnzj:=iF (iF hnz').1;have hunj:∀z,z∈zj→listed.getD z true=false:=fun z hz'=>hI.un z (cU _ (cL.2 (.inl hz')));simp only[A7,ho]at hW
    have next:∀ v hp' a' w',(m ≠ 0→rF hp0 hp' ∨ ∀ z,z ∈ za→listed.getD z true=true)→zW P ops base hp0 (fun fr=>A7 P ops base hp0 K r (m - 1) fr hp') zj (bn fr o.dst v)→nU c (bn frm o.dst v) hp' (dJ U (base+32*i)) a' w'→wpAny P .any ops Q fuel (listed.setIfInBounds i true) a' w':=by
     rintro v hp' a' w' hsa hW'⟨q1,q2,σ',q3,q4,q5⟩;obtain⟨frZ,g1,g2,g3⟩:=mA hB.uniq zj _ hordj.2.1 hnzj.2.1 hW';refine ih _ (zs++zj) r (m-1) frZ hp' a' w' hfuel' htr hcr hnr (fun k hk=>hsub k (cU _ hk)) hsg.2.2 hord' hnz' hza' ⟨by simp[hI.size],hclosed',fun k hk=>?_,fun k hk hkz hkr=>?_,q1,q2,⟨_,σ',q3,q5,hU',fun t htu=>?_⟩,fun z hz' hzu=>?_,?_⟩ g1
     ·rw[aI true hil,if_neg (fun e=>hns (by rw[e];exact hk))];exact hI.un k (cU _ (cL.2 (.inr hk)))
     ·rw [aI false hil]
      split
      ·rfl
      ·rename_i hne
       exact hI.done k hk (fun h=>hkz (cL.2 (.inl h))) (fun h=>by
        rcases et.1 h with h|h
        ·exact hne h.symm
        ·rcases cL.1 h with h|h
         ·exact hkz (cL.2 (.inr h))
         ·exact hkr h)
     ·have hnj:∀z,z∈zj→bS ops z≠some t:=fun z hz'=>htu z (cL.2 (.inr hz')) (by
       rw[aI true hil,if_neg (fun e=>hiza (by rw[e];exact hzj z hz'))]
       exact hunj z hz')
      rw[g2 t hnj];have:=q4 t;by_cases hd:o.dst=some t
      ·rw[hd,jc]at this⊢;exact this
      ·rw[kD hd]at this⊢;rw[hm2 t fun hm=>?_]at this
       ·exact this
       ·obtain⟨z,hz',hzu,he⟩:=(hml t).1 hm;refine htu z (cL.2 (.inl hz')) ?_ he;rw[aI true hil,if_neg (fun e=>hz (by rw[e];exact hz'))];exact hzu
     ·rcases cL.1 hz' with hz'|hz'
      ·obtain⟨hzu1,hzi⟩:=hun' z hzu;obtain⟨vz,oz,hoz,hdz,hzk⟩:=hI.facts z hz' hzu1;have hdz':bS ops z=oz.dst:=by simp[bS,hoz]
       have hlz:fV ops z=oz.looksAt ops:=by simp[fV,hoz]
       refine⟨vz,oz,hoz,fun d hd=>?_,qA (fun t ht'=>?_) hzk⟩
       ·rw[g2 d fun y hy he=>?_,kD]
        ·exact hdz d hd
        ·intro he;exact hzi (hB.uniq z i d (by rw[hdz'];exact hd) (by rw[hdi];exact he))
        ·have:=hB.uniq z y d (by rw[hdz'];exact hd) he;subst this;exact hnzj.2.2 z hz' hy
       ·rw[g2 t fun y hy=>hordj.2.2 z hz' y hy t (by rw[hlz];exact ht'),kD];intro he;exact notboth hzu1 (hwl z (hsg.1 t (by rw[hdi];exact he) z hz' (by rw[hlz];exact ht')))
      ·exact g3 z hz'
     ·cases m with
      |zero =>
       right;intro z hz';have:=hwl z (ht i (by simp[fe]) z hz');rw[aI true hil]
       split
       ·rfl
       ·exact jx this
      | succ m =>
       rcases hsa aq with h|h
       ·exact .inl h
       ·right;intro z hz';rw[aI true hil]
        split
        ·rfl
        ·exact h z hz'
    have exec:bJ P fr hp (base+32*i) o.op (fun v hp'=>(m≠0→dM hp0 hp')∧zW P ops base hp0 (fun fr=>A7 P ops base hp0 K r (m-1) fr hp') zj (bn fr o.dst v))→o.wp P a w (wpAny P .any ops Q fuel (listed.setIfInBounds i true)) Q:=by
     intro hop;rw[qu (sX hlook')]at hop;have hok:=pn (o:=o) hr (fun x=>uZ hfm x) hNU hop;refine o6 hI.def_ hI.tmps hdst hfm hh hok fun v' hp' a' w' hK hS=>?_;exact next v' hp' a' w' (fun h=>.inl (y9 (hK.1 h))) hK.2 hS
    split at hW
    ·rename_i hg;rw[if_pos (by simp[Region.wanted,hg])];exact .inl (exec hW)
    ·rename_i g want hg
     split at hW
     ·rename_i d hd
      split at hW
      ·rename_i b hb;have hy:=hgv hg hd hb;by_cases hbw:b=want
       ·rw[if_pos (by simp[Region.wanted,hg,hy,hbw])];exact .inl (exec (hW.1 hbw))
       ·rw[if_neg (by simp[Region.wanted,hg,hy,hbw])];have hv:=hW.2 (by cases b<;>cases want<;>simp_all)
        exact next (.tup []) hp _ _ (fun hm=>hI.sa) hv (kn hI.def_ hI.tmps hr hh hfm)
      ·rename_i hb;have hy:=hgu hg hd hb;rw[if_neg (by simp[Region.wanted,hg,hy])];exact next (.tup []) hp _ _ (fun hm=>hI.sa) hW (kn hI.def_ hI.tmps hr hh hfm)
      ·exact hW.elim
     ·exact hW.elim
theorem Bt{zs:List Nat}{ss:jw}{m:Nat}{id:Nat}{U:Nat→Prop}{a:Act}{w:World}{Q:Exit→Act→World→Prop}(hmix:P.follows .mixedOrders=true)(hB:Bq c.n ops zs ss m=true)
  (hQ:∀fr hp a w U,K fr hp→(∀k,U k→k<base+32*ops.size)→nU c fr hp U a w→Q .normal a w)
  (hU:∀k,U k→k<base) (hs:nU c fr hp0 U a w) (h:zW P ops base hp0 (fun fr=>A7 P ops base hp0 K ss m fr hp0) zs fr):(Code.region id ops true).wp P Q a w:=by
 obtain⟨hok,hmore⟩:=LM hB;obtain⟨frZ,h1,h2,h3⟩:=mA hok.uniq zs fr (jQ hmore.order).1 (iF hmore.nza).1 h;obtain⟨q1,q2,σ,q3,q4,q5⟩:=hs;have hrd:=i7 q3
 have rep:∀j,(Array.replicate ops.size false).getD j false=false:=by
  intro j;simp only[cx,Array.getElem?_replicate]
  split<;>rfl
 have rep':∀j,j<ops.size→(Array.replicate ops.size false).getD j true=false:=by
  intro j hj;simp[cx,Array.getElem?_replicate,hj]
 refine wp_region_any hmix (Qm hok hQ ops.size _ zs ss m frZ hp0 a w.drew ?_ hmore.tail hmore.chain hmore.nis (fun _ h=>h) hmore.seg hmore.order hmore.nza (fun _ h=>h) ⟨aw,fun j o ho hl=>(by rw[rep]at hl;cases hl),fun j hj=>?_,fun j hj hz hi=>?_,q1,q2,
  ⟨U,σ,hrd,q5.trans ca,fun k hk=>.inl (hU k hk),fun t ht=>?_⟩,fun z hz _=>h3 z hz,.inl fun _ _ h=>h⟩ h1)
 ·unfold LL;refine Nat.le_trans (List.length_filter_le _ _) ?_;simp
 ·refine rep' j ?_;rcases pq hj with h|h
  ·exact hok.inb j h
  ·rcases Nat.lt_or_ge j ops.size with h'|h'
   ·exact h'
   ·exact absurd h' (by have:=hmore.inz j (cL.2 (.inr h));omega)
 ·rcases(hok.part j hj).1 with h|h
  ·rcases cL.1 h with h|h
   ·exact absurd h hz
   ·exact absurd (vu h) hi
  ·exact absurd (oh h) hi
 ·rw[h2 t fun z hz he=>?_]
  ·exact(q4 t).step ca
  ·refine ht z hz (rep' z ?_) he;rcases Nat.lt_or_ge z ops.size with h|h
   ·exact h
   ·simp[bS,Array.getElem?_eq_none h]at he
end
end Go.Am
