/-
 Part 2 of what the claim rests on.
-/
import Derived.Test.YtmfnimjnneflnaaGreatD0
import Derived.Laws.Cover3
import Derived.Orders
set_option linter.unusedVariables false
set_option linter.unusedSimpArgs false
set_option maxRecDepth 100000
set_option maxHeartbeats 16000000
namespace Go.Am
section
variable {P:Program} {c:Ctx} {K:AV→Hp→Prop} {fr:Fr} {hp:Hp} {U:Nat→Prop} {N:Nat} {σ:Nat→Option Nat} {w:World} {a:Act} {o:Oper} {S:Nat→Prop}
theorem cJ:Step w (bD c w σ hp) σ hp U w.drew (bD c w.drew σ hp) σ hp U :=
 ⟨fun _ h=>h,fun _ _=>rfl,fun _ h=>h,fun id b _ h=>⟨b,h,rfl,rfl,cL _,fun _ g d=>⟨d,fun _ h=>h⟩⟩⟩
theorem jK(d:Rel c hp U σ w):Rel c hp U σ w.drew:=by
 refine⟨d.inj,d.lt,fun i b h=>?_,d.mine,d.os,d.tape,d.output,d.size,d.old⟩;rcases d.blk i b h with e|⟨g,j,f⟩;exact .inl ⟨e.1,e.2.keep fun _ _ _ _=>rfl⟩;exact .inr ⟨g,j,f.step cJ rfl⟩
theorem jL{sz:Nat}{r1 k:List (List AV)}{x1 s rest:Array Value}(f:RIs w S σ hp U sz r1 x1)(B:x1.size=r1.length*sz)(g:RIs w S σ hp U sz k s)(u:∀(i:Nat)(x:Value),rest[i]?=some x→x.oneCell'=true) :
  RIs w S σ hp U sz (r1++k) (x1++s++rest):=by
 have E:=f.len;have C:=g.len;refine⟨by simp[Nat.add_mul];omega,fun r p=>?_,fun i x b=>?_,fun i j r y x d l b=>?_⟩;rcases cD.1 p with h|h;exact f.row r h;exact g.row r h;rw[Array.getElem?_append]at b;split at b;rw[Array.getElem?_append]at b;split at b;exact f.one _ _ b;exact g.one _ _ b;exact u _ _ b;rw[List.getElem?_append]at d;split at d;rename_i v;have m:j<sz:=by
  have:=(ci.1 l).1;rw[f.row r (cr d)]at this;exact this
 have e:i*sz+j<x1.size:=by
  have:(i+1)*sz≤r1.length*sz:=d9 _ aq;rw[Nat.add_mul,Nat.one_mul]at this;omega
 rw[Array.getElem?_append,if_pos (by simp;omega),Array.getElem?_append,if_pos e]at b;exact f.is i j r y x d l b;rename_i A;have m:j<sz:=by
  have:=(ci.1 l).1;rw[g.row r (cr d)]at this;exact this
 have t:=(ci.1 d).1;have D:(i-r1.length)*sz+j<k.length*sz:=by
  have:(i-r1.length+1)*sz≤k.length*sz:=d9 _ aq;rw[Nat.add_mul,Nat.one_mul]at this;omega
 have q:i*sz=r1.length*sz+(i-r1.length)*sz:=by
  rw[←Nat.add_mul];congr 1;omega
 rw[Array.getElem?_append,if_pos (by simp;omega),Array.getElem?_append,if_neg aq]at b;rw[show i*sz+j-x1.size=(i-r1.length)*sz+j by omega]at b;exact g.is _ j r y x d l b
section
variable {ts tx ty el el2:TypeId} {i:TypeInfo} {z:Value}
theorem mG(f:P.underlying ts=some (.slice el))(e:P.underlying tx=some (.slice el2))(hi:P.info? el=some i){base:Option Addr}{sLen sCap n k:Nat}{B:Option Addr}{h:Array Value}{w':World}
  (g:(Builtin.firstCells i.size n (.slice B n k)).run P w=.ok h w) (d:sLen+n≤sCap) (b:(match base with|some a=>storeCells (a.add (sLen*i.size)) h.toList|none=>pure ()).run P w=.ok () w') :
  (Builtin.append_ #[ts,tx] ty #[.slice base sLen sCap,.slice B n k]).run P w=.ok (.slice base (sLen+n) sCap) w':=by
 cases base with
 |none =>
  simp at b;subst b;simp[Builtin.append_,run_underlying f,run_underlying e,sizeOf,typeInfo,hi,Builtin.lenOf,d,g]
 |some ad =>
  simp only at b;simp[Builtin.append_,run_underlying f,run_underlying e,sizeOf,typeInfo,hi,Builtin.lenOf,d,g,b]
theorem iK(g:P.underlying ts=some (.slice el))(f:P.underlying tx=some (.slice el2))(hi:P.info? el=some i)(hz:i.zero=some z){base:Option Addr}{sLen sCap n k:Nat}{B:Option Addr}{j os:Array Value}
  (l:(Builtin.firstCells i.size n (.slice B n k)).run P w.drew=.ok j w.drew) (h:(Builtin.firstCells i.size sLen (.slice base sLen sCap)).run P w.drew=.ok os w.drew) (b:sCap<sLen+n) (m:i.bytes≠0) (d:(sLen+n)*i.bytes≤140737488355328) :
  (Builtin.append_ #[ts,tx] ty #[.slice base sLen sCap,.slice B n k]).run P w=.ok (.slice (some ⟨w.heap.size,0,none⟩) (sLen+n) (grownCap w (sLen+n) sCap el))
    (w.drew.alloc (.cells (os++j++Builtin.zeroCells z.cells (grownCap w (sLen+n) sCap el-(sLen+n))) el)):=by
 have p:¬(sLen+n≤sCap):=aq;have e:¬(281474976710656<Builtin.nextslicecap (sLen+n) sCap*i.bytes):=by
  have:=growslice_fits b d;omega
 simp[Builtin.append_,run_underlying g,run_underlying f,sizeOf,typeInfo,zeroValue,hi,hz,Builtin.lenOf,p,m,e,Question.forced,l,h,newRow,grownCap]
end
theorem oI{id:Nat}{b:Blk}:∀{hp:Hp},lk id hp=some b→bJ id b hp=hp
 |[],h=>by cases h
 |(m,v)::t,h=>by
  simp only[lk]at h;simp only[bJ];split at h;rename_i e;injection h with h;subst h;rw[if_pos e];rename_i e;rw[if_neg e,oI h]
theorem BH(hr:Rel c hp U σ w){id g len cap:Nat}{b:Blk}{xs es':List (List AV)}{p d:Array Value}(X:lk id hp=some b)(Q:σ id=some g)(W:w.heap[g]?=some (.cells d b.ty (0,0)))
  (A:RIs w (bD c w σ hp) σ hp U b.e xs p) (O:p.size=xs.length*b.e) (J:cap*b.e≤d.size) (f:len+xs.length≤cap) (R:b.es.length≤es'.length) (L:es'.length≤cap) (Y:len+xs.length≤es'.length)
  (H:∀k r,es'[k]?=some r→(k<len∧b.es[k]?=some r)∨(len≤k∧k<len+xs.length∧xs[k-len]?=some r)∨(len+xs.length≤k∧b.es[k]?=some r))
  (hU:U id) (hK:K (.own id 0 (len+xs.length) es'.length) (bJ id ⟨b.ty,b.e,es'⟩ hp)) :
  Good c K hp U N σ w (.slice (some ⟨g,0,none⟩) (len+xs.length) cap) (w.setRow g (d.toList.take (len*b.e)++p.toList++d.toList.drop (len*b.e+p.toList.length)).toArray):=by
 obtain⟨cc,q,m2,m3,m4,m5⟩:=hr.at X Q;rw[W]at q;injection q with q;injection q with q;subst q;have D:(len+xs.length)*b.e≤cap*b.e:=d9 _ f;rw[Nat.add_mul]at D;have G:p.toList.length=xs.length*b.e:=by simpa using O
 have t:∀m,(d.toList.take (len*b.e)++p.toList++d.toList.drop (len*b.e+p.toList.length)).toArray[m]? =
   if m<len*b.e then d[m]? else if m<len*b.e+xs.length*b.e then p[m-len*b.e]? else d[m]?:=by
  intro m;simp only[List.getElem?_toArray,cA];rw[List.getElem?_append];have T:(d.toList.take (len*b.e)).length=len*b.e:=by simp;omega
  rw[T];by_cases V:m<len*b.e;simp[V];rw[if_neg V,if_neg V,List.getElem?_append];by_cases E:m<len*b.e+xs.length*b.e;rw[if_pos aq,if_pos E,Array.getElem?_toList];rw[if_neg aq,if_neg E,List.getElem?_drop,Array.getElem?_toList];congr 1;omega
 have s:∀r,r∈es'→r.length=b.e:=by
  intro r Z;obtain⟨k,hk⟩:=List.getElem?_of_mem Z;rcases H k r hk with ⟨_,F⟩|⟨_,_,F⟩|⟨_,F⟩;exact m3 r (cr F);exact A.row r (cr F);exact m3 r (cr F)
 have l:(d.toList.take (len*b.e)++p.toList++d.toList.drop (len*b.e+p.toList.length)).toArray.size=d.size:=by
  simp only[List.size_toArray,b_,List.length_take,et,G,Array.length_toList];omega
 have B:es'.length*b.e≤cap*b.e:=d9 _ L;obtain⟨r1,r2⟩:=uX hr (b':=⟨b.ty,b.e,es'⟩) X Q rfl rfl R d _ (by rw[l];exact Nat.le_trans B J) W l
  (fun m y C=>by
   rw[t]at C;split at C;exact m2 m y C;split at C;exact A.one _ y C
   exact m2 m y C)
  s
  (fun k j r y u a1 M v=>by
   have hj:j<b.e:=by
    have:=(ci.1 M).1;rw[s r (cr a1)]at this;exact this
   rw[t]at v;rcases H k r a1 with ⟨q,I⟩|⟨q0,q,I⟩|⟨q,I⟩;have:(k+1)*b.e≤len*b.e:=d9 _ aq;rw[Nat.add_mul,Nat.one_mul]at this;rw[if_pos aq]at v;exact m5 k j r y u I M v;have e1:k*b.e=len*b.e+(k-len)*b.e:=by rw[←Nat.add_mul];congr 1;omega
   have e2:(k-len+1)*b.e≤xs.length*b.e:=d9 _ aq;rw[Nat.add_mul,Nat.one_mul]at e2;rw[if_neg aq,if_pos aq,show k*b.e+j-len*b.e=(k-len)*b.e+j by omega]at v;exact A.is (k-len) j r y u I M v;have e1:(len+xs.length)*b.e≤k*b.e:=d9 _ q;rw[Nat.add_mul]at e1;rw[if_neg aq,if_neg aq]at v
   exact m5 k j r y u I M v)
 refine⟨_,_,_,hK,r1.more,r2.trans Step.more,.own _ _ _ _ _ _ (.inl hU) f (fun h=>by cases h) fun b1 x=>?_⟩;rw[km,if_pos rfl,X]at x;simp only[Option.map_some,Option.some.injEq]at x;subst x;refine⟨cL _,fun _=>⟨aq,aq,fun _=>⟨g,Q,aw,d.size,⟨_,setRow_heap w g d _ b.ty (0,0) W,l⟩,by simp only[Nat.zero_add];exact J⟩⟩⟩
theorem oJ{w':World}(d:Rel c hp U σ w)(e:RowKit.Below w.heap.size w w') :
  Rel c hp (ec U N) σ w'∧Step w (bD c w σ hp) σ hp U w' (bD c w' σ hp) σ hp (ec U N):=by
 have f:Step w (bD c w σ hp) σ hp U w' (bD c w' σ hp) σ hp (ec U N):=by
  refine⟨fun b h=>⟨⟨Nat.lt_of_lt_of_le h.1.1 e.size,h.1.2⟩,h.2⟩,fun p h=>e.cell h.1.1,fun _ h=>.inl h,fun id s _ h=>⟨s,h,rfl,rfl,cL _,fun _ g q=>⟨q,fun n u=>?_⟩⟩⟩;obtain⟨l,j,k⟩:=u;exact⟨l,(e.block _ (dS (d.at h q))).trans j,k⟩
 refine⟨⟨d.inj,fun i b h=>.inl (d.lt i b h),fun i b h=>?_,d.mine,e.os.trans d.os,e.tape.trans d.tape,e.output.trans d.output,Nat.le_trans d.size e.size,fun b j k=>?_⟩,f⟩;rcases d.blk i b h with m|⟨g,r,k2⟩;exact .inl ⟨m.1,m.2.keep fun _ _ _ t=>e.block _ (uU t)⟩;exact .inr ⟨g,r,k2.step f (e.block _ (dS k2))⟩;rw[e.block b (Nat.lt_of_lt_of_le j d.size)];exact d.old b j k
theorem J7(w:World)(C:Array Value)(t:TypeId)(j:Nat)(v:Value)(hj:C[j]?=some v):(w.alloc (.cells C t)).cell? ⟨w.heap.size,j,none⟩=some v:=by
 have:=heap_alloc_new w (.cells C t);simp only[World.cell?,this];simpa using hj
theorem Yo(u:Rel c hp U σ w){es:List (List DV)}{e cap:Nat}{C:Array Value}{w':World}(M:RowKit.Below w.heap.size w w')(B:w.heap.size<w'.heap.size)
  (m:∀(j:Nat)(v:Value),C[j]?=some v→w'.cell? ⟨w.heap.size,j,none⟩=some v) (k:∀r,r∈es→r.length=e) (E:es.length*e≤C.size) (t:es.length≤cap)
  (D:∀(i j:Nat)(r:List DV)(y:DV)(x:Value),es[i]?=some r→r[j]?=some y→C[i*e+j]?=some x→DIs w (bD c w σ hp) y x) (F:K (.d (.ro e es)) hp) :
  Good c K hp U N σ w (.slice (some ⟨w.heap.size,0,none⟩) es.length cap) w':=by
 obtain⟨O,A⟩:=oJ (N:=N) u M;have s:∀(i j:Nat)(r:List DV)(y:DV),es[i]?=some r→r[j]?=some y→i*e+j<C.size:=by
  intro i j r y f q;have I:=(ci.1 f).1;have J:=(ci.1 q).1;rw[k r (cr f)]at J;have G:(i+1)*e≤es.length*e:=d9 _ I;rw[Nat.add_mul,Nat.one_mul]at G;omega
 refine⟨.d (.ro e es),hp,σ,F,O,A,.d (.ro e es _ cap (fun i j=>C[i*e+j]!) t k (fun r Q=>⟨_,rfl,⟨⟨B,fun id H g f R=>?_⟩,.inr u.size⟩⟩) (fun ad l i j r y f q=>?_) fun i j r y f q=>?_)⟩;exact Nat.ne_of_gt (dS (u.at f R));injection l with l;subst l;rw[gu,Nat.zero_add];have:=s i j r y f q;exact m _ _ (by simp[this]);have L:=s i j r y f q;exact(D i j r y (C[i*e+j]!) f q (by simp[L])).mono (fun b h=>A.sub b h) (fun p h=>A.cell p h)
theorem Pe{len:Nat}{es xs:List (List AV)}(f:len≤es.length)(k:Nat)(r:List AV)(b:(es.take len++(xs++es.drop (len+xs.length)))[k]?=some r) :
  (k<len∧es[k]?=some r)∨(len≤k∧k<len+xs.length∧xs[k-len]?=some r)∨(len+xs.length≤k∧es[k]?=some r):=by
 rw[List.getElem?_append]at b;have e:(es.take len).length=len:=by simp;omega
 rw[e]at b;split at b;rename_i d;rw[List.getElem?_take,if_pos d]at b;exact .inl ⟨d,b⟩;rename_i d;rw[List.getElem?_append]at b;split at b;exact .inr (.inl ⟨aq,aq,b⟩);rw[List.getElem?_drop]at b;refine .inr (.inr ⟨aq,?_⟩);rw[show k=len+xs.length+(k-len-xs.length)by omega];exact b
theorem J8{len:Nat}{es xs:List (List AV)}(f:len≤es.length)(k:Nat)(r:List AV)(b:(es.take len++xs)[k]?=some r) :
  (k<len∧es[k]?=some r)∨(len≤k∧k<len+xs.length∧xs[k-len]?=some r)∨(len+xs.length≤k∧es[k]?=some r):=by
 rw[List.getElem?_append]at b;have e:(es.take len).length=len:=by simp;omega
 rw[e]at b;split at b;rename_i d;rw[List.getElem?_take,if_pos d]at b;exact .inl ⟨d,b⟩;rename_i d;have:=(ci.1 b).1;exact .inr (.inl ⟨aq,aq,b⟩)
/-- append to a row of the call's own;what is appended comes from anywhere. -/
theorem GO(hr:Rel c hp U σ w){el:TypeId}{id len tot:Nat}{xs:List (List AV)}{b:Blk}{sv:Value}{i:TypeInfo}{z:Value}(hss:AIs w (bD c w σ hp) σ hp U (.own id 0 len tot) sv)(hb:lk id hp=some b)
  (ht1:b.es.length=tot) (ht2:b.ty=el) (ht3:b.e=P.cellsOf el)
  (hst:len+xs.length≤tot→K (.own id 0 (len+xs.length) tot) (bJ id ⟨b.ty,b.e,b.es.take len++(xs++b.es.drop (len+xs.length))⟩ hp))
  (hgr:tot<len+xs.length→K (.own id 0 (len+xs.length) (len+xs.length)) (bJ id ⟨b.ty,b.e,b.es.take len++xs⟩ hp))
  (hisz:i.size=P.cellsOf el) (hzsz:z.cells.size=P.cellsOf el) (hne:P.cellsOf el≠0) (hz1:∀(n:Nat)(v:Value),z.cells[n]?=some v→v.oneCell'=true)
  (zone:∀(z:Value)(m:Nat),(∀(n:Nat)(v:Value),z.cells[n]?=some v→v.oneCell'=true)→z.cells.size≠0→∀(n:Nat)(v:Value),(Builtin.zeroCells z.cells m)[n]?=some v→v.oneCell'=true)
  (hstay:∀A cap,sv=.slice A len cap→len+xs.length≤cap→∃us:Array Value,us.size=xs.length*P.cellsOf el∧RIs w (bD c w σ hp) σ hp U (P.cellsOf el) xs us∧∀w',(match A with|some ad=>storeCells (ad.add (len*i.size)) us.toList|none=>pure ()).run P w=.ok () w'→(execOp a.eval o).run P w=.ok (.value (.slice A (len+xs.length) cap)) w')
  (hgrow:∀A cap os,sv=.slice A len cap→¬(len+xs.length≤cap)→(Builtin.firstCells i.size len (.slice A len cap)).run P w.drew=.ok os w.drew→∃us:Array Value,us.size=xs.length*P.cellsOf el∧RIs w.drew (bD c w.drew σ hp) σ hp U (P.cellsOf el) xs us ∧
   (execOp a.eval o).run P w=.ok (.value (.slice (some ⟨w.heap.size,0,none⟩) (len+xs.length) (grownCap w (len+xs.length) cap el))) (w.drew.alloc (.cells (os++us++Builtin.zeroCells z.cells (grownCap w (len+xs.length) cap el-(len+xs.length))) el))) :
  OpOk P c K hp U N σ w ((execOp a.eval o).run P w):=by
 have hss':=hss;cases hss with
 | own _ _ _ _ A cap hU hl hA0 h' =>
  obtain⟨k1,k2⟩:=h' b hb;obtain⟨k3,k4,k5⟩:=k2 ht1;by_cases hneed:len+xs.length≤cap;obtain⟨us,hul,hri,hgo⟩:=hstay A cap rfl hneed;rcases Nat.eq_zero_or_pos xs.length with h0|h0
  ·
   have hx0:xs=[]:=List.eq_nil_of_length_eq_zero h0;subst hx0;have hu0:us=#[]:=Array.eq_empty_of_size_eq_zero (by simpa using hul);subst hu0;have hr0:=hgo w (by cases A<;>simp[storeCells]);have hh:=hst (by simp;omega);simp only[List.length_nil,Nat.add_zero,List.nil_append,List.take_append_drop]at hh;rw[oI (b:=⟨b.ty,b.e,b.es⟩) hb]at hh;exact OpOk.val hr0 (Good.same hr hh hss')
  ·obtain⟨g,hg,hA,n,hrn,hn⟩:=k5 aq;obtain⟨ccs,m1,m2,m3,m4,m5⟩:=hr.at hb hg;have hnsz:ccs.size=n:=by
    obtain⟨cc,p1,p2⟩:=hrn;rw[m1]at p1;injection p1 with p1;injection p1 with p1;rw[p1];exact p2
   rw[Nat.zero_mul]at hA;subst hA;have hn':cap*b.e≤ccs.size:=by rw[hnsz];simpa using hn
   have hle1:(len+xs.length)*b.e≤cap*b.e:=d9 _ hneed;rw[Nat.add_mul]at hle1;have hull:us.toList.length=xs.length*b.e:=(by simp[hul,ht3]);have hsto:=run_storeCells_at P g (len*b.e) b.ty us.toList 0 ccs w m1 aq (fun u hu=>by
    obtain⟨j,hj⟩:=List.getElem?_of_mem hu
    exact hri.one j u (by simpa using hj))
   simp only[Nat.add_zero]at hsto;have hr0:=hgo (w.setRow g (ccs.toList.take (len*b.e)++us.toList++ccs.toList.drop (len*b.e+us.toList.length)).toArray) (by
     simp only[gu,Nat.zero_add];rw[hisz,←ht3]
     exact hsto)
   rw[hr0];have hlb:len≤b.es.length:=aq;rcases Nat.lt_or_ge tot (len+xs.length)with htot|htot;have hK:=hgr htot;have hl':(b.es.take len++xs).length=len+xs.length:=by rw[b_,List.length_take];omega
   rw[←hl']at hK;exact BH hr hb hg m1 (ht3▸hri) (ht3▸hul) hn' hneed aq aq aq (J8 hlb) hU (by rw[hl'];rw[hl']at hK;exact hK);have hK:=hst htot;have hl':(b.es.take len++(xs++b.es.drop (len+xs.length))).length=tot:=by rw[b_,b_,List.length_take,et];omega
   exact BH hr hb hg m1 (ht3▸hri) (ht3▸hul) hn' hneed aq aq aq (Pe hlb) hU (by rw[hl'];exact hK)
  ·
   clear k5 k2;have hrd:=jK hr;have hso:dh hp (P.cellsOf el) (.own id 0 len tot)=some (b.es.take len):=by
    simp only[dh,hb];rw[if_pos ⟨ht1,ht3⟩,List.drop_zero]
   obtain⟨A2,k',hA2,os,hos,hol,hro,_⟩:=fe hrd (hss'.step cJ) hso;have htl:(b.es.take len).length=len:=by simp;omega
   rw[htl]at hA2 hos;injection hA2 with e1 _ e3;subst e1;subst e3;obtain⟨us,hul,hri,hr0⟩:=hgrow A cap os rfl hneed (by rw[hisz];exact hos);have hge:=grownCap_ge w (len+xs.length) cap el;have hrows:=jL (rest:=Builtin.zeroCells z.cells (grownCap w (len+xs.length) cap el-(len+xs.length))) hro hol hri (zone z _ hz1 aq);have hK:=hgr aq;have hl':(b.es.take len++xs).length=len+xs.length:=by simp;omega
   have hgt:b.es.length<(b.es.take len++xs).length:=aq;have hsz:(os++us++Builtin.zeroCells z.cells (grownCap w (len+xs.length) cap el-(len+xs.length))).size=grownCap w (len+xs.length) cap el*P.cellsOf el:=by
    simp only[Array.size_append,size_zeroCells,hzsz,hol,hul,htl,←Nat.add_mul];congr 1;omega
   obtain⟨r1,r2⟩:=J1 hrd (b':=⟨b.ty,b.e,b.es.take len++xs⟩) hb rfl rfl hgt _ hrows.one (by rw[ht3];exact hrows.row) (by rw[ht3];exact hrows.len) (by rw[ht3];exact hrows.is);rw[hr0,←ht2];rw[←ht2]at r1 r2;refine⟨_,_,_,hK,r1.more,cJ.trans (r2.trans Step.more),.own _ _ _ _ _ _ (.inl hU) (by rw[ht2];exact hge) (fun h=>by cases h) fun b1 hb1=>?_⟩;rw[km,if_pos rfl,hb]at hb1;simp only[Option.map_some,Option.some.injEq]at hb1;subst hb1;refine⟨Nat.le_of_eq hl'.symm,fun _=>⟨aq,by rw[ht2];omega,fun _=>⟨w.heap.size,aw,aw,_,⟨_,heap_alloc_new w.drew _,rfl⟩,?_⟩⟩⟩;simp only[Nat.zero_add];rw[ht2,hsz,ht3];exact cL _
theorem J9 (hr:Rel c hp U σ w) (E:∀ x,AIs w (bD c w σ hp) σ hp U (ev fr x) (a.eval x)) (hN:Free U N) {ts tx:TypeId} {s x:Operand} {cl:Call} (hop:o.op=.call cl) (hc:cl.callee=.builtin .append) (ha:cl.args.toList=[s,x]) (ht:cl.argTypes.toList=[ts,tx])
  (hint:∀el id i0 len tot k n z,bU P ts=.slice el→bU P tx=.scal→ev fr s=.own id i0 len tot→ev fr x=.d (.int k n)→jI P tx=some k→0≤n→n≤4294967296→P.bytesOf el*n≤281474976710656→fK P el=some z→fL P el (.own id i0 len tot) (some (List.replicate n.toNat z)) N K hp→OpOk P c K hp U N σ w ((execOp a.eval o).run P w))
  (h:xJ P fr hp N .append [s,x] [ts,tx] K):OpOk P c K hp U N σ w ((execOp a.eval o).run P w):=by
 simp only[xJ]at h;have ha':cl.args=#[s,x]:=by rw[←Array.toArray_toList (xs:=cl.args),ha]
 have ht':cl.argTypes=#[ts,tx]:=by rw[←Array.toArray_toList (xs:=cl.argTypes),ht]
 have run:∀(v:Value)(w':World),(Builtin.append_ #[ts,tx] o.type #[a.eval s,a.eval x]).run P w=.ok v w'→(execOp a.eval o).run P w=.ok (.value v) w':=by
  intro v w' hv;simp[execOp,hop,resolve,hc,ha',ht',invoke,builtin,hv]
 split at h;rename_i el el2 hks hkx;have hts:=bI hks;have htx:=bI hkx;have hxx:=E x;have hss:=E s;generalize hxv:a.eval x=xv at hxx run;generalize hsv:a.eval s=sv at hss run;generalize ev fr x=xa at hxx h;generalize ev fr s=sa at hss h
 -- facts of the element's type
 have info:∀(q:(fK P el).isSome=true),∃i z,P.info? el=some i∧i.zero=some z∧i.size=P.cellsOf el∧i.bytes=P.bytesOf el∧z.cells.size=P.cellsOf el∧P.cellsOf el≠0∧∀(n:Nat)(v:Value),z.cells[n]?=some v→v.oneCell'=true:=by
  intro q;obtain⟨z',hz'⟩:=Option.isSome_iff_exists.1 q;obtain⟨v,i,hi,hz,hs,hne,_,hl⟩:=ye (w:=w) (S:=fun _=>True) (σ:=σ) (hp:=hp) (U:=U) hz';exact⟨i,v,hi,hz,by simp[Program.cellsOf,hi],by simp[Program.bytesOf,hi],hs,hne,hl.one⟩
 have zone:∀(z:Value)(m:Nat),(∀(n:Nat)(v:Value),z.cells[n]?=some v→v.oneCell'=true)→z.cells.size≠0→∀(n:Nat)(v:Value),(Builtin.zeroCells z.cells m)[n]?=some v→v.oneCell'=true:=by
  intro z m hz1 hz0 n v hv;unfold Builtin.zeroCells at hv;simp only[Array.getElem?_map,Option.map_eq_some_iff]at hv;obtain⟨k,_,rfl⟩:=hv;have hlt:k%z.cells.size<z.cells.size:=Nat.mod_lt _ aq;exact hz1 (k%z.cells.size) _ (by simp[hlt])
 unfold fL at h;split at h
 ·
  rename_i xs hxs;obtain⟨q,hby,hfit,h⟩:=h;obtain⟨i,z,hi,hz,hisz,hiby,hzsz,hne,hz1⟩:=info q;cases hss with
  |nil =>
   rcases Nat.eq_zero_or_pos xs.length with h0|h0;have hx0:xs=[]:=List.eq_nil_of_length_eq_zero h0;subst hx0;obtain⟨A,k,rfl,us,hus,hul,hri,_⟩:=fe hr hxx hxs;have hr0:=mG (ty:=o.type) (base:=none) (sLen:=0) (sCap:=0) (w':=w) hts htx hi (hisz▸hus) aw aw;obtain⟨g1,g2⟩:=J3 hr hN ⟨el,P.cellsOf el,[]⟩ rfl;rw[run _ _ hr0];refine⟨_,_,_,h,g1,g2,.own N 0 0 0 _ _ mE (cL _) (fun _=>rfl) fun b hb=>?_⟩;exact⟨Nat.zero_le _,fun _=>⟨cL _,cL _,fun h=>aq⟩⟩;have hrd:=jK hr;obtain⟨A,k,rfl,us,hus,hul,hri,_⟩:=fe hrd (hxx.step cJ) hxs;have hr0:=iK (ty:=o.type) (base:=none) (sLen:=0) (sCap:=0) (os:=#[]) hts htx hi hz (hisz▸hus) (by simp[Builtin.firstCells]) aq aq (by rw[Nat.zero_add,hiby];exact hfit);rw[run _ _ hr0];simp only[Nat.zero_add];have hge:=grownCap_ge w xs.length 0 el;have hrows:=jL (rest:=Builtin.zeroCells z.cells (grownCap w xs.length 0 el-xs.length)) (r1:=[]) (x1:=#[]) (w:=w.drew) ⟨aw,aw,aw,aw⟩ aw hri (zone z _ hz1 aq);rw[List.nil_append]at hrows;have hG:=qQ (K:=K) hrd hN (el:=el) hrows hge (by simp[size_zeroCells,hzsz,hul,←Nat.add_mul];rw[show xs.length+(grownCap w xs.length 0 el-xs.length)=grownCap w xs.length 0 el by omega];exact cL _) h;obtain⟨v,hp',σ',k1,k2,k3,k4⟩:=hG;exact⟨v,hp',σ',k1,k2,cJ.trans k3,k4⟩
 ·
  rename_i id len tot xs hxs;split at h;rename_i b hb;obtain⟨ht1,ht2,ht3,q,hby,hfit,hst,hgr⟩:=h;obtain⟨i,z,hi,hz,hisz,hiby,hzsz,hne,hz1⟩:=info q;refine GO (i:=i) (z:=z) hr hss hb ht1 ht2 ht3 hst hgr hisz hzsz hne hz1 zone (fun A cap e hneed=>?_) (fun A cap os e hneed hos=>?_);subst e;obtain⟨B,k,rfl,us,hus,hul,hri,_⟩:=fe hr hxx hxs;exact⟨us,hul,hri,fun w' hsto=>run _ _ (mG (ty:=o.type) hts htx hi (hisz▸hus) hneed hsto)⟩;subst e;have hrd:=jK hr;obtain⟨B,k,rfl,us,hus,hul,hri,_⟩:=fe hrd (hxx.step cJ) hxs;exact⟨us,hul,hri,run _ _ (iK (ty:=o.type) hts htx hi hz (hisz▸hus) hos aq aq (by rw[hiby];exact hfit))⟩;exact h.elim
 ·
  rename_i e es xs hxs;obtain⟨he,q,hby,hfit,h⟩:=h;obtain⟨i,z,hi,hz,hisz,hiby,hzsz,hne,hz1⟩:=info q;cases hss with
  | d hd0 =>
   cases hd0 with
   | rof _ _ A vs hel hA hv1 hdd =>
    rcases h with ⟨ds,rfl,h⟩|⟨hnx,h⟩;rcases Nat.eq_zero_or_pos ds.length with h0|h0;have hx0:ds=[]:=List.eq_nil_of_length_eq_zero h0;subst hx0;obtain⟨B,k,rfl,us,hus,hul,hri,_⟩:=fe hr hxx hxs;have hu0:us=#[]:=Array.eq_empty_of_size_eq_zero (by simpa using hul);subst hu0;have hr0:=mG (ty:=o.type) (base:=A) (sLen:=es.length) (sCap:=es.length) (w':=w) hts htx hi (hisz▸hus) aw (by cases A<;>simp[storeCells]);rw[List.append_nil]at h;exact OpOk.val (run _ _ hr0) (Good.same hr h (.d (.ro e es A _ vs (cL _) hel hA hv1 hdd)));have hrd:=jK hr;obtain⟨B,k,rfl,us,hus,hul,hri,_⟩:=fe hrd (hxx.step cJ) hxs;have hb0:AIs w (bD c w σ hp) σ hp U (.d (.ro e es)) (.slice A es.length es.length):=.d (.ro e es A _ vs (cL _) hel hA hv1 hdd);obtain⟨A2,k',hA2,os,hos,hol,hro,_⟩:=fe hrd (hb0.step cJ) (sz:=P.cellsOf el) (xs:=es.map fun r=>r.map AV.d) (by simp only[dh];rw[if_pos he]);rw[List.length_map]at hA2 hos;have hln:(ds.map fun r=>r.map AV.d).length=ds.length:=List.length_map _;injection hA2 with e1 _ e3;subst e1;subst e3;have hr0:=iK (ty:=o.type) (base:=A) (sLen:=es.length) (sCap:=es.length) hts htx hi hz (hisz▸hus) (hisz▸hos) aq aq (by rw[hiby];exact hfit);have hr1:=run _ _ hr0;rw[hln]at hr1;have hge:=grownCap_ge w (es.length+ds.length) es.length el;have hrows:=jL (rest:=Builtin.zeroCells z.cells (grownCap w (es.length+ds.length) es.length el-(es.length+ds.length))) hro hol hri (zone z _ hz1 aq);rw[hr1];have hG:=Yo (N:=N) (K:=K) (es:=es++ds) (e:=e) (cap:=grownCap w (es.length+ds.length) es.length el) (C:=os++us++Builtin.zeroCells z.cells (grownCap w (es.length+ds.length) es.length el-(es.length+ds.length))) (w':=w.drew.alloc (.cells (os++us++Builtin.zeroCells z.cells (grownCap w (es.length+ds.length) es.length el-(es.length+ds.length))) el)) hr ⟨rfl,rfl,rfl,by simp[World.size_alloc],fun b hb=>gA w.drew _ b hb⟩ (by rw[World.size_alloc];exact Nat.lt_succ_self _) (fun j v hj=>?_) (fun r hr'=>?_) ?_ (by rw[b_];exact hge) (fun i' j r y x hi' hj hx=>?_) h;rw[b_]at hG;exact hG;exact J7 w.drew _ _ j v hj;have:=hrows.row (r.map AV.d) (by rw[←List.map_append];exact List.mem_map_of_mem hr');rw[List.length_map]at this;rw[this,he];have:=hrows.len;rw[←List.map_append,List.length_map]at this;rw[he];exact this;have h1:=hrows.is i' j (r.map AV.d) (.d y) x (by rw[←List.map_append,cU,hi'];rfl) (by rw[cU,hj];rfl) (by rw[←he];exact hx);cases h1 with
    |d h1=>exact DIs.mono (w:=w.drew) (w':=w) (S:=bD c w.drew σ hp) (S':=bD c w σ hp) (fun _ h=>h) (fun _ _=>rfl) h1
    ·have h0:0<xs.length:=List.length_pos_iff.2 hnx;have hrd:=jK hr;obtain⟨B,k,rfl,us,hus,hul,hri,_⟩:=fe hrd (hxx.step cJ) hxs;have hb0:AIs w (bD c w σ hp) σ hp U (.d (.ro e es)) (.slice A es.length es.length):=.d (.ro e es A _ vs (cL _) hel hA hv1 hdd);obtain⟨A2,k',hA2,os,hos,hol,hro,_⟩:=fe hrd (hb0.step cJ) (sz:=P.cellsOf el) (xs:=es.map fun r=>r.map AV.d) (by simp only[dh];rw[if_pos he]);rw[List.length_map]at hA2 hos;injection hA2 with e1 _ e3;subst e1;subst e3;have hr0:=iK (ty:=o.type) (base:=A) (sLen:=es.length) (sCap:=es.length) hts htx hi hz (hisz▸hus) (hisz▸hos) aq aq (by rw[hiby];exact hfit);have hge:=grownCap_ge w (es.length+xs.length) es.length el;have hrows:=jL (rest:=Builtin.zeroCells z.cells (grownCap w (es.length+xs.length) es.length el-(es.length+xs.length))) hro hol hri (zone z _ hz1 aq);have hln:((es.map fun r=>r.map AV.d)++xs).length=es.length+xs.length:=(by rw[b_,List.length_map]);rw[List.length_map]at hol;rw[run _ _ hr0];have hG:=qQ (K:=K) hrd hN (el:=el) (cap:=grownCap w (es.length+xs.length) es.length el) hrows (by rw[hln];exact hge) (by
      simp only[Array.size_append,size_zeroCells,hzsz,hol,hul,←Nat.add_mul];rw[show es.length+xs.length+(grownCap w (es.length+xs.length) es.length el-(es.length+xs.length))=grownCap w (es.length+xs.length) es.length el by omega]
      exact cL _) (by rw[hln];exact h)
     rw[hln]at hG;obtain⟨v,hp',σ',k1,k2,k3,k4⟩:=hG;exact⟨v,hp',σ',k1,k2,cJ.trans k3,k4⟩
 ·
  rename_i id i0 off e len cap tot xs hxs;obtain⟨hgt,q,hby,hfit,h⟩:=h;split at h;rename_i rs hrs;obtain⟨i,z,hi,hz,hisz,hiby,hzsz,hne,hz1⟩:=info q;have hss':=hss;cases hss with
  | sub _ _ _ _ _ _ _ A hU hl hA0 h' =>
   have hrd:=jK hr;obtain⟨B,k,rfl,us,hus,hul,hri,_⟩:=fe hrd (hxx.step cJ) hxs;obtain⟨A2,k',hA2,os,hos,hol,hro,_⟩:=fe hrd (hss'.step cJ) hrs;injection hA2 with e1 e2 e3;subst e1;subst e3;rw[←e2]at hos hol;have hr0:=iK (ty:=o.type) (base:=A) (sLen:=len) (sCap:=cap) hts htx hi hz (hisz▸hus) (hisz▸hos) hgt (by rw[hiby];exact hby) (by rw[hiby];exact hfit);have hge:=grownCap_ge w (len+xs.length) cap el;have hol':os.size=rs.length*P.cellsOf el:=by rw[←e2];exact hol
   have hrows:=jL (rest:=Builtin.zeroCells z.cells (grownCap w (len+xs.length) cap el-(len+xs.length))) hro hol' hri (zone z _ hz1 aq);have hln:(rs++xs).length=len+xs.length:=(by rw[b_,←e2]);rw[run _ _ hr0];have hG:=qQ (K:=K) hrd hN (el:=el) (cap:=grownCap w (len+xs.length) cap el) hrows (by rw[hln];exact hge) (by
    simp only[Array.size_append,size_zeroCells,hzsz,hol,hul,←Nat.add_mul];rw[show len+xs.length+(grownCap w (len+xs.length) cap el-(len+xs.length))=grownCap w (len+xs.length) cap el by omega]
    exact cL _) (by rw[hln];exact h)
   rw[hln]at hG;obtain⟨v,hp',σ',k1,k2,k3,k4⟩:=hG;exact⟨v,hp',σ',k1,k2,cJ.trans k3,k4⟩
  ·exact h.elim
 ·exact h.elim
 ·rename_i el hks hkx;split at h;rename_i id i0 len tot k n k' hs hx hk;obtain⟨rfl,h0,h1,h2,h⟩:=h;split at h;rename_i z hz;exact hint el id i0 len tot k n z hks hkx hs hx hk h0 h1 h2 hz h;exact h.elim;exact h.elim
 ·exact h.elim
end
end Go.Am
namespace Go.Am
section
variable {P:Program} {c:Ctx} {K:AV→Hp→Prop} {fr:Fr} {hp:Hp} {U:Nat→Prop} {N:Nat} {σ:Nat→Option Nat} {w:World} {a:Act} {o:Oper}
theorem GP{α:Type}{n:Nat}{v:α}:∀{l:List (Nat×α)},lk n l=some v→(n,v)∈l
 |[],h=>by cases h
 |(m,u)::t,h=>by
  simp only[lk]at h;split at h;rename_i e;injection h with h;subst e;subst h;exact dz ..;exact cS _ (GP h)
theorem BI:∀{u v:List (IntKind×Int)},pT u=pT v→u=v
 |[],[],_=>rfl
 |[],_::_,h=>by simp[pT]at h
 |_::_,[],h=>by simp[pT]at h
 |(k,n)::u,(k',n')::v,h=>by
  simp only[pT,List.map_cons,List.cons.injEq,AV.d.injEq,DV.int.injEq]at h;obtain⟨⟨rfl,rfl⟩,h⟩:=h;rw[BI (u:=u) (v:=v) h]
theorem BJ{u v:List (IntKind×Int)}(h:nE u=nE v):u=v:=by
 have b:u.map (fun p=>Value.int p.1 p.2)=v.map (fun p=>Value.int p.1 p.2):=by simpa[nE]using h
 clear h;have h:=b;clear b
 induction u generalizing v with
 |nil=>cases v with
  |nil=>rfl
  |cons=>simp at h
 | cons p u ih =>
  cases v with
  |nil=>simp at h
  |cons q v =>
   obtain⟨k,n⟩:=p;obtain⟨e,d⟩:=q;simp only[List.map_cons,List.cons.injEq,Value.int.injEq]at h;obtain⟨⟨rfl,rfl⟩,h⟩:=h;rw[ih h]
theorem Ko{a b:List (List (IntKind×Int))}(h:pC a=pC b):a=b:=by
 simp only[pC,List.cons.injEq,true_and]at h
 induction a generalizing b with
 |nil=>cases b with
  |nil=>rfl
  |cons=>simp at h
 | cons x a ih =>
  cases b with
  |nil=>simp at h
  |cons y b =>
   simp only[List.map_cons,List.cons.injEq]at h;rw[BI h.1,ih h.2]
theorem Kp{S:Nat→Prop}{u:List (IntKind×Int)}{v:Value}(h:AIs w S σ hp U (.agg (pT u)) v):v=nE u:=by
 cases h with
 | agg _ xs hl h1 h2 =>
  unfold nE;congr 1;apply Array.ext';rw[List.toList_toArray];refine List.ext_getElem? fun i=>?_;rw[cU];cases b:u[i]? with
  | none =>
   have:xs.size≤i:=by
    have:=List.getElem?_eq_none_iff.1 b;simp only[pT,List.length_map]at hl;omega
   simp[this]
  | some p =>
   have e:i<xs.size:=by
    have:=(ci.1 b).1;simp only[pT,List.length_map]at hl;omega
   have f:xs[i]?=some xs[i]:=dg e;have:=eD (h2 i (.d (.int p.1 p.2)) xs[i] (by simp[pT,b]) f);rw[Array.getElem?_toList,f,this];rfl
theorem Kq(s:Rel c hp U σ w){id:Nat}{b:Blk}{k:List (List (IntKind×Int))}{v:Value}(h:AIs w (bD c w σ hp) σ hp U (.mp id) v)(q:lk id hp=some b)(t:b.e=0)(f:b.es=pC k) :
  ∃j d,v=.map (some b.ty)∧σ id=none∧c.w0.heap.size≤b.ty∧w.heap[b.ty]?=some (.map j d) ∧
   (∀m∈j.toList,m.val=.bool true∧∃u∈k,m.key=nE u)∧∀u∈k,∃m∈j.toList,m.key=nE u:=by
 cases h with
 |mp _ g hN h =>
  have B:=h b q;subst B;rcases s.blk id b q with ⟨x,p|⟨_,A,r,j,d,l,k2,k3,k4⟩⟩|⟨g,_,y,_,_,k3,_⟩;rw[f]at p;simp[pC]at p;rw[f]at l;have:=Ko l;subst this;exact⟨j,d,rfl,x,A,k2,k3,k4⟩;have:=k3 [.any] (by rw[f];simp[pC]);rw[t]at this;simp at this
theorem Iz(m:Rel c hp U σ w)(hN:Free U N){t:TypeId}(F:o.op=.makeMap t none)(h:bM P fr hp N (.makeMap t none) K) :
  OpOk P c K hp U N σ w ((execOp a.eval o).run P w):=by
 have Z:=h w.heap.size;have D:(execOp a.eval o).run P w=.ok (.value (.map (some w.heap.size))) (w.alloc (.map #[] 0)):=by
  have:(Instr.makeMap t none).run P w=.ok (.map (some w.heap.size)) (w.alloc (.map #[] 0)):=rfl;simp[execOp,F,this]
 rw[D]
 let b:Blk:=⟨w.heap.size,0,pC []⟩
 let w':=w.alloc (.map #[] 0)
 let σ':=fun i=>if i=N then none else σ i
 have f:∀i d,lk i ((N,b)::hp)=some d→(i=N∧d=b)∨(i≠N∧lk i hp=some d):=by
  intro i d h;rw[qN]at h;split at h;rename_i e;injection h with h;exact .inl ⟨e.symm,h.symm⟩;rename_i e;exact .inr ⟨fun h'=>e h'.symm,h⟩
 have y:∀i,i≠N→σ' i=σ i:=fun i h=>if_neg h;have r:σ' N=none:=if_pos rfl;have q:w'.heap.size=w.heap.size+1:=World.size_alloc w _;have k:∀i,i<w.heap.size→w'.heap[i]?=w.heap[i]?:=fun i h=>gA w _ i h;have H:∀i d g,lk i hp=some d→σ i=some g→g<w.heap.size:=fun i d g h l=>dS (m.at h l);have B:Step w (bD c w σ hp) σ hp U w' (bD c w' σ' ((N,b)::hp)) σ' ((N,b)::hp) (ec U N):=by
  refine⟨fun g l=>⟨⟨by rw[q];have:=l.1.1;omega,fun id C Y x s=>?_⟩,l.2⟩,fun p hp'=>?_,fun _ h=>.inl h,fun id G L x=>?_⟩;rcases f id C x with ⟨rfl,rfl⟩|⟨h,x⟩;rw[r]at s;cases s;rw[y id h]at s;exact l.1.2 id C Y x s;exact World.cell?_of_block (w:=w) (k _ hp'.1.1);rcases f id G x with ⟨rfl,rfl⟩|⟨h,x⟩;exact absurd L hN.at
  refine⟨G,x,rfl,rfl,cL _,fun _ g l=>⟨(y id h).trans l,fun n hn=>?_⟩⟩;obtain⟨cc,h5,h6⟩:=hn;exact⟨cc,(k _ (H id G g x l)).trans h5,h6⟩
 refine⟨.mp N,_,σ',Z,⟨fun i j X W g A hj u v=>?_,fun i d h=>?_,fun i d h=>?_,fun i d g h l=>?_,m.os,m.tape,m.output,by rw[q];have:=m.size;omega,fun g l M=>?_⟩,B,.mp N _ mE fun d I=>?_⟩;rcases f i X A with ⟨T,_⟩|⟨Q,R⟩<;>rcases f j W hj with ⟨V,_⟩|⟨O,J⟩;rw[T,V];rw[T,r]at u;cases u;rw[V,r]at v;cases v;rw[y i Q]at u;rw[y j O]at v;exact m.inj i j X W g R J u v;rcases f i d h with ⟨rfl,rfl⟩|⟨_,h⟩;exact mE;exact .inl (m.lt i d h);rcases f i d h with ⟨rfl,rfl⟩|⟨A,h⟩;exact .inl ⟨r,.inr ⟨rfl,m.size,[],#[],0,rfl,heap_alloc_new w _,aw,aw⟩⟩;rcases m.blk i d h with ⟨E,k2⟩|⟨g,E,k2⟩;exact .inl ⟨(y i A).trans E,k2.keep fun _ _ _ M=>k _ (uU M)⟩;exact .inr ⟨g,(y i A).trans E,k2.step B (k _ (dS k2))⟩;rcases f i d h with ⟨rfl,rfl⟩|⟨A,h⟩;rw[r]at l;cases l;rw[y i A]at l;exact m.mine i d g h l;rw[k g (by have:=m.size;omega)];exact m.old g l M;rcases f N d I with ⟨_,rfl⟩|⟨h,_⟩;rfl;exact absurd rfl h
theorem Kr(I:Rel c hp U σ w)(E:∀x,AIs w (bD c w σ hp) σ hp U (ev fr x) (a.eval x)){t:TypeId}{m x:Operand}(F:o.op=.lookup t m x false)(h:bM P fr hp N (.lookup t m x false) K) :
  OpOk P c K hp U N σ w ((execOp a.eval o).run P w):=by
 simp only[bM]at h;unfold luW at h;split at h;rename_i id cs s hx;obtain⟨b,Z,u,hb,he,M,rfl,⟨k,e,Y,H,hz,g⟩,A⟩:=h;obtain⟨O,B,T,_,_,f,X,h2⟩:=Kq I (s▸E m) hb he M;have V:=Kp (hx▸E x);obtain⟨l,L⟩:=g u aw;have C:∀m∈O.toList,∃l,keyOf P k m.key=some l:=fun m s=>by
  obtain⟨_,v,T,e⟩:=X m s;rw[e];exact g v (by simp[T])
 have run:∀r:Value,(Instr.lookup t (.map (some b.ty)) (nE u) false).run P w=.ok r w→(execOp a.eval o).run P w=.ok (.value r) w:=by
  intro r p;simp[execOp,F,T,V,p]
 rcases H.find w L O.toList C with ⟨R,Q⟩|⟨j,W,R,Q,q3⟩;have G:decide (u∈Z)=false:=by
  refine decide_eq_false fun hu=>?_;obtain⟨m,s,e⟩:=h2 u hu;exact Q m s e
 rw[G]at A;exact OpOk.val (run _ (by simp[Instr.lookup,run_underlying Y,MapKept.run_getObj_map f,H.check w _ L,R,hz,Result.andThen])) (Good.same I A (.d (.bool _)));have D:W∈O.toList:=cr Q;obtain⟨q,v,J,e⟩:=X W D;have y:decide (u∈Z)=true:=by
  refine decide_eq_true ?_;rw[q3]at e;rw[BJ e];exact J
 rw[y]at A;exact OpOk.val (run _ (by simp[Instr.lookup,run_underlying Y,MapKept.run_getObj_map f,H.check w _ L,R,q,Result.andThen])) (Good.same I A (.d (.bool _)));exact h.elim
theorem BK(I:Rel c hp U σ w)(E:∀x,AIs w (bD c w σ hp) σ hp U (ev fr x) (a.eval x)){t:TypeId}{m x v:Operand}(ak:o.op=.mapUpdate t m x v)(h:bM P fr hp N (.mapUpdate t m x v) K) :
  OpOk P c K hp U N σ w ((execOp a.eval o).run P w):=by
 simp only[bM]at h;unfold muW at h;split at h;rename_i id cs H hx an;obtain⟨b,ks,u,hb,he,ah,rfl,⟨k,e,ht,Kd,_,L⟩,R,hK⟩:=h;obtain⟨M,r,y,G,Z,d,h1,h2⟩:=Kq I (H▸E m) hb he ah;have ap:=Kp (hx▸E x);have am:=gi (an▸E v);obtain⟨l,hl⟩:=L u aw;have al:∀m∈M.toList,∃l,keyOf P k m.key=some l:=fun m H=>by
  obtain⟨_,v,y,e⟩:=h1 m H;rw[e];exact L v (by simp[y])
 have key:∃s f,(Instr.mapUpdate t (.map (some b.ty)) (nE u) (.bool true)).run P w=.ok () (ChangeMaps.setBlock w b.ty (.map s f)) ∧
   (∀m∈s.toList,m.val=.bool true∧∃v∈ks++[u],m.key=nE v)∧∀v∈ks++[u],∃m∈s.toList,m.key=nE v:=by
  rcases Kd.find w hl M.toList al with ⟨q1,q2⟩|⟨j,e0,q1,q2,q3⟩;refine⟨M.push ⟨nE u,.bool true,r⟩,r+1,by simp[Instr.mapUpdate,run_underlying ht,MapKept.run_getObj_map d,Kd.check w false hl,q1,MapKept.run_setObj_map _ d,Result.andThen,ChangeMaps.setBlock],fun m H=>?_,fun v y=>?_⟩;simp only[Array.toList_push,cD,List.mem_singleton]at H;rcases H with H|rfl;obtain⟨p1,v,p2,p3⟩:=h1 m H;exact⟨p1,v,cD.2 (.inl p2),p3⟩;exact⟨rfl,u,aw,rfl⟩;rcases cD.1 y with y|y;obtain⟨m,p1,p2⟩:=h2 v y;exact⟨m,by simp[p1],p2⟩;simp only[List.mem_singleton]at y;subst y;exact⟨⟨nE v,.bool true,r⟩,aw,rfl⟩;have hj:M[j]?=some e0:=by simpa using q2
  have ai:e0∈M.toList:=cr q2;obtain⟨ad,v0,aj,ac⟩:=h1 e0 ai;have hu:u∈ks:=by
   rw[q3]at ac;rw[BJ ac];exact aj
  have q:M.modify j (fun e'=>{ e' with key:=nE u,val:=.bool true })=M:=by
   apply Array.ext';rw[Array.toList_modify];refine List.ext_getElem? fun i=>?_;rw[List.getElem?_modify];by_cases af:j=i;subst af;rw[q2];simp only[if_true,Option.map_eq_map,Option.map_some,Option.some.injEq];rw[←q3,←ad];simp[af]
  refine⟨M,r,?_,fun m H=>?_,fun v y=>?_⟩;simp[Instr.mapUpdate,run_underlying ht,MapKept.run_getObj_map d,Kd.check w false hl,q1,hj,q3,Kd.stays w hl,q,MapKept.run_setObj_map _ d,Result.andThen,ChangeMaps.setBlock];obtain⟨p1,v,p2,p3⟩:=h1 m H;exact⟨p1,v,cD.2 (.inl p2),p3⟩;refine h2 v ?_;rcases cD.1 y with y|y;exact y;simp only[List.mem_singleton]at y;subst y;exact hu
 obtain⟨s,f,Y,g1,g2⟩:=key;have aa:(execOp a.eval o).run P w=.ok .skip (ChangeMaps.setBlock w b.ty (.map s f)):=by
  simp[execOp,ak,y,ap,am,Y]
 rw[aa]
 let w':=ChangeMaps.setBlock w b.ty (.map s f)
 let b':Blk:=⟨b.ty,b.e,pC (ks++[u])⟩
 have q:w'.heap[b.ty]?=some (.map s f):=ChangeMaps.heap_setBlock_same d _;have C:∀i,i≠b.ty→w'.heap[i]?=w.heap[i]?:=fun i h=>ChangeMaps.heap_setBlock_other d _ h;have J:w'.heap.size=w.heap.size:=by simp[w',ChangeMaps.setBlock]
 have B:∀i A,lk i (bJ id b' hp)=some A→(i=id∧A=b')∨(i≠id∧lk i hp=some A):=by
  intro i A h;rw[km]at h;split at h;rename_i e;rw[hb]at h;simp at h;exact .inl ⟨e,h.symm⟩;rename_i e;exact .inr ⟨e,h⟩
 have D:∀g O ty,w.heap[g]?=some (.cells O ty (0,0))→g≠b.ty:=fun g O ty h e=>by
  subst e;rw[d]at h;cases h
 have ab:Step w (bD c w σ hp) σ hp U w' (bD c w' σ (bJ id b' hp)) σ (bJ id b' hp) U:=by
  refine⟨fun g F=>⟨⟨by rw[J];exact F.1.1,fun i ag g' V Q=>?_⟩,F.2⟩,fun p hp'=>?_,fun _ h=>h,fun i A ar V=>?_⟩;rcases B i ag V with ⟨rfl,rfl⟩|⟨h,X⟩;rw[G]at Q;cases Q;exact F.1.2 i ag g' X Q;by_cases hp0:p.block=b.ty;simp only[World.cell?,hp0,q,d];exact World.cell?_of_block (w:=w) (C _ hp0);rcases B i A V with ⟨rfl,rfl⟩|⟨h,X⟩;refine⟨b,hb,rfl,rfl,?_,fun _ g F=>?_⟩;rw[ah];simp[b',pC];rw[G]at F;cases F;refine⟨A,X,rfl,rfl,cL _,fun _ g F=>⟨F,fun n hn=>?_⟩⟩;obtain⟨cc,h5,h6⟩:=hn;exact⟨cc,(C _ (D _ _ _ h5)).trans h5,h6⟩
 have ae:Rel c (bJ id b' hp) U σ w':=by
  refine⟨fun i j bi bj g hi hj W T=>?_,fun i A h=>?_,fun i A h=>?_,fun i A g h F=>?_,I.os,I.tape,I.output,by rw[J];exact I.size,fun g F H=>?_⟩;rcases B i bi hi with ⟨rfl,_⟩|⟨av,aq⟩;rw[G]at W;cases W;rcases B j bj hj with ⟨rfl,_⟩|⟨au,ao⟩;rw[G]at T;cases T;exact I.inj i j bi bj g aq ao W T;rcases B i A h with ⟨rfl,rfl⟩|⟨_,h⟩;exact I.lt _ b hb;exact I.lt i A h;rcases B i A h with ⟨rfl,rfl⟩|⟨hi,h⟩;exact .inl ⟨G,.inr ⟨he,Z,ks++[u],s,f,rfl,q,g1,g2⟩⟩;rcases I.blk i A h with ⟨k1,k2|⟨k2,_⟩⟩|⟨g,k1,k2⟩;exact .inl ⟨k1,.inl k2⟩;exact absurd (R _ (GP h) k2) hi;refine .inr ⟨g,k1,k2.step ab (C _ ?_)⟩;obtain⟨O,k3,_⟩:=k2;exact D _ _ _ k3;rcases B i A h with ⟨rfl,rfl⟩|⟨hi,h⟩;rw[G]at F;cases F;exact I.mine i A g h F;rw[C g (fun e=>by subst e;omega)];exact I.old _ F H
 exact⟨.any,_,σ,hK,ae.more,ab.trans Step.more,.any _⟩;exact h.elim
end
end Go.Am
namespace Go.Am
section
variable {P:Program} {c:Ctx} {K:AV→Hp→Prop} {fr:Fr} {hp:Hp} {U:Nat→Prop} {N:Nat} {σ:Nat→Option Nat} {w:World} {a:Act} {o:Oper} {S:Nat→Prop}
theorem EI(D:Rel c hp U σ w)(E:∀x,AIs w (bD c w σ hp) σ hp U (ev fr x) (a.eval x)){s t:TypeId}{x:Operand}(v:o.op=.convert s t x){g:List Int}{el:TypeId}(J:dh hp 1 (ev fr x)=some (g.map fun b=>[.d (.int .u8 b)]))(Q:∀b,b∈g→0≤b∧b<256)(M:bU P s=.slice el)(R:bU P t=.str)
  (r:P.underlying el=some (.int .u8)) (h:K (.d (.str g)) hp):OpOk P c K hp U N σ w ((execOp a.eval o).run P w):=by
 obtain⟨A,k,G,B,V,O,L,F⟩:=fe (P:=P) D (E x) J;rw[List.length_map]at G O F;have m:∃s:ByteArray,(Conv.bytesToString (.slice A g.length k)).run P w=.ok (.string s) w∧(s.data.toList.map fun c=>(c.toNat:Int))=g:=by
  rcases g with _|⟨y,bs'⟩;cases A with
  |none=>exact⟨.empty,by simp[Conv.bytesToString],rfl⟩
  |some ad =>
   refine⟨.empty,?_,rfl⟩;exact run_bytesToString (P:=P) w ad 0 k [] (by simp[loadCells,loadCellsFrom])
  ·obtain⟨ad,rfl,T⟩:=F aw;have e:=run_loadCells_list (P:=P) w ad ((y::bs').map (Value.int .u8)) (fun j u I=>by
    simp only[cU,Option.map_eq_some_iff]at I;obtain⟨b,l,rfl⟩:=I;have p:j<B.size:=by have:=(ci.1 l).1;omega
    have q:=T j B[j] (dg p);have C:=L.is j 0 [.d (.int .u8 b)] (.d (.int .u8 b)) B[j] (by rw[cU,l];rfl) rfl (by rw[Nat.mul_one,Nat.add_zero];exact dg p);rw[eD C]at q
    exact q)
   rw[List.length_map]at e;have:=run_bytesToString (P:=P) w ad (y::bs').length k (y::bs') e;refine⟨_,this,?_⟩;rw[yb _ Q];rfl
 obtain⟨H,q,C⟩:=m;refine OpOk.val (x:=.string H) ?_ (Good.same D h (by rw[←C];exact .d (.str H)));have f:=run_convert_bytes_string (P:=P) w s t el A g.length k (bI M) r (oy R);simp only[execOp,v,G,Sem.run_bind,f,q,Result.andThen_ok,Sem.run_pure]
theorem EJ(I:Rel c hp U σ w)(E:∀x,AIs w (bD c w σ hp) σ hp U (ev fr x) (a.eval x)){s t:TypeId}{x:Operand}(u:o.op=.convert s t x){G:List Int}{el:TypeId}(k:ev fr x=.d (.str G))(M:bU P s=.str)(L:bU P t=.slice el)
  (q:P.underlying el=some (.int .u8)) (h:K (.d (.ro 1 (G.map fun b=>[.int .u8 b]))) hp):OpOk P c K hp U N σ w ((execOp a.eval o).run P w):=by
 have g:=E x;rw[k]at g;generalize Q:a.eval x=v at g;cases g with
 | d g =>
  cases g with
  | str s0 =>
   have p:=run_bytes_of_string (P:=P) w s t el s0 (oy M) (bI L) q;simp only[execOp,u,Q,Sem.run_bind,p,Result.andThen_ok,Sem.run_pure];have f:(((s0.data.toList.map fun c=>(c.toNat:Int)).map fun b=>[DV.int .u8 b])).length=s0.size:=by rw[List.length_map,List.length_map];rfl
   have J:s0.size≤(bytesRow s0 (grownCap w s0.size 0 el)).size:=by unfold bytesRow;rw[Array.size_append,Array.size_map];exact Nat.le_add_right _ _
   have:=Yo (N:=N) (K:=K) I (w':=w.drew.alloc (.cells (bytesRow s0 (grownCap w s0.size 0 el)) el ((bytesRow s0 (grownCap w s0.size 0 el)).size,(bytesRow s0 (grownCap w s0.size 0 el)).size+1))) (e:=1) (cap:=grownCap w s0.size 0 el) (C:=bytesRow s0 (grownCap w s0.size 0 el))
    (es:=(s0.data.toList.map fun c=>(c.toNat:Int)).map fun b=>[DV.int .u8 b]) ⟨rfl,rfl,rfl,by simp[World.size_alloc],fun b O=>gA w.drew _ b O⟩ (by rw[World.size_alloc];exact Nat.lt_succ_self _) (fun j v l=>?_) (fun r D=>?_) (by rw[f];omega) (by rw[f];exact grownCap_ge w s0.size 0 el) (fun i j r y x F l k=>?_) h
   rw[f]at this;exact this;have B:=heap_alloc_new w.drew (.cells (bytesRow s0 (grownCap w s0.size 0 el)) el ((bytesRow s0 (grownCap w s0.size 0 el)).size,(bytesRow s0 (grownCap w s0.size 0 el)).size+1));simp only[World.cell?];rw[show w.heap.size=w.drew.heap.size from rfl,B];simpa using l;obtain⟨b,_,rfl⟩:=List.mem_map.1 D;rfl;simp only[cU,Option.map_eq_some_iff]at F;obtain⟨b,⟨ch,m,rfl⟩,rfl⟩:=F;cases j with
   |succ j=>simp at l
   |zero =>
    simp at l;subst l;have A:=(ci.1 m);obtain⟨B,H⟩:=A;rw[Nat.mul_one,Nat.add_zero,bytesRow_at s0 _ i (by simpa using B)]at k;injection k with k;subst k;simp only[Array.getElem_toList]at H;rw[H];exact .int _ _
theorem je{len cap:Nat}{e hi:Option Value}{g:Value}{l h m:Int}(d:e=none∧l=0∨∃k,e=some (.int k l))(f:∃k,hi=some (.int k h))(b:∃k,g=.int k m)(s:0≤l)(q:l≤h)(r:h≤m)(h3:m≤cap) :
  (Instr.sliceBounds true len cap e hi (some g)).run P w=.ok (l.toNat,h.toNat,m.toNat) w:=by
 unfold Instr.sliceBounds;obtain⟨j,rfl⟩:=f;obtain⟨k2,rfl⟩:=b;have p:h≤(m.toNat:Int):=aq;have t:l≤(h.toNat:Int):=aq;rcases d with ⟨rfl,rfl⟩|⟨k,rfl⟩;simp[Instr.sliceBound,asIntOf,show 0≤m∧m≤(cap:Int)by omega,show 0≤h∧h≤max m 0 by omega];simp[Instr.sliceBound,asIntOf,show 0≤m∧m≤(cap:Int)by omega,show 0≤h∧h≤max m 0 by omega,show 0≤l∧l≤max h 0 by omega]
theorem zM{U:Nat→Prop}(E:∀x,AIs w S σ hp U (ev fr x) (a.eval x)){x:Operand}{l:Int}(h:(ev fr x).num=some l):∃k,a.eval x=.int k l:=by
 have b:=E x;unfold AV.num at h;split at h;rename_i k n d;injection h with h;subst h;rw[d]at b;exact⟨k,eD b⟩;cases h
theorem Ks(Q:Rel c hp U σ w)(E:∀x,AIs w (bD c w σ hp) σ hp U (ev fr x) (a.eval x)){t:TypeId}{x:Operand}{J hi:Option Operand}{m:Operand}(O:o.op=.slice t x J hi (some m))(h:bM P fr hp N (.slice t x J hi (some m)) K) :
  OpOk P c K hp U N σ w ((execOp a.eval o).run P w):=by
 simp only[bM]at h;have run:∀v,(Instr.sliceAt t (a.eval x) (J.map a.eval) (hi.map a.eval) (some (a.eval m))).run P w=.ok v w→(execOp a.eval o).run P w=.ok (.value v) w:=by
  intro v hv;simp[execOp,O,hv]
 have q:=E x;generalize aa:a.eval x=xv at q run;generalize Y:ev fr x=xa at q h;generalize s:zF fr 0 J=blo at h;generalize B:EB fr hi=bhi at h;generalize p:(ev fr m).num=bmx at h;generalize M:bU P t=k at h;unfold mF at h;have g:∀l,bhi=some l→∃k,hi.map a.eval=some (.int k l):=by
  intro l W;rw[W]at B;cases hi with
  |none=>cases B
  |some y =>
   obtain⟨k,R⟩:=zM E B;exact⟨k,by simp[R]⟩
 split at h
 ·rename_i e C el l f mm;obtain⟨H,he,X,R,rfl,h2,h⟩:=h;cases q with
  | d q =>
   cases q with
   | ro _ _ A cap vs hc hel hA hv1 hd =>
    have G:=je (P:=P) (w:=w) (len:=C.length) (cap:=cap) (fQ E s) (g _ rfl) (zM E p) X R (Int.le_refl _) aq;have F:((C.take f.toNat).drop l.toNat).length=f.toNat-l.toNat:=by simp;omega
    have b:∀(i:Nat)(r:List DV),((C.take f.toNat).drop l.toNat)[i]?=some r→C[l.toNat+i]?=some r:=by
     intro i r hi;rw[List.getElem?_drop,List.getElem?_take]at hi;split at hi;exact hi;cases hi
    have I:∀(i:Nat)(r:List DV),((C.take f.toNat).drop l.toNat)[i]?=some r→f.toNat≠l.toNat:=by
     intro i r hi;have:=(ci.1 hi).1;omega
    refine OpOk.val (run (.slice (if f.toNat=l.toNat then A else A.map (·.add (l.toNat*P.cellsOf el))) (f.toNat-l.toNat) (f.toNat-l.toNat)) ?_) (Good.same Q h (.d ?_))
    simp[Instr.sliceAt,Instr.slice,run_underlying (bI M),G,be H];rw[←F];refine .rof e _ _ (fun i j=>vs (l.toNat+i) j) (fun r u=>?_) (fun r u=>?_) (fun ad D i j r y hi V=>?_) (fun i j r y(hi:((C.take f.toNat).drop l.toNat)[i]?=some r)V=>hd _ j r y (b i r hi) V);obtain⟨i,hi⟩:=List.getElem?_of_mem u;exact hel r (cr (b i r hi));obtain⟨i,hi⟩:=List.getElem?_of_mem u;obtain⟨ad,L,k2⟩:=hA r (cr (b i r hi));rw[if_neg (I i r hi),L];exact⟨_,rfl,by rw[eK];exact k2⟩;rw[if_neg (I i r hi)]at D;obtain⟨T,L,rfl⟩:=Option.map_eq_some_iff.1 D;rw[ll,←he,show l.toNat*e+(i*e+j)=(l.toNat+i)*e+j by rw[Nat.add_mul];omega];exact hv1 T L _ j r y (b i r hi) V
 ·rename_i el l f mm;obtain⟨H,rfl,rfl,rfl,h⟩:=h;have G:=je (P:=P) (w:=w) (len:=0) (cap:=0) (fQ E s) (g _ rfl) (zM E p) aq aq aq aq;cases q with
  |nil =>
   refine OpOk.val (run (.slice none 0 0) ?_) (Good.same Q h (.d (.rof _ [] none (fun _ _=>undef) aw aw aw aw)));simp[Instr.sliceAt,Instr.slice,run_underlying (bI M),G,be H]
 ·rename_i id i0 len Z el l f mm;obtain⟨H,rfl,rfl,rfl,h⟩:=h;cases q with
  |own _ _ _ _ A cap hN W X hq =>
   have G:=je (P:=P) (w:=w) (len:=len) (cap:=cap) (fQ E s) (g _ rfl) (zM E p) aq aq aq aq;refine OpOk.val (run (.slice A 0 0) ?_) (Good.same Q h (.d (.rof _ [] A (fun _ _=>undef) aw aw aw aw)));simp[Instr.sliceAt,Instr.slice,run_underlying (bI M),G,be H]
 ·exact h.elim
theorem Ux(X:Rel c hp U σ w)(E:∀x,AIs w (bD c w σ hp) σ hp U (ev fr x) (a.eval x))(hN:Free U N){t:TypeId}{l m:Operand}(s:o.op=.makeSlice t l m)(h:bM P fr hp N (.makeSlice t l m) K) :
  OpOk P c K hp U N σ w ((execOp a.eval o).run P w):=by
 simp only[bM]at h;have run:∀v p,(Instr.makeSlice t (a.eval l) (a.eval m)).run P w=.ok v p→(execOp a.eval o).run P w=.ok (.value v) p:=by
  intro v p hv;simp[execOp,s,hv]
 have M:=E l;have O:=E m;unfold GH at h;split at h;rename_i el kl n Z q T D F;split at h;rename_i z hz;obtain⟨h0,h1,h2,V,h4,h⟩:=h;rw[D]at M;rw[F]at O;obtain⟨v,i,u,C,hs,I,_,G⟩:=ye (w:=w) (S:=bD c w σ hp) (σ:=σ) (hp:=hp) (U:=U) hz;have f:i.size=P.cellsOf el:=by simp[Program.cellsOf,u]
 have B:i.bytes=P.bytesOf el:=by simp[Program.bytesOf,u]
 have A:0≤q:=aq;have k:=run_makeSlice (P:=P) w t el i v (bI T) u C kl Z n q h0 h1 (by
  rw[f];have:((q.toNat*P.cellsOf el:Nat):Int)≤16777216:=by
   rw[Int.natCast_mul,Int.toNat_of_nonneg A];exact h2
  omega) (by rw[B];exact V) h4
 rw[run _ _ (by rw[eD M,eD O];exact k)];have b:=oH (P:=P) (el:=el) G hs I q.toNat
 have d:RIs w (bD c w σ hp) σ hp U (P.cellsOf el) (List.replicate n.toNat z) (madeCells v.cells (q.toNat*i.size)):=by
  have W:madeCells v.cells (q.toNat*i.size)=(Array.range (q.toNat*P.cellsOf el)).map (v.cells[·%v.cells.size]!):=by rw[f];rfl
  rw[W];refine⟨?_,fun r g=>?_,b.one,fun Y j r y x e hj R=>?_⟩;have:=b.len;rw[List.length_replicate]at this⊢;exact Nat.le_trans (d9 _ aq) this;have J:0<n.toNat:=by
   rcases Nat.eq_zero_or_pos n.toNat with H|H;rw[H]at g;simp at g;exact H
  refine b.row r ?_;have e2:=List.eq_of_mem_replicate g;subst e2;exact List.mem_replicate.2 ⟨aq,rfl⟩;refine b.is Y j r y x ?_ hj R;have Q:=(ci.1 e).1;rw[List.length_replicate]at Q;rw[List.getElem?_replicate]at e⊢;rw[if_pos Q]at e;rw[if_pos aq];exact e
 have L:=qQ (K:=K) X hN (el:=el) (cap:=q.toNat) d (by rw[List.length_replicate];omega) (by rw[size_madeCells,f];exact cL _) (by rw[List.length_replicate];exact h);rw[List.length_replicate]at L;exact L;exact h.elim;exact h.elim
theorem Yp(C:Rel c hp U σ w)(E:∀x,AIs w (bD c w σ hp) σ hp U (ev fr x) (a.eval x)){t:TypeId}{x:Operand}(H:o.op=.sliceToArrayPointer t x)(h:bM P fr hp N (.sliceToArrayPointer t x) K) :
  OpOk P c K hp U N σ w ((execOp a.eval o).run P w):=by
 simp only[bM]at h;have run:∀v,(Instr.arrayAt t (a.eval x)).run P w=.ok v w→(execOp a.eval o).run P w=.ok (.value v) w:=by
  intro v s;simp[execOp,H,s]
 have k:=E x;unfold It at h;split at h
 ·rename_i n el D G s;obtain⟨R,J,h⟩:=h;rw[s]at k;generalize a.eval x=xv at k run;cases k with
  | d k =>
   cases k with
   | ro _ _ A F vs hc hel hA hv1 hd =>
    have B:0<D.length:=aq;obtain⟨ad,O,k2⟩:=hA D[0] (List.getElem_mem B);subst O;have m:∀(l:List (List DV)),(∀r,r∈l→r.length=1)→∀(j:Nat)(y:DV),l.flatten[j]?=some y→l[j]?=some [y]:=by
     intro l
     induction l with
     |nil=>intro _ j y f;simp at f
     | cons r l ih =>
      intro I j y f
      match r,I r (dz ..)with
      |[u],_ =>
       cases j with
       |zero=>simp at f;subst f;rfl
       |succ j=>simp at f;simpa using ih (fun r C=>I r (cS _ C)) j y f
    refine OpOk.val (run (.pointer (some ad)) (run_arrayAt (P:=P) w t el n (some ad) _ _ (gZ G) J)) (Good.same C h (.rop _ ad (fun j=>vs j 0) k2 (fun j y f=>?_) (fun j y f=>?_)));have:=hv1 ad rfl j 0 _ y (m D hel j y f) rfl;rw[Nat.mul_one,Nat.add_zero]at this;exact this;exact hd j 0 _ y (m D hel j y f) rfl
 ·rename_i n el id i p e W F L G s;split at h;rename_i b M;obtain⟨X,R,J,h⟩:=h;rw[s]at k;generalize a.eval x=xv at k run;cases k with
  |sub _ _ _ _ _ _ _ A hN' I hA0 hA =>
   obtain⟨V,T⟩:=hA b M;obtain⟨q3,Z,Q⟩:=T X;obtain⟨g,Y,rfl⟩:=Q aq;refine OpOk.val (run (.pointer (some ⟨g,i*b.e+p,none⟩)) (run_arrayAt (P:=P) w t el n (some ⟨g,i*b.e+p,none⟩) _ _ (gZ G) J)) (Good.same C h (.ptr id i p L _ hN' fun b' q=>?_));rw[M]at q;cases q;exact⟨V,fun _=>⟨g,Y,rfl⟩⟩
  ·exact h.elim
 ·exact h.elim
theorem IA(W:Rel c hp U σ w){id g i off:Nat}{b:Blk}{d:List AV}{f:Array Value}(X:lk id hp=some b)(V:σ id=some g)(h:b.es[i]?=some d)(q:w.heap[g]?=some (.cells f b.ty (0,0)))
  (l:List Value) (cs:List AV) (ac:cs.length=l.length) (T:off+l.length≤d.length) (h1:∀u∈l,u.oneCell'=true) (h2:∀(j:Nat)(y:AV)(u:Value),cs[j]?=some y→l[j]?=some u→AIs w (bD c w σ hp) σ hp U y u) :
  let w':=w.setRow g (f.toList.take (i*b.e+off)++l++f.toList.drop (i*b.e+off+l.length)).toArray
  let b':Blk:=⟨b.ty,b.e,b.es.set i (d.take off++(cs++d.drop (off+cs.length)))⟩
  Rel c (bJ id b' hp) U σ w'∧Step w (bD c w σ hp) σ hp U w' (bD c w' σ (bJ id b' hp)) σ (bJ id b' hp) U:=by
 have H:i<b.es.length:=(ci.1 h).1;obtain⟨Z,F,A,Q,q4,M⟩:=W.at X V;rw[q]at F;injection F with F;injection F with F;subst F;have ab:d.length=b.e:=Q d (cr h);have aa:i*b.e+b.e≤f.size:=by
  have:(i+1)*b.e≤b.es.length*b.e:=d9 _ aq;rw[Nat.add_mul,Nat.one_mul]at this;omega
 have I:(d.take off++(cs++d.drop (off+cs.length))).length=b.e:=by simp;omega
 have B:∀m,(f.toList.take (i*b.e+off)++l++f.toList.drop (i*b.e+off+l.length)).toArray[m]? =
   if m<i*b.e+off then f[m]? else if m<i*b.e+off+l.length then l[m-(i*b.e+off)]? else f[m]?:=by
  intro m;simp only[List.getElem?_toArray,cA];rw[List.getElem?_append];have D:(f.toList.take (i*b.e+off)).length=i*b.e+off:=by simp;omega
  rw[D];by_cases E:m<i*b.e+off;simp[E];rw[if_neg E,if_neg E,List.getElem?_append];by_cases s:m<i*b.e+off+l.length;rw[if_pos aq,if_pos s];rw[if_neg aq,if_neg s,List.getElem?_drop,Array.getElem?_toList];congr 1;omega
 have v:∀m,(d.take off++(cs++d.drop (off+cs.length)))[m]?=if m<off then d[m]? else if m<off+cs.length then cs[m-off]? else d[m]?:=by
  intro m;rw[List.getElem?_append];have D:(d.take off).length=off:=by simp;omega
  rw[D];by_cases E:m<off;simp[E];rw[if_neg E,if_neg E,List.getElem?_append];by_cases s:m<off+cs.length;rw[if_pos aq,if_pos s];rw[if_neg aq,if_neg s,List.getElem?_drop];congr 1;omega
 exact zG W (b':=⟨b.ty,b.e,b.es.set i (d.take off++(cs++d.drop (off+cs.length)))⟩) X V rfl rfl aw f (f.toList.take (i*b.e+off)++l++f.toList.drop (i*b.e+off+l.length)).toArray q (by simp;omega)
  (fun m y C=>by
   rw[B]at C;split at C;exact A m y C;split at C;exact h1 y (cr C)
   exact A m y C)
  (fun y C=>by
   rcases List.mem_or_eq_of_mem_set C with R|rfl;exact Q y R
   exact I)
  (fun k j r y u x t p=>by
   rw[B]at p;simp only[List.getElem?_set]at x;by_cases L:i=k;subst L;simp only[if_true,H]at x;injection x with x;subst x;rw[v]at t;by_cases G:j<off;rw[if_pos G]at t;rw[if_pos aq]at p;exact M i j d y u h t p;rw[if_neg G]at t;rw[if_neg aq]at p;by_cases J:j<off+cs.length;rw[if_pos J]at t;rw[if_pos aq]at p;rw[show i*b.e+j-(i*b.e+off)=j-off by omega]at p;exact h2 _ y u t p;rw[if_neg J]at t;rw[if_neg aq]at p;exact M i j d y u h t p;rw[if_neg L]at x;have hj:j<b.e:=by
    have:=(ci.1 t).1;rw[Q r (cr x)]at this;exact this
   have Y:¬(i*b.e≤k*b.e+j∧k*b.e+j<i*b.e+b.e):=by
    rintro⟨G,J⟩;rcases Nat.lt_or_gt_of_ne L with R|R;have:(i+1)*b.e≤k*b.e:=d9 _ aq;rw[Nat.add_mul,Nat.one_mul]at this;omega;have:(k+1)*b.e≤i*b.e:=d9 _ aq;rw[Nat.add_mul,Nat.one_mul]at this;omega
   have O:f[k*b.e+j]?=some u:=by
    by_cases G:k*b.e+j<i*b.e+off
    ·rwa [if_pos G]at p
    ·rw[if_neg G,if_neg aq]at p;exact p
   exact M k j r y u x t O)
theorem BL:∀(xs:List (List AV)),(∀r,r∈xs→r.length=1)→∀(j:Nat)(y:AV),xs.flatten[j]?=some y→xs[j]?=some [y]
 |[],_,j,y,h=>by simp at h
 | r :: xs,hr,j,y,h=>by
  have d:=hr r (dz ..)
  match r,d with
  | [x],_ =>
   cases j with
   |zero=>simpa using h
   |succ j =>
    simp only[List.flatten_cons,List.cons_append,List.nil_append,List.getElem?_cons_succ]at h⊢;exact BL xs (fun r b=>hr r (cS _ b)) j y h
theorem qR:∀(xs:List (List AV)),(∀r,r∈xs→r.length=1)→xs.flatten.length=xs.length
 |[],_=>rfl
 |r::xs,hr=>by
  rw[List.flatten_cons,b_,hr r (dz ..),qR xs fun r h=>hr r (cS _ h),List.length_cons];omega
theorem Uy (hr:Rel c hp U σ w) (E:∀ x,AIs w (bD c w σ hp) σ hp U (ev fr x) (a.eval x)) {ts tx:TypeId} {s x:Operand} {cl:Call} (aB:o.op=.call cl) (hc:cl.callee=.builtin .copy) (ha:cl.args.toList=[s,x]) (ht:cl.argTypes.toList=[ts,tx])
  (h:xJ P fr hp N .copy [s,x] [ts,tx] K):OpOk P c K hp U N σ w ((execOp a.eval o).run P w):=by
 simp only[xJ]at h;have av:cl.args=#[s,x]:=by rw[←Array.toArray_toList (xs:=cl.args),ha]
 have ay:cl.argTypes=#[ts,tx]:=by rw[←Array.toArray_toList (xs:=cl.argTypes),ht]
 have run:∀(v:Value)(w':World),(Builtin.copy_ #[ts,tx] o.type #[a.eval s,a.eval x]).run P w=.ok v w'→(execOp a.eval o).run P w=.ok (.value v) w':=by
  intro v w' I;simp[execOp,aB,resolve,hc,av,ay,invoke,builtin,I]
 split at h
 ·rename_i el el2 aC az;have aa:=bI aC;have aO:=bI az;obtain⟨aL,h⟩:=h;have ae:=E x;have ac:=E s;generalize aN:a.eval x=xv at ae run;generalize aI:a.eval s=sv at ac run;generalize ev fr x=xa at ae h;generalize ev fr s=sa at ac h;generalize am:dh hp (P.cellsOf el) xa=oxs at h;unfold GI at h;split at h
  ·rename_i id p f aw xs;split at h
   ·rename_i b Z;obtain⟨ag,V,X,h⟩:=h;obtain⟨B,k,rfl,us,aE,ah,C,L⟩:=fe (P:=P) hr ae am;rw[X,Nat.mul_one]at ah;have t:(P.info? el).map (·.size)=some 1:=by
     have l:P.cellsOf el=1:=X;unfold Program.cellsOf at l;cases hq:P.info? el with
     |none=>rw[hq]at l;simp at l
     |some i=>rw[hq]at l;simp at l;simp[l]
    cases ac with
    | own _ _ _ _ A T hU hl hA0 h' =>
     obtain⟨k1,k2⟩:=h' b Z;obtain⟨k3,k4,k5⟩:=k2 ag;have Q:Nat.min xs.length f=min f xs.length:=(by rw[Nat.min_comm]);rcases Nat.eq_zero_or_pos (min f xs.length)with Y|Y;have J:=run_copy_none (P:=P) w ts tx o.type el A B f T xs.length k aa t (by rw[Q];exact Y);refine OpOk.val (run _ _ J) (Good.same hr (v:=.d (.int .i64 0)) ?_ (.d (.int _ _)));rw[Y]at h;have aj:xs.take f=[]:=by
      apply List.eq_nil_of_length_eq_zero;rw[List.length_take];exact Y
     rw[aj,List.nil_append,Nat.add_zero,List.take_append_drop]at h;have e1:(⟨b.ty,b.e,b.es⟩:Blk)=b:=rfl;rw[e1,oI Z]at h;exact h
     ·obtain⟨g,hg,hA,n,ak,hn⟩:=k5 aq;obtain⟨q,m1,m2,m3,m4,m5⟩:=hr.at Z hg;have aH:q.size=n:=by
       obtain⟨cc,p1,p2⟩:=ak;rw[m1]at p1;injection p1 with p1;injection p1 with p1;rw[p1];exact p2
      rw[V,Nat.mul_one]at hA hn m4;clear ak k5 k2 h';subst hA;obtain⟨ad,O,F⟩:=L aq;subst O
      let n0:=min f xs.length
      let cs:=us.toList.take n0
      have G:cs.length=n0:=by simp only[cs,List.length_take,Array.length_toList];omega
      have J:=run_copy_row (P:=P) w ts tx o.type el g p f T ad xs.length k q b.ty cs aa t m1 (by rw[G,Q]) (fun j v D=>F j v (by
       rw[List.getElem?_take]at D;split at D;simpa using D
       cases D)) aq (fun v I=>by
       obtain⟨j,D⟩:=List.getElem?_of_mem (List.mem_of_mem_take I)
       exact C.one j v (by simpa using D))
      rw[run _ _ J,G];have ao:(b.es.take p++(xs.take f++b.es.drop (p+n0))).length=b.es.length:=by
       simp only[b_,List.length_take,et];omega
      have hC:∀m,((q.toList.take p++cs++q.toList.drop (p+n0)).toArray)[m]?=if m<p then q[m]? else if m<p+n0 then us[m-p]? else q[m]?:=by
       intro m;rw[List.getElem?_toArray,cA,List.getElem?_append];have e0:(q.toList.take p).length=p:=by simp;omega
       rw[e0];split;rename_i H;rw[List.getElem?_take,if_pos H];simp;rename_i H;rw[List.getElem?_append,G];by_cases al:m<p+n0;rw[if_pos aq,if_pos al,List.getElem?_take,if_pos aq];simp;rw[if_neg aq,if_neg al,List.getElem?_drop,show p+n0+(m-p-n0)=m by omega];simp
      have hE:∀(m:Nat)(r:List AV),(b.es.take p++(xs.take f++b.es.drop (p+n0)))[m]?=some r→(m<p∧b.es[m]?=some r)∨(p≤m∧m<p+n0∧xs[m-p]?=some r)∨(p+n0≤m∧b.es[m]?=some r):=by
       intro m r H;rw[List.getElem?_append]at H;have e0:(b.es.take p).length=p:=by simp;omega
       rw[e0]at H;split at H;rename_i R;rw[List.getElem?_take,if_pos R]at H;exact .inl ⟨R,H⟩;rename_i R;rw[List.getElem?_append,List.length_take]at H;split at H;rename_i ap;rw[List.getElem?_take,if_pos aq]at H;exact .inr (.inl ⟨aq,aq,H⟩);rename_i ap;rw[List.getElem?_drop]at H;refine .inr (.inr ⟨aq,?_⟩);rw[show m=p+n0+(m-p-min f xs.length)by omega];exact H
      have ax:=zG hr Z hg (b':=⟨b.ty,b.e,b.es.take p++(xs.take f++b.es.drop (p+n0))⟩) rfl rfl ao q (q.toList.take p++cs++q.toList.drop (p+n0)).toArray m1 (by
        simp only[List.size_toArray,b_,List.length_take,et,G,Array.length_toList]
        omega) (fun i' y hy=>by
        rw[hC]at hy;split at hy;exact m2 _ _ hy;split at hy;exact C.one _ _ hy
        exact m2 _ _ hy) (fun r af=>by
        obtain⟨m,H⟩:=List.getElem?_of_mem af;rcases hE m r H with ⟨_,l⟩|⟨_,_,l⟩|⟨_,l⟩;exact m3 r (cr l);rw[V,←X];exact C.row r (cr l)
        exact m3 r (cr l)) (fun i' j r y v hi D I=>by
        rw[hC]at I;have aM:j<b.e:=by
         have l:=(ci.1 D).1;rcases hE i' r hi with ⟨_,W⟩|⟨_,_,W⟩|⟨_,W⟩;rw[m3 r (cr W)]at l;exact l;rw[C.row r (cr W),X]at l;omega;rw[m3 r (cr W)]at l;exact l
        have aD:j=0:=aq;subst aD;rw[V,Nat.mul_one,Nat.add_zero]at I;rcases hE i' r hi with ⟨l,W⟩|⟨l,au,W⟩|⟨l,W⟩;rw[if_pos l]at I;exact m5 i' 0 r y v W D (by rw[V,Nat.mul_one,Nat.add_zero];exact I);rw[if_neg aq,if_pos au]at I;exact C.is _ 0 r y v W D (by rw[X,Nat.mul_one,Nat.add_zero];exact I);rw[if_neg aq,if_neg aq]at I
        exact m5 i' 0 r y v W D (by rw[V,Nat.mul_one,Nat.add_zero];exact I))
      obtain⟨r1,r2⟩:=ax;exact⟨_,_,_,h,r1.more,r2.trans Step.more,.d (.int _ _)⟩
   ·exact h.elim
  ·rename_i id i off e f T aw xs;split at h;rename_i b Z;split at h;rename_i ai M;obtain⟨ag,rfl,X,h⟩:=h;obtain⟨B,k,rfl,us,aE,ah,C,L⟩:=fe (P:=P) hr ae am;rw[X,Nat.mul_one]at ah;have t:(P.info? el).map (·.size)=some 1:=by
    have l:P.cellsOf el=1:=X;unfold Program.cellsOf at l;cases hq:P.info? el with
    |none=>rw[hq]at l;simp at l
    |some i=>rw[hq]at l;simp at l;simp[l]
   have an:∀r,r∈xs.take f→r.length=1:=fun r af=>by
    have:=C.row r (List.mem_of_mem_take af);rw[X]at this;exact this
   have aF:=qR _ an;have ar:(xs.take f).length=min f xs.length:=List.length_take;cases ac with
   | sub _ _ _ _ _ _ _ A hU hl hA0 h' =>
    obtain⟨k1,k2⟩:=h' b Z;obtain⟨k3,k4,k5⟩:=k2 ag;have Q:Nat.min xs.length f=min f xs.length:=(by rw[Nat.min_comm]);rcases Nat.eq_zero_or_pos (min f xs.length)with Y|Y;have J:=run_copy_none (P:=P) w ts tx o.type el A B f T xs.length k aa t (by rw[Q];exact Y);refine OpOk.val (run _ _ J) (Good.same hr (v:=.d (.int .i64 0)) ?_ (.d (.int _ _)));rw[Y]at h;have aj:xs.take f=[]:=List.eq_nil_of_length_eq_zero (by rw[ar];exact Y);have aA:b.es.set i ai=b.es:=by
     obtain⟨R,he⟩:=ci.1 M;rw[←he];exact List.set_getElem_self R
    rw[aj,List.flatten_nil,List.nil_append,List.length_nil,Nat.add_zero,List.take_append_drop,aA]at h;have e1:(⟨b.ty,b.e,b.es⟩:Blk)=b:=rfl;rw[e1,oI Z]at h;exact h;obtain⟨g,hg,hA⟩:=k5 aq;obtain⟨q,m1,m2,m3,m4,m5⟩:=hr.at Z hg;have aK:ai.length=b.e:=m3 ai (cr M);have aG:i<b.es.length:=(ci.1 M).1;have aJ:i*b.e+b.e≤q.size:=by
     have:(i+1)*b.e≤b.es.length*b.e:=d9 _ aq;rw[Nat.add_mul,Nat.one_mul]at this;omega
    subst hA;obtain⟨ad,O,F⟩:=L aq;subst O
    let n0:=min f xs.length
    let cs:=us.toList.take n0
    have G:cs.length=n0:=by simp only[cs,List.length_take,Array.length_toList];omega
    have J:=run_copy_row (P:=P) w ts tx o.type el g (i*b.e+off) f T ad xs.length k q b.ty cs aa t m1 (by rw[G,Q]) (fun j v D=>F j v (by
     rw[List.getElem?_take]at D;split at D;simpa using D
     cases D)) aq (fun v I=>by
     obtain⟨j,D⟩:=List.getElem?_of_mem (List.mem_of_mem_take I)
     exact C.one j v (by simpa using D))
    rw[run _ _ J];obtain⟨r1,r2⟩:=IA hr (off:=off) Z hg M m1 cs (xs.take f).flatten (by rw[aF,ar,G]) aq (fun v I=>by
     obtain⟨j,D⟩:=List.getElem?_of_mem (List.mem_of_mem_take I)
     exact C.one j v (by simpa using D)) (fun j y u hy hu=>by
     have ab:=BL _ an j y hy;rw[List.getElem?_take]at ab;simp only[cs]at hu;rw[List.getElem?_take]at hu;split at ab;split at hu;exact C.is j 0 [y] y u ab rfl (by rw[X,Nat.mul_one,Nat.add_zero];simpa using hu);cases hu
     cases ab)
    rw[G]at r1 r2⊢;exact⟨_,_,_,h,r1.more,r2.trans Step.more,.d (.int _ _)⟩
   ·exact h.elim
   ·exact h.elim
  ·exact h.elim
 ·exact h.elim
theorem qS{t:TypeId}{v:AV}{f:List AV}{xs:Array Value}{off:Nat}{S:Nat→Prop}(g:EA P t f=some v)
  (m:∀(j:Nat)(y:AV),f[j]?=some y→∃x,xs[off+j]?=some x∧x.oneCell'=true∧AIs w S σ hp U y x) :
  ∃x,(part t xs off).run P w=.ok x w∧AIs w S σ hp U v x:=by
 have agg:∀d,P.underlying t=some d→Iu d=true→P.cellsOf t≤f.length→v=.agg (f.take (P.cellsOf t)) →
   ∃x,(part t xs off).run P w=.ok x w∧AIs w S σ hp U v x:=by
  intro d h l u r;subst r;refine⟨.agg (xs.extract off (off+P.cellsOf t)),?_,?_⟩;unfold part;rw[Sem.run_bind,ep h,l];simp[qO h];have C:P.cellsOf t=0∨off+P.cellsOf t≤xs.size:=by
   rcases Nat.eq_zero_or_pos (P.cellsOf t)with p|p;exact .inl p;obtain⟨x,k,_,_⟩:=m (P.cellsOf t-1) _ (cm aq);have:=(Array.getElem?_eq_some_iff.1 k).1;exact .inr aq
  refine .agg _ _ (by simp;omega) (fun i x b=>?_) (fun i E x hc b=>?_);rw[Array.getElem?_extract]at b;split at b;rename_i A;obtain⟨s,k,D,_⟩:=m i _ (cm aq);rw[k]at b;injection b with b;subst b;exact D;cases b;rw[Array.getElem?_extract]at b;rw[List.getElem?_take]at hc;split at hc;split at b;obtain⟨s,k,_,q⟩:=m i _ hc;rw[k]at b;injection b with b;subst b;exact q;cases b;cases hc
 have scal:∀d,P.underlying t=some d→Iu d=false→f.head?=some v →
   ∃x,(part t xs off).run P w=.ok x w∧AIs w S σ hp U v x:=by
  intro d h l B;have p:f[0]?=some v:=by rw[←List.head?_eq_getElem?];exact B
  obtain⟨x,k,_,q⟩:=m 0 v p;rw[Nat.add_zero]at k;refine⟨x,?_,q⟩;unfold part;rw[Sem.run_bind,ep h,l];simp[k]
 unfold EA at g;cases h:P.underlying t with
 |none=>simp[bU,h]at g
 | some d =>
  cases d with
  |struct F =>
   simp only[bU,h]at g;split at g;injection g with g;exact agg _ h rfl ‹_› g.symm;cases g
  |array n e =>
   simp only[bU,h]at g;split at g;injection g with g;exact agg _ h rfl ‹_› g.symm;cases g
  |_=>simp only[bU,h]at g;exact scal _ h rfl g
theorem Pg(q:Rel c hp U σ w)(E:∀x,AIs w (bD c w σ hp) σ hp U (ev fr x) (a.eval x)){t:TypeId}{x:Operand}{i:Nat}(g:o.op=.field t x i)(h:bM P fr hp N (.field t x i) K) :
  OpOk P c K hp U N σ w ((execOp a.eval o).run P w):=by
 simp only[bM]at h;split at h;rename_i C A B l s;have d:=E x;rw[l]at d;generalize k:a.eval x=vx at d;cases d with
 | agg _ xs hl h2 h3 =>
  split at h;rename_i v u;obtain⟨F,f,m,r,rfl,rfl⟩:=tL s;obtain⟨y,e,p⟩:=qS (w:=w) (xs:=xs) (off:=f.offset) u fun j y e=>by
   rw[List.getElem?_drop]at e;have b:f.offset+j<xs.size:=by rw[←hl];exact(ci.1 e).1
   exact⟨xs[f.offset+j],dg b,h2 _ _ (dg b),h3 _ y _ e (dg b)⟩
  refine OpOk.val (x:=y) ?_ (Good.same q h p);simp[execOp,g,k,Instr.field,asAgg,run_underlying m,r,e];exact h.elim
 ·exact h.elim
theorem Ph (J:Rel c hp U σ w) (E:∀ x,AIs w (bD c w σ hp) σ hp U (ev fr x) (a.eval x)) {t:TypeId} {x i:Operand} (u:o.op=.index t x i) (h:bM P fr hp N (.index t x i) K) :
  OpOk P c K hp U N σ w ((execOp a.eval o).run P w):=by
 simp only[bM]at h;split at h
 ·rename_i n el W k m F L M;obtain⟨G,O,h⟩:=h;have f:=E x;rw[L]at f;have q:=eD (M▸E i);generalize l:a.eval x=vx at f;cases f with
  | agg _ xs hl h2 h3 =>
   split at h
   ·rename_i g;obtain⟨D,h⟩:=h;split at h
    ·rename_i v r;have e:m.toNat<xs.size:=by rw[←hl];exact(ci.1 r).1
     refine OpOk.val (x:=xs[m.toNat]) ?_ (Good.same J h (h3 _ v _ r (dg e)));have p:(isAgg el).run P w=.ok false w:=by
      have H:∃d,P.underlying el=some d∧Iu d=false:=by
       unfold bU at g;cases A:P.underlying el with
       |none=>rw[A]at g;cases g
       |some d =>
        rw[A]at g;refine⟨d,rfl,?_⟩;cases d<;>first|rfl|cases g
      obtain⟨d,A,C⟩:=H;rw[ep A,C]
     have R:m.toNat*1=m.toNat:=Nat.mul_one _;simp[execOp,u,l,q,Instr.index,asIntOf,run_underlying (gZ F),G,O,be (P:=P) (w:=w) (t:=el) (by rw[D];decide),D,part,p,e]
    ·exact h.elim
   ·rename_i g;obtain⟨D,h⟩:=h;split at h
    ·rename_i v r;have e:m.toNat<xs.size:=by rw[←hl];exact(ci.1 r).1
     refine OpOk.val (x:=xs[m.toNat]) ?_ (Good.same J h (h3 _ v _ r (dg e)));have p:(isAgg el).run P w=.ok false w:=by
      have H:∃d,P.underlying el=some d∧Iu d=false:=by
       unfold bU at g;cases A:P.underlying el with
       |none=>rw[A]at g;cases g
       |some d =>
        rw[A]at g;refine⟨d,rfl,?_⟩;cases d<;>first|rfl|cases g
      obtain⟨d,A,C⟩:=H;rw[ep A,C]
     have R:m.toNat*1=m.toNat:=Nat.mul_one _;simp[execOp,u,l,q,Instr.index,asIntOf,run_underlying (gZ F),G,O,be (P:=P) (w:=w) (t:=el) (by rw[D];decide),D,part,p,e]
    ·exact h.elim
   ·obtain⟨D,h⟩:=h;split at h;rename_i v r;obtain⟨y,I,Q⟩:=qS (w:=w) (xs:=xs) (off:=m.toNat*P.cellsOf el) r fun j y I=>by
     rw[List.getElem?_drop]at I;have e:m.toNat*P.cellsOf el+j<xs.size:=by rw[←hl];exact(ci.1 I).1
     exact⟨xs[m.toNat*P.cellsOf el+j],dg e,h2 _ _ (dg e),h3 _ y _ I (dg e)⟩
    refine OpOk.val (x:=y) ?_ (Good.same J h Q);simp[execOp,u,l,q,Instr.index,asIntOf,run_underlying (gZ F),G,O,be (P:=P) (w:=w) (t:=el) D,I];exact h.elim
   ·exact h.elim
 ·rename_i V k m F L M;obtain⟨G,h⟩:=h;have f:=E x;rw[L]at f;have q:=eD (M▸E i);split at h;rename_i b r;generalize l:a.eval x=vx at f;cases f with
  | d H =>
   cases H with
   | str s =>
    rw[cU,Option.map_eq_some_iff]at r;obtain⟨T,B,rfl⟩:=r;rw[Array.getElem?_toList]at B;have e:m.toNat<s.size:=(Array.getElem?_eq_some_iff.1 B).1;have g:s[m.toNat]?=some T:=by
     rw[getElem?_pos s m.toNat e];exact congrArg some (Array.getElem?_eq_some_iff.1 B).2
    refine OpOk.val (x:=.int .u8 (T.toNat:Int)) ?_ (Good.same J h (.d (.int .u8 _)));simp[execOp,u,l,q,Instr.index,asIntOf,run_underlying (oy F),G,g]
  ·exact h.elim
 ·exact h.elim
section
variable {ts tx ty el:TypeId} {i:TypeInfo} {z:Value}
theorem xM{r:IntKind}(g:P.underlying ts=some (.slice el))(f:P.underlying tx=some (.int r))(hi:P.info? el=some i)(hz:i.zero=some z)(s:z.cells.size=i.size)(q:i.size≠0){base:Option Addr}{sLen sCap:Nat}{n:Int}{w':World}(v:0≤n)(t:n≤4294967296)(u:i.bytes*n≤281474976710656)
  (d:sLen+n.toNat≤sCap) (b:(match base with|some a=>storeCells (a.add (sLen*i.size)) (Builtin.zeroCells z.cells n.toNat).toList|none=>pure ()).run P w=.ok () w') :
  (Builtin.append_ #[ts,tx] ty #[.slice base sLen sCap,.int r n]).run P w=.ok (.slice base (sLen+n.toNat) sCap) w':=by
 have l:IntKind.i64.wrap n=n:=IntWalk.i64_in _ aq;have j:¬(281474976710656<n*i.bytes):=by rw[Int.mul_comm];omega
 have k:¬n<0:=aq;by_cases e:n.toNat*i.size=0;have m:n.toNat=0:=by
  rcases Nat.mul_eq_zero.1 e with h|h;exact h;exact absurd h q
 have p:Builtin.zeroCells z.cells n.toNat=#[]:=by rw[m];simp[Builtin.zeroCells]
 rw[p]at b;cases base with
 |none =>
  simp at b;subst b;simp[Builtin.append_,run_underlying g,run_underlying f,sizeOf,typeInfo,hi,asInt,asIntOf,l,j,k,d,e]
 |some ad =>
  simp only at b;simp[Builtin.append_,run_underlying g,run_underlying f,sizeOf,typeInfo,hi,asInt,asIntOf,l,j,k,d,e,b]
 ·cases base with
  |none =>
   simp at b;subst b;simp[Builtin.append_,run_underlying g,run_underlying f,sizeOf,typeInfo,hi,hz,zeroValue,asInt,asIntOf,l,j,k,d,e]
  |some ad =>
   simp only at b;simp[Builtin.append_,run_underlying g,run_underlying f,sizeOf,typeInfo,hi,hz,zeroValue,asInt,asIntOf,l,j,k,d,e,b]
theorem xN{B:IntKind}(l:P.underlying ts=some (.slice el))(k:P.underlying tx=some (.int B))(hi:P.info? el=some i)(hz:i.zero=some z)(C:z.cells.size=i.size)(s:i.size≠0){base:Option Addr}{sLen sCap:Nat}{n:Int}{os:Array Value}(F:0≤n)(D:n≤4294967296)(E:i.bytes*n≤281474976710656)
  (m:(Builtin.firstCells i.size sLen (.slice base sLen sCap)).run P w.drew=.ok os w.drew) (e:sCap<sLen+n.toNat) (x:i.bytes≠0) (g:(sLen+n.toNat)*i.bytes≤140737488355328) :
  (Builtin.append_ #[ts,tx] ty #[.slice base sLen sCap,.int B n]).run P w=.ok (.slice (some ⟨w.heap.size,0,none⟩) (sLen+n.toNat) (grownCap w (sLen+n.toNat) sCap el))
    (w.drew.alloc (.cells (os++Builtin.zeroCells z.cells n.toNat++Builtin.zeroCells z.cells (grownCap w (sLen+n.toNat) sCap el-(sLen+n.toNat))) el)):=by
 have y:IntKind.i64.wrap n=n:=IntWalk.i64_in _ aq;have t:¬(281474976710656<n*i.bytes):=by rw[Int.mul_comm];omega
 have u:¬n<0:=aq;have A:¬(sLen+n.toNat≤sCap):=aq;have d:¬(281474976710656<Builtin.nextslicecap (sLen+n.toNat) sCap*i.bytes):=by
  have:=growslice_fits e g;omega
 have j:¬((IntKind.i64.max:Int)<sLen+n.toNat):=by
  have G:sLen+n.toNat≤(sLen+n.toNat)*i.bytes:=Nat.le_mul_of_pos_right _ aq;have v:IntKind.i64.max=9223372036854775807:=by decide
  omega
 have b:¬(9223372036854775807<(sLen:Int)+max n 0):=by
  have v:IntKind.i64.max=9223372036854775807:=by decide
  rw[v]at j;omega
 by_cases f:n.toNat*i.size=0
 ·have p:n.toNat=0:=by
   rcases Nat.mul_eq_zero.1 f with h|h;exact h;exact absurd h s
  have q:Builtin.zeroCells z.cells n.toNat=#[]:=by rw[p];simp[Builtin.zeroCells]
  rw[q];simp[Builtin.append_,run_underlying l,run_underlying k,sizeOf,typeInfo,zeroValue,hi,hz,asInt,asIntOf,y,t,u,A,f,x,d,Question.forced,m,newRow,grownCap]
  all_goals(intro r;exact absurd r b)
 ·simp[Builtin.append_,run_underlying l,run_underlying k,sizeOf,typeInfo,zeroValue,hi,hz,asInt,asIntOf,y,t,u,A,f,x,d,Question.forced,m,newRow,grownCap]
  all_goals(intro r;exact absurd r b)
end
theorem IB(hr:Rel c hp U σ w)(E:∀x,AIs w (bD c w σ hp) σ hp U (ev fr x) (a.eval x)){ts tx:TypeId}{s x:Operand}{cl:Call}(ad:o.op=.call cl)(hc:cl.callee=.builtin .append)(ha:cl.args.toList=[s,x])(ht:cl.argTypes.toList=[ts,tx])
  {el:TypeId} {id i0 len D:Nat} {k:IntKind} {n:Int} {z:List AV} (ag:bU P ts=.slice el) (am:bU P tx=.scal) (hs:ev fr s=.own id i0 len D) (hx:ev fr x=.d (.int k n)) (C:jI P tx=some k) (h0:0≤n) (h1:n≤4294967296) (h2:P.bytesOf el*n≤281474976710656) (hz:fK P el=some z)
  (h:fL P el (.own id i0 len D) (some (List.replicate n.toNat z)) N K hp):OpOk P c K hp U N σ w ((execOp a.eval o).run P w):=by
 have W:cl.args=#[s,x]:=by rw[←Array.toArray_toList (xs:=cl.args),ha]
 have Z:cl.argTypes=#[ts,tx]:=by rw[←Array.toArray_toList (xs:=cl.argTypes),ht]
 have X:=eD (hx▸E x);have run:∀(v:Value)(O:World),(Builtin.append_ #[ts,tx] o.type #[a.eval s,.int k n]).run P w=.ok v O→(execOp a.eval o).run P w=.ok (.value v) O:=by
  intro v O M;simp[execOp,ad,resolve,hc,W,Z,invoke,builtin,X,M]
 have B:=E s;rw[hs]at B;generalize ak:a.eval s=sv at B run;have H:=bI ag;have L:P.underlying tx=some (.int k):=by
  unfold jI at C;split at C;rename_i k' hu;injection C with C;rw[hu,C];cases C
 obtain⟨v,i,Q,J,g,j,ao,p⟩:=ye (w:=w) (S:=bD c w σ hp) (σ:=σ) (hp:=hp) (U:=U) hz;have l:i.size=P.cellsOf el:=by simp[Program.cellsOf,Q]
 have r:i.bytes=P.bytesOf el:=by simp[Program.bytesOf,Q]
 have I:∀(z:Value)(m:Nat),(∀(n:Nat)(v:Value),z.cells[n]?=some v→v.oneCell'=true)→z.cells.size≠0→∀(n:Nat)(v:Value),(Builtin.zeroCells z.cells m)[n]?=some v→v.oneCell'=true:=by
  intro z m V al n v M;unfold Builtin.zeroCells at M;simp only[Array.getElem?_map,Option.map_eq_some_iff]at M;obtain⟨k,_,rfl⟩:=M;have aa:k%z.cells.size<z.cells.size:=Nat.mod_lt _ aq;exact V (k%z.cells.size) _ (by simp[aa])
 unfold fL at h;split at h;rename_i u _;cases u;rename_i an aj ai xs u y;injection u with q1 q2 q3 q4;subst q1;subst q2;subst q3;subst q4;injection y with y;subst y;split at h;rename_i b hb;obtain⟨Y,ae,af,q,ah,t,ab,T⟩:=h;rw[List.length_replicate]at t;refine GO (i:=i) (z:=v) hr B hb Y ae af ab T l g j p.one I (fun A ac e f=>?_) (fun A ac os e f R=>?_);subst e;rw[List.length_replicate]at f⊢;refine⟨Builtin.zeroCells v.cells n.toNat,by rw[size_zeroCells,g],?_,fun O F=>run _ _ (xM (ty:=o.type) H L Q J (by rw[g,l]) (by rw[l];exact j) h0 h1 (by rw[r];exact h2) f F)⟩;have:=oH (P:=P) (el:=el) p g j n.toNat
 rw[←g]at this⊢;exact this;subst e;rw[List.length_replicate]at f⊢;refine⟨Builtin.zeroCells v.cells n.toNat,by rw[size_zeroCells,g],?_,run _ _ (xN (ty:=o.type) H L Q J (by rw[g,l]) (by rw[l];exact j) h0 h1 (by rw[r];exact h2) R aq (by rw[r];exact ah) (by rw[r];exact t))⟩;have G:LIs w.drew (bD c w.drew σ hp) σ hp U z v.cells:=⟨p.len,p.one,fun i c x hc hx=>(p.is i c x hc hx).step cJ⟩;have:=oH (P:=P) (el:=el) G g j n.toNat
 rw[←g]at this⊢;exact this;exact h.elim;rename_i u _;cases u;rename_i u _;cases u;exact h.elim
theorem EK(j:Rel c hp U σ w)(E:∀x,AIs w (bD c w σ hp) σ hp U (ev fr x) (a.eval x)){f:FuncId}{b:Array Operand}(e:o.op=.makeFunc (.func f) #[] b)(h:K (.fn f (b.toList.map (ev fr))) hp):OpOk P c K hp U N σ w ((execOp a.eval o).run P w):=by
 have run:(execOp a.eval o).run P w=.ok (.value (.func (.func f) #[] (b.map a.eval))) w:=by simp[execOp,e,Instr.makeFunc]
 refine OpOk.val run (Good.same j h (.fn f _ _ aw fun i k x hc d=>?_));rw[cU,Array.getElem?_toList]at hc;rw[Array.getElem?_map]at d;cases g:b[i]? with
 |none=>rw[g]at hc;cases hc
 |some y =>
  rw[g]at hc d;simp only[Option.map_some,Option.some.injEq]at hc d;subst hc;subst d;exact E y
theorem IC(j:Rel c hp U σ w)(E:∀x,AIs w (bD c w σ hp) σ hp U (ev fr x) (a.eval x)){f:FuncId}{b:Array Operand}(e:o.op=.makeFunc (.func f) b #[])(h:K (.mth f (b.toList.map (ev fr))) hp):OpOk P c K hp U N σ w ((execOp a.eval o).run P w):=by
 have run:(execOp a.eval o).run P w=.ok (.value (.func (.func f) (b.map a.eval) #[])) w:=by simp[execOp,e,Instr.makeFunc]
 refine OpOk.val run (Good.same j h (.mth f _ _ aw fun i k x hc d=>?_));rw[cU,Array.getElem?_toList]at hc;rw[Array.getElem?_map]at d;cases g:b[i]? with
 |none=>rw[g]at hc;cases hc
 |some y =>
  rw[g]at hc d;simp only[Option.map_some,Option.some.injEq]at hc d;subst hc;subst d;exact E y
theorem Yq(l:Rel c hp U σ w)(E:∀x,AIs w (bD c w σ hp) σ hp U (ev fr x) (a.eval x)){x y:Operand}{tx ty:TypeId}{cl:Call}(b:o.op=.call cl)(hc:cl.callee=.builtin .max)(j:cl.args.toList=[x,y])(r:cl.argTypes.toList=[tx,ty])
  (h:xJ P fr hp N .max [x,y] [tx,ty] K):OpOk P c K hp U N σ w ((execOp a.eval o).run P w):=by
 simp only[xJ]at h;have f:cl.args=#[x,y]:=by rw[←Array.toArray_toList (xs:=cl.args),j]
 have e:cl.argTypes=#[tx,ty]:=by rw[←Array.toArray_toList (xs:=cl.argTypes),r]
 split at h
 ·rename_i k m t n g s;have p:=eD (g▸E x);have q:=eD (s▸E y);have run:(execOp a.eval o).run P w=.ok (.value (.int k (if n>m then n else m))) w:=by
   simp[execOp,b,resolve,hc,f,e,invoke,builtin,p,q,Builtin.max_,Builtin.max2]
  exact OpOk.val run (Good.same l h (.d (.int k _)))
 ·exact h.elim
theorem Yr(l:Rel c hp U σ w)(E:∀x,AIs w (bD c w σ hp) σ hp U (ev fr x) (a.eval x)){x y:Operand}{tx ty:TypeId}{cl:Call}(b:o.op=.call cl)(hc:cl.callee=.builtin .min)(j:cl.args.toList=[x,y])(r:cl.argTypes.toList=[tx,ty])
  (h:xJ P fr hp N .min [x,y] [tx,ty] K):OpOk P c K hp U N σ w ((execOp a.eval o).run P w):=by
 simp only[xJ]at h;have f:cl.args=#[x,y]:=by rw[←Array.toArray_toList (xs:=cl.args),j]
 have e:cl.argTypes=#[tx,ty]:=by rw[←Array.toArray_toList (xs:=cl.argTypes),r]
 split at h
 ·rename_i k m t n g s;have p:=eD (g▸E x);have q:=eD (s▸E y);have run:(execOp a.eval o).run P w=.ok (.value (.int k (if n<m then n else m))) w:=by
   simp[execOp,b,resolve,hc,f,e,invoke,builtin,p,q,Builtin.min_,Builtin.min2]
  exact OpOk.val run (Good.same l h (.d (.int k _)))
 ·exact h.elim
theorem qT(e:Rel c hp U σ w)(E:∀x,AIs w (bD c w σ hp) σ hp U (ev fr x) (a.eval x))(g:Free U N)(h:bM P fr hp N o.op K):OpOk P c K hp U N σ w ((execOp a.eval o).run P w):=by
 generalize d:o.op=op at h;cases op with
 |move x=>exact J5 e E (.inl d) h
 |assign x=>exact J5 e E (.inr d) h
 |pick x y z=>exact Ur e E d h
 |binOp op t x y t'=>exact Yl e E d h
 |unOp op t x=>exact abA e E d h
 |nilCheck x=>exact EE e E d h
 |extract x i=>exact Iw e E d h
 |convert s t x=>exact Ix e E d (fun M el B D A C F=>EJ e E d B D A C F) (fun M el B D A C F I=>EI e E d B D A C F I) h
 |load t x=>exact Ut e E d h
 |fieldAddr t x i=>exact BD e E d h
 |indexAddr t x ix=>exact BE e E d h
 |alloc t=>exact O7 e g d h
 |build t parts=>exact O8 e E d h
 |buildSlice t n parts=>exact zL e E g d h
 |slice t x lo hi m =>
  cases m with
  |none=>exact O9 e E d h
  |some m=>exact Ks e E d h
 |index t x i=>exact Ph e E d h
 |field t x i=>exact Pg e E d h
 |makeSlice t l m=>exact Ux e E g d h
 | makeFunc fn first caps =>
  cases fn with
  | func f =>
   simp only[bM]at h;split at h
   ·rename_i G;obtain rfl:first=#[]:=by simpa using G
    exact EK e E d h
   ·obtain⟨rfl,h⟩:=h;exact IC e E d h
  |_=>exact h.elim
 |sliceToArrayPointer t x=>exact Yp e E d h
 |box t x=>exact Ym e E g d h
 |store t x v=>exact O5 e E d h
 |makeMap t r =>
  cases r with
  |none=>exact Iz e g d h
  |some r=>exact h.elim
 |lookup t m x ok =>
  cases ok with
  |false=>exact Kr e E d h
  |true=>exact h.elim
 |mapUpdate t m x v=>exact BK e E d h
 | call cl =>
  simp only[bM]at h;split at h
  ·rename_i b p;generalize j:cl.args.toList=as at h;generalize q:cl.argTypes.toList=ts at h;cases b with
   |len =>
    match as,ts,h with
    |[x],[t],h=>exact Yn e E d p j q h
   |append =>
    match as,ts,h with
    |[s,x],[t,u],h=>exact J9 e E g d p j q (fun el id R len L k n z B D A C F I Q J O H=>IB e E d p j q B D A C F I Q J O H) h
   |copy =>
    match as,ts,h with
    |[s,x],[t,u],h=>exact Uy e E d p j q h
   |max =>
    match as,ts,h with
    |[s,x],[t,u],h=>exact Yq e E d p j q h
   |min =>
    match as,ts,h with
    |[s,x],[t,u],h=>exact Yr e E d p j q h
   |_=>exact h.elim
  ·rename_i f G;split at h;exact Uu e E g d G ‹_› h;exact O6 e E g d G ‹_› h;exact h.elim
  ·exact h.elim
 |_=>exact h.elim
end
end Go.Am
namespace Go.Am
section
variable {P:Program} {fr fr':Fr} {hp hp':Hp} {N N':Nat} {K K':AV→Hp→Prop}
theorem sK{d:Int}{x:Option Operand}(h:∀y,x=some y→ev fr y=ev fr' y):zF fr d x=zF fr' d x:=by
 cases x with
 |none=>rfl
 |some y=>simp only[zF,h y rfl]
theorem qU{l:List (Nat×Operand)}(h:∀p,p∈l→ev fr p.2=ev fr' p.2):(l.map fun p=>(p.1,ev fr p.2))=l.map fun p=>(p.1,ev fr' p.2):=by
 apply List.map_congr_left;intro p hp;rw[h p hp]
theorem sL{g:Op}(h:∀x,x∈g.operands→ev fr x=ev fr' x):bM P fr hp N g K=bM P fr' hp N g K:=by
 cases g with
 |build t parts =>
  simp only[bM];rw[qU (fr:=fr) (fr':=fr') fun p hp=>h p.2 (by simp only[Op.operands,List.mem_toArray,List.mem_map];exact⟨p,hp,rfl⟩)]
 |buildSlice t n parts =>
  simp only[bM];rw[qU (fr:=fr) (fr':=fr') fun p hp=>h p.2 (by simp only[Op.operands,List.mem_toArray,List.mem_map];exact⟨p,hp,rfl⟩)]
 | slice t x lo hi m =>
  cases m with
  | some m =>
   have D:EB fr hi=EB fr' hi:=by
    cases hi with
    |none=>rfl
    |some y=>simp only[EB];rw[h y (by simp[Op.operands])]
   simp only[bM];rw[h x (by simp[Op.operands]),sK (fr:=fr) (fr':=fr') (x:=lo) fun y q=>h y (by subst q;simp[Op.operands]),D,h m (by simp[Op.operands])]
  |none =>
   simp only[bM];rw[h x (by simp[Op.operands]),sK (fr:=fr) (fr':=fr') (x:=lo) fun y q=>h y (by subst q;simp[Op.operands]),sK (fr:=fr) (fr':=fr') (x:=hi) fun y q=>h y (by subst q;simp[Op.operands])]
 | call cl =>
  have d:∀x,x∈cl.args.toList→ev fr x=ev fr' x:=fun x j=>h x (by
   obtain⟨e,k,A⟩:=cl
   cases e<;>simp_all[Op.operands,Call.operands])
  simp only[bM];cases hc:cl.callee with
  | builtin b =>
   simp only;generalize cl.args.toList=as at d;generalize cl.argTypes.toList=ts;cases b with
   |len =>
    match as,ts,d with
    |[],_,_=>rfl
    |[x],[],_=>rfl
    |[x],[t],d=>simp only[xJ];rw[d x aw]
    |[x],_::_::_,_=>rfl
    |_::_::_,_,_=>rfl
   |append =>
    match as,ts,d with
    |[],_,_=>rfl
    |[s],_,_=>rfl
    |[s,x],[],_=>rfl
    |[s,x],[_],_=>rfl
    |[s,x],[t,u],d=>simp only[xJ];rw[d x aw,d s aw]
    |[s,x],_::_::_::_,_=>rfl
    |_::_::_::_,_,_=>rfl
   |copy =>
    match as,ts,d with
    |[],_,_=>rfl
    |[s],_,_=>rfl
    |[s,x],[],_=>rfl
    |[s,x],[_],_=>rfl
    |[s,x],[t,u],d=>simp only[xJ];rw[d x aw,d s aw]
    |[s,x],_::_::_::_,_=>rfl
    |_::_::_::_,_,_=>rfl
   |max =>
    match as,ts,d with
    |[],_,_=>rfl
    |[s],_,_=>rfl
    |[s,x],[],_=>rfl
    |[s,x],[_],_=>rfl
    |[s,x],[t,u],d=>simp only[xJ];rw[d x aw,d s aw]
    |[s,x],_::_::_::_,_=>rfl
    |_::_::_::_,_,_=>rfl
   |min =>
    match as,ts,d with
    |[],_,_=>rfl
    |[s],_,_=>rfl
    |[s,x],[],_=>rfl
    |[s,x],[_],_=>rfl
    |[s,x],[t,u],d=>simp only[xJ];rw[d x aw,d s aw]
    |[s,x],_::_::_::_,_=>rfl
    |_::_::_::_,_,_=>rfl
   |_=>rfl
  | value f =>
   simp only;have C:ev fr f=ev fr' f:=h f (by
    obtain⟨e,k,A⟩:=cl;simp only at hc;subst hc
    simp[Op.operands,Call.operands])
   have B:cl.args.toList.map (ev fr)=cl.args.toList.map (ev fr'):=List.map_congr_left d;rw[C,B]
  |invoke _ _=>rfl
 |move x=>simp only[bM];rw[h x (by simp[Op.operands])]
 |assign x=>simp only[bM];rw[h x (by simp[Op.operands])]
 |pick x y z=>simp only[bM];rw[h x (by simp[Op.operands]),h y (by simp[Op.operands]),h z (by simp[Op.operands])]
 |binOp g t x y t'=>simp only[bM];rw[h x (by simp[Op.operands]),h y (by simp[Op.operands])]
 |unOp g t x =>
  have j:=h x (by simp[Op.operands]);cases g<;>simp only[bM]<;>rw[j]
 |nilCheck x=>simp only[bM];rw[h x (by simp[Op.operands])]
 |extract x i=>simp only[bM];rw[h x (by simp[Op.operands])]
 |convert s t x=>simp only[bM];rw[h x (by simp[Op.operands])]
 |load t x=>simp only[bM];rw[h x (by simp[Op.operands])]
 |fieldAddr t x i=>simp only[bM];rw[h x (by simp[Op.operands])]
 |indexAddr t x ix=>simp only[bM];rw[h x (by simp[Op.operands]),h ix (by simp[Op.operands])]
 |box t x=>simp only[bM];rw[h x (by simp[Op.operands])]
 |index t x i=>simp only[bM];rw[h x (by simp[Op.operands]),h i (by simp[Op.operands])]
 |field t x i=>simp only[bM];rw[h x (by simp[Op.operands])]
 | makeFunc fn first caps =>
  cases fn with
  |func f =>
   simp only[bM];have B:caps.toList.map (ev fr)=caps.toList.map (ev fr'):=List.map_congr_left fun x j=>h x (by simp[Op.operands];exact .inr (by simpa using j));have C:first.toList.map (ev fr)=first.toList.map (ev fr'):=List.map_congr_left fun x j=>h x (by simp[Op.operands];exact .inl (by simpa using j));rw[B,C]
  |_=>rfl
 |makeSlice t l m=>simp only[bM];rw[h l (by simp[Op.operands]),h m (by simp[Op.operands])]
 |sliceToArrayPointer t x=>simp only[bM];rw[h x (by simp[Op.operands])]
 |store t x v=>simp only[bM];rw[h x (by simp[Op.operands]),h v (by simp[Op.operands])]
 |lookup t m x ok=>cases ok<;>first|rfl|(simp only[bM];rw[h m (by simp[Op.operands]),h x (by simp[Op.operands])])
 |mapUpdate t m x v=>simp only[bM];rw[h m (by simp[Op.operands]),h x (by simp[Op.operands]),h v (by simp[Op.operands])]
 |makeMap t r=>cases r<;>rfl
 |_=>rfl
def tM(hp hp':Hp):Prop:=∀id b,lk id hp=some b→lk id hp'=some b
theorem EL{hp hp':Hp}{sz:Nat}{v:AV}{xs:List (List AV)}(g:tM hp hp')(h:dh hp sz v=some xs):dh hp' sz v=some xs:=by
 cases v with
 |own id i0 len tot =>
  simp only[dh]at h⊢;cases f:lk id hp with
  |none=>rw[f]at h;cases h
  |some b=>rw[f]at h;rw[g _ _ f];exact h
 |sub id i off e len cap tot =>
  simp only[dh]at h⊢;cases f:lk id hp with
  |none=>rw[f]at h;cases h
  |some b=>rw[f]at h;rw[g _ _ f];exact h
 |d v=>cases v<;>exact h
 |_=>exact h
def bc(P:Program):Op→Bool
 | .move _=>true
 | .assign _=>true
 | .pick ..=>true
 | .binOp _ t _ _ _=>match bU P t with
  | .slice _=>false
  |_=>true
 | .unOp ..=>true
 | .nilCheck _=>true
 | .extract ..=>true
 | .convert _ t _=>match bU P t with
  | .slice _=>false
  |_=>true
 | .sliceToArrayPointer ..=>true
 | .load ..=>true
 | .fieldAddr ..=>true
 | .indexAddr ..=>true
 | .index ..=>true
 | .field ..=>true
 | .build ..=>true
 | .slice ..=>true
 | .call cl=>match cl.callee with
  | .builtin .len=>true
  |_=>false
 |_=>false
def lV(P:Program)(fr:Fr)(hp:Hp)(b:Op)(v:AV):Prop:=∀hp' N' K',tM hp hp'→K' v hp'→bM P fr hp' N' b K'
theorem EM{b:BinOp}{k:IntKind}{x y:Int}(h:kB b k x y K hp):∃v,K v hp∧∀hp'(K':AV→Hp→Prop),K' v hp'→kB b k x y K' hp':=by
 cases b<;>simp only[kB]at h⊢
 case quo=>exact⟨_,h.2,fun _ _ q=>⟨h.1,q⟩⟩
 case rem=>exact⟨_,h.2,fun _ _ q=>⟨h.1,q⟩⟩
 case shl=>exact⟨_,h.2,fun _ _ q=>⟨h.1,q⟩⟩
 case shr=>exact⟨_,h.2,fun _ _ q=>⟨h.1,q⟩⟩
 all_goals exact⟨_,h,fun _ _ q=>q⟩
theorem EN{b:BinOp}{t:TypeId}{x y:AV}(d:(∀e,bU P t≠.slice e)∨(b≠.eql∧b≠.neq))(h:dH P b t x y K hp):∃v,K v hp∧∀hp'(K':AV→Hp→Prop),K' v hp'→dH P b t x y K' hp':=by
 unfold dH at h;split at h;obtain⟨g,k⟩:=h;obtain⟨v,f,j⟩:=EM k;exact⟨v,f,fun hp' K' q=>by simp only[dH];exact⟨g,j hp' K' q⟩⟩
 split at h;exact⟨_,h.2,fun hp' K' q=>by simp only[dH];exact⟨h.1,q⟩⟩
 exact⟨_,h.2,fun hp' K' q=>by simp only[dH];exact⟨h.1,q⟩⟩
 exact h.elim;split at h;exact⟨_,h,fun hp' K' q=>by simp only[dH];exact q⟩
 exact⟨_,h,fun hp' K' q=>by simp only[dH];exact q⟩
 exact⟨_,h,fun hp' K' q=>by simp only[dH];exact q⟩
 exact⟨_,h,fun hp' K' q=>by simp only[dH];exact q⟩
 exact⟨_,h,fun hp' K' q=>by simp only[dH];exact q⟩
 exact⟨_,h,fun hp' K' q=>by simp only[dH];exact q⟩
 exact⟨_,h.2,fun hp' K' q=>by simp only[dH];exact⟨h.1,q⟩⟩
 exact h.elim
 ·split at h
  all_goals first|exact h.elim|exact absurd ‹bU P t=_› (d.elim (fun h=>h _) fun h=>absurd rfl h.1)|exact absurd ‹bU P t=_› (d.elim (fun h=>h _) fun h=>absurd rfl h.2)
 ·exact h.elim
theorem u6{e:BinOp}{t:TypeId}{b:Bool}(h:OT P e t b K hp):∃v,K v hp∧∀hp'(K':AV→Hp→Prop),K' v hp'→OT P e t b K' hp':=by
 obtain⟨d,h⟩:=h;split at h;exact⟨_,h,fun hp' K' q=>⟨d,q⟩⟩;exact⟨_,h,fun hp' K' q=>⟨d,q⟩⟩;exact h.elim
theorem Kt{g:BinOp}{t:TypeId}{n:Nat}{el:TypeId}{k:Option IntKind}{a b:List AV}(h:Tu P g t n el k a b K hp):∃v,K v hp∧∀hp'(K':AV→Hp→Prop),K' v hp'→Tu P g t n el k a b K' hp':=by
 unfold Tu at h⊢;split at h;split at h;obtain⟨d,j,e,f,h⟩:=h;split at h;exact⟨_,h,fun hp' K' q=>⟨d,j,e,f,q⟩⟩;exact⟨_,h,fun hp' K' q=>⟨d,j,e,f,q⟩⟩;exact h.elim;exact h.elim;exact h.elim
theorem Ku{f:BinOp}{t:TypeId}{a b:List AV}(h:Tv P f t a b K hp):∃v,K v hp∧∀hp'(K':AV→Hp→Prop),K' v hp'→Tv P f t a b K' hp':=by
 unfold Tv at h⊢;split at h;obtain⟨d,g,e,h⟩:=h;split at h;exact⟨_,h,fun hp' K' q=>⟨d,g,e,q⟩⟩;exact⟨_,h,fun hp' K' q=>⟨d,g,e,q⟩⟩;exact h.elim;exact h.elim
theorem yf{b:BinOp}{t:TypeId}{x y:AV}(d:(∀e,bU P t≠.slice e)∨(b≠.eql∧b≠.neq))(h:df P b t x y K hp):∃v,K v hp∧∀hp'(K':AV→Hp→Prop),K' v hp'→df P b t x y K' hp':=by
 unfold df at h⊢;split at h;exact u6 h;exact u6 h;exact u6 h;split at h;exact Kt h;exact Ku h;exact h.elim;exact EN d h
theorem ID{D:Op}(E:bc P D=true)(h:bM P fr hp N D K):∃v,K v hp∧lV P fr hp D v:=by
 unfold lV;cases D with
 |move x=>exact⟨_,h,fun _ _ _ _ q=>q⟩
 |assign x=>exact⟨_,h,fun _ _ _ _ q=>q⟩
 | pick c a b =>
  simp only[bM]at h⊢;split at h;rename_i t G;split at h;rename_i x y R Y;exact⟨_,h,fun hp' N' K' d q=>q⟩;rename_i X;cases t with
  |true =>
   refine⟨_,h.1 rfl,fun hp' N' K' d q=>?_⟩;exact⟨fun _=>q,fun h=>by cases h⟩
  |false =>
   refine⟨_,h.2 rfl,fun hp' N' K' d q=>?_⟩;exact⟨fun h=>(by cases h),fun _=>q⟩
  ·exact h.elim
 | binOp D t x y t' =>
  have O:∀e,bU P t≠.slice e:=by
   intro e L;simp[bc,L]at E
  obtain⟨v,f,g⟩:=yf (.inl O) h;exact⟨v,f,fun hp' N' K' _ q=>g hp' K' q⟩
 | unOp D t x =>
  cases D with
  |not =>
   simp only[bM]at h⊢;split at h;exact⟨_,h,fun hp' N' K' d q=>q⟩;exact h.elim
  |neg =>
   simp only[bM]at h⊢;split at h;exact⟨_,h,fun hp' N' K' d q=>q⟩;exact h.elim
  |xor =>
   simp only[bM]at h⊢;split at h;exact⟨_,h,fun hp' N' K' d q=>q⟩;exact h.elim
  |_=>exact h.elim
 |nilCheck x =>
  simp only[bM]at h⊢;split at h
  all_goals first|exact⟨_,h,fun hp' N' K' d q=>q⟩|exact h.elim
 | extract x i =>
  simp only[bM]at h⊢;split at h;split at h;exact⟨_,h,fun hp' N' K' d q=>q⟩;exact h.elim;exact h.elim
 | convert s t x =>
  simp only[bM]at h⊢;split at h;obtain⟨I,f,g,C⟩:=h;split at C;exact⟨_,C.2,fun hp' N' K' d q=>⟨I,f,g,C.1,q⟩⟩;exact C.elim;split at h;exact⟨_,h,fun hp' N' K' d q=>q⟩;exact h.elim;split at h;rename_i el _ G;simp[bc,G]at E;exact h.elim;rename_i v T W V;obtain⟨I,f,g,C⟩:=h;split at C;refine⟨_,C.2,fun hp' N' K' d q=>⟨I,EL d f,g,C.1,q⟩⟩;exact C.elim
 | sliceToArrayPointer t x =>
  simp only[bM]at h⊢;unfold It at h⊢;split at h;exact⟨_,h.2.2,fun hp' N' K' d q=>⟨h.1,h.2.1,q⟩⟩;split at h;rename_i b u;refine⟨_,h.2.2.2,fun hp' N' K' d q=>?_⟩;simp only[d _ _ u];exact⟨h.1,h.2.1,h.2.2.1,q⟩;exact h.elim;exact h.elim
 | load t x =>
  simp only[bM]at h⊢;split at h;split at h;rename_i b u;split at h;rename_i M F;obtain⟨G,h⟩:=h;split at h;rename_i v Q;refine⟨v,h,fun hp' N' K' d q=>?_⟩;rw[d _ _ u];simp only[F,Q];exact⟨G,q⟩;exact h.elim;exact h.elim;exact h.elim;split at h;exact⟨_,h,fun hp' N' K' d q=>q⟩;exact h.elim;exact h.elim
 |fieldAddr t x i =>
  simp only[bM]at h⊢;split at h;exact⟨_,h.2,fun hp' N' K' d q=>⟨h.1,q⟩⟩;exact⟨_,h.2,fun hp' N' K' d q=>⟨h.1,q⟩⟩;exact h.elim
 | indexAddr t x ix =>
  simp only[bM]at h⊢;split at h;split at h;obtain⟨r,f,g,h⟩:=h;split at h;exact⟨_,h,fun hp' N' K' d q=>⟨r,f,g,q⟩⟩;exact h.elim;obtain⟨r,f,h⟩:=h;split at h;rename_i b u;obtain⟨H,k2,k3,h⟩:=h;refine⟨_,h,fun hp' N' K' d q=>?_⟩;rw[d _ _ u];exact⟨r,f,H,k2,k3,q⟩;exact h.elim;obtain⟨r,f,h⟩:=h;split at h;rename_i b u;obtain⟨H,k2,k3,h⟩:=h;refine⟨_,h,fun hp' N' K' d q=>?_⟩;rw[d _ _ u];exact⟨r,f,H,k2,k3,q⟩;exact h.elim;exact⟨_,h.2.2.2,fun hp' N' K' d q=>⟨h.1,h.2.1,h.2.2.1,q⟩⟩;exact⟨_,h.2.2.2,fun hp' N' K' d q=>⟨h.1,h.2.1,h.2.2.1,q⟩⟩;exact h.elim;exact h.elim
 | field t x i =>
  simp only[bM]at h⊢;split at h;split at h;exact⟨_,h,fun hp' N' K' d q=>q⟩;exact h.elim;exact h.elim
 | index t x i =>
  simp only[bM]at h⊢;split at h;obtain⟨r,f,h⟩:=h;split at h;obtain⟨g,h⟩:=h;split at h;exact⟨_,h,fun hp' N' K' d q=>⟨r,f,g,q⟩⟩;exact h.elim;obtain⟨g,h⟩:=h;split at h;exact⟨_,h,fun hp' N' K' d q=>⟨r,f,g,q⟩⟩;exact h.elim;obtain⟨g,h⟩:=h;split at h;exact⟨_,h,fun hp' N' K' d q=>⟨r,f,g,q⟩⟩;exact h.elim;exact h.elim;obtain⟨r,h⟩:=h;split at h;exact⟨_,h,fun hp' N' K' d q=>⟨r,q⟩⟩;exact h.elim;exact h.elim
 | build t parts =>
  simp only[bM]at h⊢;split at h;unfold sH at h⊢;split at h;obtain⟨f,h⟩:=h;split at h;exact⟨_,h,fun hp' N' K' d q=>⟨f,q⟩⟩;exact h.elim;obtain⟨f,h⟩:=h;split at h;exact⟨_,h,fun hp' N' K' d q=>⟨f,q⟩⟩;exact h.elim;exact h.elim;exact h.elim
 | slice t x lo hi m =>
  cases m with
  |some m =>
   simp only[bM]at h⊢;unfold mF at h⊢;split at h;exact⟨_,h.2.2.2.2.2.2,fun hp' N' K' d q=>⟨h.1,h.2.1,h.2.2.1,h.2.2.2.1,h.2.2.2.2.1,h.2.2.2.2.2.1,q⟩⟩;exact⟨_,h.2.2.2.2,fun hp' N' K' d q=>⟨h.1,h.2.1,h.2.2.1,h.2.2.2.1,q⟩⟩;exact⟨_,h.2.2.2.2,fun hp' N' K' d q=>⟨h.1,h.2.1,h.2.2.1,h.2.2.2.1,q⟩⟩;exact h.elim
  | none =>
   simp only[bM]at h⊢;generalize ev fr x=xa at h⊢;generalize bU P t=k at h⊢;generalize zF fr 0 lo=bl at h⊢;generalize zF fr (AV.topLen k xa) hi=bh at h⊢;unfold ig at h;split at h;obtain⟨l,j,p,h⟩:=h;exact⟨_,h,fun hp' N' K' d q=>⟨l,j,p,q⟩⟩;obtain⟨l,j,p,A,B,h⟩:=h;exact⟨_,h,fun hp' N' K' d q=>⟨l,j,p,A,B,q⟩⟩;split at h;rename_i b u;obtain⟨l,j,p,A,B,h⟩:=h;refine⟨_,h,fun hp' N' K' d q=>?_⟩;simp only[ig];rw[d _ _ u];exact⟨l,j,p,A,B,q⟩;exact h.elim;obtain⟨l,j,p,A,B,h⟩:=h;exact⟨_,h,fun hp' N' K' d q=>⟨l,j,p,A,B,q⟩⟩;split at h;rename_i b u;obtain⟨l,j,p,A,B,J,h⟩:=h;refine⟨_,h,fun hp' N' K' d q=>?_⟩;simp only[ig];rw[d _ _ u];exact⟨l,j,p,A,B,J,q⟩;exact h.elim;obtain⟨l,j,p,A,B,h⟩:=h;exact⟨_,h,fun hp' N' K' d q=>⟨l,j,p,A,B,q⟩⟩;obtain⟨l,j,p,h⟩:=h;exact⟨_,h,fun hp' N' K' d q=>⟨l,j,p,q⟩⟩;exact h.elim
 | call cl =>
  simp only[bM]at h⊢;cases hc:cl.callee with
  | builtin b =>
   simp only[hc]at h;generalize cl.args.toList=as at h;generalize cl.argTypes.toList=ts at h;cases b with
   | len =>
    simp only
    match as,ts,h with
    | [x],[t],h =>
     simp only[xJ]at h⊢;split at h;exact⟨_,h,fun hp' N' K' d q=>q⟩;exact⟨_,h,fun hp' N' K' d q=>q⟩;split at h;exact⟨_,h,fun hp' N' K' d q=>q⟩;exact h.elim;exact h.elim
   |_=>simp[bc,hc]at E
  |_=>simp[bc,hc]at E
 |_=>simp[bc]at E
def IE:Op→Bool
 | .move _=>true
 | .assign _=>true
 | .binOp op _ _ _ _=>match op with
  | .eql=>false
  | .neq=>false
  |_=>true
 |_=>false
theorem Pi{hp0:Hp}{fr:Fr}{b:Op}{v:AV}(d:IE b=true)(f:lV P fr hp0 b v)(hp':Hp)(N':Nat)(K':AV→Hp→Prop)(q:K' v hp'):bM P fr hp' N' b K':=by
 have h:=f hp0 0 (fun r _=>r=v) (fun _ _ h=>h) rfl;cases b with
 |move x=>simp only[bM]at h⊢;rw[h];exact q
 |assign x=>simp only[bM]at h⊢;rw[h];exact q
 |binOp b t x y t' =>
  simp only[bM]at h⊢;obtain⟨j,e,g⟩:=yf (.inr (by cases b<;>simp[IE]at d⊢)) h;subst e;exact g hp' K' q
 |_=>simp[IE]at d
end
end Go.Am
namespace Go.Am
def cg(ops:Array Oper)(j:Nat):Option Tmp:=(ops[j]?).bind (·.dst)
def gB(ops:Array Oper)(j:Nat):List Tmp:=match ops[j]? with
 |some o=>o.looksAt ops
 |none=>[]
inductive Waits(ops:Array Oper):Nat→Nat→Prop
 |edge {j:Nat} {o:Oper} {e:Edge} (ho:ops[j]?=some o) (he:e∈o.after) (hb:Region.binds .any e=true):Waits ops j e.on
 |step {j i:Nat} {o:Oper} {e:Edge} (ho:ops[j]?=some o) (he:e∈o.after) (hb:Region.binds .any e=true) (h:Waits ops e.on i):Waits ops j i
def GQ(b:List Nat):List Edge→Nat→Nat
 |[],acc=>acc
 |e::r,acc=>GQ b r (if Region.binds .any e=true then acc ||| 2 ^ e.on ||| b.getD e.on 0 else acc)
def Kv:List Oper→List Nat→List Nat
 |[],ms=>ms
 |o::r,ms=>Kv r (ms++[GQ ms o.after.toList 0])
def wt(b:List Nat)(j i:Nat):Bool:=(b.getD j 0).testBit i
theorem yg(f:List Nat)(i:Nat):∀(l:List Edge)(d:Nat),(GQ f l d).testBit i=true→d.testBit i=true∨∃e,e∈l∧Region.binds .any e=true∧(e.on=i∨wt f e.on i=true)
 |[],d,h=>.inl h
 | e :: r,d,h=>by
  rcases yg f i r _ h with b|⟨m,b,k,j⟩;split at b;rename_i g;rw[Nat.testBit_or,Nat.testBit_or,Bool.or_eq_true,Bool.or_eq_true]at b;rcases b with (b|b)|b;exact .inl b;rw[Nat.testBit_two_pow]at b;exact .inr ⟨e,dz ..,g,.inl (by simpa using b)⟩;exact .inr ⟨e,dz ..,g,.inr b⟩;exact .inl b;exact .inr ⟨m,cS _ b,k,j⟩
theorem BM{ops:Array Oper}:∀(l:List Oper)(b:List Nat),(∀k o,l[k]?=some o→ops[b.length+k]?=some o)→(∀j i,wt b j i=true→Waits ops j i)→∀j i,wt (Kv l b) j i=true→Waits ops j i
 |[],b,_,h,j,i,d=>h j i d
 | o :: r,b,ho,h,j,i,d=>by
  refine BM r (b++[GQ b o.after.toList 0]) (fun k s t=>?_) (fun j i d=>?_) j i d;have:=ho (k+1) s (by simpa using t);rw[b_,List.length_singleton,show b.length+1+k=b.length+(k+1)by omega];exact this;unfold wt at d;rcases Nat.lt_trichotomy j b.length with m|m|m;rw[cR,List.getElem?_append_left m,←cR]at d;exact h j i d;subst m;rw[cR,dn (cL _),Nat.sub_self,List.getElem?_cons_zero,Option.getD_some]at d;have g:ops[b.length]?=some o:=by simpa using ho 0 o rfl
  rcases yg b i _ _ d with f|⟨e,f,q,p⟩;simp at f;rw[Array.mem_toList_iff]at f;rcases p with rfl|p;exact .edge g f q;exact .step g f q (h _ _ p);rw[cR,List.getElem?_eq_none (by simp;omega)]at d;simp at d
def Uz(ops:Array Oper):List Nat:=Kv ops.toList []
theorem kE{ops:Array Oper}{j i:Nat}(h:wt (Uz ops) j i=true):Waits ops j i :=
 BM ops.toList [] (fun k o b=>by simpa using b) (fun j i h=>by simp[wt]at h) j i h
def zN(d:List Nat):List Nat→Bool
 |a::b::r=>wt d b a&&zN d (b::r)
 |_=>true
def sM(ops:Array Oper):List Nat→Prop
 |a::b::r=>Waits ops b a∧sM ops (b::r)
 |_=>True
def gv(ops:Array Oper):List Nat→Bool
 |[]=>true
 | z :: r=>(z :: r).all (fun y=>match cg ops y with
   |some d=>!(gB ops z).contains d
   |none=>true)&&gv ops r
def ee:List Nat→Bool
 |[]=>true
 |a::r=>!r.contains a&&ee r
abbrev kn:=List (Nat×List Nat)
def fS:kn→List Nat
 |[]=>[]
 |s::r=>s.1::fS r
def qV:kn→List Nat
 |[]=>[]
 |s::r=>s.2++qV r
def u7:kn→List Nat
 |[]=>[]
 |s::r=>s.1::(s.2++u7 r)
def Pj(ops:Array Oper)(b:List Nat):List Nat→kn→Bool
 |_,[]=>true
 | zv,s :: r=>(match cg ops s.1 with
   |some d=>zv.all fun z=>!(gB ops z).contains d||wt b s.1 z
   |none=>true)&&(s.2.all fun z=>wt b z s.1)&&Pj ops b (zv++s.2) r
def Kw(ops:Array Oper):List Nat→kn→Prop
 |_,[]=>True
 |zv,s::r=>(∀d,cg ops s.1=some d→∀z,z∈zv→d∈gB ops z→Waits ops s.1 z)∧(∀z,z∈s.2→Waits ops z s.1)∧Kw ops (zv++s.2) r
theorem Kx{ops:Array Oper}:∀{zv:List Nat}{f:kn},Pj ops (Uz ops) zv f=true→Kw ops zv f
 |_,[],_=>trivial
 |zv,s::r,h=>by
  simp only[Pj,Bool.and_eq_true]at h;obtain⟨⟨e,k⟩,g⟩:=h;refine⟨fun d j z b l=>?_,fun z b=>kE (d7.1 k z b),Kx g⟩;simp only[j]at e;have:=d7.1 e z b;simp only[l,List.contains_eq_mem,decide_true,Bool.not_true,Bool.false_or]at this;exact kE this
theorem BN{ops:Array Oper}:∀{l:List Nat},zN (Uz ops) l=true→sM ops l
 |[],_=>trivial
 |[_],_=>trivial
 |a::b::r,h=>by
  simp only[zN,Bool.and_eq_true]at h;exact⟨kE h.1,BN h.2⟩
def Ys(n:Nat)(ops:Array Oper)(f:List Nat)(g:List Nat)(h:kn)(m:Nat)(b is:List Nat):Bool :=
 (List.range ops.size).all (fun j=>(b.contains j||is.contains j)&&!(b.contains j&&is.contains j)) &&
 is.all (fun j=>decide (j<ops.size))&&b.all (fun j=>decide (j<ops.size))&&ee is&&ee b &&
 (List.range ops.size).all (fun i=>match cg ops i with
  |some d=>decide (d<n)&&(List.range ops.size).all fun j=>j==i||cg ops j != some d
  |none=>true) &&
 b.all (fun z=>match cg ops z with
  |some d=>(List.range ops.size).all fun j=>!(gB ops j).contains d||wt f j z
  |none=>true) &&
 Pj ops f g h &&
 zN f is&&gv ops b &&
 (is.drop m).all (fun i=>b.all fun z=>wt f i z) &&
 (List.range ops.size).all (fun j=>match ops[j]? with
  |some o=>o.after.all fun e=>!Region.binds .any e||decide (e.on<j)
  |none=>true)
def EO(n:Nat)(ops:Array Oper)(d:List Nat)(b:kn)(m:Nat):Bool:=Ys n ops (Uz ops) d b m (d++qV b) (fS b)
section
variable (P:Program) (n:Nat) (ops:Array Oper) (base:Nat) (hp0:Hp) (K:Fr→Hp→Prop)
def cZ(hp':Hp):Prop:=∀p,p∈hp0→lk p.1 hp'=lk p.1 hp0
def TA(fr:Fr)(N:Nat)(b:Op)(next:AV→Prop):Prop :=
 if bc P b=true then bM P fr hp0 N b (fun v _=>next v)else ∃v,lV P fr hp0 b v∧next v
def zW (C:Fr→Prop):List Nat→Fr→Prop
 |[],fr=>C fr
 | z :: r,fr=>match ops[z]? with
  | some o=>(match o.guard with
   |none=>TA P hp0 fr base o.op fun v=>zW C r (bf fr o.dst v)
   | some (g,want)=>(match (ops[g]?).bind (·.dst) with
    |some d=>(match fv d fr with
     | .d (.bool b)=>(b=want→TA P hp0 fr base o.op fun v=>zW C r (bf fr o.dst v))∧(b=!want→zW C r (bf fr o.dst (.tup [])))
     | .tup []=>zW C r (bf fr o.dst (.tup []))
     |_=>False)
    |none=>False))
  |none=>False
def Et:kn→Nat→Fr→Hp→Prop
 |[],_,fr,hp=>K fr hp
 | s :: r,m,fr,hp=>match ops[s.1]? with
  | some o=>(match o.guard with
   |none=>bM P fr hp (base+32*s.1) o.op fun v hp'=>(m≠0→cZ hp0 hp')∧zW P ops base hp0 (fun fr=>Et r (m-1) fr hp') s.2 (bf fr o.dst v)
   | some (g,want)=>(match (ops[g]?).bind (·.dst) with
    |some d=>(match fv d fr with
     | .d (.bool b)=>(b=want→bM P fr hp (base+32*s.1) o.op fun v hp'=>(m ≠ 0→cZ hp0 hp')∧zW P ops base hp0 (fun fr=>Et r (m - 1) fr hp') s.2 (bf fr o.dst v)) ∧
       (b=!want→zW P ops base hp0 (fun fr=>Et r (m-1) fr hp) s.2 (bf fr o.dst (.tup [])))
     | .tup []=>zW P ops base hp0 (fun fr=>Et r (m-1) fr hp) s.2 (bf fr o.dst (.tup []))
     |_=>False)
    |none=>False))
  |none=>False
def Ky(fr:Fr)(v:AV)(o:Oper):Prop :=
 match o.guard with
 |none=>lV P fr hp0 o.op v
 |some (g,want)=>∃d,(ops[g]?).bind (·.dst)=some d∧((∃b,fv d fr=.d (.bool b)∧(b=want→lV P fr hp0 o.op v)∧(b=!want→v=.tup []))∨(fv d fr=.tup []∧v=.tup []))
def Kz(z:Nat)(fr:Fr):Prop:=∃v o,ops[z]?=some o∧(∀d,o.dst=some d→fv d fr=v)∧Ky P ops hp0 fr v o
end
section
variable {P:Program} {c:Ctx} {ops:Array Oper} {base:Nat} {hp0:Hp} {K:Fr→Hp→Prop} {fr fr':Fr}
theorem ve{o:Oper}(h:∀t,t∈o.looksAt ops→fv t fr=fv t fr'):∀x,x∈o.op.operands→ev fr x=ev fr' x:=by
 intro x b;cases x with
 |tmp t =>
  refine h t ?_;unfold Oper.looksAt;rw[cD];left;rw[List.mem_filterMap];exact⟨.tmp t,by simpa using b,rfl⟩
 |_=>rfl
theorem jM{o:Oper}{g:Nat}{b:Bool}{d:Tmp}(f:o.guard=some (g,b))(e:(ops[g]?).bind (·.dst)=some d):d∈o.looksAt ops:=by
 unfold Oper.looksAt;rw[cD];right;simp[f,e]
theorem lm{o:Oper}{v:AV}(h:∀t,t∈o.looksAt ops→fv t fr=fv t fr')(e:lV P fr hp0 o.op v):lV P fr' hp0 o.op v:=by
 intro hp' N' K' b d;rw[←sL (ve h)];exact e hp' N' K' b d
theorem sN{o:Oper}{v:AV}(h:∀t,t∈o.looksAt ops→fv t fr=fv t fr')(hz:Ky P ops hp0 fr v o):Ky P ops hp0 fr' v o:=by
 unfold Ky at hz⊢;split at hz;exact lm h hz;rename_i g l p;obtain⟨d,f,hz⟩:=hz;have e:=h d (jM p f);rcases hz with ⟨b,k,j,m⟩|⟨k,j⟩;exact⟨d,f,.inl ⟨b,by rw[←e];exact k,fun q=>lm h (j q),m⟩⟩;exact⟨d,f,.inr ⟨by rw[←e];exact k,j⟩⟩
theorem lF{b:Option Tmp}{v:AV}{t:Nat}(h:b≠some t):fv t (bf fr b v)=fv t fr:=by
 cases b with
 |none=>rfl
 |some d =>
  simp only[bf,ju];rw[if_neg (fun e=>h (by rw[e]))]
theorem jN{d:Tmp}{v:AV}:fv d (bf fr (some d) v)=v:=by simp[bf,ju]
theorem nJ{C:Fr→Prop}(hu:∀i j d,cg ops i=some d→cg ops j=some d→i=j):∀(zs:List Nat)(fr:Fr),gv ops zs=true→ee zs=true→zW P ops base hp0 C zs fr →
  ∃frZ,C frZ∧(∀t,(∀z,z∈zs→cg ops z≠some t)→fv t frZ=fv t fr)∧∀z,z∈zs→Kz P ops hp0 z frZ
 |[],fr,_,_,h=>⟨fr,h,fun _ _=>rfl,aw⟩
 | z :: r,fr,ho,hn,h=>by
  simp only[gv,Bool.and_eq_true]at ho;simp only[ee,Bool.and_eq_true]at hn;obtain⟨ho1,ho2⟩:=ho;simp only[zW]at h;cases hz:ops[z]? with
  |none=>rw[hz]at h;exact h.elim
  | some o =>
   rw[hz]at h;simp only at h;have hdz:cg ops z=o.dst:=(by simp[cg,hz]);have hlz:gB ops z=o.looksAt ops:=by simp[gB,hz]
   -- what is read is put by none of these
   have hno:∀y,y∈z::r→∀t,t∈o.looksAt ops→cg ops y≠some t:=by
    intro y hy t ht he;have:=d7.1 ho1 y hy;simp only[he,hlz,Bool.not_eq_true',List.contains_eq_mem,decide_eq_false_iff_not]at this;exact this ht
   -- from one value
   have go:∀v,Ky P ops hp0 fr v o→zW P ops base hp0 C r (bf fr o.dst v)→∃frZ,C frZ∧(∀t,(∀y,y∈z::r→cg ops y≠some t)→fv t frZ=fv t fr)∧∀y,y∈z::r→Kz P ops hp0 y frZ:=by
    intro v hv hrest;obtain⟨frZ,h1,h2,h3⟩:=nJ hu r _ ho2 hn.2 hrest;refine⟨frZ,h1,fun t ht=>?_,fun y hy=>?_⟩;rw[h2 t fun y hy=>ht y (cS _ hy)];exact lF (by rw[←hdz];exact ht z (dz ..));rcases d_.1 hy with rfl|hy;refine⟨v,o,hz,fun d hd=>?_,sN (fun t ht=>?_) hv⟩;rw[h2 d fun y' hy' he=>?_];rw[hd];exact jN;have:=hu y' y d he (by rw[hdz];exact hd);subst this;have hn1:=hn.1;simp only[Bool.not_eq_true',List.contains_eq_mem,decide_eq_false_iff_not]at hn1;exact hn1 hy';rw[h2 t fun y' hy'=>hno y' (cS _ hy') t ht,lF];rw[←hdz];exact hno _ (dz ..) t ht;exact h3 y hy
   have one:∀next:AV→Prop,TA P hp0 fr base o.op next→∃v,lV P fr hp0 o.op v∧next v:=by
    intro next hq;unfold TA at hq
    split at hq;rename_i hk;obtain⟨v,q1,q2⟩:=ID hk hq;exact⟨v,q2,q1⟩;exact hq
   split at h;rename_i hg;obtain⟨v,q1,q2⟩:=one _ h;exact go v (by unfold Ky;rw[hg];exact q1) q2;rename_i g want hg;split at h;rename_i d hd;split at h;rename_i b hb;by_cases hbw:b=want;obtain⟨v,q1,q2⟩:=one _ (h.1 hbw);exact go v (by unfold Ky;rw[hg];exact⟨d,hd,.inl ⟨b,hb,fun _=>q1,fun h'=>by rw[hbw]at h';cases want<;>cases h'⟩⟩) q2
   have hbn:b=!want:=by cases b<;>cases want<;>simp_all
   exact go (.tup []) (by unfold Ky;rw[hg];exact⟨d,hd,.inl ⟨b,hb,fun h'=>absurd h' hbw,fun _=>rfl⟩⟩) (h.2 hbn);rename_i hb;exact go (.tup []) (by unfold Ky;rw[hg];exact⟨d,hd,.inr ⟨hb,rfl⟩⟩) h;exact h.elim;exact h.elim
theorem EP(fr:Fr):∀l:List Tmp,∃b:Fr,(∀t,t∈l→fv t b=.any)∧∀t,t ∉ l→fv t b=fv t fr
 |[]=>⟨fr,aw,fun _ _=>rfl⟩
 | d :: l=>by
  obtain⟨b,j,k⟩:=EP fr l;refine⟨(d,.any)::b,fun t f=>?_,fun t f=>?_⟩;rw[ju];split;rfl;rename_i g;rcases d_.1 f with rfl|h;exact absurd rfl g;exact j t h;rw[ju,if_neg (fun e=>f (by rw[←e];exact dz ..))];exact k t fun h=>f (cS _ h)
def Pl(d:Array Bool):Nat:=(d.toList.filter fun b=>!b).length
theorem uu{d:Array Bool}{i:Nat}(h:d.getD i true=false):Pl (d.setIfInBounds i true)+1=Pl d:=by
 unfold Pl;rw[Array.toList_setIfInBounds];have e:d.toList[i]?=some false:=by
  cases f:d[i]? with
  |none=>simp[ct,f]at h
  |some b=>simp[ct,f]at h;subst h;simpa using f
 clear h;generalize d.toList=l at e
 induction l generalizing i with
 |nil=>simp at e
 | cons b r ih =>
  cases i with
  |zero=>simp at e;subst e;simp
  |succ i =>
   simp only[List.getElem?_cons_succ]at e;have:=ih e;simp only[List.set_cons_succ,List.filter_cons];split<;>simp_all<;>omega
structure RInv(P:Program)(c:Ctx)(ops:Array Oper)(base:Nat)(hp0:Hp)(za zs rest:List Nat)(listed:Array Bool)(fr:Fr)(hp:Hp)(a:Act)(w:World):Prop where
 size:listed.size=ops.size
 closed:∀j o,ops[j]?=some o→listed.getD j false=true→∀e,e∈o.after→Region.binds .any e=true→listed.getD e.on false=true
 un:∀j,j∈rest→listed.getD j true=false
 done:∀j,j<ops.size→j ∉ zs→j ∉ rest→listed.getD j false=true
 def_:a.defers=[]
 tmps:a.tmps.size=c.n
 sim:∃U σ,Rel c hp U σ w∧BB c hp U σ w∧(∀k,U k→k<base∨∃j,base+32*j≤k∧k<base+32*j+32∧listed.getD j false=true) ∧
  ∀t,(∀z,z∈zs→listed.getD z true=false→cg ops z≠some t)→AIs w (bD c w σ hp) σ hp U (fv t fr) (a.tmps.getD t undef)
 facts:∀z,z∈zs→listed.getD z true=false→Kz P ops hp0 z fr
 sa:tM hp0 hp∨∀z,z∈za→listed.getD z true=true
theorem mH{b:Array Bool}(hc:∀j o,ops[j]?=some o→b.getD j false=true→∀e,e∈o.after→Region.binds .any e=true→b.getD e.on false=true){j i:Nat}(f:Waits ops j i) :
  (∀o,ops[j]?=some o→∀e,e∈o.after→Region.binds .any e=true→b.getD e.on false=true)→b.getD i false=true:=by
 induction f with
 |edge ho he hb=>intro h;exact h _ ho _ he hb
 |step ho he hb _ ih=>intro h;exact ih fun g d=>hc _ g d (h _ ho _ he hb)
theorem ko{d:Array Bool}{i:Nat}(h:d.getD i false=true):d.getD i true=true:=by
 simp only[ct]at h⊢;cases e:d[i]? with
 |none=>rfl
 |some b=>rw[e]at h;simpa using h
theorem jw{b:Array Bool}{i:Nat}(hi:i<b.size)(h:b.getD i false=false):b.getD i true=false:=by
 simp only[ct]at h⊢;rw[dg hi]at h⊢;simpa using h
theorem aK{b:Array Bool}{i j:Nat}(d:Bool)(hi:i<b.size):(b.setIfInBounds i true).getD j d=if i=j then true else b.getD j d:=by
 simp only[ct,Array.getElem?_setIfInBounds];split;rename_i h;subst h;simp[hi];rfl
theorem vg:∀(l:List Nat)(j:Nat),sM ops (j::l)→∀i,i∈l→∃p,p∈j::l∧Waits ops i p
 |[],_,_,_,h=>by simp at h
 |b::r,j,hc,i,hi=>by
  rcases d_.1 hi with rfl|h;exact⟨j,dz ..,hc.1⟩;obtain⟨p,d,e⟩:=vg r b hc.2 i h;exact⟨p,cS _ d,e⟩
theorem pV:∀{b:kn}{i:Nat},i∈fS b→i∈u7 b
 |s::r,i,h=>by
  rcases d_.1 h with rfl|h;exact dz ..;exact cS _ (cD.2 (.inr (pV h)))
theorem yh:∀{b:kn}{i:Nat},i∈qV b→i∈u7 b
 |s::r,i,h=>by
  rcases cD.1 h with h|h;exact cS _ (cD.2 (.inl h));exact cS _ (cD.2 (.inr (yh h)))
theorem qW:∀{b:kn}{i:Nat},i∈u7 b→i∈fS b∨i∈qV b
 | s :: r,i,h=>by
  rcases d_.1 h with rfl|h;exact .inl (dz ..);rcases cD.1 h with h|h;exact .inr (cD.2 (.inl h));rcases qW h with h|h;exact .inl (cS _ h);exact .inr (cD.2 (.inr h))
theorem BO:∀{zv:List Nat}{d:kn}{i:Nat},Kw ops zv d→i∈qV d→∃p,p∈fS d∧Waits ops i p
 |zv,s::r,i,h,hi=>by
  rcases cD.1 hi with b|b;exact⟨s.1,dz ..,h.2.1 i b⟩;obtain⟨p,f,e⟩:=BO h.2.2 b;exact⟨p,cS _ f,e⟩
theorem kF:∀{a b:List Nat},gv ops (a++b)=true→gv ops a=true∧gv ops b=true∧∀z,z∈a→∀y,y∈b→∀t,t∈gB ops z→cg ops y≠some t
 |[],b,h=>⟨rfl,h,aw⟩
 | z :: r,b,h=>by
  simp only[List.cons_append,gv,Bool.and_eq_true]at h;obtain⟨f,l⟩:=h;obtain⟨k,k2,k3⟩:=kF l;refine⟨?_,k2,fun x e y d t j g=>?_⟩;simp only[gv,Bool.and_eq_true];refine⟨d7.2 fun y d=>d7.1 f y ?_,k⟩;rcases d_.1 d with rfl|h;exact dz ..;exact cS _ (cD.2 (.inl h));rcases d_.1 e with rfl|e;have:=d7.1 f y (cS _ (cD.2 (.inr d)));simp only[g,Bool.not_eq_true',List.contains_eq_mem,decide_eq_false_iff_not]at this;exact this j;exact k3 x e y d t j g
theorem jf:∀{a b:List Nat},ee (a++b)=true→ee a=true∧ee b=true∧∀z,z∈a→z ∉ b
 |[],b,h=>⟨rfl,h,aw⟩
 |z::r,b,h=>by
  simp only[List.cons_append,ee,Bool.and_eq_true,Bool.not_eq_true',List.contains_eq_mem,decide_eq_false_iff_not,cD,not_or]at h;obtain⟨⟨f,e⟩,j⟩:=h;obtain⟨g,k2,k3⟩:=jf j;refine⟨by simp[ee,f,g],k2,fun x d=>?_⟩;rcases d_.1 d with rfl|d;exact e;exact k3 x d
theorem BP{hp':Hp}(h:cZ hp0 hp'):tM hp0 hp':=by
 intro id b f;have d:∀{l:Hp},lk id l=some b→(id,b)∈l:=by
  intro l
  induction l with
  |nil=>intro h;cases h
  |cons p t ih =>
   intro h;obtain⟨m,u⟩:=p;simp only[lk]at h;split at h;rename_i e;injection h with h;subst e;subst h;exact dz ..;exact cS _ (ih h)
 have:=h _ (d f);simp only at this;rw[this,f]
structure RegOk(n:Nat)(ops:Array Oper)(za is:List Nat):Prop where
 part:∀j,j<ops.size→(j∈za∨j∈is)∧¬(j∈za∧j∈is)
 inb:∀j,j∈is→j<ops.size
 lt:∀i d,cg ops i=some d→d<n
 uniq:∀i j d,cg ops i=some d→cg ops j=some d→i=j
 zdst:∀z,z∈za→∀d,cg ops z=some d→∀j,d∈gB ops j→Waits ops j z
 low:∀j o,ops[j]?=some o→∀e,e∈o.after→Region.binds .any e=true→e.on<j
structure RegMore(ops:Array Oper)(zs:List Nat)(ss:kn)(m:Nat)(za is:List Nat):Prop where
 nis:ee is=true
 nza:ee za=true
 seg:Kw ops zs ss
 chain:sM ops is
 order:gv ops za=true
 tail:∀i,i∈is.drop m→∀z,z∈za→Waits ops i z
 inz:∀z,z∈za→z<ops.size
theorem Pm{n:Nat}{l:List Nat}{g:kn}{m:Nat}(h:EO n ops l g m=true):RegOk n ops (l++qV g) (fS g)∧RegMore ops l g m (l++qV g) (fS g):=by
 unfold EO at h;generalize l++qV g=za at h;generalize fS g=is at h;simp only[Ys,Bool.and_eq_true]at h;obtain⟨⟨⟨⟨⟨⟨⟨⟨⟨⟨⟨y,C⟩,q⟩,v⟩,s⟩,u⟩,H⟩,B⟩,I⟩,x⟩,E⟩,r⟩:=h;have inr:∀{i d},cg ops i=some d→i∈List.range ops.size:=by
  intro i d b;rw[List.mem_range];rcases Nat.lt_or_ge i ops.size with h|h;exact h;simp[cg,Array.getElem?_eq_none h]at b
 refine⟨⟨fun j f=>?_,fun j f=>?_,fun i d b=>?_,fun i j d b f=>?_,fun z p d F j f=>?_,fun j o t e A D=>?_⟩,⟨v,s,Kx B,BN I,x,fun i b z p=>?_,fun z p=>by simpa using d7.1 q z p⟩⟩
 have:=d7.1 y j (List.mem_range.2 f);simp at this;exact⟨this.1,fun h=>by rcases this.2 with G|G<;>simp_all⟩
 simpa using d7.1 C j f;have:=d7.1 u i (inr b);simp only[b,Bool.and_eq_true,decide_eq_true_eq]at this;exact this.1;have:=d7.1 u i (inr b);simp only[b,Bool.and_eq_true]at this;have:=d7.1 this.2 j (inr f);simp only[f,bne_self_eq_false,Bool.or_false,beq_iff_eq]at this;exact this.symm;have:=d7.1 H z p;simp only[F]at this;have k:j∈List.range ops.size:=by
  rw[List.mem_range];rcases Nat.lt_or_ge j ops.size with h|h;exact h;simp[gB,Array.getElem?_eq_none h]at f
 have:=d7.1 this j k;simp only[f,List.contains_eq_mem,decide_true,Bool.not_true,Bool.false_or]at this;exact kE this;have k:j∈List.range ops.size:=by
  rw[List.mem_range];exact(Array.getElem?_eq_some_iff.1 t).1
 have:=d7.1 r j k;simp only[t]at this;have:=Array.all_eq_true_iff_forall_mem.1 this e A;simpa[D]using this;have:=d7.1 E i b;exact kE (d7.1 this z p)
theorem ln{e:Fr}{hp:Hp}{U:Nat→Prop}{N:Nat}{σ:Nat→Option Nat}{a:Act}{w:World}{b:Option Tmp}(g:a.defers=[])(l:a.tmps.size=c.n)(k:Rel c hp U σ w)(f:BB c hp U σ w)
  (j:∀t,AIs w (bD c w σ hp) σ hp U (fv t e) (a.tmps.getD t undef)):nu c (bf e b (.tup [])) hp (ec U N) (a.put b undef) w:=by
 cases b with
 |none=>exact⟨g,l,σ,k.more,fun n=>(j n).step Step.more,f.trans Step.more⟩
 | some d =>
  refine⟨g,by simp[Act.put,l],σ,k.more,fun n=>?_,f.trans Step.more⟩;simp only[bf,Act.put,ju];by_cases h:d=n;subst h;have m:(a.tmps.setIfInBounds d undef).getD d undef=.tuple #[]:=by
   simp only[ct,Array.getElem?_setIfInBounds,if_true];split<;>rfl
  rw[m];simp only[if_true];exact .tup [] #[] rfl aw;simp only[if_neg h];have:(a.tmps.setIfInBounds d undef).getD n undef=a.tmps.getD n undef:=by
   simp only[ct,Array.getElem?_setIfInBounds,if_neg h]
  rw[this];exact(j n).step Step.more
/-- Every order. -/
theorem UA {za is:List Nat} {Q:Exit→Act→World→Prop} (hB:RegOk c.n ops za is)
  (hQ:∀fr hp a w U,K fr hp→(∀k,U k→k<base+32*ops.size)→nu c fr hp U a w→Q .normal a w) :
  ∀(fuel:Nat)(listed:Array Bool)(zs:List Nat)(rest:kn)(m:Nat)(fr:Fr)(hp:Hp)(a:Act)(w:World),Pl listed≤fuel→(∀i,i∈(fS rest).drop m→∀z,z∈za→Waits ops i z)→sM ops (fS rest)→ee (fS rest)=true→(∀i,i∈fS rest→i∈is) →
   Kw ops zs rest→gv ops (zs++qV rest)=true→ee (zs++qV rest)=true→(∀z,z∈zs++qV rest→z∈za) →
   RInv P c ops base hp0 za zs (u7 rest) listed fr hp a w→Et P ops base hp0 K rest m fr hp→wpAny P .any ops Q fuel listed a w:=by
 have notboth:∀{listed:Array Bool}{i:Nat},listed.getD i true=false→listed.getD i false=true→False:=by
  intro listed i h1 h2;rw[ko h2]at h1;cases h1
 -- where nothing is left
 have tQ:∀ (listed:Array Bool) (zs:List Nat) (rest:kn) (m:Nat) (fr:Fr) (hp:Hp) (a:Act) (w:World),(∀ i,i ∈ fS rest→i ∈ is)→RInv P c ops base hp0 za zs (u7 rest) listed fr hp a w→Et P ops base hp0 K rest m fr hp→Region.ready .any ops listed=[]→Q .normal a w:=by
  intro listed zs rest m fr hp a w hsub hI hW hr0;have all:∀k j,j≤k→j<ops.size→listed.getD j false=true:=by
   intro k
   induction k with
   | zero =>
    intro j hj hjs;cases hl:listed.getD j false with
    |true=>rfl
    | false =>
     have hmem:j∈Region.ready .any ops listed:=mem_ready.2 ⟨jw (by rw[hI.size];exact hjs) hl,ops[j],dg hjs,fun e he hb=>by
      have:=hB.low j _ (dg hjs) e he hb
      omega⟩
     rw[hr0]at hmem;simp at hmem
   | succ k ih =>
    intro j hj hjs;cases hl:listed.getD j false with
    |true=>rfl
    | false =>
     have hmem:j∈Region.ready .any ops listed:=mem_ready.2 ⟨jw (by rw[hI.size];exact hjs) hl,ops[j],dg hjs,fun e he hb=>by
      have:=hB.low j _ (dg hjs) e he hb
      exact ih e.on aq aq⟩
     rw[hr0]at hmem;simp at hmem
  have hnil:rest=[]:=by
   cases rest with
   |nil=>rfl
   |cons j r =>
    have h1:=hI.un j.1 (dz ..);exact(notboth h1 (all j.1 j.1 (cL _) (hB.inb j.1 (hsub j.1 (dz ..))))).elim
  subst hnil;simp only[Et]at hW;obtain⟨U,σ,hr,hh,hU,hf⟩:=hI.sim;refine hQ fr hp a w U hW (fun k hk=>?_) ⟨hI.def_,hI.tmps,σ,hr,fun t=>hf t fun z hz hun=>?_,hh⟩;rcases hU k hk with h|⟨j,hj1,hj2,hj⟩;omega;have:j<listed.size:=by
   rcases Nat.lt_or_ge j listed.size with h|h;exact h;simp[ct,Array.getElem?_eq_none h]at hj
  have:=hI.size;omega;intro he;have:z<ops.size:=by
   rcases Nat.lt_or_ge z ops.size with h|h;exact h;simp[cg,Array.getElem?_eq_none h]at he
  exact notboth hun (all z z (cL _) this)
 intro fuel
 induction fuel with
 | zero =>
  intro listed zs rest m fr hp a w hf ht hc hn hsub hsg hord hnz hza hI hW;have hr0:Region.ready .any ops listed=[]:=by
   rw[List.eq_nil_iff_forall_not_mem];intro i hi;have:=uu (mem_ready.1 hi).1;omega
  exact⟨hr0,tQ listed zs rest m fr hp a w hsub hI hW hr0⟩
 | succ fuel ih =>
  intro listed zs rest m fr hp a w hfuel ht hc hn hsub hsg hord hnz hza hI hW;refine⟨tQ listed zs rest m fr hp a w hsub hI hW,fun i hi=>?_⟩;obtain⟨hun,o,ho,haft⟩:=mem_ready.1 hi;have his:i<ops.size:=(Array.getElem?_eq_some_iff.1 ho).1;have hil:i<listed.size:=by rw[hI.size];exact his
  have hdi:cg ops i=o.dst:=by simp[cg,ho]
  have hli:gB ops i=o.looksAt ops:=by simp[gB,ho]
  have hwl:∀z,Waits ops i z→listed.getD z false=true:=fun z hz=>mH hI.closed hz fun o' ho'=>by
   rw[ho]at ho';injection ho' with ho';subst ho';exact haft
  have hzza:∀z,z∈zs→z∈za:=fun z hz=>hza z (cD.2 (.inl hz));have hdst:gq c.n o.dst:=by
   unfold gq;cases hd:o.dst with
   |none=>trivial
   |some d=>exact hB.lt i d (by rw[hdi,hd])
  have hun':∀z,(listed.setIfInBounds i true).getD z true=false→listed.getD z true=false∧z≠i:=by
   intro z hz;rw[aK true hil]at hz;split at hz;cases hz;rename_i hne;exact⟨hz,fun h=>hne h.symm⟩
  have hclosed':∀j o',ops[j]?=some o'→(listed.setIfInBounds i true).getD j false=true→∀e,e∈o'.after→Region.binds .any e=true→(listed.setIfInBounds i true).getD e.on false=true:=by
   intro j o' hj hl e he hb;rw[aK false hil]at hl⊢;split;rfl;split at hl;rename_i hij;subst hij;rw[ho]at hj;injection hj with hj;subst hj;exact haft e he hb;exact hI.closed j o' hj hl e he hb
  have hfuel':Pl (listed.setIfInBounds i true)≤fuel:=by
   have:=uu hun;omega
  obtain⟨U,σ,hr,hh,hU,hf⟩:=hI.sim;have hNU:Free U (base+32*i):=by
   intro k k1 k2 h;rcases hU _ h with h|⟨j,hj,hj2,hl⟩;omega;have:j=i:=aq;subst this;exact notboth hun hl
  have hU':∀k,ec U (base+32*i) k→k<base∨∃j,base+32*j≤k∧k<base+32*j+32∧(listed.setIfInBounds i true).getD j false=true:=by
   rintro k(h|h);rcases hU k h with h|⟨j,h1,h1',h2⟩;exact .inl h;exact .inr ⟨j,h1,h1',by rw[aK false hil];split<;>simp[h2]⟩;exact .inr ⟨i,h.1,h.2,by rw[aK false hil];simp⟩
  obtain⟨frm,hm1,hm2⟩:=EP fr (zs.filterMap fun z=>if listed.getD z true=true then none else cg ops z);have hml:∀t,t∈(zs.filterMap fun z=>if listed.getD z true=true then none else cg ops z)↔∃z,z∈zs∧listed.getD z true=false∧cg ops z=some t:=by
   intro t;rw[List.mem_filterMap];constructor;rintro⟨z,hz,h⟩;split at h;cases h;rename_i hne;exact⟨z,hz,by simpa using hne,h⟩;rintro⟨z,hz,h1,h2⟩;exact⟨z,hz,by simp[h1,h2]⟩
  have hfm:∀t,AIs w (bD c w σ hp) σ hp U (fv t frm) (a.tmps.getD t undef):=by
   intro t;by_cases hm:t∈(zs.filterMap fun z=>if listed.getD z true=true then none else cg ops z);rw[hm1 t hm];exact .any _;rw[hm2 t hm];exact hf t fun z hz hzu he=>hm ((hml t).2 ⟨z,hz,hzu,he⟩)
  have hlook:∀t,t∈o.looksAt ops→fv t frm=fv t fr:=by
   intro t ht';refine hm2 t fun hm=>?_;obtain⟨z,hz,hzu,he⟩:=(hml t).1 hm;exact notboth hzu (hwl z (hB.zdst z (hzza z hz) t he i (by rw[hli];exact ht')))
  have hlook':∀t,t∈o.looksAt ops→fv t fr=fv t frm:=fun t ht'=>(hlook t ht').symm;have hgu:∀{g want d},o.guard=some (g,want)→(ops[g]?).bind (·.dst)=some d→fv d fr=.tup []→¬(yielded ops a.tmps g=some want):=by
   intro g want d hg hd hb;have hx:=hfm d;rw[hlook d (jM hg hd),hb]at hx;unfold yielded;rw[hd];cases ht:a.tmps[d]? with
   |none=>simp[ht]
   |some u =>
    have e:a.tmps.getD d undef=u:=(by simp[ct,ht]);rw[e]at hx;cases hx with
    |tup _ xs _ _=>simp[ht]
  have hgv:∀{g want d b},o.guard=some (g,want)→(ops[g]?).bind (·.dst)=some d→fv d fr=.d (.bool b)→yielded ops a.tmps g=some b:=by
   intro g want d b hg hd hb;have hx:=hfm d;rw[hlook d (jM hg hd),hb]at hx;have hv:=gi hx;unfold yielded;rw[hd];have hv':a.tmps[d]?.getD undef=.bool b:=(by simpa using hv);cases ht:a.tmps[d]? with
   |none=>rw[ht]at hv';cases hv'
   |some u=>rw[ht]at hv';simp at hv';subst hv';simp[ht]
  unfold wpOp;simp only[ho];by_cases hz:i∈zs
  ·
   have hag:tM hp0 hp:=by
    rcases hI.sa with h|h;exact h;have:=h i (hzza i hz);rw[hun]at this;cases this
   have hirest:i ∉ u7 rest:=fun h=>by
    rcases qW h with h|h;exact(hB.part i his).2 ⟨hzza i hz,hsub i h⟩;exact(jf hnz).2.2 i hz h
   obtain⟨v,o',ho',hdv,hzk⟩:=hI.facts i hz hun;rw[ho]at ho';injection ho' with ho';subst ho';have next:∀a' w',nu c (bf frm o.dst v) hp (ec U (base+32*i)) a' w'→wpAny P .any ops Q fuel (listed.setIfInBounds i true) a' w':=by
    rintro a' w'⟨q1,q2,σ',q3,q4,q5⟩;refine ih _ zs rest m fr hp a' w' hfuel' ht hc hn hsub hsg hord hnz hza ⟨by simp[hI.size],hclosed',fun j hj=>?_,fun j hj hjz hjr=>?_,q1,q2,⟨_,σ',q3,q5,hU',fun t htu=>?_⟩,fun z hz' hzu=>hI.facts z hz' (hun' z hzu).1,.inl hag⟩ hW;rw[aK true hil,if_neg (fun e=>hirest (by rw[e];exact hj))];exact hI.un j hj;rw[aK false hil];split;rfl;exact hI.done j hj hjz hjr;have:=q4 t;by_cases hd:o.dst=some t;rw[hd,jN]at this;rw[hdv t hd];exact this;rw[lF hd,hm2 t fun hm=>?_]at this;exact this;obtain⟨z,hz',hzu,he⟩:=(hml t).1 hm;refine htu z hz' ?_ he;rw[aK true hil,if_neg];exact hzu;intro e;subst e;exact hd (by rw[←hdi];exact he)
   have exec:lV P fr hp0 o.op v→o.wp P a w (wpAny P .any ops Q fuel (listed.setIfInBounds i true)) Q:=by
    intro hs;have hop:=lm hlook' hs hp (base+32*i) (fun v' hp'=>v'=v∧hp'=hp) hag ⟨rfl,rfl⟩;have hok:=qT (o:=o) hr (fun x=>x8 hfm x) hNU hop;refine qK hI.def_ hI.tmps hdst hfm hh hok fun v' hp' a' w' hK hS=>?_;obtain⟨rfl,rfl⟩:=hK;exact next a' w' hS
   unfold Ky at hzk;split at hzk;rename_i hg;rw[if_pos (by simp[Region.wanted,hg])];exact .inl (exec hzk)
   ·rename_i g want hg;obtain⟨d,hd,⟨b,hb,h1,h2⟩|⟨hb,hv⟩⟩:=hzk
    ·have hy:=hgv hg hd hb;by_cases hbw:b=want;rw[if_pos (by simp[Region.wanted,hg,hy,hbw])];exact .inl (exec (h1 hbw))
     ·rw[if_neg (by simp[Region.wanted,hg,hy,hbw])];have hv:=h2 (by cases b<;>cases want<;>simp_all)
      subst hv;exact next _ _ (ln hI.def_ hI.tmps hr hh hfm)
    ·have hy:=hgu hg hd hb;rw[if_neg (by simp[Region.wanted,hg,hy])];subst hv;exact next _ _ (ln hI.def_ hI.tmps hr hh hfm)
  ·
   have hir:i∈u7 rest:=by
    rcases Classical.em (i∈u7 rest)with h|h;exact h;exact(notboth hun (hI.done i his hz h)).elim
   cases rest with
   |nil=>simp[u7]at hir
   | cons s r =>
    obtain⟨j,zj⟩:=s;have hij:i=j:=by
     have far:∀p,p∈fS ((j,zj)::r)→Waits ops i p→False:=fun p hp1 hp2=>notboth (hI.un p (pV hp1)) (hwl p hp2);rcases qW hir with h|h;rcases d_.1 h with h|h;exact h;obtain⟨p,hp1,hp2⟩:=vg (fS r) j hc i h;exact(far p hp1 hp2).elim;obtain⟨p,hp1,hp2⟩:=BO hsg h;exact(far p hp1 hp2).elim
    subst hij;have hiza:i ∉ za:=fun h=>(hB.part i his).2 ⟨h,hsub i (dz ..)⟩;have hni:i ∉ fS r:=by
     simp only[fS,ee,Bool.and_eq_true,Bool.not_eq_true',List.contains_eq_mem,decide_eq_false_iff_not]at hn;exact hn.1
    have hns:i ∉ u7 r:=fun h=>by
     rcases qW h with h|h;exact hni h;exact hiza (hza i (cD.2 (.inr (cD.2 (.inr h)))))
    have hnr:ee (fS r)=true:=by
     simp only[fS,ee,Bool.and_eq_true]at hn;exact hn.2
    have hcr:sM ops (fS r):=by
     cases r with
     |nil=>trivial
     |cons b r=>exact hc.2
    have htr:∀k,k∈(fS r).drop (m-1)→∀z,z∈za→Waits ops k z:=by
     intro k hk;refine ht k ?_;cases m with
     |zero=>exact cS _ (by simpa using hk)
     |succ m=>simpa[fS]using hk
    have hord':gv ops ((zs++zj)++qV r)=true:=by rw[cA];exact hord
    have hnz':ee ((zs++zj)++qV r)=true:=by rw[cA];exact hnz
    have hza':∀z,z∈(zs++zj)++qV r→z∈za:=by rw[cA];exact hza
    have hzj:∀z,z∈zj→z∈za:=fun z hz'=>hza' z (cD.2 (.inl (cD.2 (.inr hz'))));have hordj:=kF (kF hord').1;have hnzj:=jf (jf hnz').1;have hunj:∀z,z∈zj→listed.getD z true=false:=fun z hz'=>hI.un z (cS _ (cD.2 (.inl hz')));simp only[Et,ho]at hW;have next:∀ v hp' a' w',(m ≠ 0→tM hp0 hp' ∨ ∀ z,z ∈ za→listed.getD z true=true)→zW P ops base hp0 (fun fr=>Et P ops base hp0 K r (m - 1) fr hp') zj (bf fr o.dst v)→nu c (bf frm o.dst v) hp' (ec U (base+32*i)) a' w'→wpAny P .any ops Q fuel (listed.setIfInBounds i true) a' w':=by
     rintro v hp' a' w' hsa hW'⟨q1,q2,σ',q3,q4,q5⟩;obtain⟨frZ,g1,g2,g3⟩:=nJ hB.uniq zj _ hordj.2.1 hnzj.2.1 hW';refine ih _ (zs++zj) r (m-1) frZ hp' a' w' hfuel' htr hcr hnr (fun k hk=>hsub k (cS _ hk)) hsg.2.2 hord' hnz' hza' ⟨by simp[hI.size],hclosed',fun k hk=>?_,fun k hk hkz hkr=>?_,q1,q2,⟨_,σ',q3,q5,hU',fun t htu=>?_⟩,fun z hz' hzu=>?_,?_⟩ g1;rw[aK true hil,if_neg (fun e=>hns (by rw[e];exact hk))];exact hI.un k (cS _ (cD.2 (.inr hk)));rw [aK false hil];split;rfl;rename_i hne;exact hI.done k hk (fun h=>hkz (cD.2 (.inl h))) (fun h=>by
      rcases d_.1 h with h|h;exact hne h.symm;rcases cD.1 h with h|h;exact hkz (cD.2 (.inr h))
      exact hkr h)
     have hnj:∀z,z∈zj→cg ops z≠some t:=fun z hz'=>htu z (cD.2 (.inr hz')) (by
      rw[aK true hil,if_neg (fun e=>hiza (by rw[e];exact hzj z hz'))]
      exact hunj z hz')
     rw[g2 t hnj];have:=q4 t;by_cases hd:o.dst=some t;rw[hd,jN]at this⊢;exact this;rw[lF hd]at this⊢;rw[hm2 t fun hm=>?_]at this;exact this;obtain⟨z,hz',hzu,he⟩:=(hml t).1 hm;refine htu z (cD.2 (.inl hz')) ?_ he;rw[aK true hil,if_neg (fun e=>hz (by rw[e];exact hz'))];exact hzu;rcases cD.1 hz' with hz'|hz';obtain⟨hzu1,hzi⟩:=hun' z hzu;obtain⟨vz,oz,hoz,hdz,hzk⟩:=hI.facts z hz' hzu1;have hdz':cg ops z=oz.dst:=(by simp[cg,hoz]);have hlz:gB ops z=oz.looksAt ops:=(by simp[gB,hoz]);refine⟨vz,oz,hoz,fun d hd=>?_,sN (fun t ht'=>?_) hzk⟩;rw[g2 d fun y hy he=>?_,lF];exact hdz d hd;intro he;exact hzi (hB.uniq z i d (by rw[hdz'];exact hd) (by rw[hdi];exact he));have:=hB.uniq z y d (by rw[hdz'];exact hd) he;subst this;exact hnzj.2.2 z hz' hy;rw[g2 t fun y hy=>hordj.2.2 z hz' y hy t (by rw[hlz];exact ht'),lF];intro he;exact notboth hzu1 (hwl z (hsg.1 t (by rw[hdi];exact he) z hz' (by rw[hlz];exact ht')));exact g3 z hz';cases m with
     |zero =>
      right;intro z hz';have:=hwl z (ht i (by simp[fS]) z hz');rw[aK true hil];split;rfl;exact ko this
     | succ m =>
      rcases hsa aq with h|h;exact .inl h;right;intro z hz';rw[aK true hil];split;rfl;exact h z hz'
    have exec:bM P fr hp (base+32*i) o.op (fun v hp'=>(m≠0→cZ hp0 hp')∧zW P ops base hp0 (fun fr=>Et P ops base hp0 K r (m-1) fr hp') zj (bf fr o.dst v))→o.wp P a w (wpAny P .any ops Q fuel (listed.setIfInBounds i true)) Q:=by
     intro hop;rw[sL (ve hlook')]at hop;have hok:=qT (o:=o) hr (fun x=>x8 hfm x) hNU hop;refine qK hI.def_ hI.tmps hdst hfm hh hok fun v' hp' a' w' hK hS=>?_;exact next v' hp' a' w' (fun h=>.inl (BP (hK.1 h))) hK.2 hS
    split at hW;rename_i hg;rw[if_pos (by simp[Region.wanted,hg])];exact .inl (exec hW)
    ·rename_i g want hg;split at hW
     ·rename_i d hd;split at hW
      ·rename_i b hb;have hy:=hgv hg hd hb;by_cases hbw:b=want;rw[if_pos (by simp[Region.wanted,hg,hy,hbw])];exact .inl (exec (hW.1 hbw))
       ·rw[if_neg (by simp[Region.wanted,hg,hy,hbw])];have hv:=hW.2 (by cases b<;>cases want<;>simp_all)
        exact next (.tup []) hp _ _ (fun hm=>hI.sa) hv (ln hI.def_ hI.tmps hr hh hfm)
      ·rename_i hb;have hy:=hgu hg hd hb;rw[if_neg (by simp[Region.wanted,hg,hy])];exact next (.tup []) hp _ _ (fun hm=>hI.sa) hW (ln hI.def_ hI.tmps hr hh hfm)
      ·exact hW.elim
     ·exact hW.elim
theorem EQ{p:List Nat}{s:kn}{m:Nat}{id:Nat}{U:Nat→Prop}{a:Act}{w:World}{Q:Exit→Act→World→Prop}(g:P.follows .mixedOrders=true)(G:EO c.n ops p s m=true)
  (B:∀fr hp a w U,K fr hp→(∀k,U k→k<base+32*ops.size)→nu c fr hp U a w→Q .normal a w)
  (O:∀k,U k→k<base) (H:nu c fr hp0 U a w) (h:zW P ops base hp0 (fun fr=>Et P ops base hp0 K s m fr hp0) p fr):(Code.region id ops true).wp P Q a w:=by
 obtain⟨d,b⟩:=Pm G;obtain⟨r,F,I,E⟩:=nJ d.uniq p fr (kF b.order).1 (jf b.nza).1 h;obtain⟨M,J,σ,L,C,D⟩:=H;have q:=jK L;have Bz:∀j,(Array.replicate ops.size false).getD j false=false:=by
  intro j;simp only[ct,Array.getElem?_replicate];split<;>rfl
 have e:∀j,j<ops.size→(Array.replicate ops.size false).getD j true=false:=by
  intro j l;simp[ct,Array.getElem?_replicate,l]
 refine wp_region_any g (UA d B ops.size _ p s m r hp0 a w.drew ?_ b.tail b.chain b.nis (fun _ h=>h) b.seg b.order b.nza (fun _ h=>h) ⟨aw,fun j o T x=>(by rw[Bz]at x;cases x),fun j l=>?_,fun j l f v=>?_,M,J,
  ⟨U,σ,q,D.trans cJ,fun k A=>.inl (O k A),fun t R=>?_⟩,fun z f _=>E z f,.inl fun _ _ h=>h⟩ F)
 unfold Pl;refine Nat.le_trans (List.length_filter_le _ _) ?_;simp;refine e j ?_;rcases qW l with h|h;exact d.inb j h;rcases Nat.lt_or_ge j ops.size with u|u;exact u;exact absurd u (by have:=b.inz j (cD.2 (.inr h));omega);rcases(d.part j l).1 with h|h;rcases cD.1 h with h|h;exact absurd h f;exact absurd (yh h) v;exact absurd (pV h) v;rw[I t fun z f y=>?_];exact(C t).step cJ;refine R z f (e z ?_) y;rcases Nat.lt_or_ge z ops.size with h|h;exact h;simp[cg,Array.getElem?_eq_none h]at y
end
end Go.Am
