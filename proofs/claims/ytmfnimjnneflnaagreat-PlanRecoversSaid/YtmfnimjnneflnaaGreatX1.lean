/-
 Part 2 of what the claim rests on.
-/
import Derived.Test.YtmfnimjnneflnaaGreatX0
import Derived.Laws.Cover3
import Derived.Orders
set_option linter.unusedVariables false
set_option linter.unusedSimpArgs false
set_option maxRecDepth 100000
set_option maxHeartbeats 16000000
namespace Go.Am
section
variable {P:Program} {c:Ctx} {K:AV→Hp→Prop} {fr:Fr} {hp:Hp} {U:Nat→Prop} {N:Nat} {σ:Nat→Option Nat} {w:World} {a:Act} {o:Oper} {S:Nat→Prop}
theorem cM:Step w (bQ c w σ hp) σ hp U w.drew (bQ c w.drew σ hp) σ hp U :=
 ⟨fun _ h=>h,fun _ _=>rfl,fun _ h=>h,fun id d _ h=>⟨d,h,rfl,rfl,cR _,fun _ g b=>⟨b,fun _ h=>h⟩⟩⟩
theorem ke(d:Rel c hp U σ w):Rel c hp U σ w.drew:=by
 refine⟨d.inj,d.lt,fun i b h=>?_,d.mine,d.os,d.tape,d.output,d.size,d.old⟩;rcases d.blk i b h with e|⟨g,j,f⟩;exact .inl ⟨e.1,e.2.keep fun _ _ _ _=>rfl⟩;exact .inr ⟨g,j,f.step cM rfl⟩
theorem kg{sz:Nat}{r1 k:List (List AV)}{x1 s rest:Array Value}(f:RIs w S σ hp U sz r1 x1)(A:x1.size=r1.length*sz)(g:RIs w S σ hp U sz k s)(t:∀(i:Nat)(x:Value),rest[i]?=some x→x.oneCell'=true) :
  RIs w S σ hp U sz (r1++k) (x1++s++rest):=by
 have E:=f.len;have C:=g.len;refine⟨by simp[Nat.add_mul];omega,fun r p=>?_,fun i x b=>?_,fun i j r y x d l b=>?_⟩;rcases cL.1 p with h|h;exact f.row r h;exact g.row r h;rw[Array.getElem?_append]at b;split at b;rw[Array.getElem?_append]at b;split at b;exact f.one _ _ b;exact g.one _ _ b;exact t _ _ b;rw[List.getElem?_append]at d;split at d;rename_i u;have m:j<sz:=by
  have:=(ci.1 l).1;rw[f.row r (cr d)]at this;exact this
 have e:i*sz+j<x1.size:=by
  have:(i+1)*sz≤r1.length*sz:=d_ _ aq;rw[Nat.add_mul,Nat.one_mul]at this;omega
 rw[Array.getElem?_append,if_pos (by simp;omega),Array.getElem?_append,if_pos e]at b;exact f.is i j r y x d l b;rename_i v;have m:j<sz:=by
  have:=(ci.1 l).1;rw[g.row r (cr d)]at this;exact this
 have B:=(ci.1 d).1;have D:(i-r1.length)*sz+j<k.length*sz:=by
  have:(i-r1.length+1)*sz≤k.length*sz:=d_ _ aq;rw[Nat.add_mul,Nat.one_mul]at this;omega
 have q:i*sz=r1.length*sz+(i-r1.length)*sz:=by
  rw[←Nat.add_mul];congr 1;omega
 rw[Array.getElem?_append,if_pos (by simp;omega),Array.getElem?_append,if_neg aq]at b;rw[show i*sz+j-x1.size=(i-r1.length)*sz+j by omega]at b;exact g.is _ j r y x d l b
section
variable {ts tx ty el el2:TypeId} {i:TypeInfo} {z:Value}
theorem nC(e:P.underlying ts=some (.slice el))(f:P.underlying tx=some (.slice el2))(hi:P.info? el=some i){base:Option Addr}{sLen sCap n k:Nat}{B:Option Addr}{g:Array Value}{w':World}
  (h:(Builtin.firstCells i.size n (.slice B n k)).run P w=.ok g w) (d:sLen+n≤sCap) (b:(match base with|some a=>storeCells (a.add (sLen*i.size)) g.toList|none=>pure ()).run P w=.ok () w') :
  (Builtin.append_ #[ts,tx] ty #[.slice base sLen sCap,.slice B n k]).run P w=.ok (.slice base (sLen+n) sCap) w':=by
 cases base with
 |none =>
  simp at b;subst b;simp[Builtin.append_,run_underlying e,run_underlying f,sizeOf,typeInfo,hi,Builtin.lenOf,d,h]
 |some ad =>
  simp only at b;simp[Builtin.append_,run_underlying e,run_underlying f,sizeOf,typeInfo,hi,Builtin.lenOf,d,h,b]
theorem jg(g:P.underlying ts=some (.slice el))(f:P.underlying tx=some (.slice el2))(hi:P.info? el=some i)(hz:i.zero=some z){base:Option Addr}{sLen sCap n k:Nat}{B:Option Addr}{j os:Array Value}
  (l:(Builtin.firstCells i.size n (.slice B n k)).run P w.drew=.ok j w.drew) (h:(Builtin.firstCells i.size sLen (.slice base sLen sCap)).run P w.drew=.ok os w.drew) (b:sCap<sLen+n) (p:i.bytes≠0) (d:(sLen+n)*i.bytes≤140737488355328) :
  (Builtin.append_ #[ts,tx] ty #[.slice base sLen sCap,.slice B n k]).run P w=.ok (.slice (some ⟨w.heap.size,0,none⟩) (sLen+n) (grownCap w (sLen+n) sCap el))
    (w.drew.alloc (.cells (os++j++Builtin.zeroCells z.cells (grownCap w (sLen+n) sCap el-(sLen+n))) el)):=by
 have m:¬(sLen+n≤sCap):=aq;have e:¬(281474976710656<Builtin.nextslicecap (sLen+n) sCap*i.bytes):=by
  have:=growslice_fits b d;omega
 simp[Builtin.append_,run_underlying g,run_underlying f,sizeOf,typeInfo,zeroValue,hi,hz,Builtin.lenOf,m,p,e,Question.forced,l,h,newRow,grownCap]
end
theorem pC{id:Nat}{b:Blk}:∀{hp:Hp},lk id hp=some b→bX id b hp=hp
 |[],h=>by cases h
 |(m,v)::t,h=>by
  simp only[lk]at h;simp only[bX];split at h;rename_i e;injection h with h;subst h;rw[if_pos e];rename_i e;rw[if_neg e,pC h]
theorem Dc(hr:Rel c hp U σ w){id g len cap:Nat}{b:Blk}{xs es':List (List AV)}{p d:Array Value}(Q:lk id hp=some b)(Y:σ id=some g)(V:w.heap[g]?=some (.cells d b.ty (0,0)))
  (v:RIs w (bQ c w σ hp) σ hp U b.e xs p) (T:p.size=xs.length*b.e) (G:cap*b.e≤d.size) (f:len+xs.length≤cap) (R:b.es.length≤es'.length) (H:es'.length≤cap) (X:len+xs.length≤es'.length)
  (E:∀k r,es'[k]?=some r→(k<len∧b.es[k]?=some r)∨(len≤k∧k<len+xs.length∧xs[k-len]?=some r)∨(len+xs.length≤k∧b.es[k]?=some r))
  (hU:U id) (hK:K (.own id 0 (len+xs.length) es'.length) (bX id ⟨b.ty,b.e,es'⟩ hp)) :
  Good c K hp U N σ w (.slice (some ⟨g,0,none⟩) (len+xs.length) cap) (w.setRow g (d.toList.take (len*b.e)++p.toList++d.toList.drop (len*b.e+p.toList.length)).toArray):=by
 obtain⟨cc,q,m2,m3,m4,m5⟩:=hr.at Q Y;rw[V]at q;injection q with q;injection q with q;subst q;have F:(len+xs.length)*b.e≤cap*b.e:=d_ _ f;rw[Nat.add_mul]at F;have I:p.toList.length=xs.length*b.e:=by simpa using T
 have t:∀m,(d.toList.take (len*b.e)++p.toList++d.toList.drop (len*b.e+p.toList.length)).toArray[m]? =
   if m<len*b.e then d[m]? else if m<len*b.e+xs.length*b.e then p[m-len*b.e]? else d[m]?:=by
  intro m;simp only[List.getElem?_toArray,cD];rw[List.getElem?_append];have O:(d.toList.take (len*b.e)).length=len*b.e:=by simp;omega
  rw[O];by_cases W:m<len*b.e;simp[W];rw[if_neg W,if_neg W,List.getElem?_append];by_cases L:m<len*b.e+xs.length*b.e;rw[if_pos aq,if_pos L,Array.getElem?_toList];rw[if_neg aq,if_neg L,List.getElem?_drop,Array.getElem?_toList];congr 1;omega
 have s:∀r,r∈es'→r.length=b.e:=by
  intro r Z;obtain⟨k,hk⟩:=List.getElem?_of_mem Z;rcases E k r hk with ⟨_,D⟩|⟨_,_,D⟩|⟨_,D⟩;exact m3 r (cr D);exact v.row r (cr D);exact m3 r (cr D)
 have l:(d.toList.take (len*b.e)++p.toList++d.toList.drop (len*b.e+p.toList.length)).toArray.size=d.size:=by
  simp only[List.size_toArray,b_,List.length_take,e_,I,Array.length_toList];omega
 have B:es'.length*b.e≤cap*b.e:=d_ _ H;obtain⟨r1,r2⟩:=wH hr (b':=⟨b.ty,b.e,es'⟩) Q Y rfl rfl R d _ (by rw[l];exact Nat.le_trans B G) V l
  (fun m y C=>by
   rw[t]at C;split at C;exact m2 m y C;split at C;exact v.one _ y C
   exact m2 m y C)
  s
  (fun k j r y u a1 M A=>by
   have hj:j<b.e:=by
    have:=(ci.1 M).1;rw[s r (cr a1)]at this;exact this
   rw[t]at A;rcases E k r a1 with ⟨q,J⟩|⟨q0,q,J⟩|⟨q,J⟩;have:(k+1)*b.e≤len*b.e:=d_ _ aq;rw[Nat.add_mul,Nat.one_mul]at this;rw[if_pos aq]at A;exact m5 k j r y u J M A;have e1:k*b.e=len*b.e+(k-len)*b.e:=by rw[←Nat.add_mul];congr 1;omega
   have e2:(k-len+1)*b.e≤xs.length*b.e:=d_ _ aq;rw[Nat.add_mul,Nat.one_mul]at e2;rw[if_neg aq,if_pos aq,show k*b.e+j-len*b.e=(k-len)*b.e+j by omega]at A;exact v.is (k-len) j r y u J M A;have e1:(len+xs.length)*b.e≤k*b.e:=d_ _ q;rw[Nat.add_mul]at e1;rw[if_neg aq,if_neg aq]at A
   exact m5 k j r y u J M A)
 refine⟨_,_,_,hK,r1.more,r2.trans Step.more,.own _ _ _ _ _ _ (.inl hU) f (fun h=>by cases h) fun b1 x=>?_⟩;rw[lW,if_pos rfl,Q]at x;simp only[Option.map_some,Option.some.injEq]at x;subst x;refine⟨cR _,fun _=>⟨aq,aq,fun _=>⟨g,Y,aw,d.size,⟨_,setRow_heap w g d _ b.ty (0,0) V,l⟩,by simp only[Nat.zero_add];exact G⟩⟩⟩
theorem pD{w':World}(d:Rel c hp U σ w)(e:RowKit.Below w.heap.size w w') :
  Rel c hp (eG U N) σ w'∧Step w (bQ c w σ hp) σ hp U w' (bQ c w' σ hp) σ hp (eG U N):=by
 have f:Step w (bQ c w σ hp) σ hp U w' (bQ c w' σ hp) σ hp (eG U N):=by
  refine⟨fun b h=>⟨⟨Nat.lt_of_lt_of_le h.1.1 e.size,h.1.2⟩,h.2⟩,fun p h=>e.cell h.1.1,fun _ h=>.inl h,fun id s _ h=>⟨s,h,rfl,rfl,cR _,fun _ g q=>⟨q,fun n r=>?_⟩⟩⟩;obtain⟨k,j,l⟩:=r;exact⟨k,(e.block _ (eg (d.at h q))).trans j,l⟩
 refine⟨⟨d.inj,fun i b h=>.inl (d.lt i b h),fun i b h=>?_,d.mine,e.os.trans d.os,e.tape.trans d.tape,e.output.trans d.output,Nat.le_trans d.size e.size,fun b j l=>?_⟩,f⟩;rcases d.blk i b h with m|⟨g,u,k2⟩;exact .inl ⟨m.1,m.2.keep fun _ _ _ t=>e.block _ (wE t)⟩;exact .inr ⟨g,u,k2.step f (e.block _ (eg k2))⟩;rw[e.block b (Nat.lt_of_lt_of_le j d.size)];exact d.old b j l
theorem LY(w:World)(C:Array Value)(t:TypeId)(j:Nat)(v:Value)(hj:C[j]?=some v):(w.alloc (.cells C t)).cell? ⟨w.heap.size,j,none⟩=some v:=by
 have:=heap_alloc_new w (.cells C t);simp only[World.cell?,this];simpa using hj
theorem ZT(A:Rel c hp U σ w){es:List (List DV)}{e cap:Nat}{C:Array Value}{w':World}(G:RowKit.Below w.heap.size w w')(u:w.heap.size<w'.heap.size)
  (m:∀(j:Nat)(v:Value),C[j]?=some v→w'.cell? ⟨w.heap.size,j,none⟩=some v) (k:∀r,r∈es→r.length=e) (E:es.length*e≤C.size) (t:es.length≤cap)
  (D:∀(i j:Nat)(r:List DV)(y:DV)(x:Value),es[i]?=some r→r[j]?=some y→C[i*e+j]?=some x→DIs w (bQ c w σ hp) y x) (F:K (.d (.ro e es)) hp) :
  Good c K hp U N σ w (.slice (some ⟨w.heap.size,0,none⟩) es.length cap) w':=by
 obtain⟨Q,B⟩:=pD (N:=N) A G;have s:∀(i j:Nat)(r:List DV)(y:DV),es[i]?=some r→r[j]?=some y→i*e+j<C.size:=by
  intro i j r y f q;have I:=(ci.1 f).1;have L:=(ci.1 q).1;rw[k r (cr f)]at L;have J:(i+1)*e≤es.length*e:=d_ _ I;rw[Nat.add_mul,Nat.one_mul]at J;omega
 refine⟨.d (.ro e es),hp,σ,F,Q,B,.d (.ro e es _ cap (fun i j=>C[i*e+j]!) t k (fun r R=>⟨_,rfl,⟨⟨u,fun id M g f O=>?_⟩,.inr A.size⟩⟩) (fun T l i j r y f q=>?_) fun i j r y f q=>?_)⟩;exact Nat.ne_of_gt (eg (A.at f O));injection l with l;subst l;rw[gV,Nat.zero_add];have:=s i j r y f q;exact m _ _ (by simp[this]);have H:=s i j r y f q;exact(D i j r y (C[i*e+j]!) f q (by simp[H])).mono (fun b h=>B.sub b h) (fun p h=>B.cell p h)
theorem Q7{len:Nat}{es xs:List (List AV)}(f:len≤es.length)(k:Nat)(r:List AV)(b:(es.take len++(xs++es.drop (len+xs.length)))[k]?=some r) :
  (k<len∧es[k]?=some r)∨(len≤k∧k<len+xs.length∧xs[k-len]?=some r)∨(len+xs.length≤k∧es[k]?=some r):=by
 rw[List.getElem?_append]at b;have e:(es.take len).length=len:=by simp;omega
 rw[e]at b;split at b;rename_i d;rw[List.getElem?_take,if_pos d]at b;exact .inl ⟨d,b⟩;rename_i d;rw[List.getElem?_append]at b;split at b;exact .inr (.inl ⟨aq,aq,b⟩);rw[List.getElem?_drop]at b;refine .inr (.inr ⟨aq,?_⟩);rw[show k=len+xs.length+(k-len-xs.length)by omega];exact b
theorem LZ{len:Nat}{es xs:List (List AV)}(f:len≤es.length)(k:Nat)(r:List AV)(b:(es.take len++xs)[k]?=some r) :
  (k<len∧es[k]?=some r)∨(len≤k∧k<len+xs.length∧xs[k-len]?=some r)∨(len+xs.length≤k∧es[k]?=some r):=by
 rw[List.getElem?_append]at b;have e:(es.take len).length=len:=by simp;omega
 rw[e]at b;split at b;rename_i d;rw[List.getElem?_take,if_pos d]at b;exact .inl ⟨d,b⟩;rename_i d;have:=(ci.1 b).1;exact .inr (.inl ⟨aq,aq,b⟩)
/-- append to a row of the call's own;what is appended comes from anywhere. -/
theorem H2(hr:Rel c hp U σ w){el:TypeId}{id len tot:Nat}{xs:List (List AV)}{b:Blk}{sv:Value}{i:TypeInfo}{z:Value}(hss:AIs w (bQ c w σ hp) σ hp U (.own id 0 len tot) sv)(hb:lk id hp=some b)
  (ht1:b.es.length=tot) (ht2:b.ty=el) (ht3:b.e=P.cellsOf el)
  (hst:len+xs.length≤tot→K (.own id 0 (len+xs.length) tot) (bX id ⟨b.ty,b.e,b.es.take len++(xs++b.es.drop (len+xs.length))⟩ hp))
  (hgr:tot<len+xs.length→K (.own id 0 (len+xs.length) (len+xs.length)) (bX id ⟨b.ty,b.e,b.es.take len++xs⟩ hp))
  (hisz:i.size=P.cellsOf el) (hzsz:z.cells.size=P.cellsOf el) (hne:P.cellsOf el≠0) (hz1:∀(n:Nat)(v:Value),z.cells[n]?=some v→v.oneCell'=true)
  (zone:∀(z:Value)(m:Nat),(∀(n:Nat)(v:Value),z.cells[n]?=some v→v.oneCell'=true)→z.cells.size≠0→∀(n:Nat)(v:Value),(Builtin.zeroCells z.cells m)[n]?=some v→v.oneCell'=true)
  (hstay:∀A cap,sv=.slice A len cap→len+xs.length≤cap→∃us:Array Value,us.size=xs.length*P.cellsOf el∧RIs w (bQ c w σ hp) σ hp U (P.cellsOf el) xs us∧∀w',(match A with|some ad=>storeCells (ad.add (len*i.size)) us.toList|none=>pure ()).run P w=.ok () w'→(execOp a.eval o).run P w=.ok (.value (.slice A (len+xs.length) cap)) w')
  (hgrow:∀A cap os,sv=.slice A len cap→¬(len+xs.length≤cap)→(Builtin.firstCells i.size len (.slice A len cap)).run P w.drew=.ok os w.drew→∃us:Array Value,us.size=xs.length*P.cellsOf el∧RIs w.drew (bQ c w.drew σ hp) σ hp U (P.cellsOf el) xs us ∧
   (execOp a.eval o).run P w=.ok (.value (.slice (some ⟨w.heap.size,0,none⟩) (len+xs.length) (grownCap w (len+xs.length) cap el))) (w.drew.alloc (.cells (os++us++Builtin.zeroCells z.cells (grownCap w (len+xs.length) cap el-(len+xs.length))) el))) :
  OpOk P c K hp U N σ w ((execOp a.eval o).run P w):=by
 have hss':=hss;cases hss with
 | own _ _ _ _ A cap hU hl hA0 h' =>
  obtain⟨k1,k2⟩:=h' b hb;obtain⟨k3,k4,k5⟩:=k2 ht1;by_cases hneed:len+xs.length≤cap;obtain⟨us,hul,hri,hgo⟩:=hstay A cap rfl hneed;rcases Nat.eq_zero_or_pos xs.length with h0|h0
  ·
   have hx0:xs=[]:=List.eq_nil_of_length_eq_zero h0;subst hx0;have hu0:us=#[]:=Array.eq_empty_of_size_eq_zero (by simpa using hul);subst hu0;have hr0:=hgo w (by cases A<;>simp[storeCells]);have hh:=hst (by simp;omega);simp only[List.length_nil,Nat.add_zero,List.nil_append,List.take_append_drop]at hh;rw[pC (b:=⟨b.ty,b.e,b.es⟩) hb]at hh;exact OpOk.val hr0 (Good.same hr hh hss')
  ·obtain⟨g,hg,hA,n,hrn,hn⟩:=k5 aq;obtain⟨ccs,m1,m2,m3,m4,m5⟩:=hr.at hb hg;have hnsz:ccs.size=n:=by
    obtain⟨cc,p1,p2⟩:=hrn;rw[m1]at p1;injection p1 with p1;injection p1 with p1;rw[p1];exact p2
   rw[Nat.zero_mul]at hA;subst hA;have hn':cap*b.e≤ccs.size:=by rw[hnsz];simpa using hn
   have hle1:(len+xs.length)*b.e≤cap*b.e:=d_ _ hneed;rw[Nat.add_mul]at hle1;have hull:us.toList.length=xs.length*b.e:=by simp[hul,ht3]
   have hsto:=run_storeCells_at P g (len*b.e) b.ty us.toList 0 ccs w m1 aq (fun u hu=>by
    obtain⟨j,hj⟩:=List.getElem?_of_mem hu
    exact hri.one j u (by simpa using hj))
   simp only[Nat.add_zero]at hsto;have hr0:=hgo (w.setRow g (ccs.toList.take (len*b.e)++us.toList++ccs.toList.drop (len*b.e+us.toList.length)).toArray) (by
     simp only[gV,Nat.zero_add];rw[hisz,←ht3]
     exact hsto)
   rw[hr0];have hlb:len≤b.es.length:=aq;rcases Nat.lt_or_ge tot (len+xs.length)with htot|htot;have hK:=hgr htot;have hl':(b.es.take len++xs).length=len+xs.length:=by rw[b_,List.length_take];omega
   rw[←hl']at hK;exact Dc hr hb hg m1 (ht3▸hri) (ht3▸hul) hn' hneed aq aq aq (LZ hlb) hU (by rw[hl'];rw[hl']at hK;exact hK);have hK:=hst htot;have hl':(b.es.take len++(xs++b.es.drop (len+xs.length))).length=tot:=by rw[b_,b_,List.length_take,e_];omega
   exact Dc hr hb hg m1 (ht3▸hri) (ht3▸hul) hn' hneed aq aq aq (Q7 hlb) hU (by rw[hl'];exact hK)
  ·
   clear k5 k2;have hrd:=ke hr;have hso:dp hp (P.cellsOf el) (.own id 0 len tot)=some (b.es.take len):=by
    simp only[dp,hb];rw[if_pos ⟨ht1,ht3⟩,List.drop_zero]
   obtain⟨A2,k',hA2,os,hos,hol,hro,_⟩:=fx hrd (hss'.step cM) hso;have htl:(b.es.take len).length=len:=by simp;omega
   rw[htl]at hA2 hos;injection hA2 with e1 _ e3;subst e1;subst e3;obtain⟨us,hul,hri,hr0⟩:=hgrow A cap os rfl hneed (by rw[hisz];exact hos);have hge:=grownCap_ge w (len+xs.length) cap el;have hrows:=kg (rest:=Builtin.zeroCells z.cells (grownCap w (len+xs.length) cap el-(len+xs.length))) hro hol hri (zone z _ hz1 aq);have hK:=hgr aq;have hl':(b.es.take len++xs).length=len+xs.length:=by simp;omega
   have hgt:b.es.length<(b.es.take len++xs).length:=aq;have hsz:(os++us++Builtin.zeroCells z.cells (grownCap w (len+xs.length) cap el-(len+xs.length))).size=grownCap w (len+xs.length) cap el*P.cellsOf el:=by
    simp only[Array.size_append,size_zeroCells,hzsz,hol,hul,htl,←Nat.add_mul];congr 1;omega
   obtain⟨r1,r2⟩:=LS hrd (b':=⟨b.ty,b.e,b.es.take len++xs⟩) hb rfl rfl hgt _ hrows.one (by rw[ht3];exact hrows.row) (by rw[ht3];exact hrows.len) (by rw[ht3];exact hrows.is);rw[hr0,←ht2];rw[←ht2]at r1 r2;refine⟨_,_,_,hK,r1.more,cM.trans (r2.trans Step.more),.own _ _ _ _ _ _ (.inl hU) (by rw[ht2];exact hge) (fun h=>by cases h) fun b1 hb1=>?_⟩;rw[lW,if_pos rfl,hb]at hb1;simp only[Option.map_some,Option.some.injEq]at hb1;subst hb1;refine⟨Nat.le_of_eq hl'.symm,fun _=>⟨aq,by rw[ht2];omega,fun _=>⟨w.heap.size,aw,aw,_,⟨_,heap_alloc_new w.drew _,rfl⟩,?_⟩⟩⟩;simp only[Nat.zero_add];rw[ht2,hsz,ht3];exact cR _
theorem L0 (hr:Rel c hp U σ w) (E:∀ x,AIs w (bQ c w σ hp) σ hp U (ev fr x) (a.eval x)) (hN:Free U N) {ts tx:TypeId} {s x:Operand} {cl:Call} (hop:o.op=.call cl) (hc:cl.callee=.builtin .append) (ha:cl.args.toList=[s,x]) (ht:cl.argTypes.toList=[ts,tx])
  (hint:∀el id i0 len tot k n z,ca P ts=.slice el→ca P tx=.scal→ev fr s=.own id i0 len tot→ev fr x=.d (.int k n)→j8 P tx=some k→0≤n→n≤4294967296→P.bytesOf el*n≤281474976710656→fQ P el=some z→gf P el (.own id i0 len tot) (some (List.replicate n.toNat z)) N K hp→OpOk P c K hp U N σ w ((execOp a.eval o).run P w))
  (h:yG P fr hp N .append [s,x] [ts,tx] K):OpOk P c K hp U N σ w ((execOp a.eval o).run P w):=by
 simp only[yG]at h;have ha':cl.args=#[s,x]:=by rw[←Array.toArray_toList (xs:=cl.args),ha]
 have ht':cl.argTypes=#[ts,tx]:=by rw[←Array.toArray_toList (xs:=cl.argTypes),ht]
 have run:∀(v:Value)(w':World),(Builtin.append_ #[ts,tx] o.type #[a.eval s,a.eval x]).run P w=.ok v w'→(execOp a.eval o).run P w=.ok (.value v) w':=by
  intro v w' hv;simp[execOp,hop,resolve,hc,ha',ht',invoke,builtin,hv]
 split at h;rename_i el el2 hks hkx;have hts:=bP hks;have htx:=bP hkx;have hxx:=E x;have hss:=E s;generalize hxv:a.eval x=xv at hxx run;generalize hsv:a.eval s=sv at hss run;generalize ev fr x=xa at hxx h;generalize ev fr s=sa at hss h
 -- facts of the element's type
 have info:∀(q:(fQ P el).isSome=true),∃i z,P.info? el=some i∧i.zero=some z∧i.size=P.cellsOf el∧i.bytes=P.bytesOf el∧z.cells.size=P.cellsOf el∧P.cellsOf el≠0∧∀(n:Nat)(v:Value),z.cells[n]?=some v→v.oneCell'=true:=by
  intro q;obtain⟨z',hz'⟩:=Option.isSome_iff_exists.1 q;obtain⟨v,i,hi,hz,hs,hne,_,hl⟩:=y7 (w:=w) (S:=fun _=>True) (σ:=σ) (hp:=hp) (U:=U) hz';exact⟨i,v,hi,hz,by simp[Program.cellsOf,hi],by simp[Program.bytesOf,hi],hs,hne,hl.one⟩
 have zone:∀(z:Value)(m:Nat),(∀(n:Nat)(v:Value),z.cells[n]?=some v→v.oneCell'=true)→z.cells.size≠0→∀(n:Nat)(v:Value),(Builtin.zeroCells z.cells m)[n]?=some v→v.oneCell'=true:=by
  intro z m hz1 hz0 n v hv;unfold Builtin.zeroCells at hv;simp only[Array.getElem?_map,Option.map_eq_some_iff]at hv;obtain⟨k,_,rfl⟩:=hv;have hlt:k%z.cells.size<z.cells.size:=Nat.mod_lt _ aq;exact hz1 (k%z.cells.size) _ (by simp[hlt])
 unfold gf at h;split at h
 ·
  rename_i xs hxs;obtain⟨q,hby,hfit,h⟩:=h;obtain⟨i,z,hi,hz,hisz,hiby,hzsz,hne,hz1⟩:=info q;cases hss with
  |nil =>
   rcases Nat.eq_zero_or_pos xs.length with h0|h0;have hx0:xs=[]:=List.eq_nil_of_length_eq_zero h0;subst hx0;obtain⟨A,k,rfl,us,hus,hul,hri,_⟩:=fx hr hxx hxs;have hr0:=nC (ty:=o.type) (base:=none) (sLen:=0) (sCap:=0) (w':=w) hts htx hi (hisz▸hus) aw aw;obtain⟨g1,g2⟩:=LU hr hN ⟨el,P.cellsOf el,[]⟩ rfl;rw[run _ _ hr0];refine⟨_,_,_,h,g1,g2,.own N 0 0 0 _ _ nA (cR _) (fun _=>rfl) fun b hb=>?_⟩;exact⟨Nat.zero_le _,fun _=>⟨cR _,cR _,fun h=>aq⟩⟩;have hrd:=ke hr;obtain⟨A,k,rfl,us,hus,hul,hri,_⟩:=fx hrd (hxx.step cM) hxs;have hr0:=jg (ty:=o.type) (base:=none) (sLen:=0) (sCap:=0) (os:=#[]) hts htx hi hz (hisz▸hus) (by simp[Builtin.firstCells]) aq aq (by rw[Nat.zero_add,hiby];exact hfit);rw[run _ _ hr0];simp only[Nat.zero_add];have hge:=grownCap_ge w xs.length 0 el;have hrows:=kg (rest:=Builtin.zeroCells z.cells (grownCap w xs.length 0 el-xs.length)) (r1:=[]) (x1:=#[]) (w:=w.drew) ⟨aw,aw,aw,aw⟩ aw hri (zone z _ hz1 aq);rw[List.nil_append]at hrows;have hG:=rW (K:=K) hrd hN (el:=el) hrows hge (by simp[size_zeroCells,hzsz,hul,←Nat.add_mul];rw[show xs.length+(grownCap w xs.length 0 el-xs.length)=grownCap w xs.length 0 el by omega];exact cR _) h;obtain⟨v,hp',σ',k1,k2,k3,k4⟩:=hG;exact⟨v,hp',σ',k1,k2,cM.trans k3,k4⟩
 ·
  rename_i id len tot xs hxs;split at h;rename_i b hb;obtain⟨ht1,ht2,ht3,q,hby,hfit,hst,hgr⟩:=h;obtain⟨i,z,hi,hz,hisz,hiby,hzsz,hne,hz1⟩:=info q;refine H2 (i:=i) (z:=z) hr hss hb ht1 ht2 ht3 hst hgr hisz hzsz hne hz1 zone (fun A cap e hneed=>?_) (fun A cap os e hneed hos=>?_);subst e;obtain⟨B,k,rfl,us,hus,hul,hri,_⟩:=fx hr hxx hxs;exact⟨us,hul,hri,fun w' hsto=>run _ _ (nC (ty:=o.type) hts htx hi (hisz▸hus) hneed hsto)⟩;subst e;have hrd:=ke hr;obtain⟨B,k,rfl,us,hus,hul,hri,_⟩:=fx hrd (hxx.step cM) hxs;exact⟨us,hul,hri,run _ _ (jg (ty:=o.type) hts htx hi hz (hisz▸hus) hos aq aq (by rw[hiby];exact hfit))⟩;exact h.elim
 ·
  rename_i e es xs hxs;obtain⟨he,q,hby,hfit,h⟩:=h;obtain⟨i,z,hi,hz,hisz,hiby,hzsz,hne,hz1⟩:=info q;cases hss with
  | d hd0 =>
   cases hd0 with
   | rof _ _ A vs hel hA hv1 hdd =>
    rcases h with ⟨ds,rfl,h⟩|⟨hnx,h⟩;rcases Nat.eq_zero_or_pos ds.length with h0|h0;have hx0:ds=[]:=List.eq_nil_of_length_eq_zero h0;subst hx0;obtain⟨B,k,rfl,us,hus,hul,hri,_⟩:=fx hr hxx hxs;have hu0:us=#[]:=Array.eq_empty_of_size_eq_zero (by simpa using hul);subst hu0;have hr0:=nC (ty:=o.type) (base:=A) (sLen:=es.length) (sCap:=es.length) (w':=w) hts htx hi (hisz▸hus) aw (by cases A<;>simp[storeCells]);rw[List.append_nil]at h;exact OpOk.val (run _ _ hr0) (Good.same hr h (.d (.ro e es A _ vs (cR _) hel hA hv1 hdd)));have hrd:=ke hr;obtain⟨B,k,rfl,us,hus,hul,hri,_⟩:=fx hrd (hxx.step cM) hxs;have hb0:AIs w (bQ c w σ hp) σ hp U (.d (.ro e es)) (.slice A es.length es.length):=.d (.ro e es A _ vs (cR _) hel hA hv1 hdd);obtain⟨A2,k',hA2,os,hos,hol,hro,_⟩:=fx hrd (hb0.step cM) (sz:=P.cellsOf el) (xs:=es.map fun r=>r.map AV.d) (by simp only[dp];rw[if_pos he]);rw[List.length_map]at hA2 hos;have hln:(ds.map fun r=>r.map AV.d).length=ds.length:=List.length_map _;injection hA2 with e1 _ e3;subst e1;subst e3;have hr0:=jg (ty:=o.type) (base:=A) (sLen:=es.length) (sCap:=es.length) hts htx hi hz (hisz▸hus) (hisz▸hos) aq aq (by rw[hiby];exact hfit);have hr1:=run _ _ hr0;rw[hln]at hr1;have hge:=grownCap_ge w (es.length+ds.length) es.length el;have hrows:=kg (rest:=Builtin.zeroCells z.cells (grownCap w (es.length+ds.length) es.length el-(es.length+ds.length))) hro hol hri (zone z _ hz1 aq);rw[hr1];have hG:=ZT (N:=N) (K:=K) (es:=es++ds) (e:=e) (cap:=grownCap w (es.length+ds.length) es.length el) (C:=os++us++Builtin.zeroCells z.cells (grownCap w (es.length+ds.length) es.length el-(es.length+ds.length))) (w':=w.drew.alloc (.cells (os++us++Builtin.zeroCells z.cells (grownCap w (es.length+ds.length) es.length el-(es.length+ds.length))) el)) hr ⟨rfl,rfl,rfl,by simp[World.size_alloc],fun b hb=>ij w.drew _ b hb⟩ (by rw[World.size_alloc];exact Nat.lt_succ_self _) (fun j v hj=>?_) (fun r hr'=>?_) ?_ (by rw[b_];exact hge) (fun i' j r y x hi' hj hx=>?_) h;rw[b_]at hG;exact hG;exact LY w.drew _ _ j v hj;have:=hrows.row (r.map AV.d) (by rw[←List.map_append];exact List.mem_map_of_mem hr');rw[List.length_map]at this;rw[this,he];have:=hrows.len;rw[←List.map_append,List.length_map]at this;rw[he];exact this;have h1:=hrows.is i' j (r.map AV.d) (.d y) x (by rw[←List.map_append,c_,hi'];rfl) (by rw[c_,hj];rfl) (by rw[←he];exact hx);cases h1 with
    |d h1=>exact DIs.mono (w:=w.drew) (w':=w) (S:=bQ c w.drew σ hp) (S':=bQ c w σ hp) (fun _ h=>h) (fun _ _=>rfl) h1
    ·have h0:0<xs.length:=List.length_pos_iff.2 hnx;have hrd:=ke hr;obtain⟨B,k,rfl,us,hus,hul,hri,_⟩:=fx hrd (hxx.step cM) hxs;have hb0:AIs w (bQ c w σ hp) σ hp U (.d (.ro e es)) (.slice A es.length es.length):=.d (.ro e es A _ vs (cR _) hel hA hv1 hdd);obtain⟨A2,k',hA2,os,hos,hol,hro,_⟩:=fx hrd (hb0.step cM) (sz:=P.cellsOf el) (xs:=es.map fun r=>r.map AV.d) (by simp only[dp];rw[if_pos he]);rw[List.length_map]at hA2 hos;injection hA2 with e1 _ e3;subst e1;subst e3;have hr0:=jg (ty:=o.type) (base:=A) (sLen:=es.length) (sCap:=es.length) hts htx hi hz (hisz▸hus) (hisz▸hos) aq aq (by rw[hiby];exact hfit);have hge:=grownCap_ge w (es.length+xs.length) es.length el;have hrows:=kg (rest:=Builtin.zeroCells z.cells (grownCap w (es.length+xs.length) es.length el-(es.length+xs.length))) hro hol hri (zone z _ hz1 aq);have hln:((es.map fun r=>r.map AV.d)++xs).length=es.length+xs.length:=(by rw[b_,List.length_map]);rw[List.length_map]at hol;rw[run _ _ hr0];have hG:=rW (K:=K) hrd hN (el:=el) (cap:=grownCap w (es.length+xs.length) es.length el) hrows (by rw[hln];exact hge) (by
      simp only[Array.size_append,size_zeroCells,hzsz,hol,hul,←Nat.add_mul];rw[show es.length+xs.length+(grownCap w (es.length+xs.length) es.length el-(es.length+xs.length))=grownCap w (es.length+xs.length) es.length el by omega]
      exact cR _) (by rw[hln];exact h)
     rw[hln]at hG;obtain⟨v,hp',σ',k1,k2,k3,k4⟩:=hG;exact⟨v,hp',σ',k1,k2,cM.trans k3,k4⟩
 ·
  rename_i id i0 off e len cap tot xs hxs;obtain⟨hgt,q,hby,hfit,h⟩:=h;split at h;rename_i rs hrs;obtain⟨i,z,hi,hz,hisz,hiby,hzsz,hne,hz1⟩:=info q;have hss':=hss;cases hss with
  | sub _ _ _ _ _ _ _ A hU hl hA0 h' =>
   have hrd:=ke hr;obtain⟨B,k,rfl,us,hus,hul,hri,_⟩:=fx hrd (hxx.step cM) hxs;obtain⟨A2,k',hA2,os,hos,hol,hro,_⟩:=fx hrd (hss'.step cM) hrs;injection hA2 with e1 e2 e3;subst e1;subst e3;rw[←e2]at hos hol;have hr0:=jg (ty:=o.type) (base:=A) (sLen:=len) (sCap:=cap) hts htx hi hz (hisz▸hus) (hisz▸hos) hgt (by rw[hiby];exact hby) (by rw[hiby];exact hfit);have hge:=grownCap_ge w (len+xs.length) cap el;have hol':os.size=rs.length*P.cellsOf el:=by rw[←e2];exact hol
   have hrows:=kg (rest:=Builtin.zeroCells z.cells (grownCap w (len+xs.length) cap el-(len+xs.length))) hro hol' hri (zone z _ hz1 aq);have hln:(rs++xs).length=len+xs.length:=by rw[b_,←e2]
   rw[run _ _ hr0];have hG:=rW (K:=K) hrd hN (el:=el) (cap:=grownCap w (len+xs.length) cap el) hrows (by rw[hln];exact hge) (by
    simp only[Array.size_append,size_zeroCells,hzsz,hol,hul,←Nat.add_mul];rw[show len+xs.length+(grownCap w (len+xs.length) cap el-(len+xs.length))=grownCap w (len+xs.length) cap el by omega]
    exact cR _) (by rw[hln];exact h)
   rw[hln]at hG;obtain⟨v,hp',σ',k1,k2,k3,k4⟩:=hG;exact⟨v,hp',σ',k1,k2,cM.trans k3,k4⟩
  ·exact h.elim
 ·exact h.elim
 ·rename_i el hks hkx;split at h;rename_i id i0 len tot k n k' hs hx hk;obtain⟨rfl,h0,h1,h2,h⟩:=h;split at h;rename_i z hz;exact hint el id i0 len tot k n z hks hkx hs hx hk h0 h1 h2 hz h;exact h.elim;exact h.elim
 ·exact h.elim
end
end Go.Am
namespace Go.Am
section
variable {P:Program} {c:Ctx} {K:AV→Hp→Prop} {fr:Fr} {hp:Hp} {U:Nat→Prop} {N:Nat} {σ:Nat→Option Nat} {w:World} {a:Act} {o:Oper}
theorem H3{α:Type}{n:Nat}{v:α}:∀{l:List (Nat×α)},lk n l=some v→(n,v)∈l
 |[],h=>by cases h
 |(m,u)::t,h=>by
  simp only[lk]at h;split at h;rename_i e;injection h with h;subst e;subst h;exact d7 ..;exact cU _ (H3 h)
theorem Df:∀{u v:List (IntKind×Int)},qQ u=qQ v→u=v
 |[],[],_=>rfl
 |[],_::_,h=>by simp[qQ]at h
 |_::_,[],h=>by simp[qQ]at h
 |(k,n)::u,(k',n')::v,h=>by
  simp only[qQ,List.map_cons,List.cons.injEq,AV.d.injEq,DV.int.injEq]at h;obtain⟨⟨rfl,rfl⟩,h⟩:=h;rw[Df (u:=u) (v:=v) h]
theorem Dh{u v:List (IntKind×Int)}(h:oI u=oI v):u=v:=by
 have b:u.map (fun p=>Value.int p.1 p.2)=v.map (fun p=>Value.int p.1 p.2):=by simpa[oI]using h
 clear h;have h:=b;clear b
 induction u generalizing v with
 |nil=>cases v with
  |nil=>rfl
  |cons=>simp at h
 | cons p u ih =>
  cases v with
  |nil=>simp at h
  |cons q v =>
   obtain⟨k,n⟩:=p;obtain⟨e,d⟩:=q;simp only[List.map_cons,List.cons.injEq,Value.int.injEq]at h;obtain⟨⟨rfl,rfl⟩,h⟩:=h;rw[ih h]
theorem L6{a b:List (List (IntKind×Int))}(h:qB a=qB b):a=b:=by
 simp only[qB,List.cons.injEq,true_and]at h
 induction a generalizing b with
 |nil=>cases b with
  |nil=>rfl
  |cons=>simp at h
 | cons x a ih =>
  cases b with
  |nil=>simp at h
  |cons y b =>
   simp only[List.map_cons,List.cons.injEq]at h;rw[Df h.1,ih h.2]
theorem L8{S:Nat→Prop}{u:List (IntKind×Int)}{v:Value}(h:AIs w S σ hp U (.agg (qQ u)) v):v=oI u:=by
 cases h with
 | agg _ xs hl h1 h2 =>
  unfold oI;congr 1;apply Array.ext';rw[List.toList_toArray];refine List.ext_getElem? fun i=>?_;rw[c_];cases b:u[i]? with
  | none =>
   have:xs.size≤i:=by
    have:=List.getElem?_eq_none_iff.1 b;simp only[qQ,List.length_map]at hl;omega
   simp[this]
  | some p =>
   have e:i<xs.size:=by
    have:=(ci.1 b).1;simp only[qQ,List.length_map]at hl;omega
   have f:xs[i]?=some xs[i]:=dn e;have:=fc (h2 i (.d (.int p.1 p.2)) xs[i] (by simp[qQ,b]) f);rw[Array.getElem?_toList,f,this];rfl
theorem L9(r:Rel c hp U σ w){id:Nat}{b:Blk}{k:List (List (IntKind×Int))}{v:Value}(h:AIs w (bQ c w σ hp) σ hp U (.mp id) v)(l:lk id hp=some b)(A:b.e=0)(f:b.es=qB k) :
  ∃j d,v=.map (some b.ty)∧σ id=none∧c.w0.heap.size≤b.ty∧w.heap[b.ty]?=some (.map j d) ∧
   (∀m∈j.toList,m.val=.bool true∧∃u∈k,m.key=oI u)∧∀u∈k,∃m∈j.toList,m.key=oI u:=by
 cases h with
 |mp _ g hN h =>
  have B:=h b l;subst B;rcases r.blk id b l with ⟨x,p|⟨_,t,y,j,d,q,k2,k3,k4⟩⟩|⟨g,_,s,_,_,k3,_⟩;rw[f]at p;simp[qB]at p;rw[f]at q;have:=L6 q;subst this;exact⟨j,d,rfl,x,t,k2,k3,k4⟩;have:=k3 [.any] (by rw[f];simp[qB]);rw[A]at this;simp at this
theorem JS(m:Rel c hp U σ w)(hN:Free U N){t:TypeId}(Q:o.op=.makeMap t none)(h:bS P fr hp N (.makeMap t none) K) :
  OpOk P c K hp U N σ w ((execOp a.eval o).run P w):=by
 have Y:=h w.heap.size;have B:(execOp a.eval o).run P w=.ok (.value (.map (some w.heap.size))) (w.alloc (.map #[] 0)):=by
  have:(Instr.makeMap t none).run P w=.ok (.map (some w.heap.size)) (w.alloc (.map #[] 0)):=rfl;simp[execOp,Q,this]
 rw[B]
 let b:Blk:=⟨w.heap.size,0,qB []⟩
 let w':=w.alloc (.map #[] 0)
 let σ':=fun i=>if i=N then none else σ i
 have k:∀i d,lk i ((N,b)::hp)=some d→(i=N∧d=b)∨(i≠N∧lk i hp=some d):=by
  intro i d h;rw[pu]at h;split at h;rename_i e;injection h with h;exact .inl ⟨e.symm,h.symm⟩;rename_i e;exact .inr ⟨fun h'=>e h'.symm,h⟩
 have y:∀i,i≠N→σ' i=σ i:=fun i h=>if_neg h;have r:σ' N=none:=if_pos rfl;have q:w'.heap.size=w.heap.size+1:=World.size_alloc w _;have f:∀i,i<w.heap.size→w'.heap[i]?=w.heap[i]?:=fun i h=>ij w _ i h;have E:∀i d g,lk i hp=some d→σ i=some g→g<w.heap.size:=fun i d g h l=>eg (m.at h l);have D:Step w (bQ c w σ hp) σ hp U w' (bQ c w' σ' ((N,b)::hp)) σ' ((N,b)::hp) (eG U N):=by
  refine⟨fun g l=>⟨⟨by rw[q];have:=l.1.1;omega,fun id C g' x s=>?_⟩,l.2⟩,fun p hp'=>?_,fun _ h=>.inl h,fun id L J x=>?_⟩;rcases k id C x with ⟨rfl,rfl⟩|⟨h,x⟩;rw[r]at s;cases s;rw[y id h]at s;exact l.1.2 id C g' x s;exact World.cell?_of_block (w:=w) (f _ hp'.1.1);rcases k id L x with ⟨rfl,rfl⟩|⟨h,x⟩;exact absurd J hN.at
  refine⟨L,x,rfl,rfl,cR _,fun _ g l=>⟨(y id h).trans l,fun n Z=>?_⟩⟩;obtain⟨cc,h5,h6⟩:=Z;exact⟨cc,(f _ (E id L g x l)).trans h5,h6⟩
 refine⟨.mp N,_,σ',Y,⟨fun i j W V g A hj v u=>?_,fun i d h=>?_,fun i d h=>?_,fun i d g h l=>?_,m.os,m.tape,m.output,by rw[q];have:=m.size;omega,fun g l O=>?_⟩,D,.mp N _ nA fun d I=>?_⟩;rcases k i W A with ⟨T,_⟩|⟨G,M⟩<;>rcases k j V hj with ⟨X,_⟩|⟨H,F⟩;rw[T,X];rw[T,r]at v;cases v;rw[X,r]at u;cases u;rw[y i G]at v;rw[y j H]at u;exact m.inj i j W V g M F v u;rcases k i d h with ⟨rfl,rfl⟩|⟨_,h⟩;exact nA;exact .inl (m.lt i d h);rcases k i d h with ⟨rfl,rfl⟩|⟨A,h⟩;exact .inl ⟨r,.inr ⟨rfl,m.size,[],#[],0,rfl,heap_alloc_new w _,aw,aw⟩⟩;rcases m.blk i d h with ⟨R,k2⟩|⟨g,R,k2⟩;exact .inl ⟨(y i A).trans R,k2.keep fun _ _ _ O=>f _ (wE O)⟩;exact .inr ⟨g,(y i A).trans R,k2.step D (f _ (eg k2))⟩;rcases k i d h with ⟨rfl,rfl⟩|⟨A,h⟩;rw[r]at l;cases l;rw[y i A]at l;exact m.mine i d g h l;rw[f g (by have:=m.size;omega)];exact m.old g l O;rcases k N d I with ⟨_,rfl⟩|⟨h,_⟩;rfl;exact absurd rfl h
theorem Md(D:Rel c hp U σ w)(E:∀x,AIs w (bQ c w σ hp) σ hp U (ev fr x) (a.eval x)){t:TypeId}{m x:Operand}(R:o.op=.lookup t m x false)(h:bS P fr hp N (.lookup t m x false) K) :
  OpOk P c K hp U N σ w ((execOp a.eval o).run P w):=by
 simp only[bS]at h;unfold luW at h;split at h;rename_i id cs y hx;obtain⟨b,Y,u,hb,he,G,rfl,⟨k,e,Z,C,hz,f⟩,A⟩:=h;obtain⟨J,M,V,_,_,g,W,h2⟩:=L9 D (y▸E m) hb he G;have B:=L8 (hx▸E x);obtain⟨l,H⟩:=f u aw;have O:∀m∈J.toList,∃l,keyOf P k m.key=some l:=fun m y=>by
  obtain⟨_,v,V,e⟩:=W m y;rw[e];exact f v (by simp[V])
 have run:∀r:Value,(Instr.lookup t (.map (some b.ty)) (oI u) false).run P w=.ok r w→(execOp a.eval o).run P w=.ok (.value r) w:=by
  intro r s;simp[execOp,R,V,B,s]
 rcases C.find w H J.toList O with ⟨Q,T⟩|⟨j,X,Q,T,q3⟩;have I:decide (u∈Y)=false:=by
  refine decide_eq_false fun hu=>?_;obtain⟨m,y,e⟩:=h2 u hu;exact T m y e
 rw[I]at A;exact OpOk.val (run _ (by simp[Instr.lookup,run_underlying Z,MapKept.run_getObj_map g,C.check w _ H,Q,hz,Result.andThen])) (Good.same D A (.d (.bool _)));have F:X∈J.toList:=cr T;obtain⟨q,v,L,e⟩:=W X F;have p:decide (u∈Y)=true:=by
  refine decide_eq_true ?_;rw[q3]at e;rw[Dh e];exact L
 rw[p]at A;exact OpOk.val (run _ (by simp[Instr.lookup,run_underlying Z,MapKept.run_getObj_map g,C.check w _ H,Q,q,Result.andThen])) (Good.same D A (.d (.bool _)));exact h.elim
theorem Di(I:Rel c hp U σ w)(E:∀x,AIs w (bQ c w σ hp) σ hp U (ev fr x) (a.eval x)){t:TypeId}{m x v:Operand}(am:o.op=.mapUpdate t m x v)(h:bS P fr hp N (.mapUpdate t m x v) K) :
  OpOk P c K hp U N σ w ((execOp a.eval o).run P w):=by
 simp only[bS]at h;unfold muW at h;split at h;rename_i id cs H hx ak;obtain⟨b,ks,u,hb,he,Z,rfl,⟨k,e,ht,Kd,_,L⟩,R,hK⟩:=h;obtain⟨M,r,s,G,ag,d,h1,h2⟩:=L9 I (H▸E m) hb he Z;have ai:=L8 (hx▸E x);have al:=gG (ak▸E v);obtain⟨l,hl⟩:=L u aw;have aq:∀m∈M.toList,∃l,keyOf P k m.key=some l:=fun m H=>by
  obtain⟨_,v,s,e⟩:=h1 m H;rw[e];exact L v (by simp[s])
 have key:∃y f,(Instr.mapUpdate t (.map (some b.ty)) (oI u) (.bool true)).run P w=.ok () (ChangeMaps.setBlock w b.ty (.map y f)) ∧
   (∀m∈y.toList,m.val=.bool true∧∃v∈ks++[u],m.key=oI v)∧∀v∈ks++[u],∃m∈y.toList,m.key=oI v:=by
  rcases Kd.find w hl M.toList aq with ⟨q1,q2⟩|⟨j,e0,q1,q2,q3⟩;refine⟨M.push ⟨oI u,.bool true,r⟩,r+1,by simp[Instr.mapUpdate,run_underlying ht,MapKept.run_getObj_map d,Kd.check w false hl,q1,MapKept.run_setObj_map _ d,Result.andThen,ChangeMaps.setBlock],fun m H=>?_,fun v s=>?_⟩;simp only[Array.toList_push,cL,List.mem_singleton]at H;rcases H with H|rfl;obtain⟨p1,v,p2,p3⟩:=h1 m H;exact⟨p1,v,cL.2 (.inl p2),p3⟩;exact⟨rfl,u,aw,rfl⟩;rcases cL.1 s with s|s;obtain⟨m,p1,p2⟩:=h2 v s;exact⟨m,by simp[p1],p2⟩;simp only[List.mem_singleton]at s;subst s;exact⟨⟨oI v,.bool true,r⟩,aw,rfl⟩;have hj:M[j]?=some e0:=by simpa using q2
  have ao:e0∈M.toList:=cr q2;obtain⟨ah,v0,aj,ab⟩:=h1 e0 ao;have hu:u∈ks:=by
   rw[q3]at ab;rw[Dh ab];exact aj
  have q:M.modify j (fun e'=>{ e' with key:=oI u,val:=.bool true })=M:=by
   apply Array.ext';rw[Array.toList_modify];refine List.ext_getElem? fun i=>?_;rw[List.getElem?_modify];by_cases ae:j=i;subst ae;rw[q2];simp only[if_true,Option.map_eq_map,Option.map_some,Option.some.injEq];rw[←q3,←ah];simp[ae]
  refine⟨M,r,?_,fun m H=>?_,fun v s=>?_⟩;simp[Instr.mapUpdate,run_underlying ht,MapKept.run_getObj_map d,Kd.check w false hl,q1,hj,q3,Kd.stays w hl,q,MapKept.run_setObj_map _ d,Result.andThen,ChangeMaps.setBlock];obtain⟨p1,v,p2,p3⟩:=h1 m H;exact⟨p1,v,cL.2 (.inl p2),p3⟩;refine h2 v ?_;rcases cL.1 s with s|s;exact s;simp only[List.mem_singleton]at s;subst s;exact hu
 obtain⟨y,f,X,g1,g2⟩:=key;have aa:(execOp a.eval o).run P w=.ok .skip (ChangeMaps.setBlock w b.ty (.map y f)):=by
  simp[execOp,am,s,ai,al,X]
 rw[aa]
 let w':=ChangeMaps.setBlock w b.ty (.map y f)
 let b':Blk:=⟨b.ty,b.e,qB (ks++[u])⟩
 have q:w'.heap[b.ty]?=some (.map y f):=ChangeMaps.heap_setBlock_same d _;have D:∀i,i≠b.ty→w'.heap[i]?=w.heap[i]?:=fun i h=>ChangeMaps.heap_setBlock_other d _ h;have J:w'.heap.size=w.heap.size:=by simp[w',ChangeMaps.setBlock]
 have B:∀i A,lk i (bX id b' hp)=some A→(i=id∧A=b')∨(i≠id∧lk i hp=some A):=by
  intro i A h;rw[lW]at h;split at h;rename_i e;rw[hb]at h;simp at h;exact .inl ⟨e,h.symm⟩;rename_i e;exact .inr ⟨e,h⟩
 have C:∀g O ty,w.heap[g]?=some (.cells O ty (0,0))→g≠b.ty:=fun g O ty h e=>by
  subst e;rw[d]at h;cases h
 have af:Step w (bQ c w σ hp) σ hp U w' (bQ c w' σ (bX id b' hp)) σ (bX id b' hp) U:=by
  refine⟨fun g F=>⟨⟨by rw[J];exact F.1.1,fun i ac g' T Q=>?_⟩,F.2⟩,fun p hp'=>?_,fun _ h=>h,fun i A as T=>?_⟩;rcases B i ac T with ⟨rfl,rfl⟩|⟨h,Y⟩;rw[G]at Q;cases Q;exact F.1.2 i ac g' Y Q;by_cases hp0:p.block=b.ty;simp only[World.cell?,hp0,q,d];exact World.cell?_of_block (w:=w) (D _ hp0);rcases B i A T with ⟨rfl,rfl⟩|⟨h,Y⟩;refine⟨b,hb,rfl,rfl,?_,fun _ g F=>?_⟩;rw[Z];simp[b',qB];rw[G]at F;cases F;refine⟨A,Y,rfl,rfl,cR _,fun _ g F=>⟨F,fun n hn=>?_⟩⟩;obtain⟨cc,h5,h6⟩:=hn;exact⟨cc,(D _ (C _ _ _ h5)).trans h5,h6⟩
 have ad:Rel c (bX id b' hp) U σ w':=by
  refine⟨fun i j bi bj g hi hj W V=>?_,fun i A h=>?_,fun i A h=>?_,fun i A g h F=>?_,I.os,I.tape,I.output,by rw[J];exact I.size,fun g F H=>?_⟩;rcases B i bi hi with ⟨rfl,_⟩|⟨au,ap⟩;rw[G]at W;cases W;rcases B j bj hj with ⟨rfl,_⟩|⟨ar,an⟩;rw[G]at V;cases V;exact I.inj i j bi bj g ap an W V;rcases B i A h with ⟨rfl,rfl⟩|⟨_,h⟩;exact I.lt _ b hb;exact I.lt i A h;rcases B i A h with ⟨rfl,rfl⟩|⟨hi,h⟩;exact .inl ⟨G,.inr ⟨he,ag,ks++[u],y,f,rfl,q,g1,g2⟩⟩;rcases I.blk i A h with ⟨k1,k2|⟨k2,_⟩⟩|⟨g,k1,k2⟩;exact .inl ⟨k1,.inl k2⟩;exact absurd (R _ (H3 h) k2) hi;refine .inr ⟨g,k1,k2.step af (D _ ?_)⟩;obtain⟨O,k3,_⟩:=k2;exact C _ _ _ k3;rcases B i A h with ⟨rfl,rfl⟩|⟨hi,h⟩;rw[G]at F;cases F;exact I.mine i A g h F;rw[D g (fun e=>by subst e;omega)];exact I.old _ F H
 exact⟨.any,_,σ,hK,ad.more,af.trans Step.more,.any _⟩;exact h.elim
end
end Go.Am
namespace Go.Am
section
variable {P:Program} {c:Ctx} {K:AV→Hp→Prop} {fr:Fr} {hp:Hp} {U:Nat→Prop} {N:Nat} {σ:Nat→Option Nat} {w:World} {a:Act} {o:Oper} {S:Nat→Prop}
theorem FT(F:Rel c hp U σ w)(E:∀x,AIs w (bQ c w σ hp) σ hp U (ev fr x) (a.eval x)){s t:TypeId}{x:Operand}(y:o.op=.convert s t x){g:List Int}{el:TypeId}(M:dp hp 1 (ev fr x)=some (g.map fun b=>[.d (.int .u8 b)]))(L:∀b,b∈g→0≤b∧b<256)(T:ca P s=.slice el)(V:ca P t=.str)
  (D:P.underlying el=some (.int .u8)) (h:K (.d (.str g)) hp):OpOk P c K hp U N σ w ((execOp a.eval o).run P w):=by
 obtain⟨A,k,J,v,W,Q,O,G⟩:=fx (P:=P) F (E x) M;rw[List.length_map]at J Q G;have m:∃s:ByteArray,(Conv.bytesToString (.slice A g.length k)).run P w=.ok (.string s) w∧(s.data.toList.map fun c=>(c.toNat:Int))=g:=by
  rcases g with _|⟨C,bs'⟩;cases A with
  |none=>exact⟨.empty,by simp[Conv.bytesToString],rfl⟩
  |some q =>
   refine⟨.empty,?_,rfl⟩;exact run_bytesToString (P:=P) w q 0 k [] (by simp[loadCells,loadCellsFrom])
  ·obtain⟨q,rfl,R⟩:=G aw;have e:=run_loadCells_list (P:=P) w q ((C::bs').map (Value.int .u8)) (fun j u H=>by
    simp only[c_,Option.map_eq_some_iff]at H;obtain⟨b,p,rfl⟩:=H;have l:j<v.size:=by have:=(ci.1 p).1;omega
    have r:=R j v[j] (dn l);have B:=O.is j 0 [.d (.int .u8 b)] (.d (.int .u8 b)) v[j] (by rw[c_,p];rfl) rfl (by rw[Nat.mul_one,Nat.add_zero];exact dn l);rw[fc B]at r
    exact r)
   rw[List.length_map]at e;have:=run_bytesToString (P:=P) w q (C::bs').length k (C::bs') e;refine⟨_,this,?_⟩;rw[yZ _ L];rfl
 obtain⟨I,r,B⟩:=m;refine OpOk.val (x:=.string I) ?_ (Good.same F h (by rw[←B];exact .d (.str I)));have f:=run_convert_bytes_string (P:=P) w s t el A g.length k (bP T) D (pv V);simp only[execOp,y,J,Sem.run_bind,f,r,Result.andThen_ok,Sem.run_pure]
theorem FU(I:Rel c hp U σ w)(E:∀x,AIs w (bQ c w σ hp) σ hp U (ev fr x) (a.eval x)){s t:TypeId}{x:Operand}(u:o.op=.convert s t x){G:List Int}{el:TypeId}(k:ev fr x=.d (.str G))(M:ca P s=.str)(O:ca P t=.slice el)
  (D:P.underlying el=some (.int .u8)) (h:K (.d (.ro 1 (G.map fun b=>[.int .u8 b]))) hp):OpOk P c K hp U N σ w ((execOp a.eval o).run P w):=by
 have f:=E x;rw[k]at f;generalize Q:a.eval x=v at f;cases f with
 | d f =>
  cases f with
  | str s0 =>
   have A:=run_bytes_of_string (P:=P) w s t el s0 (pv M) (bP O) D;simp only[execOp,u,Q,Sem.run_bind,A,Result.andThen_ok,Sem.run_pure];have g:(((s0.data.toList.map fun c=>(c.toNat:Int)).map fun b=>[DV.int .u8 b])).length=s0.size:=by rw[List.length_map,List.length_map];rfl
   have L:s0.size≤(bytesRow s0 (grownCap w s0.size 0 el)).size:=by unfold bytesRow;rw[Array.size_append,Array.size_map];exact Nat.le_add_right _ _
   have:=ZT (N:=N) (K:=K) I (w':=w.drew.alloc (.cells (bytesRow s0 (grownCap w s0.size 0 el)) el ((bytesRow s0 (grownCap w s0.size 0 el)).size,(bytesRow s0 (grownCap w s0.size 0 el)).size+1))) (e:=1) (cap:=grownCap w s0.size 0 el) (C:=bytesRow s0 (grownCap w s0.size 0 el))
    (es:=(s0.data.toList.map fun c=>(c.toNat:Int)).map fun b=>[DV.int .u8 b]) ⟨rfl,rfl,rfl,by simp[World.size_alloc],fun b J=>ij w.drew _ b J⟩ (by rw[World.size_alloc];exact Nat.lt_succ_self _) (fun j v l=>?_) (fun r B=>?_) (by rw[g];omega) (by rw[g];exact grownCap_ge w s0.size 0 el) (fun i j r y x H l k=>?_) h
   rw[g]at this;exact this;have p:=heap_alloc_new w.drew (.cells (bytesRow s0 (grownCap w s0.size 0 el)) el ((bytesRow s0 (grownCap w s0.size 0 el)).size,(bytesRow s0 (grownCap w s0.size 0 el)).size+1));simp only[World.cell?];rw[show w.heap.size=w.drew.heap.size from rfl,p];simpa using l;obtain⟨b,_,rfl⟩:=List.mem_map.1 B;rfl;simp only[c_,Option.map_eq_some_iff]at H;obtain⟨b,⟨ch,q,rfl⟩,rfl⟩:=H;cases j with
   |succ j=>simp at l
   |zero =>
    simp at l;subst l;have m:=(ci.1 q);obtain⟨p,F⟩:=m;rw[Nat.mul_one,Nat.add_zero,bytesRow_at s0 _ i (by simpa using p)]at k;injection k with k;subst k;simp only[Array.getElem_toList]at F;rw[F];exact .int _ _
theorem jJ{len cap:Nat}{b hi:Option Value}{g:Value}{l h m:Int}(d:b=none∧l=0∨∃k,b=some (.int k l))(f:∃k,hi=some (.int k h))(e:∃k,g=.int k m)(j:0≤l)(q:l≤h)(r:h≤m)(h3:m≤cap) :
  (Instr.sliceBounds true len cap b hi (some g)).run P w=.ok (l.toNat,h.toNat,m.toNat) w:=by
 unfold Instr.sliceBounds;obtain⟨t,rfl⟩:=f;obtain⟨k2,rfl⟩:=e;have s:h≤(m.toNat:Int):=aq;have p:l≤(h.toNat:Int):=aq;rcases d with ⟨rfl,rfl⟩|⟨k,rfl⟩;simp[Instr.sliceBound,asIntOf,show 0≤m∧m≤(cap:Int)by omega,show 0≤h∧h≤max m 0 by omega];simp[Instr.sliceBound,asIntOf,show 0≤m∧m≤(cap:Int)by omega,show 0≤h∧h≤max m 0 by omega,show 0≤l∧l≤max h 0 by omega]
theorem AL{U:Nat→Prop}(E:∀x,AIs w S σ hp U (ev fr x) (a.eval x)){x:Operand}{l:Int}(h:(ev fr x).num=some l):∃k,a.eval x=.int k l:=by
 have b:=E x;unfold AV.num at h;split at h;rename_i k n d;injection h with h;subst h;rw[d]at b;exact⟨k,fc b⟩;cases h
theorem Me(L:Rel c hp U σ w)(E:∀x,AIs w (bQ c w σ hp) σ hp U (ev fr x) (a.eval x)){t:TypeId}{x:Operand}{J hi:Option Operand}{m:Operand}(R:o.op=.slice t x J hi (some m))(h:bS P fr hp N (.slice t x J hi (some m)) K) :
  OpOk P c K hp U N σ w ((execOp a.eval o).run P w):=by
 simp only[bS]at h;have run:∀v,(Instr.sliceAt t (a.eval x) (J.map a.eval) (hi.map a.eval) (some (a.eval m))).run P w=.ok v w→(execOp a.eval o).run P w=.ok (.value v) w:=by
  intro v hv;simp[execOp,R,hv]
 have p:=E x;generalize Z:a.eval x=xv at p run;generalize aa:ev fr x=xa at p h;generalize q:AD fr 0 J=blo at h;generalize B:FN fr hi=bhi at h;generalize s:(ev fr m).num=bmx at h;generalize O:ca P t=k at h;unfold nB at h;have g:∀l,bhi=some l→∃k,hi.map a.eval=some (.int k l):=by
  intro l X;rw[X]at B;cases hi with
  |none=>cases B
  |some y =>
   obtain⟨k,M⟩:=AL E B;exact⟨k,by simp[M]⟩
 split at h
 ·rename_i e C el l f mm;obtain⟨H,he,W,M,rfl,h2,h⟩:=h;cases p with
  | d p =>
   cases p with
   | ro _ _ A cap vs hc hel hA hv1 hd =>
    have D:=jJ (P:=P) (w:=w) (len:=C.length) (cap:=cap) (gj E q) (g _ rfl) (AL E s) W M (Int.le_refl _) aq;have I:((C.take f.toNat).drop l.toNat).length=f.toNat-l.toNat:=by simp;omega
    have b:∀(i:Nat)(r:List DV),((C.take f.toNat).drop l.toNat)[i]?=some r→C[l.toNat+i]?=some r:=by
     intro i r hi;rw[List.getElem?_drop,List.getElem?_take]at hi;split at hi;exact hi;cases hi
    have F:∀(i:Nat)(r:List DV),((C.take f.toNat).drop l.toNat)[i]?=some r→f.toNat≠l.toNat:=by
     intro i r hi;have:=(ci.1 hi).1;omega
    refine OpOk.val (run (.slice (if f.toNat=l.toNat then A else A.map (·.add (l.toNat*P.cellsOf el))) (f.toNat-l.toNat) (f.toNat-l.toNat)) ?_) (Good.same L h (.d ?_))
    simp[Instr.sliceAt,Instr.slice,run_underlying (bP O),D,bm H];rw[←I];refine .rof e _ _ (fun i j=>vs (l.toNat+i) j) (fun r u=>?_) (fun r u=>?_) (fun Y G i j r y hi V=>?_) (fun i j r y(hi:((C.take f.toNat).drop l.toNat)[i]?=some r)V=>hd _ j r y (b i r hi) V);obtain⟨i,hi⟩:=List.getElem?_of_mem u;exact hel r (cr (b i r hi));obtain⟨i,hi⟩:=List.getElem?_of_mem u;obtain⟨Y,T,k2⟩:=hA r (cr (b i r hi));rw[if_neg (F i r hi),T];exact⟨_,rfl,by rw[fh];exact k2⟩;rw[if_neg (F i r hi)]at G;obtain⟨Q,T,rfl⟩:=Option.map_eq_some_iff.1 G;rw[lX,←he,show l.toNat*e+(i*e+j)=(l.toNat+i)*e+j by rw[Nat.add_mul];omega];exact hv1 Q T _ j r y (b i r hi) V
 ·rename_i el l f mm;obtain⟨H,rfl,rfl,rfl,h⟩:=h;have D:=jJ (P:=P) (w:=w) (len:=0) (cap:=0) (gj E q) (g _ rfl) (AL E s) aq aq aq aq;cases p with
  |nil =>
   refine OpOk.val (run (.slice none 0 0) ?_) (Good.same L h (.d (.rof _ [] none (fun _ _=>undef) aw aw aw aw)));simp[Instr.sliceAt,Instr.slice,run_underlying (bP O),D,bm H]
 ·rename_i id i0 len ab el l f mm;obtain⟨H,rfl,rfl,rfl,h⟩:=h;cases p with
  |own _ _ _ _ A cap hN X W hq =>
   have D:=jJ (P:=P) (w:=w) (len:=len) (cap:=cap) (gj E q) (g _ rfl) (AL E s) aq aq aq aq;refine OpOk.val (run (.slice A 0 0) ?_) (Good.same L h (.d (.rof _ [] A (fun _ _=>undef) aw aw aw aw)));simp[Instr.sliceAt,Instr.slice,run_underlying (bP O),D,bm H]
 ·exact h.elim
theorem Wq(R:Rel c hp U σ w)(E:∀x,AIs w (bQ c w σ hp) σ hp U (ev fr x) (a.eval x))(hN:Free U N){t:TypeId}{l m:Operand}(C:o.op=.makeSlice t l m)(h:bS P fr hp N (.makeSlice t l m) K) :
  OpOk P c K hp U N σ w ((execOp a.eval o).run P w):=by
 simp only[bS]at h;have run:∀v I,(Instr.makeSlice t (a.eval l) (a.eval m)).run P w=.ok v I→(execOp a.eval o).run P w=.ok (.value v) I:=by
  intro v I hv;simp[execOp,C,hv]
 have L:=E l;have M:=E m;unfold HT at h;split at h;rename_i el V n kc q hk A B;split at h;rename_i z hz;obtain⟨T,X,h2,Z,h4,h⟩:=h;rw[A]at L;rw[B]at M;obtain⟨v,i,D,u,hs,p,_,s⟩:=y7 (w:=w) (S:=bQ c w σ hp) (σ:=σ) (hp:=hp) (U:=U) hz;have f:i.size=P.cellsOf el:=by simp[Program.cellsOf,D]
 have H:i.bytes=P.bytesOf el:=by simp[Program.bytesOf,D]
 have k:0≤q:=aq;have G:=run_makeSlice (P:=P) w t el i v (bP hk) D u V kc n q T X (by
  rw[f];have:((q.toNat*P.cellsOf el:Nat):Int)≤16777216:=by
   rw[Int.natCast_mul,Int.toNat_of_nonneg k];exact h2
  omega) (by rw[H];exact Z) h4
 rw[run _ _ (by rw[fc L,fc M];exact G)];have b:=pA (P:=P) (el:=el) s hs p q.toNat
 have e:RIs w (bQ c w σ hp) σ hp U (P.cellsOf el) (List.replicate n.toNat z) (madeCells v.cells (q.toNat*i.size)):=by
  have Y:madeCells v.cells (q.toNat*i.size)=(Array.range (q.toNat*P.cellsOf el)).map (v.cells[·%v.cells.size]!):=by rw[f];rfl
  rw[Y];refine⟨?_,fun r g=>?_,b.one,fun i' j r y x d hj W=>?_⟩;have:=b.len;rw[List.length_replicate]at this⊢;exact Nat.le_trans (d_ _ aq) this;have Q:0<n.toNat:=by
   rcases Nat.eq_zero_or_pos n.toNat with F|F;rw[F]at g;simp at g;exact F
  refine b.row r ?_;have e2:=List.eq_of_mem_replicate g;subst e2;exact List.mem_replicate.2 ⟨aq,rfl⟩;refine b.is i' j r y x ?_ hj W;have O:=(ci.1 d).1;rw[List.length_replicate]at O;rw[List.getElem?_replicate]at d⊢;rw[if_pos O]at d;rw[if_pos aq];exact d
 have J:=rW (K:=K) R hN (el:=el) (cap:=q.toNat) e (by rw[List.length_replicate];omega) (by rw[size_madeCells,f];exact cR _) (by rw[List.length_replicate];exact h);rw[List.length_replicate]at J;exact J;exact h.elim;exact h.elim
theorem ZU(C:Rel c hp U σ w)(E:∀x,AIs w (bQ c w σ hp) σ hp U (ev fr x) (a.eval x)){t:TypeId}{x:Operand}(M:o.op=.sliceToArrayPointer t x)(h:bS P fr hp N (.sliceToArrayPointer t x) K) :
  OpOk P c K hp U N σ w ((execOp a.eval o).run P w):=by
 simp only[bS]at h;have run:∀v,(Instr.arrayAt t (a.eval x)).run P w=.ok v w→(execOp a.eval o).run P w=.ok (.value v) w:=by
  intro v B;simp[execOp,M,B]
 have m:=E x;unfold JM at h;split at h
 ·rename_i n el F J B;obtain⟨Q,H,h⟩:=h;rw[B]at m;generalize a.eval x=xv at m run;cases m with
  | d m =>
   cases m with
   | ro _ _ A G vs hc hel hA hv1 hd =>
    have s:0<F.length:=aq;obtain⟨D,W,k2⟩:=hA F[0] (List.getElem_mem s);subst W;have k:∀(l:List (List DV)),(∀r,r∈l→r.length=1)→∀(j:Nat)(y:DV),l.flatten[j]?=some y→l[j]?=some [y]:=by
     intro l
     induction l with
     |nil=>intro _ j y f;simp at f
     | cons r l ih =>
      intro I j y f
      match r,I r (d7 ..)with
      |[u],_ =>
       cases j with
       |zero=>simp at f;subst f;rfl
       |succ j=>simp at f;simpa using ih (fun r C=>I r (cU _ C)) j y f
    refine OpOk.val (run (.pointer (some D)) (run_arrayAt (P:=P) w t el n (some D) _ _ (iE J) H)) (Good.same C h (.rop _ D (fun j=>vs j 0) k2 (fun j y f=>?_) (fun j y f=>?_)));have:=hv1 D rfl j 0 _ y (k F hel j y f) rfl;rw[Nat.mul_one,Nat.add_zero]at this;exact this;exact hd j 0 _ y (k F hel j y f) rfl
 ·rename_i n el id i p e Z G L J B;split at h;rename_i b O;obtain⟨Y,Q,H,h⟩:=h;rw[B]at m;generalize a.eval x=xv at m run;cases m with
  |sub _ _ _ _ _ _ _ A hN' I hA0 hA =>
   obtain⟨T,V⟩:=hA b O;obtain⟨q3,q4,X⟩:=V Y;obtain⟨g,R,rfl⟩:=X aq;refine OpOk.val (run (.pointer (some ⟨g,i*b.e+p,none⟩)) (run_arrayAt (P:=P) w t el n (some ⟨g,i*b.e+p,none⟩) _ _ (iE J) H)) (Good.same C h (.ptr id i p L _ hN' fun b' q=>?_));rw[O]at q;cases q;exact⟨T,fun _=>⟨g,R,rfl⟩⟩
  ·exact h.elim
 ·exact h.elim
theorem JU(T:Rel c hp U σ w){id g i off:Nat}{b:Blk}{d:List AV}{f:Array Value}(W:lk id hp=some b)(Y:σ id=some g)(h:b.es[i]?=some d)(q:w.heap[g]?=some (.cells f b.ty (0,0)))
  (l:List Value) (cs:List AV) (ac:cs.length=l.length) (X:off+l.length≤d.length) (h1:∀u∈l,u.oneCell'=true) (h2:∀(j:Nat)(y:AV)(u:Value),cs[j]?=some y→l[j]?=some u→AIs w (bQ c w σ hp) σ hp U y u) :
  let w':=w.setRow g (f.toList.take (i*b.e+off)++l++f.toList.drop (i*b.e+off+l.length)).toArray
  let b':Blk:=⟨b.ty,b.e,b.es.set i (d.take off++(cs++d.drop (off+cs.length)))⟩
  Rel c (bX id b' hp) U σ w'∧Step w (bQ c w σ hp) σ hp U w' (bQ c w' σ (bX id b' hp)) σ (bX id b' hp) U:=by
 have H:i<b.es.length:=(ci.1 h).1;obtain⟨Z,G,x,I,q4,Q⟩:=T.at W Y;rw[q]at G;injection G with G;injection G with G;subst G;have ab:d.length=b.e:=I d (cr h);have aa:i*b.e+b.e≤f.size:=by
  have:(i+1)*b.e≤b.es.length*b.e:=d_ _ aq;rw[Nat.add_mul,Nat.one_mul]at this;omega
 have L:(d.take off++(cs++d.drop (off+cs.length))).length=b.e:=by simp;omega
 have C:∀m,(f.toList.take (i*b.e+off)++l++f.toList.drop (i*b.e+off+l.length)).toArray[m]? =
   if m<i*b.e+off then f[m]? else if m<i*b.e+off+l.length then l[m-(i*b.e+off)]? else f[m]?:=by
  intro m;simp only[List.getElem?_toArray,cD];rw[List.getElem?_append];have D:(f.toList.take (i*b.e+off)).length=i*b.e+off:=by simp;omega
  rw[D];by_cases E:m<i*b.e+off;simp[E];rw[if_neg E,if_neg E,List.getElem?_append];by_cases s:m<i*b.e+off+l.length;rw[if_pos aq,if_pos s];rw[if_neg aq,if_neg s,List.getElem?_drop,Array.getElem?_toList];congr 1;omega
 have v:∀m,(d.take off++(cs++d.drop (off+cs.length)))[m]?=if m<off then d[m]? else if m<off+cs.length then cs[m-off]? else d[m]?:=by
  intro m;rw[List.getElem?_append];have D:(d.take off).length=off:=by simp;omega
  rw[D];by_cases E:m<off;simp[E];rw[if_neg E,if_neg E,List.getElem?_append];by_cases s:m<off+cs.length;rw[if_pos aq,if_pos s];rw[if_neg aq,if_neg s,List.getElem?_drop];congr 1;omega
 exact AE T (b':=⟨b.ty,b.e,b.es.set i (d.take off++(cs++d.drop (off+cs.length)))⟩) W Y rfl rfl aw f (f.toList.take (i*b.e+off)++l++f.toList.drop (i*b.e+off+l.length)).toArray q (by simp;omega)
  (fun m y A=>by
   rw[C]at A;split at A;exact x m y A;split at A;exact h1 y (cr A)
   exact x m y A)
  (fun y A=>by
   rcases List.mem_or_eq_of_mem_set A with O|rfl;exact I y O
   exact L)
  (fun k j r y u B t p=>by
   rw[C]at p;simp only[List.getElem?_set]at B;by_cases M:i=k;subst M;simp only[if_true,H]at B;injection B with B;subst B;rw[v]at t;by_cases F:j<off;rw[if_pos F]at t;rw[if_pos aq]at p;exact Q i j d y u h t p;rw[if_neg F]at t;rw[if_neg aq]at p;by_cases J:j<off+cs.length;rw[if_pos J]at t;rw[if_pos aq]at p;rw[show i*b.e+j-(i*b.e+off)=j-off by omega]at p;exact h2 _ y u t p;rw[if_neg J]at t;rw[if_neg aq]at p;exact Q i j d y u h t p;rw[if_neg M]at B;have hj:j<b.e:=by
    have:=(ci.1 t).1;rw[I r (cr B)]at this;exact this
   have V:¬(i*b.e≤k*b.e+j∧k*b.e+j<i*b.e+b.e):=by
    rintro⟨F,J⟩;rcases Nat.lt_or_gt_of_ne M with O|O;have:(i+1)*b.e≤k*b.e:=d_ _ aq;rw[Nat.add_mul,Nat.one_mul]at this;omega;have:(k+1)*b.e≤i*b.e:=d_ _ aq;rw[Nat.add_mul,Nat.one_mul]at this;omega
   have R:f[k*b.e+j]?=some u:=by
    by_cases F:k*b.e+j<i*b.e+off
    ·rwa [if_pos F]at p
    ·rw[if_neg F,if_neg aq]at p;exact p
   exact Q k j r y u B t R)
theorem Dj:∀(xs:List (List AV)),(∀r,r∈xs→r.length=1)→∀(j:Nat)(y:AV),xs.flatten[j]?=some y→xs[j]?=some [y]
 |[],_,j,y,h=>by simp at h
 | r :: xs,hr,j,y,h=>by
  have d:=hr r (d7 ..)
  match r,d with
  | [x],_ =>
   cases j with
   |zero=>simpa using h
   |succ j =>
    simp only[List.flatten_cons,List.cons_append,List.nil_append,List.getElem?_cons_succ]at h⊢;exact Dj xs (fun r b=>hr r (cU _ b)) j y h
theorem rX:∀(xs:List (List AV)),(∀r,r∈xs→r.length=1)→xs.flatten.length=xs.length
 |[],_=>rfl
 |r::xs,hr=>by
  rw[List.flatten_cons,b_,hr r (d7 ..),rX xs fun r h=>hr r (cU _ h),List.length_cons];omega
theorem Ws (hr:Rel c hp U σ w) (E:∀ x,AIs w (bQ c w σ hp) σ hp U (ev fr x) (a.eval x)) {ts tx:TypeId} {s x:Operand} {cl:Call} (aw:o.op=.call cl) (hc:cl.callee=.builtin .copy) (ha:cl.args.toList=[s,x]) (ht:cl.argTypes.toList=[ts,tx])
  (h:yG P fr hp N .copy [s,x] [ts,tx] K):OpOk P c K hp U N σ w ((execOp a.eval o).run P w):=by
 simp only[yG]at h;have av:cl.args=#[s,x]:=by rw[←Array.toArray_toList (xs:=cl.args),ha]
 have ar:cl.argTypes=#[ts,tx]:=by rw[←Array.toArray_toList (xs:=cl.argTypes),ht]
 have run:∀(v:Value)(w':World),(Builtin.copy_ #[ts,tx] o.type #[a.eval s,a.eval x]).run P w=.ok v w'→(execOp a.eval o).run P w=.ok (.value v) w':=by
  intro v w' I;simp[execOp,aw,resolve,hc,av,ar,invoke,builtin,I]
 split at h
 ·rename_i el el2 aA aD;have ac:=bP aA;have aL:=bP aD;obtain⟨aK,h⟩:=h;have Z:=E x;have aa:=E s;generalize aM:a.eval x=xv at Z run;generalize aJ:a.eval s=sv at aa run;generalize ev fr x=xa at Z h;generalize ev fr s=sa at aa h;generalize an:dp hp (P.cellsOf el) xa=oxs at h;unfold HU at h;split at h
  ·rename_i id p f as xs;split at h
   ·rename_i b hb;obtain⟨af,O,X,h⟩:=h;obtain⟨B,k,rfl,us,au,ah,C,L⟩:=fx (P:=P) hr Z an;rw[X,Nat.mul_one]at ah;have t:(P.info? el).map (·.size)=some 1:=by
     have l:P.cellsOf el=1:=X;unfold Program.cellsOf at l;cases hq:P.info? el with
     |none=>rw[hq]at l;simp at l
     |some i=>rw[hq]at l;simp at l;simp[l]
    cases aa with
    | own _ _ _ _ A T hU hl hA0 h' =>
     obtain⟨k1,k2⟩:=h' b hb;obtain⟨k3,k4,k5⟩:=k2 af;have R:Nat.min xs.length f=min f xs.length:=(by rw[Nat.min_comm]);rcases Nat.eq_zero_or_pos (min f xs.length)with Y|Y;have J:=run_copy_none (P:=P) w ts tx o.type el A B f T xs.length k ac t (by rw[R];exact Y);refine OpOk.val (run _ _ J) (Good.same hr (v:=.d (.int .i64 0)) ?_ (.d (.int _ _)));rw[Y]at h;have ag:xs.take f=[]:=by
      apply List.eq_nil_of_length_eq_zero;rw[List.length_take];exact Y
     rw[ag,List.nil_append,Nat.add_zero,List.take_append_drop]at h;have e1:(⟨b.ty,b.e,b.es⟩:Blk)=b:=rfl;rw[e1,pC hb]at h;exact h
     ·obtain⟨g,hg,hA,n,aj,hn⟩:=k5 aq;obtain⟨q,m1,m2,m3,m4,m5⟩:=hr.at hb hg;have aF:q.size=n:=by
       obtain⟨cc,p1,p2⟩:=aj;rw[m1]at p1;injection p1 with p1;injection p1 with p1;rw[p1];exact p2
      rw[O,Nat.mul_one]at hA hn m4;clear aj k5 k2 h';subst hA;obtain⟨ad,W,F⟩:=L aq;subst W
      let n0:=min f xs.length
      let cs:=us.toList.take n0
      have G:cs.length=n0:=by simp only[cs,List.length_take,Array.length_toList];omega
      have J:=run_copy_row (P:=P) w ts tx o.type el g p f T ad xs.length k q b.ty cs ac t m1 (by rw[G,R]) (fun j v D=>F j v (by
       rw[List.getElem?_take]at D;split at D;simpa using D
       cases D)) aq (fun v I=>by
       obtain⟨j,D⟩:=List.getElem?_of_mem (List.mem_of_mem_take I)
       exact C.one j v (by simpa using D))
      rw[run _ _ J,G];have ap:(b.es.take p++(xs.take f++b.es.drop (p+n0))).length=b.es.length:=by
       simp only[b_,List.length_take,e_];omega
      have hC:∀m,((q.toList.take p++cs++q.toList.drop (p+n0)).toArray)[m]?=if m<p then q[m]? else if m<p+n0 then us[m-p]? else q[m]?:=by
       intro m;rw[List.getElem?_toArray,cD,List.getElem?_append];have e0:(q.toList.take p).length=p:=by simp;omega
       rw[e0];split;rename_i H;rw[List.getElem?_take,if_pos H];simp;rename_i H;rw[List.getElem?_append,G];by_cases ao:m<p+n0;rw[if_pos aq,if_pos ao,List.getElem?_take,if_pos aq];simp;rw[if_neg aq,if_neg ao,List.getElem?_drop,show p+n0+(m-p-n0)=m by omega];simp
      have hE:∀(m:Nat)(r:List AV),(b.es.take p++(xs.take f++b.es.drop (p+n0)))[m]?=some r→(m<p∧b.es[m]?=some r)∨(p≤m∧m<p+n0∧xs[m-p]?=some r)∨(p+n0≤m∧b.es[m]?=some r):=by
       intro m r H;rw[List.getElem?_append]at H;have e0:(b.es.take p).length=p:=by simp;omega
       rw[e0]at H;split at H;rename_i V;rw[List.getElem?_take,if_pos V]at H;exact .inl ⟨V,H⟩;rename_i V;rw[List.getElem?_append,List.length_take]at H;split at H;rename_i al;rw[List.getElem?_take,if_pos aq]at H;exact .inr (.inl ⟨aq,aq,H⟩);rename_i al;rw[List.getElem?_drop]at H;refine .inr (.inr ⟨aq,?_⟩);rw[show m=p+n0+(m-p-min f xs.length)by omega];exact H
      have ay:=AE hr hb hg (b':=⟨b.ty,b.e,b.es.take p++(xs.take f++b.es.drop (p+n0))⟩) rfl rfl ap q (q.toList.take p++cs++q.toList.drop (p+n0)).toArray m1 (by
        simp only[List.size_toArray,b_,List.length_take,e_,G,Array.length_toList]
        omega) (fun i' y hy=>by
        rw[hC]at hy;split at hy;exact m2 _ _ hy;split at hy;exact C.one _ _ hy
        exact m2 _ _ hy) (fun r ai=>by
        obtain⟨m,H⟩:=List.getElem?_of_mem ai;rcases hE m r H with ⟨_,l⟩|⟨_,_,l⟩|⟨_,l⟩;exact m3 r (cr l);rw[O,←X];exact C.row r (cr l)
        exact m3 r (cr l)) (fun i' j r y v hi D I=>by
        rw[hC]at I;have aI:j<b.e:=by
         have l:=(ci.1 D).1;rcases hE i' r hi with ⟨_,Q⟩|⟨_,_,Q⟩|⟨_,Q⟩;rw[m3 r (cr Q)]at l;exact l;rw[C.row r (cr Q),X]at l;omega;rw[m3 r (cr Q)]at l;exact l
        have az:j=0:=aq;subst az;rw[O,Nat.mul_one,Nat.add_zero]at I;rcases hE i' r hi with ⟨l,Q⟩|⟨l,aB,Q⟩|⟨l,Q⟩;rw[if_pos l]at I;exact m5 i' 0 r y v Q D (by rw[O,Nat.mul_one,Nat.add_zero];exact I);rw[if_neg aq,if_pos aB]at I;exact C.is _ 0 r y v Q D (by rw[X,Nat.mul_one,Nat.add_zero];exact I);rw[if_neg aq,if_neg aq]at I
        exact m5 i' 0 r y v Q D (by rw[O,Nat.mul_one,Nat.add_zero];exact I))
      obtain⟨r1,r2⟩:=ay;exact⟨_,_,_,h,r1.more,r2.trans Step.more,.d (.int _ _)⟩
   ·exact h.elim
  ·rename_i id i off e f T as xs;split at h;rename_i b hb;split at h;rename_i ae M;obtain⟨af,rfl,X,h⟩:=h;obtain⟨B,k,rfl,us,au,ah,C,L⟩:=fx (P:=P) hr Z an;rw[X,Nat.mul_one]at ah;have t:(P.info? el).map (·.size)=some 1:=by
    have l:P.cellsOf el=1:=X;unfold Program.cellsOf at l;cases hq:P.info? el with
    |none=>rw[hq]at l;simp at l
    |some i=>rw[hq]at l;simp at l;simp[l]
   have ak:∀r,r∈xs.take f→r.length=1:=fun r ai=>by
    have:=C.row r (List.mem_of_mem_take ai);rw[X]at this;exact this
   have ax:=rX _ ak;have am:(xs.take f).length=min f xs.length:=List.length_take;cases aa with
   | sub _ _ _ _ _ _ _ A hU hl hA0 h' =>
    obtain⟨k1,k2⟩:=h' b hb;obtain⟨k3,k4,k5⟩:=k2 af;have R:Nat.min xs.length f=min f xs.length:=(by rw[Nat.min_comm]);rcases Nat.eq_zero_or_pos (min f xs.length)with Y|Y;have J:=run_copy_none (P:=P) w ts tx o.type el A B f T xs.length k ac t (by rw[R];exact Y);refine OpOk.val (run _ _ J) (Good.same hr (v:=.d (.int .i64 0)) ?_ (.d (.int _ _)));rw[Y]at h;have ag:xs.take f=[]:=List.eq_nil_of_length_eq_zero (by rw[am];exact Y);have aC:b.es.set i ae=b.es:=by
     obtain⟨V,he⟩:=ci.1 M;rw[←he];exact List.set_getElem_self V
    rw[ag,List.flatten_nil,List.nil_append,List.length_nil,Nat.add_zero,List.take_append_drop,aC]at h;have e1:(⟨b.ty,b.e,b.es⟩:Blk)=b:=rfl;rw[e1,pC hb]at h;exact h;obtain⟨g,hg,hA⟩:=k5 aq;obtain⟨q,m1,m2,m3,m4,m5⟩:=hr.at hb hg;have aH:ae.length=b.e:=m3 ae (cr M);have aE:i<b.es.length:=(ci.1 M).1;have aG:i*b.e+b.e≤q.size:=by
     have:(i+1)*b.e≤b.es.length*b.e:=d_ _ aq;rw[Nat.add_mul,Nat.one_mul]at this;omega
    subst hA;obtain⟨ad,W,F⟩:=L aq;subst W
    let n0:=min f xs.length
    let cs:=us.toList.take n0
    have G:cs.length=n0:=by simp only[cs,List.length_take,Array.length_toList];omega
    have J:=run_copy_row (P:=P) w ts tx o.type el g (i*b.e+off) f T ad xs.length k q b.ty cs ac t m1 (by rw[G,R]) (fun j v D=>F j v (by
     rw[List.getElem?_take]at D;split at D;simpa using D
     cases D)) aq (fun v I=>by
     obtain⟨j,D⟩:=List.getElem?_of_mem (List.mem_of_mem_take I)
     exact C.one j v (by simpa using D))
    rw[run _ _ J];obtain⟨r1,r2⟩:=JU hr (off:=off) hb hg M m1 cs (xs.take f).flatten (by rw[ax,am,G]) aq (fun v I=>by
     obtain⟨j,D⟩:=List.getElem?_of_mem (List.mem_of_mem_take I)
     exact C.one j v (by simpa using D)) (fun j y u hy hu=>by
     have ab:=Dj _ ak j y hy;rw[List.getElem?_take]at ab;simp only[cs]at hu;rw[List.getElem?_take]at hu;split at ab;split at hu;exact C.is j 0 [y] y u ab rfl (by rw[X,Nat.mul_one,Nat.add_zero];simpa using hu);cases hu
     cases ab)
    rw[G]at r1 r2⊢;exact⟨_,_,_,h,r1.more,r2.trans Step.more,.d (.int _ _)⟩
   ·exact h.elim
   ·exact h.elim
  ·exact h.elim
 ·exact h.elim
theorem rY{t:TypeId}{v:AV}{f:List AV}{xs:Array Value}{off:Nat}{S:Nat→Prop}(g:FM P t f=some v)
  (p:∀(j:Nat)(y:AV),f[j]?=some y→∃x,xs[off+j]?=some x∧x.oneCell'=true∧AIs w S σ hp U y x) :
  ∃x,(part t xs off).run P w=.ok x w∧AIs w S σ hp U v x:=by
 have agg:∀d,P.underlying t=some d→JO d=true→P.cellsOf t≤f.length→v=.agg (f.take (P.cellsOf t)) →
   ∃x,(part t xs off).run P w=.ok x w∧AIs w S σ hp U v x:=by
  intro d h l C r;subst r;refine⟨.agg (xs.extract off (off+P.cellsOf t)),?_,?_⟩;unfold part;rw[Sem.run_bind,eR h,l];simp[rU h];have s:P.cellsOf t=0∨off+P.cellsOf t≤xs.size:=by
   rcases Nat.eq_zero_or_pos (P.cellsOf t)with m|m;exact .inl m;obtain⟨x,k,_,_⟩:=p (P.cellsOf t-1) _ (cm aq);have:=(Array.getElem?_eq_some_iff.1 k).1;exact .inr aq
  refine .agg _ _ (by simp;omega) (fun i x b=>?_) (fun i E x hc b=>?_);rw[Array.getElem?_extract]at b;split at b;rename_i A;obtain⟨B,k,D,_⟩:=p i _ (cm aq);rw[k]at b;injection b with b;subst b;exact D;cases b;rw[Array.getElem?_extract]at b;rw[List.getElem?_take]at hc;split at hc;split at b;obtain⟨B,k,_,q⟩:=p i _ hc;rw[k]at b;injection b with b;subst b;exact q;cases b;cases hc
 have scal:∀d,P.underlying t=some d→JO d=false→f.head?=some v →
   ∃x,(part t xs off).run P w=.ok x w∧AIs w S σ hp U v x:=by
  intro d h l u;have m:f[0]?=some v:=by rw[←List.head?_eq_getElem?];exact u
  obtain⟨x,k,_,q⟩:=p 0 v m;rw[Nat.add_zero]at k;refine⟨x,?_,q⟩;unfold part;rw[Sem.run_bind,eR h,l];simp[k]
 unfold FM at g;cases h:P.underlying t with
 |none=>simp[ca,h]at g
 | some d =>
  cases d with
  |struct F =>
   simp only[ca,h]at g;split at g;injection g with g;exact agg _ h rfl ‹_› g.symm;cases g
  |array n e =>
   simp only[ca,h]at g;split at g;injection g with g;exact agg _ h rfl ‹_› g.symm;cases g
  |_=>simp only[ca,h]at g;exact scal _ h rfl g
theorem Q8(m:Rel c hp U σ w)(E:∀x,AIs w (bQ c w σ hp) σ hp U (ev fr x) (a.eval x)){t:TypeId}{x:Operand}{i:Nat}(k:o.op=.field t x i)(h:bS P fr hp N (.field t x i) K) :
  OpOk P c K hp U N σ w ((execOp a.eval o).run P w):=by
 simp only[bS]at h;split at h;rename_i C B A q l;have d:=E x;rw[q]at d;generalize g:a.eval x=vx at d;cases d with
 | agg _ xs hl h2 h3 =>
  split at h;rename_i v u;obtain⟨F,f,p,s,rfl,rfl⟩:=uI l;obtain⟨y,e,r⟩:=rY (w:=w) (xs:=xs) (off:=f.offset) u fun j y e=>by
   rw[List.getElem?_drop]at e;have b:f.offset+j<xs.size:=by rw[←hl];exact(ci.1 e).1
   exact⟨xs[f.offset+j],dn b,h2 _ _ (dn b),h3 _ y _ e (dn b)⟩
  refine OpOk.val (x:=y) ?_ (Good.same m h r);simp[execOp,k,g,Instr.field,asAgg,run_underlying p,s,e];exact h.elim
 ·exact h.elim
theorem Q9 (J:Rel c hp U σ w) (E:∀ x,AIs w (bQ c w σ hp) σ hp U (ev fr x) (a.eval x)) {t:TypeId} {x i:Operand} (A:o.op=.index t x i) (h:bS P fr hp N (.index t x i) K) :
  OpOk P c K hp U N σ w ((execOp a.eval o).run P w):=by
 simp only[bS]at h;split at h
 ·rename_i n el W k m H L R;obtain⟨F,M,h⟩:=h;have f:=E x;rw[L]at f;have p:=fc (R▸E i);generalize l:a.eval x=vx at f;cases f with
  | agg _ xs hl h2 h3 =>
   split at h
   ·rename_i g;obtain⟨D,h⟩:=h;split at h
    ·rename_i v r;have e:m.toNat<xs.size:=by rw[←hl];exact(ci.1 r).1
     refine OpOk.val (x:=xs[m.toNat]) ?_ (Good.same J h (h3 _ v _ r (dn e)));have q:(isAgg el).run P w=.ok false w:=by
      have I:∃d,P.underlying el=some d∧JO d=false:=by
       unfold ca at g;cases u:P.underlying el with
       |none=>rw[u]at g;cases g
       |some d =>
        rw[u]at g;refine⟨d,rfl,?_⟩;cases d<;>first|rfl|cases g
      obtain⟨d,u,B⟩:=I;rw[eR u,B]
     have Q:m.toNat*1=m.toNat:=Nat.mul_one _;simp[execOp,A,l,p,Instr.index,asIntOf,run_underlying (iE H),F,M,bm (P:=P) (w:=w) (t:=el) (by rw[D];decide),D,part,q,e]
    ·exact h.elim
   ·rename_i g;obtain⟨D,h⟩:=h;split at h
    ·rename_i v r;have e:m.toNat<xs.size:=by rw[←hl];exact(ci.1 r).1
     refine OpOk.val (x:=xs[m.toNat]) ?_ (Good.same J h (h3 _ v _ r (dn e)));have q:(isAgg el).run P w=.ok false w:=by
      have I:∃d,P.underlying el=some d∧JO d=false:=by
       unfold ca at g;cases u:P.underlying el with
       |none=>rw[u]at g;cases g
       |some d =>
        rw[u]at g;refine⟨d,rfl,?_⟩;cases d<;>first|rfl|cases g
      obtain⟨d,u,B⟩:=I;rw[eR u,B]
     have Q:m.toNat*1=m.toNat:=Nat.mul_one _;simp[execOp,A,l,p,Instr.index,asIntOf,run_underlying (iE H),F,M,bm (P:=P) (w:=w) (t:=el) (by rw[D];decide),D,part,q,e]
    ·exact h.elim
   ·obtain⟨D,h⟩:=h;split at h;rename_i v r;obtain⟨y,G,O⟩:=rY (w:=w) (xs:=xs) (off:=m.toNat*P.cellsOf el) r fun j y G=>by
     rw[List.getElem?_drop]at G;have e:m.toNat*P.cellsOf el+j<xs.size:=by rw[←hl];exact(ci.1 G).1
     exact⟨xs[m.toNat*P.cellsOf el+j],dn e,h2 _ _ (dn e),h3 _ y _ G (dn e)⟩
    refine OpOk.val (x:=y) ?_ (Good.same J h O);simp[execOp,A,l,p,Instr.index,asIntOf,run_underlying (iE H),F,M,bm (P:=P) (w:=w) (t:=el) D,G];exact h.elim
   ·exact h.elim
 ·rename_i V k m H L R;obtain⟨F,h⟩:=h;have f:=E x;rw[L]at f;have p:=fc (R▸E i);split at h;rename_i b r;generalize l:a.eval x=vx at f;cases f with
  | d I =>
   cases I with
   | str s =>
    rw[c_,Option.map_eq_some_iff]at r;obtain⟨T,C,rfl⟩:=r;rw[Array.getElem?_toList]at C;have e:m.toNat<s.size:=(Array.getElem?_eq_some_iff.1 C).1;have g:s[m.toNat]?=some T:=by
     rw[getElem?_pos s m.toNat e];exact congrArg some (Array.getElem?_eq_some_iff.1 C).2
    refine OpOk.val (x:=.int .u8 (T.toNat:Int)) ?_ (Good.same J h (.d (.int .u8 _)));simp[execOp,A,l,p,Instr.index,asIntOf,run_underlying (pv H),F,g]
  ·exact h.elim
 ·exact h.elim
section
variable {ts tx ty el:TypeId} {i:TypeInfo} {z:Value}
theorem yI{r:IntKind}(g:P.underlying ts=some (.slice el))(e:P.underlying tx=some (.int r))(hi:P.info? el=some i)(hz:i.zero=some z)(s:z.cells.size=i.size)(m:i.size≠0){base:Option Addr}{sLen sCap:Nat}{n:Int}{w':World}(t:0≤n)(u:n≤4294967296)(v:i.bytes*n≤281474976710656)
  (d:sLen+n.toNat≤sCap) (b:(match base with|some a=>storeCells (a.add (sLen*i.size)) (Builtin.zeroCells z.cells n.toNat).toList|none=>pure ()).run P w=.ok () w') :
  (Builtin.append_ #[ts,tx] ty #[.slice base sLen sCap,.int r n]).run P w=.ok (.slice base (sLen+n.toNat) sCap) w':=by
 have k:IntKind.i64.wrap n=n:=IntWalk.i64_in _ aq;have j:¬(281474976710656<n*i.bytes):=by rw[Int.mul_comm];omega
 have l:¬n<0:=aq;by_cases f:n.toNat*i.size=0;have q:n.toNat=0:=by
  rcases Nat.mul_eq_zero.1 f with h|h;exact h;exact absurd h m
 have p:Builtin.zeroCells z.cells n.toNat=#[]:=by rw[q];simp[Builtin.zeroCells]
 rw[p]at b;cases base with
 |none =>
  simp at b;subst b;simp[Builtin.append_,run_underlying g,run_underlying e,sizeOf,typeInfo,hi,asInt,asIntOf,k,j,l,d,f]
 |some ad =>
  simp only at b;simp[Builtin.append_,run_underlying g,run_underlying e,sizeOf,typeInfo,hi,asInt,asIntOf,k,j,l,d,f,b]
 ·cases base with
  |none =>
   simp at b;subst b;simp[Builtin.append_,run_underlying g,run_underlying e,sizeOf,typeInfo,hi,hz,zeroValue,asInt,asIntOf,k,j,l,d]
  |some ad =>
   simp only at b;simp[Builtin.append_,run_underlying g,run_underlying e,sizeOf,typeInfo,hi,hz,zeroValue,asInt,asIntOf,k,j,l,d,f,b]
theorem yJ{v:IntKind}(k:P.underlying ts=some (.slice el))(g:P.underlying tx=some (.int v))(hi:P.info? el=some i)(hz:i.zero=some z)(C:z.cells.size=i.size)(q:i.size≠0){base:Option Addr}{sLen sCap:Nat}{n:Int}{os:Array Value}(D:0≤n)(E:n≤4294967296)(F:i.bytes*n≤281474976710656)
  (m:(Builtin.firstCells i.size sLen (.slice base sLen sCap)).run P w.drew=.ok os w.drew) (f:sCap<sLen+n.toNat) (u:i.bytes≠0) (j:(sLen+n.toNat)*i.bytes≤140737488355328) :
  (Builtin.append_ #[ts,tx] ty #[.slice base sLen sCap,.int v n]).run P w=.ok (.slice (some ⟨w.heap.size,0,none⟩) (sLen+n.toNat) (grownCap w (sLen+n.toNat) sCap el))
    (w.drew.alloc (.cells (os++Builtin.zeroCells z.cells n.toNat++Builtin.zeroCells z.cells (grownCap w (sLen+n.toNat) sCap el-(sLen+n.toNat))) el)):=by
 have y:IntKind.i64.wrap n=n:=IntWalk.i64_in _ aq;have x:¬(281474976710656<n*i.bytes):=by rw[Int.mul_comm];omega
 have A:¬n<0:=aq;have t:¬(sLen+n.toNat≤sCap):=aq;have d:¬(281474976710656<Builtin.nextslicecap (sLen+n.toNat) sCap*i.bytes):=by
  have:=growslice_fits f j;omega
 have l:¬((IntKind.i64.max:Int)<sLen+n.toNat):=by
  have G:sLen+n.toNat≤(sLen+n.toNat)*i.bytes:=Nat.le_mul_of_pos_right _ aq;have B:IntKind.i64.max=9223372036854775807:=by decide
  omega
 have b:¬(9223372036854775807<(sLen:Int)+max n 0):=by
  have B:IntKind.i64.max=9223372036854775807:=by decide
  rw[B]at l;omega
 by_cases e:n.toNat*i.size=0
 ·have s:n.toNat=0:=by
   rcases Nat.mul_eq_zero.1 e with h|h;exact h;exact absurd h q
  have r:Builtin.zeroCells z.cells n.toNat=#[]:=by rw[s];simp[Builtin.zeroCells]
  rw[r];simp[Builtin.append_,run_underlying k,run_underlying g,sizeOf,typeInfo,zeroValue,hi,hz,asInt,asIntOf,y,x,A,t,e,u,d,Question.forced,m,newRow,grownCap]
  all_goals(intro p;exact absurd p b)
 ·simp[Builtin.append_,run_underlying k,run_underlying g,sizeOf,typeInfo,zeroValue,hi,hz,asInt,asIntOf,y,x,A,t,e,u,d,Question.forced,m,newRow,grownCap]
  all_goals(intro p;exact absurd p b)
end
theorem JW(hr:Rel c hp U σ w)(E:∀x,AIs w (bQ c w σ hp) σ hp U (ev fr x) (a.eval x)){ts tx:TypeId}{s x:Operand}{cl:Call}(ab:o.op=.call cl)(hc:cl.callee=.builtin .append)(ha:cl.args.toList=[s,x])(ht:cl.argTypes.toList=[ts,tx])
  {el:TypeId} {id i0 len F:Nat} {k:IntKind} {n:Int} {z:List AV} (af:ca P ts=.slice el) (ap:ca P tx=.scal) (hs:ev fr s=.own id i0 len F) (R:ev fr x=.d (.int k n)) (C:j8 P tx=some k) (h0:0≤n) (h1:n≤4294967296) (h2:P.bytesOf el*n≤281474976710656) (hz:fQ P el=some z)
  (h:gf P el (.own id i0 len F) (some (List.replicate n.toNat z)) N K hp):OpOk P c K hp U N σ w ((execOp a.eval o).run P w):=by
 have aa:cl.args=#[s,x]:=by rw[←Array.toArray_toList (xs:=cl.args),ha]
 have V:cl.argTypes=#[ts,tx]:=by rw[←Array.toArray_toList (xs:=cl.argTypes),ht]
 have ag:=fc (R▸E x);have run:∀(v:Value)(O:World),(Builtin.append_ #[ts,tx] o.type #[a.eval s,.int k n]).run P w=.ok v O→(execOp a.eval o).run P w=.ok (.value v) O:=by
  intro v O H;simp[execOp,ab,resolve,hc,aa,V,invoke,builtin,ag,H]
 have B:=E s;rw[hs]at B;generalize al:a.eval s=sv at B run;have M:=bP af;have J:P.underlying tx=some (.int k):=by
  unfold j8 at C;split at C;rename_i k' hu;injection C with C;rw[hu,C];cases C
 obtain⟨v,i,Q,L,g,p,ao,l⟩:=y7 (w:=w) (S:=bQ c w σ hp) (σ:=σ) (hp:=hp) (U:=U) hz;have j:i.size=P.cellsOf el:=by simp[Program.cellsOf,Q]
 have r:i.bytes=P.bytesOf el:=by simp[Program.bytesOf,Q]
 have G:∀(z:Value)(m:Nat),(∀(n:Nat)(v:Value),z.cells[n]?=some v→v.oneCell'=true)→z.cells.size≠0→∀(n:Nat)(v:Value),(Builtin.zeroCells z.cells m)[n]?=some v→v.oneCell'=true:=by
  intro z m Z an n v H;unfold Builtin.zeroCells at H;simp only[Array.getElem?_map,Option.map_eq_some_iff]at H;obtain⟨k,_,rfl⟩:=H;have X:k%z.cells.size<z.cells.size:=Nat.mod_lt _ aq;exact Z (k%z.cells.size) _ (by simp[X])
 unfold gf at h;split at h;rename_i u _;cases u;rename_i am aj ak xs u y;injection u with q1 q2 q3 q4;subst q1;subst q2;subst q3;subst q4;injection y with y;subst y;split at h;rename_i b hb;obtain⟨ac,ad,T,q,ah,t,ae,Y⟩:=h;rw[List.length_replicate]at t;refine H2 (i:=i) (z:=v) hr B hb ac ad T ae Y j g p l.one G (fun A W e f=>?_) (fun A W os e f ai=>?_);subst e;rw[List.length_replicate]at f⊢;refine⟨Builtin.zeroCells v.cells n.toNat,by rw[size_zeroCells,g],?_,fun O D=>run _ _ (yI (ty:=o.type) M J Q L (by rw[g,j]) (by rw[j];exact p) h0 h1 (by rw[r];exact h2) f D)⟩;have:=pA (P:=P) (el:=el) l g p n.toNat
 rw[←g]at this⊢;exact this;subst e;rw[List.length_replicate]at f⊢;refine⟨Builtin.zeroCells v.cells n.toNat,by rw[size_zeroCells,g],?_,run _ _ (yJ (ty:=o.type) M J Q L (by rw[g,j]) (by rw[j];exact p) h0 h1 (by rw[r];exact h2) ai aq (by rw[r];exact ah) (by rw[r];exact t))⟩;have I:LIs w.drew (bQ c w.drew σ hp) σ hp U z v.cells:=⟨l.len,l.one,fun i c x hc R=>(l.is i c x hc R).step cM⟩;have:=pA (P:=P) (el:=el) I g p n.toNat
 rw[←g]at this⊢;exact this;exact h.elim;rename_i u _;cases u;rename_i u _;cases u;exact h.elim
theorem FW(j:Rel c hp U σ w)(E:∀x,AIs w (bQ c w σ hp) σ hp U (ev fr x) (a.eval x)){f:FuncId}{b:Array Operand}(e:o.op=.makeFunc (.func f) #[] b)(h:K (.fn f (b.toList.map (ev fr))) hp):OpOk P c K hp U N σ w ((execOp a.eval o).run P w):=by
 have run:(execOp a.eval o).run P w=.ok (.value (.func (.func f) #[] (b.map a.eval))) w:=by simp[execOp,e,Instr.makeFunc]
 refine OpOk.val run (Good.same j h (.fn f _ _ aw fun i k x hc d=>?_));rw[c_,Array.getElem?_toList]at hc;rw[Array.getElem?_map]at d;cases g:b[i]? with
 |none=>rw[g]at hc;cases hc
 |some y =>
  rw[g]at hc d;simp only[Option.map_some,Option.some.injEq]at hc d;subst hc;subst d;exact E y
theorem JX(j:Rel c hp U σ w)(E:∀x,AIs w (bQ c w σ hp) σ hp U (ev fr x) (a.eval x)){f:FuncId}{b:Array Operand}(e:o.op=.makeFunc (.func f) b #[])(h:K (.mth f (b.toList.map (ev fr))) hp):OpOk P c K hp U N σ w ((execOp a.eval o).run P w):=by
 have run:(execOp a.eval o).run P w=.ok (.value (.func (.func f) (b.map a.eval) #[])) w:=by simp[execOp,e,Instr.makeFunc]
 refine OpOk.val run (Good.same j h (.mth f _ _ aw fun i k x hc d=>?_));rw[c_,Array.getElem?_toList]at hc;rw[Array.getElem?_map]at d;cases g:b[i]? with
 |none=>rw[g]at hc;cases hc
 |some y =>
  rw[g]at hc d;simp only[Option.map_some,Option.some.injEq]at hc d;subst hc;subst d;exact E y
theorem ZV(g:Rel c hp U σ w)(E:∀x,AIs w (bQ c w σ hp) σ hp U (ev fr x) (a.eval x)){x y:Operand}{tx ty:TypeId}{cl:Call}(f:o.op=.call cl)(hc:cl.callee=.builtin .max)(q:cl.args.toList=[x,y])(s:cl.argTypes.toList=[tx,ty])
  (h:yG P fr hp N .max [x,y] [tx,ty] K):OpOk P c K hp U N σ w ((execOp a.eval o).run P w):=by
 simp only[yG]at h;have b:cl.args=#[x,y]:=by rw[←Array.toArray_toList (xs:=cl.args),q]
 have e:cl.argTypes=#[tx,ty]:=by rw[←Array.toArray_toList (xs:=cl.argTypes),s]
 split at h
 ·rename_i k m t n j p;have l:=fc (j▸E x);have r:=fc (p▸E y);have run:(execOp a.eval o).run P w=.ok (.value (.int k (if n>m then n else m))) w:=by
   simp[execOp,f,resolve,hc,b,e,invoke,builtin,l,r,Builtin.max_,Builtin.max2]
  exact OpOk.val run (Good.same g h (.d (.int k _)))
 ·exact h.elim
theorem ZW(g:Rel c hp U σ w)(E:∀x,AIs w (bQ c w σ hp) σ hp U (ev fr x) (a.eval x)){x y:Operand}{tx ty:TypeId}{cl:Call}(f:o.op=.call cl)(hc:cl.callee=.builtin .min)(q:cl.args.toList=[x,y])(s:cl.argTypes.toList=[tx,ty])
  (h:yG P fr hp N .min [x,y] [tx,ty] K):OpOk P c K hp U N σ w ((execOp a.eval o).run P w):=by
 simp only[yG]at h;have b:cl.args=#[x,y]:=by rw[←Array.toArray_toList (xs:=cl.args),q]
 have e:cl.argTypes=#[tx,ty]:=by rw[←Array.toArray_toList (xs:=cl.argTypes),s]
 split at h
 ·rename_i k m t n j p;have l:=fc (j▸E x);have r:=fc (p▸E y);have run:(execOp a.eval o).run P w=.ok (.value (.int k (if n<m then n else m))) w:=by
   simp[execOp,f,resolve,hc,b,e,invoke,builtin,l,r,Builtin.min_,Builtin.min2]
  exact OpOk.val run (Good.same g h (.d (.int k _)))
 ·exact h.elim
theorem rZ(e:Rel c hp U σ w)(E:∀x,AIs w (bQ c w σ hp) σ hp U (ev fr x) (a.eval x))(g:Free U N)(h:bS P fr hp N o.op K):OpOk P c K hp U N σ w ((execOp a.eval o).run P w):=by
 generalize d:o.op=op at h;cases op with
 |move x=>exact LW e E (.inl d) h
 |assign x=>exact LW e E (.inr d) h
 |pick x y z=>exact Wi e E d h
 |binOp op t x y t'=>exact ZQ e E d h
 |unOp op t x=>exact acU e E d h
 |nilCheck x=>exact FQ e E d h
 |extract x i=>exact JP e E d h
 |convert s t x=>exact JQ e E d (fun L el A C B F D=>FU e E d A C B F D) (fun L el A C B F D I=>FT e E d A C B F D I) h
 |load t x=>exact Wl e E d h
 |fieldAddr t x i=>exact C7 e E d h
 |indexAddr t x ix=>exact C9 e E d h
 |alloc t=>exact Q4 e g d h
 |build t parts=>exact Q5 e E d h
 |buildSlice t n parts=>exact AK e E g d h
 |slice t x lo hi m =>
  cases m with
  |none=>exact Q6 e E d h
  |some m=>exact Me e E d h
 |index t x i=>exact Q9 e E d h
 |field t x i=>exact Q8 e E d h
 |makeSlice t l m=>exact Wq e E g d h
 | makeFunc fn first caps =>
  cases fn with
  | func f =>
   simp only[bS]at h;split at h
   ·rename_i G;obtain rfl:first=#[]:=by simpa using G
    exact FW e E d h
   ·obtain⟨rfl,h⟩:=h;exact JX e E d h
  |_=>exact h.elim
 |sliceToArrayPointer t x=>exact ZU e E d h
 |box t x=>exact ZR e E g d h
 |store t x v=>exact Q2 e E d h
 |makeMap t r =>
  cases r with
  |none=>exact JS e g d h
  |some r=>exact h.elim
 |lookup t m x ok =>
  cases ok with
  |false=>exact Md e E d h
  |true=>exact h.elim
 |mapUpdate t m x v=>exact Di e E d h
 | call cl =>
  simp only[bS]at h;split at h
  ·rename_i b j;generalize p:cl.args.toList=as at h;generalize q:cl.argTypes.toList=ts at h;cases b with
   |len =>
    match as,ts,h with
    |[x],[t],h=>exact ZS e E d j p q h
   |append =>
    match as,ts,h with
    |[s,x],[t,u],h=>exact L0 e E g d j p q (fun el id R len Q k n z A C B F D I O J M H=>JW e E d j p q A C B F D I O J M H) h
   |copy =>
    match as,ts,h with
    |[s,x],[t,u],h=>exact Ws e E d j p q h
   |max =>
    match as,ts,h with
    |[s,x],[t,u],h=>exact ZV e E d j p q h
   |min =>
    match as,ts,h with
    |[s,x],[t,u],h=>exact ZW e E d j p q h
   |_=>exact h.elim
  ·rename_i f G;split at h;exact Wm e E g d G ‹_› h;exact Q3 e E g d G ‹_› h;exact h.elim
  ·exact h.elim
 |_=>exact h.elim
end
end Go.Am
namespace Go.Am
section
variable {P:Program} {fr fr':Fr} {hp hp':Hp} {N N':Nat} {K K':AV→Hp→Prop}
theorem tM{d:Int}{x:Option Operand}(h:∀y,x=some y→ev fr y=ev fr' y):AD fr d x=AD fr' d x:=by
 cases x with
 |none=>rfl
 |some y=>simp only[AD,h y rfl]
theorem r7{l:List (Nat×Operand)}(h:∀p,p∈l→ev fr p.2=ev fr' p.2):(l.map fun p=>(p.1,ev fr p.2))=l.map fun p=>(p.1,ev fr' p.2):=by
 apply List.map_congr_left;intro p hp;rw[h p hp]
theorem tN{g:Op}(h:∀x,x∈g.operands→ev fr x=ev fr' x):bS P fr hp N g K=bS P fr' hp N g K:=by
 cases g with
 |build t parts =>
  simp only[bS];rw[r7 (fr:=fr) (fr':=fr') fun p hp=>h p.2 (by simp only[Op.operands,List.mem_toArray,List.mem_map];exact⟨p,hp,rfl⟩)]
 |buildSlice t n parts =>
  simp only[bS];rw[r7 (fr:=fr) (fr':=fr') fun p hp=>h p.2 (by simp only[Op.operands,List.mem_toArray,List.mem_map];exact⟨p,hp,rfl⟩)]
 | slice t x lo hi m =>
  cases m with
  | some m =>
   have D:FN fr hi=FN fr' hi:=by
    cases hi with
    |none=>rfl
    |some y=>simp only[FN];rw[h y (by simp[Op.operands])]
   simp only[bS];rw[h x (by simp[Op.operands]),tM (fr:=fr) (fr':=fr') (x:=lo) fun y q=>h y (by subst q;simp[Op.operands]),D,h m (by simp[Op.operands])]
  |none =>
   simp only[bS];rw[h x (by simp[Op.operands]),tM (fr:=fr) (fr':=fr') (x:=lo) fun y q=>h y (by subst q;simp[Op.operands]),tM (fr:=fr) (fr':=fr') (x:=hi) fun y q=>h y (by subst q;simp[Op.operands])]
 | call cl =>
  have d:∀x,x∈cl.args.toList→ev fr x=ev fr' x:=fun x j=>h x (by
   obtain⟨e,k,B⟩:=cl
   cases e<;>simp_all[Op.operands,Call.operands])
  simp only[bS];cases hc:cl.callee with
  | builtin b =>
   simp only;generalize cl.args.toList=as at d;generalize cl.argTypes.toList=ts;cases b with
   |len =>
    match as,ts,d with
    |[],_,_=>rfl
    |[x],[],_=>rfl
    |[x],[t],d=>simp only[yG];rw[d x aw]
    |[x],_::_::_,_=>rfl
    |_::_::_,_,_=>rfl
   |append =>
    match as,ts,d with
    |[],_,_=>rfl
    |[s],_,_=>rfl
    |[s,x],[],_=>rfl
    |[s,x],[_],_=>rfl
    |[s,x],[t,u],d=>simp only[yG];rw[d x aw,d s aw]
    |[s,x],_::_::_::_,_=>rfl
    |_::_::_::_,_,_=>rfl
   |copy =>
    match as,ts,d with
    |[],_,_=>rfl
    |[s],_,_=>rfl
    |[s,x],[],_=>rfl
    |[s,x],[_],_=>rfl
    |[s,x],[t,u],d=>simp only[yG];rw[d x aw,d s aw]
    |[s,x],_::_::_::_,_=>rfl
    |_::_::_::_,_,_=>rfl
   |max =>
    match as,ts,d with
    |[],_,_=>rfl
    |[s],_,_=>rfl
    |[s,x],[],_=>rfl
    |[s,x],[_],_=>rfl
    |[s,x],[t,u],d=>simp only[yG];rw[d x aw,d s aw]
    |[s,x],_::_::_::_,_=>rfl
    |_::_::_::_,_,_=>rfl
   |min =>
    match as,ts,d with
    |[],_,_=>rfl
    |[s],_,_=>rfl
    |[s,x],[],_=>rfl
    |[s,x],[_],_=>rfl
    |[s,x],[t,u],d=>simp only[yG];rw[d x aw,d s aw]
    |[s,x],_::_::_::_,_=>rfl
    |_::_::_::_,_,_=>rfl
   |_=>rfl
  | value f =>
   simp only;have A:ev fr f=ev fr' f:=h f (by
    obtain⟨e,k,B⟩:=cl;simp only at hc;subst hc
    simp[Op.operands,Call.operands])
   have C:cl.args.toList.map (ev fr)=cl.args.toList.map (ev fr'):=List.map_congr_left d;rw[A,C]
  |invoke _ _=>rfl
 |move x=>simp only[bS];rw[h x (by simp[Op.operands])]
 |assign x=>simp only[bS];rw[h x (by simp[Op.operands])]
 |pick x y z=>simp only[bS];rw[h x (by simp[Op.operands]),h y (by simp[Op.operands]),h z (by simp[Op.operands])]
 |binOp g t x y t'=>simp only[bS];rw[h x (by simp[Op.operands]),h y (by simp[Op.operands])]
 |unOp g t x =>
  have j:=h x (by simp[Op.operands]);cases g<;>simp only[bS]<;>rw[j]
 |nilCheck x=>simp only[bS];rw[h x (by simp[Op.operands])]
 |extract x i=>simp only[bS];rw[h x (by simp[Op.operands])]
 |convert s t x=>simp only[bS];rw[h x (by simp[Op.operands])]
 |load t x=>simp only[bS];rw[h x (by simp[Op.operands])]
 |fieldAddr t x i=>simp only[bS];rw[h x (by simp[Op.operands])]
 |indexAddr t x ix=>simp only[bS];rw[h x (by simp[Op.operands]),h ix (by simp[Op.operands])]
 |box t x=>simp only[bS];rw[h x (by simp[Op.operands])]
 |index t x i=>simp only[bS];rw[h x (by simp[Op.operands]),h i (by simp[Op.operands])]
 |field t x i=>simp only[bS];rw[h x (by simp[Op.operands])]
 | makeFunc fn first caps =>
  cases fn with
  |func f =>
   simp only[bS];have C:caps.toList.map (ev fr)=caps.toList.map (ev fr'):=List.map_congr_left fun x j=>h x (by simp[Op.operands];exact .inr (by simpa using j));have A:first.toList.map (ev fr)=first.toList.map (ev fr'):=List.map_congr_left fun x j=>h x (by simp[Op.operands];exact .inl (by simpa using j));rw[C,A]
  |_=>rfl
 |makeSlice t l m=>simp only[bS];rw[h l (by simp[Op.operands]),h m (by simp[Op.operands])]
 |sliceToArrayPointer t x=>simp only[bS];rw[h x (by simp[Op.operands])]
 |store t x v=>simp only[bS];rw[h x (by simp[Op.operands]),h v (by simp[Op.operands])]
 |lookup t m x ok=>cases ok<;>first|rfl|(simp only[bS];rw[h m (by simp[Op.operands]),h x (by simp[Op.operands])])
 |mapUpdate t m x v=>simp only[bS];rw[h m (by simp[Op.operands]),h x (by simp[Op.operands]),h v (by simp[Op.operands])]
 |makeMap t r=>cases r<;>rfl
 |_=>rfl
def uJ(hp hp':Hp):Prop:=∀id b,lk id hp=some b→lk id hp'=some b
theorem FX{hp hp':Hp}{sz:Nat}{v:AV}{xs:List (List AV)}(g:uJ hp hp')(h:dp hp sz v=some xs):dp hp' sz v=some xs:=by
 cases v with
 |own id i0 len tot =>
  simp only[dp]at h⊢;cases f:lk id hp with
  |none=>rw[f]at h;cases h
  |some b=>rw[f]at h;rw[g _ _ f];exact h
 |sub id i off e len cap tot =>
  simp only[dp]at h⊢;cases f:lk id hp with
  |none=>rw[f]at h;cases h
  |some b=>rw[f]at h;rw[g _ _ f];exact h
 |d v=>cases v<;>exact h
 |_=>exact h
def aZ(P:Program):Op→Bool
 | .move _=>true
 | .assign _=>true
 | .pick ..=>true
 | .binOp _ t _ _ _=>match ca P t with
  | .slice _=>false
  |_=>true
 | .unOp ..=>true
 | .nilCheck _=>true
 | .extract ..=>true
 | .convert _ t _=>match ca P t with
  | .slice _=>false
  |_=>true
 | .sliceToArrayPointer ..=>true
 | .load ..=>true
 | .fieldAddr ..=>true
 | .indexAddr ..=>true
 | .index ..=>true
 | .field ..=>true
 | .build ..=>true
 | .slice ..=>true
 | .call cl=>match cl.callee with
  | .builtin .len=>true
  |_=>false
 |_=>false
def mQ(P:Program)(fr:Fr)(hp:Hp)(b:Op)(v:AV):Prop:=∀hp' N' K',uJ hp hp'→K' v hp'→bS P fr hp' N' b K'
theorem FY{b:BinOp}{k:IntKind}{x y:Int}(h:lg b k x y K hp):∃v,K v hp∧∀hp'(K':AV→Hp→Prop),K' v hp'→lg b k x y K' hp':=by
 cases b<;>simp only[lg]at h⊢
 case quo=>exact⟨_,h.2,fun _ _ q=>⟨h.1,q⟩⟩
 case rem=>exact⟨_,h.2,fun _ _ q=>⟨h.1,q⟩⟩
 case shl=>exact⟨_,h.2,fun _ _ q=>⟨h.1,q⟩⟩
 case shr=>exact⟨_,h.2,fun _ _ q=>⟨h.1,q⟩⟩
 all_goals exact⟨_,h,fun _ _ q=>q⟩
theorem FZ{b:BinOp}{t:TypeId}{x y:AV}(d:(∀e,ca P t≠.slice e)∨(b≠.eql∧b≠.neq))(h:dK P b t x y K hp):∃v,K v hp∧∀hp'(K':AV→Hp→Prop),K' v hp'→dK P b t x y K' hp':=by
 unfold dK at h;split at h;obtain⟨k,g⟩:=h;obtain⟨v,j,f⟩:=FY g;exact⟨v,j,fun hp' K' q=>by simp only[dK];exact⟨k,f hp' K' q⟩⟩
 split at h;exact⟨_,h.2,fun hp' K' q=>by simp only[dK];exact⟨h.1,q⟩⟩
 exact⟨_,h.2,fun hp' K' q=>by simp only[dK];exact⟨h.1,q⟩⟩
 exact h.elim;split at h;exact⟨_,h,fun hp' K' q=>by simp only[dK];exact q⟩
 exact⟨_,h,fun hp' K' q=>by simp only[dK];exact q⟩
 exact⟨_,h,fun hp' K' q=>by simp only[dK];exact q⟩
 exact⟨_,h,fun hp' K' q=>by simp only[dK];exact q⟩
 exact⟨_,h,fun hp' K' q=>by simp only[dK];exact q⟩
 exact⟨_,h,fun hp' K' q=>by simp only[dK];exact q⟩
 exact⟨_,h.2,fun hp' K' q=>by simp only[dK];exact⟨h.1,q⟩⟩
 exact h.elim
 ·split at h
  all_goals first|exact h.elim|exact absurd ‹ca P t=_› (d.elim (fun h=>h _) fun h=>absurd rfl h.1)|exact absurd ‹ca P t=_› (d.elim (fun h=>h _) fun h=>absurd rfl h.2)
 ·exact h.elim
theorem wK{d:BinOp}{t:TypeId}{b:Bool}(h:QU P d t b K hp):∃v,K v hp∧∀hp'(K':AV→Hp→Prop),K' v hp'→QU P d t b K' hp':=by
 obtain⟨e,h⟩:=h;split at h;exact⟨_,h,fun hp' K' q=>⟨e,q⟩⟩;exact⟨_,h,fun hp' K' q=>⟨e,q⟩⟩;exact h.elim
theorem MA{g:BinOp}{t:TypeId}{n:Nat}{el:TypeId}{k:Option IntKind}{a b:List AV}(h:Vr P g t n el k a b K hp):∃v,K v hp∧∀hp'(K':AV→Hp→Prop),K' v hp'→Vr P g t n el k a b K' hp':=by
 unfold Vr at h⊢;split at h;split at h;obtain⟨j,e,f,d,h⟩:=h;split at h;exact⟨_,h,fun hp' K' q=>⟨j,e,f,d,q⟩⟩;exact⟨_,h,fun hp' K' q=>⟨j,e,f,d,q⟩⟩;exact h.elim;exact h.elim;exact h.elim
theorem MB{f:BinOp}{t:TypeId}{a b:List AV}(h:Vs P f t a b K hp):∃v,K v hp∧∀hp'(K':AV→Hp→Prop),K' v hp'→Vs P f t a b K' hp':=by
 unfold Vs at h⊢;split at h;obtain⟨g,d,e,h⟩:=h;split at h;exact⟨_,h,fun hp' K' q=>⟨g,d,e,q⟩⟩;exact⟨_,h,fun hp' K' q=>⟨g,d,e,q⟩⟩;exact h.elim;exact h.elim
theorem y9{b:BinOp}{t:TypeId}{x y:AV}(d:(∀e,ca P t≠.slice e)∨(b≠.eql∧b≠.neq))(h:dj P b t x y K hp):∃v,K v hp∧∀hp'(K':AV→Hp→Prop),K' v hp'→dj P b t x y K' hp':=by
 unfold dj at h⊢;split at h;exact wK h;exact wK h;exact wK h;split at h;exact MA h;exact MB h;exact h.elim;exact FZ d h
theorem JY{D:Op}(F:aZ P D=true)(h:bS P fr hp N D K):∃v,K v hp∧mQ P fr hp D v:=by
 unfold mQ;cases D with
 |move x=>exact⟨_,h,fun _ _ _ _ q=>q⟩
 |assign x=>exact⟨_,h,fun _ _ _ _ q=>q⟩
 | pick c a b =>
  simp only[bS]at h⊢;split at h;rename_i t G;split at h;rename_i x y V W;exact⟨_,h,fun hp' N' K' d q=>q⟩;rename_i T;cases t with
  |true =>
   refine⟨_,h.1 rfl,fun hp' N' K' d q=>?_⟩;exact⟨fun _=>q,fun h=>by cases h⟩
  |false =>
   refine⟨_,h.2 rfl,fun hp' N' K' d q=>?_⟩;exact⟨fun h=>(by cases h),fun _=>q⟩
  ·exact h.elim
 | binOp D t x y t' =>
  have O:∀e,ca P t≠.slice e:=by
   intro e L;simp[aZ,L]at F
  obtain⟨v,f,j⟩:=y9 (.inl O) h;exact⟨v,f,fun hp' N' K' _ q=>j hp' K' q⟩
 | unOp D t x =>
  cases D with
  |not =>
   simp only[bS]at h⊢;split at h;exact⟨_,h,fun hp' N' K' d q=>q⟩;exact h.elim
  |neg =>
   simp only[bS]at h⊢;split at h;exact⟨_,h,fun hp' N' K' d q=>q⟩;exact h.elim
  |xor =>
   simp only[bS]at h⊢;split at h;exact⟨_,h,fun hp' N' K' d q=>q⟩;exact h.elim
  |_=>exact h.elim
 |nilCheck x =>
  simp only[bS]at h⊢;split at h
  all_goals first|exact⟨_,h,fun hp' N' K' d q=>q⟩|exact h.elim
 | extract x i =>
  simp only[bS]at h⊢;split at h;split at h;exact⟨_,h,fun hp' N' K' d q=>q⟩;exact h.elim;exact h.elim
 | convert s t x =>
  simp only[bS]at h⊢;split at h;obtain⟨H,f,j,A⟩:=h;split at A;exact⟨_,A.2,fun hp' N' K' d q=>⟨H,f,j,A.1,q⟩⟩;exact A.elim;split at h;exact⟨_,h,fun hp' N' K' d q=>q⟩;exact h.elim;split at h;rename_i el _ G;simp[aZ,G]at F;exact h.elim;rename_i v Y R X;obtain⟨H,f,j,A⟩:=h;split at A;refine⟨_,A.2,fun hp' N' K' d q=>⟨H,FX d f,j,A.1,q⟩⟩;exact A.elim
 | sliceToArrayPointer t x =>
  simp only[bS]at h⊢;unfold JM at h⊢;split at h;exact⟨_,h.2.2,fun hp' N' K' d q=>⟨h.1,h.2.1,q⟩⟩;split at h;rename_i b r;refine⟨_,h.2.2.2,fun hp' N' K' d q=>?_⟩;simp only[d _ _ r];exact⟨h.1,h.2.1,h.2.2.1,q⟩;exact h.elim;exact h.elim
 | load t x =>
  simp only[bS]at h⊢;split at h;split at h;rename_i b r;split at h;rename_i M E;obtain⟨G,h⟩:=h;split at h;rename_i v Q;refine⟨v,h,fun hp' N' K' d q=>?_⟩;rw[d _ _ r];simp only[E,Q];exact⟨G,q⟩;exact h.elim;exact h.elim;exact h.elim;split at h;exact⟨_,h,fun hp' N' K' d q=>q⟩;exact h.elim;exact h.elim
 |fieldAddr t x i =>
  simp only[bS]at h⊢;split at h;exact⟨_,h.2,fun hp' N' K' d q=>⟨h.1,q⟩⟩;exact⟨_,h.2,fun hp' N' K' d q=>⟨h.1,q⟩⟩;exact h.elim
 | indexAddr t x ix =>
  simp only[bS]at h⊢;split at h;split at h;obtain⟨u,f,j,h⟩:=h;split at h;exact⟨_,h,fun hp' N' K' d q=>⟨u,f,j,q⟩⟩;exact h.elim;obtain⟨u,f,h⟩:=h;split at h;rename_i b r;obtain⟨I,k2,k3,h⟩:=h;refine⟨_,h,fun hp' N' K' d q=>?_⟩;rw[d _ _ r];exact⟨u,f,I,k2,k3,q⟩;exact h.elim;obtain⟨u,f,h⟩:=h;split at h;rename_i b r;obtain⟨I,k2,k3,h⟩:=h;refine⟨_,h,fun hp' N' K' d q=>?_⟩;rw[d _ _ r];exact⟨u,f,I,k2,k3,q⟩;exact h.elim;exact⟨_,h.2.2.2,fun hp' N' K' d q=>⟨h.1,h.2.1,h.2.2.1,q⟩⟩;exact⟨_,h.2.2.2,fun hp' N' K' d q=>⟨h.1,h.2.1,h.2.2.1,q⟩⟩;exact h.elim;exact h.elim
 | field t x i =>
  simp only[bS]at h⊢;split at h;split at h;exact⟨_,h,fun hp' N' K' d q=>q⟩;exact h.elim;exact h.elim
 | index t x i =>
  simp only[bS]at h⊢;split at h;obtain⟨u,f,h⟩:=h;split at h;obtain⟨j,h⟩:=h;split at h;exact⟨_,h,fun hp' N' K' d q=>⟨u,f,j,q⟩⟩;exact h.elim;obtain⟨j,h⟩:=h;split at h;exact⟨_,h,fun hp' N' K' d q=>⟨u,f,j,q⟩⟩;exact h.elim;obtain⟨j,h⟩:=h;split at h;exact⟨_,h,fun hp' N' K' d q=>⟨u,f,j,q⟩⟩;exact h.elim;exact h.elim;obtain⟨u,h⟩:=h;split at h;exact⟨_,h,fun hp' N' K' d q=>⟨u,q⟩⟩;exact h.elim;exact h.elim
 | build t parts =>
  simp only[bS]at h⊢;split at h;unfold tK at h⊢;split at h;obtain⟨f,h⟩:=h;split at h;exact⟨_,h,fun hp' N' K' d q=>⟨f,q⟩⟩;exact h.elim;obtain⟨f,h⟩:=h;split at h;exact⟨_,h,fun hp' N' K' d q=>⟨f,q⟩⟩;exact h.elim;exact h.elim;exact h.elim
 | slice t x lo hi m =>
  cases m with
  |some m =>
   simp only[bS]at h⊢;unfold nB at h⊢;split at h;exact⟨_,h.2.2.2.2.2.2,fun hp' N' K' d q=>⟨h.1,h.2.1,h.2.2.1,h.2.2.2.1,h.2.2.2.2.1,h.2.2.2.2.2.1,q⟩⟩;exact⟨_,h.2.2.2.2,fun hp' N' K' d q=>⟨h.1,h.2.1,h.2.2.1,h.2.2.2.1,q⟩⟩;exact⟨_,h.2.2.2.2,fun hp' N' K' d q=>⟨h.1,h.2.1,h.2.2.1,h.2.2.2.1,q⟩⟩;exact h.elim
  | none =>
   simp only[bS]at h⊢;generalize ev fr x=xa at h⊢;generalize ca P t=k at h⊢;generalize AD fr 0 lo=bl at h⊢;generalize AD fr (AV.topLen k xa) hi=bh at h⊢;unfold iI at h;split at h;obtain⟨l,p,g,h⟩:=h;exact⟨_,h,fun hp' N' K' d q=>⟨l,p,g,q⟩⟩;obtain⟨l,p,g,B,C,h⟩:=h;exact⟨_,h,fun hp' N' K' d q=>⟨l,p,g,B,C,q⟩⟩;split at h;rename_i b r;obtain⟨l,p,g,B,C,h⟩:=h;refine⟨_,h,fun hp' N' K' d q=>?_⟩;simp only[iI];rw[d _ _ r];exact⟨l,p,g,B,C,q⟩;exact h.elim;obtain⟨l,p,g,B,C,h⟩:=h;exact⟨_,h,fun hp' N' K' d q=>⟨l,p,g,B,C,q⟩⟩;split at h;rename_i b r;obtain⟨l,p,g,B,C,J,h⟩:=h;refine⟨_,h,fun hp' N' K' d q=>?_⟩;simp only[iI];rw[d _ _ r];exact⟨l,p,g,B,C,J,q⟩;exact h.elim;obtain⟨l,p,g,B,C,h⟩:=h;exact⟨_,h,fun hp' N' K' d q=>⟨l,p,g,B,C,q⟩⟩;obtain⟨l,p,g,h⟩:=h;exact⟨_,h,fun hp' N' K' d q=>⟨l,p,g,q⟩⟩;exact h.elim
 | call cl =>
  simp only[bS]at h⊢;cases hc:cl.callee with
  | builtin b =>
   simp only[hc]at h;generalize cl.args.toList=as at h;generalize cl.argTypes.toList=ts at h;cases b with
   | len =>
    simp only
    match as,ts,h with
    | [x],[t],h =>
     simp only[yG]at h⊢;split at h;exact⟨_,h,fun hp' N' K' d q=>q⟩;exact⟨_,h,fun hp' N' K' d q=>q⟩;split at h;exact⟨_,h,fun hp' N' K' d q=>q⟩;exact h.elim;exact h.elim
   |_=>simp[aZ,hc]at F
  |_=>simp[aZ,hc]at F
 |_=>simp[aZ]at F
def JZ:Op→Bool
 | .move _=>true
 | .assign _=>true
 | .binOp op _ _ _ _=>match op with
  | .eql=>false
  | .neq=>false
  |_=>true
 |_=>false
theorem Rb{hp0:Hp}{fr:Fr}{b:Op}{v:AV}(d:JZ b=true)(g:mQ P fr hp0 b v)(hp':Hp)(N':Nat)(K':AV→Hp→Prop)(q:K' v hp'):bS P fr hp' N' b K':=by
 have h:=g hp0 0 (fun r _=>r=v) (fun _ _ h=>h) rfl;cases b with
 |move x=>simp only[bS]at h⊢;rw[h];exact q
 |assign x=>simp only[bS]at h⊢;rw[h];exact q
 |binOp b t x y t' =>
  simp only[bS]at h⊢;obtain⟨j,f,e⟩:=y9 (.inr (by cases b<;>simp[JZ]at d⊢)) h;subst f;exact e hp' K' q
 |_=>simp[JZ]at d
end
end Go.Am
namespace Go.Am
def cq(ops:Array Oper)(j:Nat):Option Tmp:=(ops[j]?).bind (·.dst)
def ik(ops:Array Oper)(j:Nat):List Tmp:=match ops[j]? with
 |some o=>o.looksAt ops
 |none=>[]
inductive Waits(ops:Array Oper):Nat→Nat→Prop
 |edge {j:Nat} {o:Oper} {e:Edge} (ho:ops[j]?=some o) (he:e∈o.after) (hb:Region.binds .any e=true):Waits ops j e.on
 |step {j i:Nat} {o:Oper} {e:Edge} (ho:ops[j]?=some o) (he:e∈o.after) (hb:Region.binds .any e=true) (h:Waits ops e.on i):Waits ops j i
def H4(b:List Nat):List Edge→Nat→Nat
 |[],acc=>acc
 |e::r,acc=>H4 b r (if Region.binds .any e=true then acc ||| 2 ^ e.on ||| b.getD e.on 0 else acc)
def MC:List Oper→List Nat→List Nat
 |[],ms=>ms
 |o::r,ms=>MC r (ms++[H4 ms o.after.toList 0])
def wt(b:List Nat)(j i:Nat):Bool:=(b.getD j 0).testBit i
theorem zf(f:List Nat)(i:Nat):∀(l:List Edge)(d:Nat),(H4 f l d).testBit i=true→d.testBit i=true∨∃e,e∈l∧Region.binds .any e=true∧(e.on=i∨wt f e.on i=true)
 |[],d,h=>.inl h
 | e :: r,d,h=>by
  rcases zf f i r _ h with b|⟨m,b,j,k⟩;split at b;rename_i g;rw[Nat.testBit_or,Nat.testBit_or,Bool.or_eq_true,Bool.or_eq_true]at b;rcases b with (b|b)|b;exact .inl b;rw[Nat.testBit_two_pow]at b;exact .inr ⟨e,d7 ..,g,.inl (by simpa using b)⟩;exact .inr ⟨e,d7 ..,g,.inr b⟩;exact .inl b;exact .inr ⟨m,cU _ b,j,k⟩
theorem Dk{ops:Array Oper}:∀(l:List Oper)(b:List Nat),(∀k o,l[k]?=some o→ops[b.length+k]?=some o)→(∀j i,wt b j i=true→Waits ops j i)→∀j i,wt (MC l b) j i=true→Waits ops j i
 |[],b,_,h,j,i,d=>h j i d
 | o :: r,b,ho,h,j,i,d=>by
  refine Dk r (b++[H4 b o.after.toList 0]) (fun k t s=>?_) (fun j i d=>?_) j i d;have:=ho (k+1) t (by simpa using s);rw[b_,List.length_singleton,show b.length+1+k=b.length+(k+1)by omega];exact this;unfold wt at d;rcases Nat.lt_trichotomy j b.length with m|m|m;rw[cS,List.getElem?_append_left m,←cS]at d;exact h j i d;subst m;rw[cS,dz (cR _),Nat.sub_self,List.getElem?_cons_zero,Option.getD_some]at d;have f:ops[b.length]?=some o:=by simpa using ho 0 o rfl
  rcases zf b i _ _ d with g|⟨e,g,q,p⟩;simp at g;rw[Array.mem_toList_iff]at g;rcases p with rfl|p;exact .edge f g q;exact .step f g q (h _ _ p);rw[cS,List.getElem?_eq_none (by simp;omega)]at d;simp at d
def Wt(ops:Array Oper):List Nat:=MC ops.toList []
theorem lj{ops:Array Oper}{j i:Nat}(h:wt (Wt ops) j i=true):Waits ops j i :=
 Dk ops.toList [] (fun k o b=>by simpa using b) (fun j i h=>by simp[wt]at h) j i h
def AM(d:List Nat):List Nat→Bool
 |a::b::r=>wt d b a&&AM d (b::r)
 |_=>true
def tO(ops:Array Oper):List Nat→Prop
 |a::b::r=>Waits ops b a∧tO ops (b::r)
 |_=>True
def gW(ops:Array Oper):List Nat→Bool
 |[]=>true
 | z :: r=>(z :: r).all (fun y=>match cq ops y with
   |some d=>!(ik ops z).contains d
   |none=>true)&&gW ops r
def eH:List Nat→Bool
 |[]=>true
 |a::r=>!r.contains a&&eH r
abbrev kM:=List (Nat×List Nat)
def gk:kM→List Nat
 |[]=>[]
 |s::r=>s.1::gk r
def se:kM→List Nat
 |[]=>[]
 |s::r=>s.2++se r
def wL:kM→List Nat
 |[]=>[]
 |s::r=>s.1::(s.2++wL r)
def Re(ops:Array Oper)(b:List Nat):List Nat→kM→Bool
 |_,[]=>true
 | zv,s :: r=>(match cq ops s.1 with
   |some d=>zv.all fun z=>!(ik ops z).contains d||wt b s.1 z
   |none=>true)&&(s.2.all fun z=>wt b z s.1)&&Re ops b (zv++s.2) r
def MD(ops:Array Oper):List Nat→kM→Prop
 |_,[]=>True
 |zv,s::r=>(∀d,cq ops s.1=some d→∀z,z∈zv→d∈ik ops z→Waits ops s.1 z)∧(∀z,z∈s.2→Waits ops z s.1)∧MD ops (zv++s.2) r
theorem ME{ops:Array Oper}:∀{zv:List Nat}{e:kM},Re ops (Wt ops) zv e=true→MD ops zv e
 |_,[],_=>trivial
 |zv,s::r,h=>by
  simp only[Re,Bool.and_eq_true]at h;obtain⟨⟨f,g⟩,j⟩:=h;refine⟨fun d l z b k=>?_,fun z b=>lj (d9.1 g z b),ME j⟩;simp only[l]at f;have:=d9.1 f z b;simp only[k,List.contains_eq_mem,decide_true,Bool.not_true,Bool.false_or]at this;exact lj this
theorem Dl{ops:Array Oper}:∀{l:List Nat},AM (Wt ops) l=true→tO ops l
 |[],_=>trivial
 |[_],_=>trivial
 |a::b::r,h=>by
  simp only[AM,Bool.and_eq_true]at h;exact⟨lj h.1,Dl h.2⟩
def ZX(n:Nat)(ops:Array Oper)(f:List Nat)(g:List Nat)(h:kM)(m:Nat)(b is:List Nat):Bool :=
 (List.range ops.size).all (fun j=>(b.contains j||is.contains j)&&!(b.contains j&&is.contains j)) &&
 is.all (fun j=>decide (j<ops.size))&&b.all (fun j=>decide (j<ops.size))&&eH is&&eH b &&
 (List.range ops.size).all (fun i=>match cq ops i with
  |some d=>decide (d<n)&&(List.range ops.size).all fun j=>j==i||cq ops j != some d
  |none=>true) &&
 b.all (fun z=>match cq ops z with
  |some d=>(List.range ops.size).all fun j=>!(ik ops j).contains d||wt f j z
  |none=>true) &&
 Re ops f g h &&
 AM f is&&gW ops b &&
 (is.drop m).all (fun i=>b.all fun z=>wt f i z) &&
 (List.range ops.size).all (fun j=>match ops[j]? with
  |some o=>o.after.all fun e=>!Region.binds .any e||decide (e.on<j)
  |none=>true)
def F2(n:Nat)(ops:Array Oper)(d:List Nat)(b:kM)(m:Nat):Bool:=ZX n ops (Wt ops) d b m (d++se b) (gk b)
section
variable (P:Program) (n:Nat) (ops:Array Oper) (base:Nat) (hp0:Hp) (K:Fr→Hp→Prop)
def dI(hp':Hp):Prop:=∀p,p∈hp0→lk p.1 hp'=lk p.1 hp0
def Vu(fr:Fr)(N:Nat)(b:Op)(next:AV→Prop):Prop :=
 if aZ P b=true then bS P fr hp0 N b (fun v _=>next v)else ∃v,mQ P fr hp0 b v∧next v
def zW (C:Fr→Prop):List Nat→Fr→Prop
 |[],fr=>C fr
 | z :: r,fr=>match ops[z]? with
  | some o=>(match o.guard with
   |none=>Vu P hp0 fr base o.op fun v=>zW C r (bp fr o.dst v)
   | some (g,want)=>(match (ops[g]?).bind (·.dst) with
    |some d=>(match fv d fr with
     | .d (.bool b)=>(b=want→Vu P hp0 fr base o.op fun v=>zW C r (bp fr o.dst v))∧(b=!want→zW C r (bp fr o.dst (.tup [])))
     | .tup []=>zW C r (bp fr o.dst (.tup []))
     |_=>False)
    |none=>False))
  |none=>False
def FG:kM→Nat→Fr→Hp→Prop
 |[],_,fr,hp=>K fr hp
 | s :: r,m,fr,hp=>match ops[s.1]? with
  | some o=>(match o.guard with
   |none=>bS P fr hp (base+32*s.1) o.op fun v hp'=>(m≠0→dI hp0 hp')∧zW P ops base hp0 (fun fr=>FG r (m-1) fr hp') s.2 (bp fr o.dst v)
   | some (g,want)=>(match (ops[g]?).bind (·.dst) with
    |some d=>(match fv d fr with
     | .d (.bool b)=>(b=want→bS P fr hp (base+32*s.1) o.op fun v hp'=>(m ≠ 0→dI hp0 hp')∧zW P ops base hp0 (fun fr=>FG r (m - 1) fr hp') s.2 (bp fr o.dst v)) ∧
       (b=!want→zW P ops base hp0 (fun fr=>FG r (m-1) fr hp) s.2 (bp fr o.dst (.tup [])))
     | .tup []=>zW P ops base hp0 (fun fr=>FG r (m-1) fr hp) s.2 (bp fr o.dst (.tup []))
     |_=>False)
    |none=>False))
  |none=>False
def MF(fr:Fr)(v:AV)(o:Oper):Prop :=
 match o.guard with
 |none=>mQ P fr hp0 o.op v
 |some (g,want)=>∃d,(ops[g]?).bind (·.dst)=some d∧((∃b,fv d fr=.d (.bool b)∧(b=want→mQ P fr hp0 o.op v)∧(b=!want→v=.tup []))∨(fv d fr=.tup []∧v=.tup []))
def MG(z:Nat)(fr:Fr):Prop:=∃v o,ops[z]?=some o∧(∀d,o.dst=some d→fv d fr=v)∧MF P ops hp0 fr v o
end
section
variable {P:Program} {c:Ctx} {ops:Array Oper} {base:Nat} {hp0:Hp} {K:Fr→Hp→Prop} {fr fr':Fr}
theorem wM{o:Oper}(h:∀t,t∈o.looksAt ops→fv t fr=fv t fr'):∀x,x∈o.op.operands→ev fr x=ev fr' x:=by
 intro x b;cases x with
 |tmp t =>
  refine h t ?_;unfold Oper.looksAt;rw[cL];left;rw[List.mem_filterMap];exact⟨.tmp t,by simpa using b,rfl⟩
 |_=>rfl
theorem kh{o:Oper}{g:Nat}{b:Bool}{d:Tmp}(e:o.guard=some (g,b))(f:(ops[g]?).bind (·.dst)=some d):d∈o.looksAt ops:=by
 unfold Oper.looksAt;rw[cL];right;simp[e,f]
theorem lY{o:Oper}{v:AV}(h:∀t,t∈o.looksAt ops→fv t fr=fv t fr')(e:mQ P fr hp0 o.op v):mQ P fr' hp0 o.op v:=by
 intro hp' N' K' d b;rw[←tN (wM h)];exact e hp' N' K' d b
theorem tP{o:Oper}{v:AV}(h:∀t,t∈o.looksAt ops→fv t fr=fv t fr')(hz:MF P ops hp0 fr v o):MF P ops hp0 fr' v o:=by
 unfold MF at hz⊢;split at hz;exact lY h hz;rename_i g l p;obtain⟨d,k,hz⟩:=hz;have e:=h d (kh p k);rcases hz with ⟨b,f,j,m⟩|⟨f,j⟩;exact⟨d,k,.inl ⟨b,by rw[←e];exact f,fun q=>lY h (j q),m⟩⟩;exact⟨d,k,.inr ⟨by rw[←e];exact f,j⟩⟩
theorem mE{b:Option Tmp}{v:AV}{t:Nat}(h:b≠some t):fv t (bp fr b v)=fv t fr:=by
 cases b with
 |none=>rfl
 |some d =>
  simp only[bp,jR];rw[if_neg (fun e=>h (by rw[e]))]
theorem ki{d:Tmp}{v:AV}:fv d (bp fr (some d) v)=v:=by simp[bp,jR]
theorem oN{C:Fr→Prop}(hu:∀i j d,cq ops i=some d→cq ops j=some d→i=j):∀(zs:List Nat)(fr:Fr),gW ops zs=true→eH zs=true→zW P ops base hp0 C zs fr →
  ∃frZ,C frZ∧(∀t,(∀z,z∈zs→cq ops z≠some t)→fv t frZ=fv t fr)∧∀z,z∈zs→MG P ops hp0 z frZ
 |[],fr,_,_,h=>⟨fr,h,fun _ _=>rfl,aw⟩
 | z :: r,fr,ho,hn,h=>by
  simp only[gW,Bool.and_eq_true]at ho;simp only[eH,Bool.and_eq_true]at hn;obtain⟨ho1,ho2⟩:=ho;simp only[zW]at h;cases hz:ops[z]? with
  |none=>rw[hz]at h;exact h.elim
  | some o =>
   rw[hz]at h;simp only at h;have hdz:cq ops z=o.dst:=by simp[cq,hz]
   have hlz:ik ops z=o.looksAt ops:=by simp[ik,hz]
   -- what is read is put by none of these
   have hno:∀y,y∈z::r→∀t,t∈o.looksAt ops→cq ops y≠some t:=by
    intro y hy t ht he;have:=d9.1 ho1 y hy;simp only[he,hlz,Bool.not_eq_true',List.contains_eq_mem,decide_eq_false_iff_not]at this;exact this ht
   -- from one value
   have go:∀v,MF P ops hp0 fr v o→zW P ops base hp0 C r (bp fr o.dst v)→∃frZ,C frZ∧(∀t,(∀y,y∈z::r→cq ops y≠some t)→fv t frZ=fv t fr)∧∀y,y∈z::r→MG P ops hp0 y frZ:=by
    intro v hv hrest;obtain⟨frZ,h1,h2,h3⟩:=oN hu r _ ho2 hn.2 hrest;refine⟨frZ,h1,fun t ht=>?_,fun y hy=>?_⟩;rw[h2 t fun y hy=>ht y (cU _ hy)];exact mE (by rw[←hdz];exact ht z (d7 ..));rcases et.1 hy with rfl|hy;refine⟨v,o,hz,fun d hd=>?_,tP (fun t ht=>?_) hv⟩;rw[h2 d fun y' hy' he=>?_];rw[hd];exact ki;have:=hu y' y d he (by rw[hdz];exact hd);subst this;have hn1:=hn.1;simp only[Bool.not_eq_true',List.contains_eq_mem,decide_eq_false_iff_not]at hn1;exact hn1 hy';rw[h2 t fun y' hy'=>hno y' (cU _ hy') t ht,mE];rw[←hdz];exact hno _ (d7 ..) t ht;exact h3 y hy
   have one:∀next:AV→Prop,Vu P hp0 fr base o.op next→∃v,mQ P fr hp0 o.op v∧next v:=by
    intro next hq;unfold Vu at hq
    split at hq;rename_i hk;obtain⟨v,q1,q2⟩:=JY hk hq;exact⟨v,q2,q1⟩;exact hq
   split at h;rename_i hg;obtain⟨v,q1,q2⟩:=one _ h;exact go v (by unfold MF;rw[hg];exact q1) q2;rename_i g want hg;split at h;rename_i d hd;split at h;rename_i b hb;by_cases hbw:b=want;obtain⟨v,q1,q2⟩:=one _ (h.1 hbw);exact go v (by unfold MF;rw[hg];exact⟨d,hd,.inl ⟨b,hb,fun _=>q1,fun h'=>by rw[hbw]at h';cases want<;>cases h'⟩⟩) q2
   have hbn:b=!want:=by cases b<;>cases want<;>simp_all
   exact go (.tup []) (by unfold MF;rw[hg];exact⟨d,hd,.inl ⟨b,hb,fun h'=>absurd h' hbw,fun _=>rfl⟩⟩) (h.2 hbn);rename_i hb;exact go (.tup []) (by unfold MF;rw[hg];exact⟨d,hd,.inr ⟨hb,rfl⟩⟩) h;exact h.elim;exact h.elim
theorem F3(fr:Fr):∀l:List Tmp,∃b:Fr,(∀t,t∈l→fv t b=.any)∧∀t,t ∉ l→fv t b=fv t fr
 |[]=>⟨fr,aw,fun _ _=>rfl⟩
 | d :: l=>by
  obtain⟨b,j,k⟩:=F3 fr l;refine⟨(d,.any)::b,fun t f=>?_,fun t f=>?_⟩;rw[jR];split;rfl;rename_i g;rcases et.1 f with rfl|h;exact absurd rfl g;exact j t h;rw[jR,if_neg (fun e=>f (by rw[←e];exact d7 ..))];exact k t fun h=>f (cU _ h)
def Rf(d:Array Bool):Nat:=(d.toList.filter fun b=>!b).length
theorem vF{d:Array Bool}{i:Nat}(h:d.getD i true=false):Rf (d.setIfInBounds i true)+1=Rf d:=by
 unfold Rf;rw[Array.toList_setIfInBounds];have e:d.toList[i]?=some false:=by
  cases f:d[i]? with
  |none=>simp[f]at h
  |some b=>simp[f]at h;subst h;simpa using f
 clear h;generalize d.toList=l at e
 induction l generalizing i with
 |nil=>simp at e
 | cons b r ih =>
  cases i with
  |zero=>simp at e;subst e;simp
  |succ i =>
   simp only[List.getElem?_cons_succ]at e;have:=ih e;simp only[List.set_cons_succ,List.filter_cons];split<;>simp_all<;>omega
structure RInv(P:Program)(c:Ctx)(ops:Array Oper)(base:Nat)(hp0:Hp)(za zs rest:List Nat)(listed:Array Bool)(fr:Fr)(hp:Hp)(a:Act)(w:World):Prop where
 size:listed.size=ops.size
 closed:∀j o,ops[j]?=some o→listed.getD j false=true→∀e,e∈o.after→Region.binds .any e=true→listed.getD e.on false=true
 un:∀j,j∈rest→listed.getD j true=false
 done:∀j,j<ops.size→j ∉ zs→j ∉ rest→listed.getD j false=true
 def_:a.defers=[]
 tmps:a.tmps.size=c.n
 sim:∃U σ,Rel c hp U σ w∧C5 c hp U σ w∧(∀k,U k→k<base∨∃j,base+32*j≤k∧k<base+32*j+32∧listed.getD j false=true) ∧
  ∀t,(∀z,z∈zs→listed.getD z true=false→cq ops z≠some t)→AIs w (bQ c w σ hp) σ hp U (fv t fr) (a.tmps.getD t undef)
 facts:∀z,z∈zs→listed.getD z true=false→MG P ops hp0 z fr
 sa:uJ hp0 hp∨∀z,z∈za→listed.getD z true=true
theorem nD{b:Array Bool}(hc:∀j o,ops[j]?=some o→b.getD j false=true→∀e,e∈o.after→Region.binds .any e=true→b.getD e.on false=true){j i:Nat}(g:Waits ops j i) :
  (∀o,ops[j]?=some o→∀e,e∈o.after→Region.binds .any e=true→b.getD e.on false=true)→b.getD i false=true:=by
 induction g with
 |edge ho he hb=>intro h;exact h _ ho _ he hb
 |step ho he hb _ ih=>intro h;exact ih fun f d=>hc _ f d (h _ ho _ he hb)
theorem kN{d:Array Bool}{i:Nat}(h:d.getD i false=true):d.getD i true=true:=by
 simp only[ct]at h⊢;cases e:d[i]? with
 |none=>rfl
 |some b=>rw[e]at h;simpa using h
theorem jT{b:Array Bool}{i:Nat}(hi:i<b.size)(h:b.getD i false=false):b.getD i true=false:=by
 simp only[ct]at h⊢;rw[dn hi]at h⊢;simpa using h
theorem aK{b:Array Bool}{i j:Nat}(d:Bool)(hi:i<b.size):(b.setIfInBounds i true).getD j d=if i=j then true else b.getD j d:=by
 simp only[ct,Array.getElem?_setIfInBounds];split;rename_i h;subst h;simp;rfl
theorem wO:∀(l:List Nat)(j:Nat),tO ops (j::l)→∀i,i∈l→∃p,p∈j::l∧Waits ops i p
 |[],_,_,_,h=>by simp at h
 |b::r,j,hc,i,hi=>by
  rcases et.1 hi with rfl|h;exact⟨j,d7 ..,hc.1⟩;obtain⟨p,d,e⟩:=wO r b hc.2 i h;exact⟨p,cU _ d,e⟩
theorem qS:∀{b:kM}{i:Nat},i∈gk b→i∈wL b
 |s::r,i,h=>by
  rcases et.1 h with rfl|h;exact d7 ..;exact cU _ (cL.2 (.inr (qS h)))
theorem zg:∀{b:kM}{i:Nat},i∈se b→i∈wL b
 |s::r,i,h=>by
  rcases cL.1 h with h|h;exact cU _ (cL.2 (.inl h));exact cU _ (cL.2 (.inr (zg h)))
theorem sf:∀{b:kM}{i:Nat},i∈wL b→i∈gk b∨i∈se b
 | s :: r,i,h=>by
  rcases et.1 h with rfl|h;exact .inl (d7 ..);rcases cL.1 h with h|h;exact .inr (cL.2 (.inl h));rcases sf h with h|h;exact .inl (cU _ h);exact .inr (cL.2 (.inr h))
theorem Dm:∀{zv:List Nat}{b:kM}{i:Nat},MD ops zv b→i∈se b→∃p,p∈gk b∧Waits ops i p
 |zv,s::r,i,h,hi=>by
  rcases cL.1 hi with d|d;exact⟨s.1,d7 ..,h.2.1 i d⟩;obtain⟨p,e,f⟩:=Dm h.2.2 d;exact⟨p,cU _ e,f⟩
theorem ll:∀{a b:List Nat},gW ops (a++b)=true→gW ops a=true∧gW ops b=true∧∀z,z∈a→∀y,y∈b→∀t,t∈ik ops z→cq ops y≠some t
 |[],b,h=>⟨rfl,h,aw⟩
 | z :: r,b,h=>by
  simp only[List.cons_append,gW,Bool.and_eq_true]at h;obtain⟨j,l⟩:=h;obtain⟨k,k2,k3⟩:=ll l;refine⟨?_,k2,fun x e y d t g f=>?_⟩;simp only[gW,Bool.and_eq_true];refine⟨d9.2 fun y d=>d9.1 j y ?_,k⟩;rcases et.1 d with rfl|h;exact d7 ..;exact cU _ (cL.2 (.inl h));rcases et.1 e with rfl|e;have:=d9.1 j y (cU _ (cL.2 (.inr d)));simp only[f,Bool.not_eq_true',List.contains_eq_mem,decide_eq_false_iff_not]at this;exact this g;exact k3 x e y d t g f
theorem jK:∀{a b:List Nat},eH (a++b)=true→eH a=true∧eH b=true∧∀z,z∈a→z ∉ b
 |[],b,h=>⟨rfl,h,aw⟩
 |z::r,b,h=>by
  simp only[List.cons_append,eH,Bool.and_eq_true,Bool.not_eq_true',List.contains_eq_mem,decide_eq_false_iff_not,cL,not_or]at h;obtain⟨⟨j,d⟩,g⟩:=h;obtain⟨f,k2,k3⟩:=jK g;refine⟨by simp[eH,j,f],k2,fun x e=>?_⟩;rcases et.1 e with rfl|e;exact d;exact k3 x e
theorem Dn{hp':Hp}(h:dI hp0 hp'):uJ hp0 hp':=by
 intro id b f;have d:∀{l:Hp},lk id l=some b→(id,b)∈l:=by
  intro l
  induction l with
  |nil=>intro h;cases h
  |cons p t ih =>
   intro h;obtain⟨m,u⟩:=p;simp only[lk]at h;split at h;rename_i e;injection h with h;subst e;subst h;exact d7 ..;exact cU _ (ih h)
 have:=h _ (d f);simp only at this;rw[this,f]
structure RegOk(n:Nat)(ops:Array Oper)(za is:List Nat):Prop where
 part:∀j,j<ops.size→(j∈za∨j∈is)∧¬(j∈za∧j∈is)
 inb:∀j,j∈is→j<ops.size
 lt:∀i d,cq ops i=some d→d<n
 uniq:∀i j d,cq ops i=some d→cq ops j=some d→i=j
 zdst:∀z,z∈za→∀d,cq ops z=some d→∀j,d∈ik ops j→Waits ops j z
 low:∀j o,ops[j]?=some o→∀e,e∈o.after→Region.binds .any e=true→e.on<j
structure RegMore(ops:Array Oper)(zs:List Nat)(ss:kM)(m:Nat)(za is:List Nat):Prop where
 nis:eH is=true
 nza:eH za=true
 seg:MD ops zs ss
 chain:tO ops is
 order:gW ops za=true
 tail:∀i,i∈is.drop m→∀z,z∈za→Waits ops i z
 inz:∀z,z∈za→z<ops.size
theorem Rh{n:Nat}{p:List Nat}{g:kM}{m:Nat}(h:F2 n ops p g m=true):RegOk n ops (p++se g) (gk g)∧RegMore ops p g m (p++se g) (gk g):=by
 unfold F2 at h;generalize p++se g=za at h;generalize gk g=is at h;simp only[ZX,Bool.and_eq_true]at h;obtain⟨⟨⟨⟨⟨⟨⟨⟨⟨⟨⟨x,C⟩,s⟩,y⟩,r⟩,t⟩,E⟩,H⟩,I⟩,B⟩,G⟩,q⟩:=h;have inr:∀{i d},cq ops i=some d→i∈List.range ops.size:=by
  intro i d b;rw[List.mem_range];rcases Nat.lt_or_ge i ops.size with h|h;exact h;simp[cq,Array.getElem?_eq_none h]at b
 refine⟨⟨fun j f=>?_,fun j f=>?_,fun i d b=>?_,fun i j d b f=>?_,fun z l d D j f=>?_,fun j o u e A v=>?_⟩,⟨y,r,ME H,Dl I,B,fun i b z l=>?_,fun z l=>by simpa using d9.1 s z l⟩⟩
 have:=d9.1 x j (List.mem_range.2 f);simp at this;exact⟨this.1,fun h=>by rcases this.2 with F|F<;>simp_all⟩
 simpa using d9.1 C j f;have:=d9.1 t i (inr b);simp only[b,Bool.and_eq_true,decide_eq_true_eq]at this;exact this.1;have:=d9.1 t i (inr b);simp only[b,Bool.and_eq_true]at this;have:=d9.1 this.2 j (inr f);simp only[f,bne_self_eq_false,Bool.or_false,beq_iff_eq]at this;exact this.symm;have:=d9.1 E z l;simp only[D]at this;have k:j∈List.range ops.size:=by
  rw[List.mem_range];rcases Nat.lt_or_ge j ops.size with h|h;exact h;simp[ik,Array.getElem?_eq_none h]at f
 have:=d9.1 this j k;simp only[f,List.contains_eq_mem,decide_true,Bool.not_true,Bool.false_or]at this;exact lj this;have k:j∈List.range ops.size:=by
  rw[List.mem_range];exact(Array.getElem?_eq_some_iff.1 u).1
 have:=d9.1 q j k;simp only[u]at this;have:=Array.all_eq_true_iff_forall_mem.1 this e A;simpa[v]using this;have:=d9.1 G i b;exact lj (d9.1 this z l)
theorem lZ{e:Fr}{hp:Hp}{U:Nat→Prop}{N:Nat}{σ:Nat→Option Nat}{a:Act}{w:World}{b:Option Tmp}(l:a.defers=[])(k:a.tmps.size=c.n)(g:Rel c hp U σ w)(f:C5 c hp U σ w)
  (j:∀t,AIs w (bQ c w σ hp) σ hp U (fv t e) (a.tmps.getD t undef)):ox c (bp e b (.tup [])) hp (eG U N) (a.put b undef) w:=by
 cases b with
 |none=>exact⟨l,k,σ,g.more,fun n=>(j n).step Step.more,f.trans Step.more⟩
 | some d =>
  refine⟨l,by simp[Act.put,k],σ,g.more,fun n=>?_,f.trans Step.more⟩;simp only[bp,Act.put,jR];by_cases h:d=n;subst h;have m:(a.tmps.setIfInBounds d undef).getD d undef=.tuple #[]:=by
   simp only[ct,Array.getElem?_setIfInBounds,if_true];split<;>rfl
  rw[m];simp only[if_true];exact .tup [] #[] rfl aw;simp only[if_neg h];have:(a.tmps.setIfInBounds d undef).getD n undef=a.tmps.getD n undef:=by
   simp only[ct,Array.getElem?_setIfInBounds,if_neg h]
  rw[this];exact(j n).step Step.more
/-- Every order. -/
theorem Wu {za is:List Nat} {Q:Exit→Act→World→Prop} (hB:RegOk c.n ops za is)
  (hQ:∀fr hp a w U,K fr hp→(∀k,U k→k<base+32*ops.size)→ox c fr hp U a w→Q .normal a w) :
  ∀(fuel:Nat)(listed:Array Bool)(zs:List Nat)(rest:kM)(m:Nat)(fr:Fr)(hp:Hp)(a:Act)(w:World),Rf listed≤fuel→(∀i,i∈(gk rest).drop m→∀z,z∈za→Waits ops i z)→tO ops (gk rest)→eH (gk rest)=true→(∀i,i∈gk rest→i∈is) →
   MD ops zs rest→gW ops (zs++se rest)=true→eH (zs++se rest)=true→(∀z,z∈zs++se rest→z∈za) →
   RInv P c ops base hp0 za zs (wL rest) listed fr hp a w→FG P ops base hp0 K rest m fr hp→wpAny P .any ops Q fuel listed a w:=by
 have notboth:∀{listed:Array Bool}{i:Nat},listed.getD i true=false→listed.getD i false=true→False:=by
  intro listed i h1 h2;rw[kN h2]at h1;cases h1
 -- where nothing is left
 have uO:∀ (listed:Array Bool) (zs:List Nat) (rest:kM) (m:Nat) (fr:Fr) (hp:Hp) (a:Act) (w:World),(∀ i,i ∈ gk rest→i ∈ is)→RInv P c ops base hp0 za zs (wL rest) listed fr hp a w→FG P ops base hp0 K rest m fr hp→Region.ready .any ops listed=[]→Q .normal a w:=by
  intro listed zs rest m fr hp a w hsub hI hW hr0;have all:∀k j,j≤k→j<ops.size→listed.getD j false=true:=by
   intro k
   induction k with
   | zero =>
    intro j hj hjs;cases hl:listed.getD j false with
    |true=>rfl
    | false =>
     have hmem:j∈Region.ready .any ops listed:=mem_ready.2 ⟨jT (by rw[hI.size];exact hjs) hl,ops[j],dn hjs,fun e he hb=>by
      have:=hB.low j _ (dn hjs) e he hb
      omega⟩
     rw[hr0]at hmem;simp at hmem
   | succ k ih =>
    intro j hj hjs;cases hl:listed.getD j false with
    |true=>rfl
    | false =>
     have hmem:j∈Region.ready .any ops listed:=mem_ready.2 ⟨jT (by rw[hI.size];exact hjs) hl,ops[j],dn hjs,fun e he hb=>by
      have:=hB.low j _ (dn hjs) e he hb
      exact ih e.on aq aq⟩
     rw[hr0]at hmem;simp at hmem
  have hnil:rest=[]:=by
   cases rest with
   |nil=>rfl
   |cons j r =>
    have h1:=hI.un j.1 (d7 ..);exact(notboth h1 (all j.1 j.1 (cR _) (hB.inb j.1 (hsub j.1 (d7 ..))))).elim
  subst hnil;simp only[FG]at hW;obtain⟨U,σ,hr,hh,hU,hf⟩:=hI.sim;refine hQ fr hp a w U hW (fun k hk=>?_) ⟨hI.def_,hI.tmps,σ,hr,fun t=>hf t fun z hz hun=>?_,hh⟩;rcases hU k hk with h|⟨j,hj1,hj2,hj⟩;omega;have:j<listed.size:=by
   rcases Nat.lt_or_ge j listed.size with h|h;exact h;simp[Array.getElem?_eq_none h]at hj
  have:=hI.size;omega;intro he;have:z<ops.size:=by
   rcases Nat.lt_or_ge z ops.size with h|h;exact h;simp[cq,Array.getElem?_eq_none h]at he
  exact notboth hun (all z z (cR _) this)
 intro fuel
 induction fuel with
 | zero =>
  intro listed zs rest m fr hp a w hf ht hc hn hsub hsg hord hnz hza hI hW;have hr0:Region.ready .any ops listed=[]:=by
   rw[List.eq_nil_iff_forall_not_mem];intro i hi;have:=vF (mem_ready.1 hi).1;omega
  exact⟨hr0,uO listed zs rest m fr hp a w hsub hI hW hr0⟩
 | succ fuel ih =>
  intro listed zs rest m fr hp a w hfuel ht hc hn hsub hsg hord hnz hza hI hW;refine⟨uO listed zs rest m fr hp a w hsub hI hW,fun i hi=>?_⟩;obtain⟨hun,o,ho,haft⟩:=mem_ready.1 hi;have his:i<ops.size:=(Array.getElem?_eq_some_iff.1 ho).1;have hil:i<listed.size:=by rw[hI.size];exact his
  have hdi:cq ops i=o.dst:=by simp[cq,ho]
  have hli:ik ops i=o.looksAt ops:=by simp[ik,ho]
  have hwl:∀z,Waits ops i z→listed.getD z false=true:=fun z hz=>nD hI.closed hz fun o' ho'=>by
   rw[ho]at ho';injection ho' with ho';subst ho';exact haft
  have hzza:∀z,z∈zs→z∈za:=fun z hz=>hza z (cL.2 (.inl hz));have hdst:gQ c.n o.dst:=by
   unfold gQ;cases hd:o.dst with
   |none=>trivial
   |some d=>exact hB.lt i d (by rw[hdi,hd])
  have hun':∀z,(listed.setIfInBounds i true).getD z true=false→listed.getD z true=false∧z≠i:=by
   intro z hz;rw[aK true hil]at hz;split at hz;cases hz;rename_i hne;exact⟨hz,fun h=>hne h.symm⟩
  have hclosed':∀j o',ops[j]?=some o'→(listed.setIfInBounds i true).getD j false=true→∀e,e∈o'.after→Region.binds .any e=true→(listed.setIfInBounds i true).getD e.on false=true:=by
   intro j o' hj hl e he hb;rw[aK false hil]at hl⊢;split;rfl;split at hl;rename_i hij;subst hij;rw[ho]at hj;injection hj with hj;subst hj;exact haft e he hb;exact hI.closed j o' hj hl e he hb
  have hfuel':Rf (listed.setIfInBounds i true)≤fuel:=by
   have:=vF hun;omega
  obtain⟨U,σ,hr,hh,hU,hf⟩:=hI.sim;have hNU:Free U (base+32*i):=by
   intro k k1 k2 h;rcases hU _ h with h|⟨j,hj,hj2,hl⟩;omega;have:j=i:=aq;subst this;exact notboth hun hl
  have hU':∀k,eG U (base+32*i) k→k<base∨∃j,base+32*j≤k∧k<base+32*j+32∧(listed.setIfInBounds i true).getD j false=true:=by
   rintro k(h|h);rcases hU k h with h|⟨j,h1,h1',h2⟩;exact .inl h;exact .inr ⟨j,h1,h1',by rw[aK false hil];split<;>simp[h2]⟩;exact .inr ⟨i,h.1,h.2,by rw[aK false hil];simp⟩
  obtain⟨frm,hm1,hm2⟩:=F3 fr (zs.filterMap fun z=>if listed.getD z true=true then none else cq ops z);have hml:∀t,t∈(zs.filterMap fun z=>if listed.getD z true=true then none else cq ops z)↔∃z,z∈zs∧listed.getD z true=false∧cq ops z=some t:=by
   intro t;rw[List.mem_filterMap];constructor;rintro⟨z,hz,h⟩;split at h;cases h;rename_i hne;exact⟨z,hz,by simpa using hne,h⟩;rintro⟨z,hz,h1,h2⟩;exact⟨z,hz,by simp[h1,h2]⟩
  have hfm:∀t,AIs w (bQ c w σ hp) σ hp U (fv t frm) (a.tmps.getD t undef):=by
   intro t;by_cases hm:t∈(zs.filterMap fun z=>if listed.getD z true=true then none else cq ops z);rw[hm1 t hm];exact .any _;rw[hm2 t hm];exact hf t fun z hz hzu he=>hm ((hml t).2 ⟨z,hz,hzu,he⟩)
  have hlook:∀t,t∈o.looksAt ops→fv t frm=fv t fr:=by
   intro t ht';refine hm2 t fun hm=>?_;obtain⟨z,hz,hzu,he⟩:=(hml t).1 hm;exact notboth hzu (hwl z (hB.zdst z (hzza z hz) t he i (by rw[hli];exact ht')))
  have hlook':∀t,t∈o.looksAt ops→fv t fr=fv t frm:=fun t ht'=>(hlook t ht').symm;have hgu:∀{g want d},o.guard=some (g,want)→(ops[g]?).bind (·.dst)=some d→fv d fr=.tup []→¬(yielded ops a.tmps g=some want):=by
   intro g want d hg hd hb;have hx:=hfm d;rw[hlook d (kh hg hd),hb]at hx;unfold yielded;rw[hd];cases ht:a.tmps[d]? with
   |none=>simp[ht]
   |some u =>
    have e:a.tmps.getD d undef=u:=(by simp[ht]);rw[e]at hx;cases hx with
    |tup _ xs _ _=>simp[ht]
  have hgv:∀{g want d b},o.guard=some (g,want)→(ops[g]?).bind (·.dst)=some d→fv d fr=.d (.bool b)→yielded ops a.tmps g=some b:=by
   intro g want d b hg hd hb;have hx:=hfm d;rw[hlook d (kh hg hd),hb]at hx;have hv:=gG hx;unfold yielded;rw[hd];have hv':a.tmps[d]?.getD undef=.bool b:=by simpa using hv
   cases ht:a.tmps[d]? with
   |none=>rw[ht]at hv';cases hv'
   |some u=>rw[ht]at hv';simp at hv';subst hv';simp[ht]
  unfold wpOp;simp only[ho];by_cases hz:i∈zs
  ·
   have hag:uJ hp0 hp:=by
    rcases hI.sa with h|h;exact h;have:=h i (hzza i hz);rw[hun]at this;cases this
   have hirest:i ∉ wL rest:=fun h=>by
    rcases sf h with h|h;exact(hB.part i his).2 ⟨hzza i hz,hsub i h⟩;exact(jK hnz).2.2 i hz h
   obtain⟨v,o',ho',hdv,hzk⟩:=hI.facts i hz hun;rw[ho]at ho';injection ho' with ho';subst ho';have next:∀a' w',ox c (bp frm o.dst v) hp (eG U (base+32*i)) a' w'→wpAny P .any ops Q fuel (listed.setIfInBounds i true) a' w':=by
    rintro a' w'⟨q1,q2,σ',q3,q4,q5⟩;refine ih _ zs rest m fr hp a' w' hfuel' ht hc hn hsub hsg hord hnz hza ⟨by simp[hI.size],hclosed',fun j hj=>?_,fun j hj hjz hjr=>?_,q1,q2,⟨_,σ',q3,q5,hU',fun t htu=>?_⟩,fun z hz' hzu=>hI.facts z hz' (hun' z hzu).1,.inl hag⟩ hW;rw[aK true hil,if_neg (fun e=>hirest (by rw[e];exact hj))];exact hI.un j hj;rw[aK false hil];split;rfl;exact hI.done j hj hjz hjr;have:=q4 t;by_cases hd:o.dst=some t;rw[hd,ki]at this;rw[hdv t hd];exact this;rw[mE hd,hm2 t fun hm=>?_]at this;exact this;obtain⟨z,hz',hzu,he⟩:=(hml t).1 hm;refine htu z hz' ?_ he;rw[aK true hil,if_neg];exact hzu;intro e;subst e;exact hd (by rw[←hdi];exact he)
   have exec:mQ P fr hp0 o.op v→o.wp P a w (wpAny P .any ops Q fuel (listed.setIfInBounds i true)) Q:=by
    intro hs;have hop:=lY hlook' hs hp (base+32*i) (fun v' hp'=>v'=v∧hp'=hp) hag ⟨rfl,rfl⟩;have hok:=rZ (o:=o) hr (fun x=>yW hfm x) hNU hop;refine rR hI.def_ hI.tmps hdst hfm hh hok fun v' hp' a' w' hK hS=>?_;obtain⟨rfl,rfl⟩:=hK;exact next a' w' hS
   unfold MF at hzk;split at hzk;rename_i hg;rw[if_pos (by simp[Region.wanted,hg])];exact .inl (exec hzk)
   ·rename_i g want hg;obtain⟨d,hd,⟨b,hb,h1,h2⟩|⟨hb,hv⟩⟩:=hzk
    ·have hy:=hgv hg hd hb;by_cases hbw:b=want;rw[if_pos (by simp[Region.wanted,hg,hy,hbw])];exact .inl (exec (h1 hbw))
     ·rw[if_neg (by simp[Region.wanted,hg,hy,hbw])];have hv:=h2 (by cases b<;>cases want<;>simp_all)
      subst hv;exact next _ _ (lZ hI.def_ hI.tmps hr hh hfm)
    ·have hy:=hgu hg hd hb;rw[if_neg (by simp[Region.wanted,hg,hy])];subst hv;exact next _ _ (lZ hI.def_ hI.tmps hr hh hfm)
  ·
   have hir:i∈wL rest:=by
    rcases Classical.em (i∈wL rest)with h|h;exact h;exact(notboth hun (hI.done i his hz h)).elim
   cases rest with
   |nil=>simp[wL]at hir
   | cons s r =>
    obtain⟨j,zj⟩:=s;have hij:i=j:=by
     have far:∀p,p∈gk ((j,zj)::r)→Waits ops i p→False:=fun p hp1 hp2=>notboth (hI.un p (qS hp1)) (hwl p hp2);rcases sf hir with h|h;rcases et.1 h with h|h;exact h;obtain⟨p,hp1,hp2⟩:=wO (gk r) j hc i h;exact(far p hp1 hp2).elim;obtain⟨p,hp1,hp2⟩:=Dm hsg h;exact(far p hp1 hp2).elim
    subst hij;have hiza:i ∉ za:=fun h=>(hB.part i his).2 ⟨h,hsub i (d7 ..)⟩;have hni:i ∉ gk r:=by
     simp only[gk,eH,Bool.and_eq_true,Bool.not_eq_true',List.contains_eq_mem,decide_eq_false_iff_not]at hn;exact hn.1
    have hns:i ∉ wL r:=fun h=>by
     rcases sf h with h|h;exact hni h;exact hiza (hza i (cL.2 (.inr (cL.2 (.inr h)))))
    have hnr:eH (gk r)=true:=by
     simp only[gk,eH,Bool.and_eq_true]at hn;exact hn.2
    have hcr:tO ops (gk r):=by
     cases r with
     |nil=>trivial
     |cons b r=>exact hc.2
    have htr:∀k,k∈(gk r).drop (m-1)→∀z,z∈za→Waits ops k z:=by
     intro k hk;refine ht k ?_;cases m with
     |zero=>exact cU _ (by simpa using hk)
     |succ m=>simpa[gk]using hk
    have hord':gW ops ((zs++zj)++se r)=true:=by rw[cD];exact hord
    have hnz':eH ((zs++zj)++se r)=true:=by rw[cD];exact hnz
    have hza':∀z,z∈(zs++zj)++se r→z∈za:=by rw[cD];exact hza
    have hzj:∀z,z∈zj→z∈za:=fun z hz'=>hza' z (cL.2 (.inl (cL.2 (.inr hz'))));have hordj:=ll (ll hord').1;have hnzj:=jK (jK hnz').1;have hunj:∀z,z∈zj→listed.getD z true=false:=fun z hz'=>hI.un z (cU _ (cL.2 (.inl hz')));simp only[FG,ho]at hW;have next:∀ v hp' a' w',(m ≠ 0→uJ hp0 hp' ∨ ∀ z,z ∈ za→listed.getD z true=true)→zW P ops base hp0 (fun fr=>FG P ops base hp0 K r (m - 1) fr hp') zj (bp fr o.dst v)→ox c (bp frm o.dst v) hp' (eG U (base+32*i)) a' w'→wpAny P .any ops Q fuel (listed.setIfInBounds i true) a' w':=by
     rintro v hp' a' w' hsa hW'⟨q1,q2,σ',q3,q4,q5⟩;obtain⟨frZ,g1,g2,g3⟩:=oN hB.uniq zj _ hordj.2.1 hnzj.2.1 hW';refine ih _ (zs++zj) r (m-1) frZ hp' a' w' hfuel' htr hcr hnr (fun k hk=>hsub k (cU _ hk)) hsg.2.2 hord' hnz' hza' ⟨by simp[hI.size],hclosed',fun k hk=>?_,fun k hk hkz hkr=>?_,q1,q2,⟨_,σ',q3,q5,hU',fun t htu=>?_⟩,fun z hz' hzu=>?_,?_⟩ g1;rw[aK true hil,if_neg (fun e=>hns (by rw[e];exact hk))];exact hI.un k (cU _ (cL.2 (.inr hk)));rw [aK false hil];split;rfl;rename_i hne;exact hI.done k hk (fun h=>hkz (cL.2 (.inl h))) (fun h=>by
      rcases et.1 h with h|h;exact hne h.symm;rcases cL.1 h with h|h;exact hkz (cL.2 (.inr h))
      exact hkr h)
     have hnj:∀z,z∈zj→cq ops z≠some t:=fun z hz'=>htu z (cL.2 (.inr hz')) (by
      rw[aK true hil,if_neg (fun e=>hiza (by rw[e];exact hzj z hz'))]
      exact hunj z hz')
     rw[g2 t hnj];have:=q4 t;by_cases hd:o.dst=some t;rw[hd,ki]at this⊢;exact this;rw[mE hd]at this⊢;rw[hm2 t fun hm=>?_]at this;exact this;obtain⟨z,hz',hzu,he⟩:=(hml t).1 hm;refine htu z (cL.2 (.inl hz')) ?_ he;rw[aK true hil,if_neg (fun e=>hz (by rw[e];exact hz'))];exact hzu;rcases cL.1 hz' with hz'|hz';obtain⟨hzu1,hzi⟩:=hun' z hzu;obtain⟨vz,oz,hoz,hdz,hzk⟩:=hI.facts z hz' hzu1;have hdz':cq ops z=oz.dst:=(by simp[cq,hoz]);have hlz:ik ops z=oz.looksAt ops:=(by simp[ik,hoz]);refine⟨vz,oz,hoz,fun d hd=>?_,tP (fun t ht'=>?_) hzk⟩;rw[g2 d fun y hy he=>?_,mE];exact hdz d hd;intro he;exact hzi (hB.uniq z i d (by rw[hdz'];exact hd) (by rw[hdi];exact he));have:=hB.uniq z y d (by rw[hdz'];exact hd) he;subst this;exact hnzj.2.2 z hz' hy;rw[g2 t fun y hy=>hordj.2.2 z hz' y hy t (by rw[hlz];exact ht'),mE];intro he;exact notboth hzu1 (hwl z (hsg.1 t (by rw[hdi];exact he) z hz' (by rw[hlz];exact ht')));exact g3 z hz';cases m with
     |zero =>
      right;intro z hz';have:=hwl z (ht i (by simp[gk]) z hz');rw[aK true hil];split;rfl;exact kN this
     | succ m =>
      rcases hsa aq with h|h;exact .inl h;right;intro z hz';rw[aK true hil];split;rfl;exact h z hz'
    have exec:bS P fr hp (base+32*i) o.op (fun v hp'=>(m≠0→dI hp0 hp')∧zW P ops base hp0 (fun fr=>FG P ops base hp0 K r (m-1) fr hp') zj (bp fr o.dst v))→o.wp P a w (wpAny P .any ops Q fuel (listed.setIfInBounds i true)) Q:=by
     intro hop;rw[tN (wM hlook')]at hop;have hok:=rZ (o:=o) hr (fun x=>yW hfm x) hNU hop;refine rR hI.def_ hI.tmps hdst hfm hh hok fun v' hp' a' w' hK hS=>?_;exact next v' hp' a' w' (fun h=>.inl (Dn (hK.1 h))) hK.2 hS
    split at hW;rename_i hg;rw[if_pos (by simp[Region.wanted,hg])];exact .inl (exec hW)
    ·rename_i g want hg;split at hW
     ·rename_i d hd;split at hW
      ·rename_i b hb;have hy:=hgv hg hd hb;by_cases hbw:b=want;rw[if_pos (by simp[Region.wanted,hg,hy,hbw])];exact .inl (exec (hW.1 hbw))
       ·rw[if_neg (by simp[Region.wanted,hg,hy,hbw])];have hv:=hW.2 (by cases b<;>cases want<;>simp_all)
        exact next (.tup []) hp _ _ (fun hm=>hI.sa) hv (lZ hI.def_ hI.tmps hr hh hfm)
      ·rename_i hb;have hy:=hgu hg hd hb;rw[if_neg (by simp[Region.wanted,hg,hy])];exact next (.tup []) hp _ _ (fun hm=>hI.sa) hW (lZ hI.def_ hI.tmps hr hh hfm)
      ·exact hW.elim
     ·exact hW.elim
theorem F4{p:List Nat}{s:kM}{m:Nat}{id:Nat}{U:Nat→Prop}{a:Act}{w:World}{Q:Exit→Act→World→Prop}(f:P.follows .mixedOrders=true)(B:F2 c.n ops p s m=true)
  (A:∀fr hp a w U,K fr hp→(∀k,U k→k<base+32*ops.size)→ox c fr hp U a w→Q .normal a w)
  (O:∀k,U k→k<base) (R:ox c fr hp0 U a w) (h:zW P ops base hp0 (fun fr=>FG P ops base hp0 K s m fr hp0) p fr):(Code.region id ops true).wp P Q a w:=by
 obtain⟨d,b⟩:=Rh B;obtain⟨q,D,H,E⟩:=oN d.uniq p fr (ll b.order).1 (jK b.nza).1 h;obtain⟨I,J,σ,C,F,L⟩:=R;have r:=ke C;have JF:∀j,(Array.replicate ops.size false).getD j false=false:=by
  intro j;simp only[ct,Array.getElem?_replicate];split<;>rfl
 have e:∀j,j<ops.size→(Array.replicate ops.size false).getD j true=false:=by
  intro j l;simp[l]
 refine wp_region_any f (Wu d A ops.size _ p s m q hp0 a w.drew ?_ b.tail b.chain b.nis (fun _ h=>h) b.seg b.order b.nza (fun _ h=>h) ⟨aw,fun j o T x=>(by rw[JF]at x;cases x),fun j l=>?_,fun j l g y=>?_,I,J,
  ⟨U,σ,r,L.trans cM,fun k G=>.inl (O k G),fun t M=>?_⟩,fun z g _=>E z g,.inl fun _ _ h=>h⟩ D)
 unfold Rf;refine Nat.le_trans (List.length_filter_le _ _) ?_;simp;refine e j ?_;rcases sf l with h|h;exact d.inb j h;rcases Nat.lt_or_ge j ops.size with u|u;exact u;exact absurd u (by have:=b.inz j (cL.2 (.inr h));omega);rcases(d.part j l).1 with h|h;rcases cL.1 h with h|h;exact absurd h g;exact absurd (zg h) y;exact absurd (qS h) y;rw[H t fun z g v=>?_];exact(F t).step cM;refine M z g (e z ?_) v;rcases Nat.lt_or_ge z ops.size with h|h;exact h;simp[cq,Array.getElem?_eq_none h]at v
end
end Go.Am
