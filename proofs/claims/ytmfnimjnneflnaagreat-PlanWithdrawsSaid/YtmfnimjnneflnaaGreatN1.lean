/-
 Part 2.
-/
import Derived.Test.YtmfnimjnneflnaaGreatN0
import Derived.Laws.Cover3
import Derived.Orders
set_option linter.unusedVariables false
set_option linter.unusedSimpArgs false
set_option maxRecDepth 100000
set_option maxHeartbeats 16000000
namespace Go.Proofs.YtmfnimjnneflnaaGreat
section
variable {P:Program} {c:Ctx} {K:AV→Hp→Prop} {fr:Fr} {hp:Hp} {U:Nat→Prop} {N:Nat} {σ:Nat→Option Nat} {w:World} {a:Act} {o:Oper} {S:Nat→Prop}
theorem cQ:Step w (bQ c w σ hp) σ hp U w.drew (bQ c w.drew σ hp) σ hp U :=
 ⟨fun _ h=>h,fun _ _=>rfl,fun _ h=>h,fun id d _ h=>⟨d,h,rfl,rfl,cL _,fun _ g b=>⟨b,fun _ h=>h⟩⟩⟩
theorem kq(d:Rel c hp U σ w):Rel c hp U σ w.drew:=by
 refine⟨d.inj,d.lt,fun i b h=>?_,d.mine,d.os,d.tape,d.output,d.size,d.old⟩;rcases d.blk i b h with e|⟨g,f,j⟩;exact .inl ⟨e.1,e.2.keep fun _ _ _ _=>rfl⟩;exact .inr ⟨g,f,j.step cQ rfl⟩
theorem kr{sz:Nat}{r1 l:List (List AV)}{x1 s rest:Array Value}(g:RIs w S σ hp U sz r1 x1)(A:x1.size=r1.length*sz)(f:RIs w S σ hp U sz l s)(u:∀(i:Nat)(x:Value),rest[i]?=some x→x.oneCell'=true) :
  RIs w S σ hp U sz (r1++l) (x1++s++rest):=by
 have D:=g.len;have E:=f.len;refine⟨by simp[Nat.add_mul];omega,fun r m=>?_,fun i x b=>?_,fun i j r y x d k b=>?_⟩;rcases cD.1 m with h|h;exact g.row r h;exact f.row r h;rw[Array.getElem?_append]at b;split at b;rw[Array.getElem?_append]at b;split at b;exact g.one _ _ b;exact f.one _ _ b;exact u _ _ b;rw[List.getElem?_append]at d;split at d;rename_i t;have p:j<sz:=by
  have:=(ci.1 k).1;rw[g.row r (cr d)]at this;exact this
 have e:i*sz+j<x1.size:=by
  have:(i+1)*sz≤r1.length*sz:=fk _ aq;rw[Nat.add_mul,Nat.one_mul]at this;omega
 rw[Array.getElem?_append,if_pos (by simp;omega),Array.getElem?_append,if_pos e]at b;exact g.is i j r y x d k b;rename_i v;have p:j<sz:=by
  have:=(ci.1 k).1;rw[f.row r (cr d)]at this;exact this
 have B:=(ci.1 d).1;have C:(i-r1.length)*sz+j<l.length*sz:=by
  have:(i-r1.length+1)*sz≤l.length*sz:=fk _ aq;rw[Nat.add_mul,Nat.one_mul]at this;omega
 have q:i*sz=r1.length*sz+(i-r1.length)*sz:=by
  rw[←Nat.add_mul];congr 1;omega
 rw[Array.getElem?_append,if_pos (by simp;omega),Array.getElem?_append,if_neg aq]at b;rw[show i*sz+j-x1.size=(i-r1.length)*sz+j by omega]at b;exact f.is _ j r y x d k b
section
variable {ts tx ty el el2:TypeId} {i:TypeInfo} {z:Value}
theorem nM(f:P.underlying ts=some (.slice el))(e:P.underlying tx=some (.slice el2))(hi:P.info? el=some i){base:Option Addr}{sLen sCap n k:Nat}{B:Option Addr}{g:Array Value}{w':World}
  (h:(Builtin.firstCells i.size n (.slice B n k)).run P w=.ok g w) (d:sLen+n≤sCap) (b:(match base with|some a=>storeCells (a.add (sLen*i.size)) g.toList|none=>pure ()).run P w=.ok () w') :
  (Builtin.append_ #[ts,tx] ty #[.slice base sLen sCap,.slice B n k]).run P w=.ok (.slice base (sLen+n) sCap) w':=by
 cases base with
 |none =>
  simp at b;subst b;simp[Builtin.append_,run_underlying f,run_underlying e,sizeOf,typeInfo,hi,Builtin.lenOf,d,h]
 |some ad =>
  simp only at b;simp[Builtin.append_,run_underlying f,run_underlying e,sizeOf,typeInfo,hi,Builtin.lenOf,d,h,b]
theorem js(g:P.underlying ts=some (.slice el))(h:P.underlying tx=some (.slice el2))(hi:P.info? el=some i)(hz:i.zero=some z){base:Option Addr}{sLen sCap n k:Nat}{B:Option Addr}{j os:Array Value}
  (m:(Builtin.firstCells i.size n (.slice B n k)).run P w.drew=.ok j w.drew) (f:(Builtin.firstCells i.size sLen (.slice base sLen sCap)).run P w.drew=.ok os w.drew) (b:sCap<sLen+n) (p:i.bytes≠0) (e:(sLen+n)*i.bytes≤140737488355328) :
  (Builtin.append_ #[ts,tx] ty #[.slice base sLen sCap,.slice B n k]).run P w=.ok (.slice (some ⟨w.heap.size,0,none⟩) (sLen+n) (grownCap w (sLen+n) sCap el))
    (w.drew.alloc (.cells (os++j++Builtin.zeroCells z.cells (grownCap w (sLen+n) sCap el-(sLen+n))) el)):=by
 have l:¬(sLen+n≤sCap):=aq;have d:¬(281474976710656<Builtin.nextslicecap (sLen+n) sCap*i.bytes):=by
  have:=growslice_fits b e;omega
 simp[Builtin.append_,run_underlying g,run_underlying h,sizeOf,typeInfo,zeroValue,hi,hz,Builtin.lenOf,l,p,d,Question.forced,m,f,newRow,grownCap]
end
theorem pQ{id:Nat}{b:Blk}:∀{hp:Hp},lk id hp=some b→bV id b hp=hp
 |[],h=>by cases h
 |(m,v)::t,h=>by
  simp only[lk]at h;simp only[bV];split at h;rename_i e;injection h with h;subst h;rw[if_pos e];rename_i e;rw[if_neg e,pQ h]
theorem Dz(hr:Rel c hp U σ w){id g len cap:Nat}{b:Blk}{xs es':List (List AV)}{p d:Array Value}(X:lk id hp=some b)(W:σ id=some g)(T:w.heap[g]?=some (.cells d b.ty (0,0)))
  (A:RIs w (bQ c w σ hp) σ hp U b.e xs p) (Z:p.size=xs.length*b.e) (D:cap*b.e≤d.size) (f:len+xs.length≤cap) (R:b.es.length≤es'.length) (G:es'.length≤cap) (O:len+xs.length≤es'.length)
  (H:∀k r,es'[k]?=some r→(k<len∧b.es[k]?=some r)∨(len≤k∧k<len+xs.length∧xs[k-len]?=some r)∨(len+xs.length≤k∧b.es[k]?=some r))
  (hU:U id) (hK:K (.own id 0 (len+xs.length) es'.length) (bV id ⟨b.ty,b.e,es'⟩ hp)) :
  Good c K hp U N σ w (.slice (some ⟨g,0,none⟩) (len+xs.length) cap) (w.setRow g (d.toList.take (len*b.e)++p.toList++d.toList.drop (len*b.e+p.toList.length)).toArray):=by
 obtain⟨cc,q,m2,m3,m4,m5⟩:=hr.at X W;rw[T]at q;injection q with q;injection q with q;subst q;have L:(len+xs.length)*b.e≤cap*b.e:=fk _ f;rw[Nat.add_mul]at L;have J:p.toList.length=xs.length*b.e:=by simpa using Z
 have t:∀m,(d.toList.take (len*b.e)++p.toList++d.toList.drop (len*b.e+p.toList.length)).toArray[m]? =
   if m<len*b.e then d[m]? else if m<len*b.e+xs.length*b.e then p[m-len*b.e]? else d[m]?:=by
  intro m;simp only[List.getElem?_toArray,cA];rw[List.getElem?_append];have Q:(d.toList.take (len*b.e)).length=len*b.e:=by simp;omega
  rw[Q];by_cases Y:m<len*b.e;simp[Y];rw[if_neg Y,if_neg Y,List.getElem?_append];by_cases E:m<len*b.e+xs.length*b.e;rw[if_pos aq,if_pos E,Array.getElem?_toList];rw[if_neg aq,if_neg E,List.getElem?_drop,Array.getElem?_toList];congr 1;omega
 have s:∀r,r∈es'→r.length=b.e:=by
  intro r V;obtain⟨k,hk⟩:=List.getElem?_of_mem V;rcases H k r hk with ⟨_,I⟩|⟨_,_,I⟩|⟨_,I⟩;exact m3 r (cr I);exact A.row r (cr I);exact m3 r (cr I)
 have l:(d.toList.take (len*b.e)++p.toList++d.toList.drop (len*b.e+p.toList.length)).toArray.size=d.size:=by
  simp only[List.size_toArray,b_,List.length_take,e_,J,Array.length_toList];omega
 have x:es'.length*b.e≤cap*b.e:=fk _ G;obtain⟨r1,r2⟩:=wX hr (b':=⟨b.ty,b.e,es'⟩) X W rfl rfl R d _ (by rw[l];exact Nat.le_trans x D) T l
  (fun m y C=>by
   rw[t]at C;split at C;exact m2 m y C;split at C;exact A.one _ y C
   exact m2 m y C)
  s
  (fun k j r y u a1 M v=>by
   have hj:j<b.e:=by
    have:=(ci.1 M).1;rw[s r (cr a1)]at this;exact this
   rw[t]at v;rcases H k r a1 with ⟨q,F⟩|⟨q0,q,F⟩|⟨q,F⟩;have:(k+1)*b.e≤len*b.e:=fk _ aq;rw[Nat.add_mul,Nat.one_mul]at this;rw[if_pos aq]at v;exact m5 k j r y u F M v;have e1:k*b.e=len*b.e+(k-len)*b.e:=by rw[←Nat.add_mul];congr 1;omega
   have e2:(k-len+1)*b.e≤xs.length*b.e:=fk _ aq;rw[Nat.add_mul,Nat.one_mul]at e2;rw[if_neg aq,if_pos aq,show k*b.e+j-len*b.e=(k-len)*b.e+j by omega]at v;exact A.is (k-len) j r y u F M v;have e1:(len+xs.length)*b.e≤k*b.e:=fk _ q;rw[Nat.add_mul]at e1;rw[if_neg aq,if_neg aq]at v
   exact m5 k j r y u F M v)
 refine⟨_,_,_,hK,r1.more,r2.trans Step.more,.own _ _ _ _ _ _ (.inl hU) f (fun h=>by cases h) fun b1 B=>?_⟩;rw[kW,if_pos rfl,X]at B;simp only[Option.map_some,Option.some.injEq]at B;subst B;refine⟨cL _,fun _=>⟨aq,aq,fun _=>⟨g,W,aw,d.size,⟨_,setRow_heap w g d _ b.ty (0,0) T,l⟩,by simp only[Nat.zero_add];exact D⟩⟩⟩
theorem pR{w':World}(d:Rel c hp U σ w)(e:RowKit.Below w.heap.size w w') :
  Rel c hp (eN U N) σ w'∧Step w (bQ c w σ hp) σ hp U w' (bQ c w' σ hp) σ hp (eN U N):=by
 have f:Step w (bQ c w σ hp) σ hp U w' (bQ c w' σ hp) σ hp (eN U N):=by
  refine⟨fun b h=>⟨⟨Nat.lt_of_lt_of_le h.1.1 e.size,h.1.2⟩,h.2⟩,fun p h=>e.cell h.1.1,fun _ h=>.inl h,fun id s _ h=>⟨s,h,rfl,rfl,cL _,fun _ g q=>⟨q,fun n r=>?_⟩⟩⟩;obtain⟨k,j,l⟩:=r;exact⟨k,(e.block _ (ee (d.at h q))).trans j,l⟩
 refine⟨⟨d.inj,fun i b h=>.inl (d.lt i b h),fun i b h=>?_,d.mine,e.os.trans d.os,e.tape.trans d.tape,e.output.trans d.output,Nat.le_trans d.size e.size,fun b j l=>?_⟩,f⟩;rcases d.blk i b h with m|⟨g,u,k2⟩;exact .inl ⟨m.1,m.2.keep fun _ _ _ t=>e.block _ (wU t)⟩;exact .inr ⟨g,u,k2.step f (e.block _ (ee k2))⟩;rw[e.block b (Nat.lt_of_lt_of_le j d.size)];exact d.old b j l
theorem MU(w:World)(C:Array Value)(t:TypeId)(j:Nat)(v:Value)(hj:C[j]?=some v):(w.alloc (.cells C t)).cell? ⟨w.heap.size,j,none⟩=some v:=by
 have:=heap_alloc_new w (.cells C t);simp only[World.cell?,this];simpa using hj
theorem aan(u:Rel c hp U σ w){es:List (List DV)}{e cap:Nat}{C:Array Value}{w':World}(L:RowKit.Below w.heap.size w w')(A:w.heap.size<w'.heap.size)
  (m:∀(j:Nat)(v:Value),C[j]?=some v→w'.cell? ⟨w.heap.size,j,none⟩=some v) (k:∀r,r∈es→r.length=e) (E:es.length*e≤C.size) (t:es.length≤cap)
  (B:∀(i j:Nat)(r:List DV)(y:DV)(x:Value),es[i]?=some r→r[j]?=some y→C[i*e+j]?=some x→DIs w (bQ c w σ hp) y x) (Q:K (.d (.ro e es)) hp) :
  Good c K hp U N σ w (.slice (some ⟨w.heap.size,0,none⟩) es.length cap) w':=by
 obtain⟨R,D⟩:=pR (N:=N) u L;have s:∀(i j:Nat)(r:List DV)(y:DV),es[i]?=some r→r[j]?=some y→i*e+j<C.size:=by
  intro i j r y f q;have O:=(ci.1 f).1;have M:=(ci.1 q).1;rw[k r (cr f)]at M;have F:(i+1)*e≤es.length*e:=fk _ O;rw[Nat.add_mul,Nat.one_mul]at F;omega
 refine⟨.d (.ro e es),hp,σ,Q,R,D,.d (.ro e es _ cap (fun i j=>C[i*e+j]!) t k (fun r H=>⟨_,rfl,⟨⟨A,fun id J g f I=>?_⟩,.inr u.size⟩⟩) (fun ad l i j r y f q=>?_) fun i j r y f q=>?_)⟩;exact Nat.ne_of_gt (ee (u.at f I));injection l with l;subst l;rw[ik,Nat.zero_add];have:=s i j r y f q;exact m _ _ (by simp[this]);have G:=s i j r y f q;exact(B i j r y (C[i*e+j]!) f q (by simp[G])).mono (fun b h=>D.sub b h) (fun p h=>D.cell p h)
theorem RP{len:Nat}{es xs:List (List AV)}(f:len≤es.length)(k:Nat)(r:List AV)(b:(es.take len++(xs++es.drop (len+xs.length)))[k]?=some r) :
  (k<len∧es[k]?=some r)∨(len≤k∧k<len+xs.length∧xs[k-len]?=some r)∨(len+xs.length≤k∧es[k]?=some r):=by
 rw[List.getElem?_append]at b;have e:(es.take len).length=len:=by simp;omega
 rw[e]at b;split at b;rename_i d;rw[List.getElem?_take,if_pos d]at b;exact .inl ⟨d,b⟩;rename_i d;rw[List.getElem?_append]at b;split at b;exact .inr (.inl ⟨aq,aq,b⟩);rw[List.getElem?_drop]at b;refine .inr (.inr ⟨aq,?_⟩);rw[show k=len+xs.length+(k-len-xs.length)by omega];exact b
theorem MV{len:Nat}{es xs:List (List AV)}(f:len≤es.length)(k:Nat)(r:List AV)(b:(es.take len++xs)[k]?=some r) :
  (k<len∧es[k]?=some r)∨(len≤k∧k<len+xs.length∧xs[k-len]?=some r)∨(len+xs.length≤k∧es[k]?=some r):=by
 rw[List.getElem?_append]at b;have e:(es.take len).length=len:=by simp;omega
 rw[e]at b;split at b;rename_i d;rw[List.getElem?_take,if_pos d]at b;exact .inl ⟨d,b⟩;rename_i d;have:=(ci.1 b).1;exact .inr (.inl ⟨aq,aq,b⟩)
theorem Iw(hr:Rel c hp U σ w){el:TypeId}{id len tot:Nat}{xs:List (List AV)}{b:Blk}{sv:Value}{i:TypeInfo}{z:Value}(hss:AIs w (bQ c w σ hp) σ hp U (.own id 0 len tot) sv)(hb:lk id hp=some b)
  (ht1:b.es.length=tot) (ht2:b.ty=el) (ht3:b.e=P.cellsOf el)
  (hst:len+xs.length≤tot→K (.own id 0 (len+xs.length) tot) (bV id ⟨b.ty,b.e,b.es.take len++(xs++b.es.drop (len+xs.length))⟩ hp))
  (hgr:tot<len+xs.length→K (.own id 0 (len+xs.length) (len+xs.length)) (bV id ⟨b.ty,b.e,b.es.take len++xs⟩ hp))
  (hisz:i.size=P.cellsOf el) (hzsz:z.cells.size=P.cellsOf el) (hne:P.cellsOf el≠0) (hz1:∀(n:Nat)(v:Value),z.cells[n]?=some v→v.oneCell'=true)
  (zone:∀(z:Value)(m:Nat),(∀(n:Nat)(v:Value),z.cells[n]?=some v→v.oneCell'=true)→z.cells.size≠0→∀(n:Nat)(v:Value),(Builtin.zeroCells z.cells m)[n]?=some v→v.oneCell'=true)
  (hstay:∀A cap,sv=.slice A len cap→len+xs.length≤cap→∃us:Array Value,us.size=xs.length*P.cellsOf el∧RIs w (bQ c w σ hp) σ hp U (P.cellsOf el) xs us∧∀w',(match A with|some ad=>storeCells (ad.add (len*i.size)) us.toList|none=>pure ()).run P w=.ok () w'→(execOp a.eval o).run P w=.ok (.value (.slice A (len+xs.length) cap)) w')
  (hgrow:∀A cap os,sv=.slice A len cap→¬(len+xs.length≤cap)→(Builtin.firstCells i.size len (.slice A len cap)).run P w.drew=.ok os w.drew→∃us:Array Value,us.size=xs.length*P.cellsOf el∧RIs w.drew (bQ c w.drew σ hp) σ hp U (P.cellsOf el) xs us ∧
   (execOp a.eval o).run P w=.ok (.value (.slice (some ⟨w.heap.size,0,none⟩) (len+xs.length) (grownCap w (len+xs.length) cap el))) (w.drew.alloc (.cells (os++us++Builtin.zeroCells z.cells (grownCap w (len+xs.length) cap el-(len+xs.length))) el))) :
  OpOk P c K hp U N σ w ((execOp a.eval o).run P w):=by
 have hss':=hss;cases hss with
 | own _ _ _ _ A cap hU hl hA0 h' =>
  obtain⟨k1,k2⟩:=h' b hb;obtain⟨k3,k4,k5⟩:=k2 ht1;by_cases hneed:len+xs.length≤cap;obtain⟨us,hul,hri,hgo⟩:=hstay A cap rfl hneed;rcases Nat.eq_zero_or_pos xs.length with h0|h0
  ·
   have hx0:xs=[]:=List.eq_nil_of_length_eq_zero h0;subst hx0;have hu0:us=#[]:=Array.eq_empty_of_size_eq_zero (by simpa using hul);subst hu0;have hr0:=hgo w (by cases A<;>simp[storeCells]);have hh:=hst (by simp;omega);simp only[List.length_nil,Nat.add_zero,List.nil_append,List.take_append_drop]at hh;rw[pQ (b:=⟨b.ty,b.e,b.es⟩) hb]at hh;exact OpOk.val hr0 (Good.same hr hh hss')
  ·obtain⟨g,hg,hA,n,hrn,hn⟩:=k5 aq;obtain⟨ccs,m1,m2,m3,m4,m5⟩:=hr.at hb hg;have hnsz:ccs.size=n:=by
    obtain⟨cc,p1,p2⟩:=hrn;rw[m1]at p1;injection p1 with p1;injection p1 with p1;rw[p1];exact p2
   rw[Nat.zero_mul]at hA;subst hA;have hn':cap*b.e≤ccs.size:=by rw[hnsz];simpa using hn
   have hle1:(len+xs.length)*b.e≤cap*b.e:=fk _ hneed;rw[Nat.add_mul]at hle1;have hull:us.toList.length=xs.length*b.e:=(by simp[hul,ht3]);have hsto:=run_storeCells_at P g (len*b.e) b.ty us.toList 0 ccs w m1 aq (fun u hu=>by
    obtain⟨j,hj⟩:=List.getElem?_of_mem hu
    exact hri.one j u (by simpa using hj))
   simp only[Nat.add_zero]at hsto;have hr0:=hgo (w.setRow g (ccs.toList.take (len*b.e)++us.toList++ccs.toList.drop (len*b.e+us.toList.length)).toArray) (by
     simp only[ik,Nat.zero_add];rw[hisz,←ht3]
     exact hsto)
   rw[hr0];have hlb:len≤b.es.length:=aq;rcases Nat.lt_or_ge tot (len+xs.length)with htot|htot;have hK:=hgr htot;have hl':(b.es.take len++xs).length=len+xs.length:=by rw[b_,List.length_take];omega
   rw[←hl']at hK;exact Dz hr hb hg m1 (ht3▸hri) (ht3▸hul) hn' hneed aq aq aq (MV hlb) hU (by rw[hl'];rw[hl']at hK;exact hK);have hK:=hst htot;have hl':(b.es.take len++(xs++b.es.drop (len+xs.length))).length=tot:=by rw[b_,b_,List.length_take,e_];omega
   exact Dz hr hb hg m1 (ht3▸hri) (ht3▸hul) hn' hneed aq aq aq (RP hlb) hU (by rw[hl'];exact hK)
  ·
   clear k5 k2;have hrd:=kq hr;have hso:dA hp (P.cellsOf el) (.own id 0 len tot)=some (b.es.take len):=by
    simp only[dA,hb];rw[if_pos ⟨ht1,ht3⟩,List.drop_zero]
   obtain⟨A2,k',hA2,os,hos,hol,hro,_⟩:=fG hrd (hss'.step cQ) hso;have htl:(b.es.take len).length=len:=by simp;omega
   rw[htl]at hA2 hos;injection hA2 with e1 _ e3;subst e1;subst e3;obtain⟨us,hul,hri,hr0⟩:=hgrow A cap os rfl hneed (by rw[hisz];exact hos);have hge:=grownCap_ge w (len+xs.length) cap el;have hrows:=kr (rest:=Builtin.zeroCells z.cells (grownCap w (len+xs.length) cap el-(len+xs.length))) hro hol hri (zone z _ hz1 aq);have hK:=hgr aq;have hl':(b.es.take len++xs).length=len+xs.length:=by simp;omega
   have hgt:b.es.length<(b.es.take len++xs).length:=aq;have hsz:(os++us++Builtin.zeroCells z.cells (grownCap w (len+xs.length) cap el-(len+xs.length))).size=grownCap w (len+xs.length) cap el*P.cellsOf el:=by
    simp only[Array.size_append,size_zeroCells,hzsz,hol,hul,htl,←Nat.add_mul];congr 1;omega
   obtain⟨r1,r2⟩:=MO hrd (b':=⟨b.ty,b.e,b.es.take len++xs⟩) hb rfl rfl hgt _ hrows.one (by rw[ht3];exact hrows.row) (by rw[ht3];exact hrows.len) (by rw[ht3];exact hrows.is);rw[hr0,←ht2];rw[←ht2]at r1 r2;refine⟨_,_,_,hK,r1.more,cQ.trans (r2.trans Step.more),.own _ _ _ _ _ _ (.inl hU) (by rw[ht2];exact hge) (fun h=>by cases h) fun b1 hb1=>?_⟩;rw[kW,if_pos rfl,hb]at hb1;simp only[Option.map_some,Option.some.injEq]at hb1;subst hb1;refine⟨Nat.le_of_eq hl'.symm,fun _=>⟨aq,by rw[ht2];omega,fun _=>⟨w.heap.size,aw,aw,_,⟨_,heap_alloc_new w.drew _,rfl⟩,?_⟩⟩⟩;simp only[Nat.zero_add];rw[ht2,hsz,ht3];exact cL _
theorem MW (hr:Rel c hp U σ w) (E:∀ x,AIs w (bQ c w σ hp) σ hp U (ev fr x) (a.eval x)) (hN:Free U N) {ts tx:TypeId} {s x:Operand} {cl:Call} (hop:o.op=.call cl) (hc:cl.callee=.builtin .append) (ha:cl.args.toList=[s,x]) (ht:cl.argTypes.toList=[ts,tx])
  (hint:∀el id i0 len tot k n z,cp P ts=.slice el→cp P tx=.scal→ev fr s=.own id i0 len tot→ev fr x=.d (.int k n)→ko P tx=some k→0≤n→n≤4294967296→P.bytesOf el*n≤281474976710656→gi P el=some z→gr P el (.own id i0 len tot) (some (List.replicate n.toNat z)) N K hp→OpOk P c K hp U N σ w ((execOp a.eval o).run P w))
  (h:y5 P fr hp N .append [s,x] [ts,tx] K):OpOk P c K hp U N σ w ((execOp a.eval o).run P w):=by
 simp only[y5]at h;have ha':cl.args=#[s,x]:=by rw[←Array.toArray_toList (xs:=cl.args),ha]
 have ht':cl.argTypes=#[ts,tx]:=by rw[←Array.toArray_toList (xs:=cl.argTypes),ht]
 have run:∀(v:Value)(w':World),(Builtin.append_ #[ts,tx] o.type #[a.eval s,a.eval x]).run P w=.ok v w'→(execOp a.eval o).run P w=.ok (.value v) w':=by
  intro v w' hv;simp[execOp,hop,resolve,hc,ha',ht',invoke,builtin,hv]
 split at h;rename_i el el2 hks hkx;have hts:=bW hks;have htx:=bW hkx;have hxx:=E x;have hss:=E s;generalize hxv:a.eval x=xv at hxx run;generalize hsv:a.eval s=sv at hss run;generalize ev fr x=xa at hxx h;generalize ev fr s=sa at hss h
 -- facts of the element's type
 have info:∀(q:(gi P el).isSome=true),∃i z,P.info? el=some i∧i.zero=some z∧i.size=P.cellsOf el∧i.bytes=P.bytesOf el∧z.cells.size=P.cellsOf el∧P.cellsOf el≠0∧∀(n:Nat)(v:Value),z.cells[n]?=some v→v.oneCell'=true:=by
  intro q;obtain⟨z',hz'⟩:=Option.isSome_iff_exists.1 q;obtain⟨v,i,hi,hz,hs,hne,_,hl⟩:=zJ (w:=w) (S:=fun _=>True) (σ:=σ) (hp:=hp) (U:=U) hz';exact⟨i,v,hi,hz,by simp[Program.cellsOf,hi],by simp[Program.bytesOf,hi],hs,hne,hl.one⟩
 have zone:∀(z:Value)(m:Nat),(∀(n:Nat)(v:Value),z.cells[n]?=some v→v.oneCell'=true)→z.cells.size≠0→∀(n:Nat)(v:Value),(Builtin.zeroCells z.cells m)[n]?=some v→v.oneCell'=true:=by
  intro z m hz1 hz0 n v hv;unfold Builtin.zeroCells at hv;simp only[Array.getElem?_map,Option.map_eq_some_iff]at hv;obtain⟨k,_,rfl⟩:=hv;have hlt:k%z.cells.size<z.cells.size:=Nat.mod_lt _ aq;exact hz1 (k%z.cells.size) _ (by simp[hlt])
 unfold gr at h;split at h
 ·
  rename_i xs hxs;obtain⟨q,hby,hfit,h⟩:=h;obtain⟨i,z,hi,hz,hisz,hiby,hzsz,hne,hz1⟩:=info q;cases hss with
  |nil =>
   rcases Nat.eq_zero_or_pos xs.length with h0|h0;have hx0:xs=[]:=List.eq_nil_of_length_eq_zero h0;subst hx0;obtain⟨A,k,rfl,us,hus,hul,hri,_⟩:=fG hr hxx hxs;have hr0:=nM (ty:=o.type) (base:=none) (sLen:=0) (sCap:=0) (w':=w) hts htx hi (hisz▸hus) aw aw;obtain⟨g1,g2⟩:=MP hr hN ⟨el,P.cellsOf el,[]⟩ rfl;rw[run _ _ hr0];refine⟨_,_,_,h,g1,g2,.own N 0 0 0 _ _ nK (cL _) (fun _=>rfl) fun b hb=>?_⟩;exact⟨Nat.zero_le _,fun _=>⟨cL _,cL _,fun h=>aq⟩⟩;have hrd:=kq hr;obtain⟨A,k,rfl,us,hus,hul,hri,_⟩:=fG hrd (hxx.step cQ) hxs;have hr0:=js (ty:=o.type) (base:=none) (sLen:=0) (sCap:=0) (os:=#[]) hts htx hi hz (hisz▸hus) (by simp[Builtin.firstCells]) aq aq (by rw[Nat.zero_add,hiby];exact hfit);rw[run _ _ hr0];simp only[Nat.zero_add];have hge:=grownCap_ge w xs.length 0 el;have hrows:=kr (rest:=Builtin.zeroCells z.cells (grownCap w xs.length 0 el-xs.length)) (r1:=[]) (x1:=#[]) (w:=w.drew) ⟨aw,aw,aw,aw⟩ aw hri (zone z _ hz1 aq);rw[List.nil_append]at hrows;have hG:=se (K:=K) hrd hN (el:=el) hrows hge (by simp[size_zeroCells,hzsz,hul,←Nat.add_mul];rw[show xs.length+(grownCap w xs.length 0 el-xs.length)=grownCap w xs.length 0 el by omega];exact cL _) h;obtain⟨v,hp',σ',k1,k2,k3,k4⟩:=hG;exact⟨v,hp',σ',k1,k2,cQ.trans k3,k4⟩
 ·
  rename_i id len tot xs hxs;split at h;rename_i b hb;obtain⟨ht1,ht2,ht3,q,hby,hfit,hst,hgr⟩:=h;obtain⟨i,z,hi,hz,hisz,hiby,hzsz,hne,hz1⟩:=info q;refine Iw (i:=i) (z:=z) hr hss hb ht1 ht2 ht3 hst hgr hisz hzsz hne hz1 zone (fun A cap e hneed=>?_) (fun A cap os e hneed hos=>?_);subst e;obtain⟨B,k,rfl,us,hus,hul,hri,_⟩:=fG hr hxx hxs;exact⟨us,hul,hri,fun w' hsto=>run _ _ (nM (ty:=o.type) hts htx hi (hisz▸hus) hneed hsto)⟩;subst e;have hrd:=kq hr;obtain⟨B,k,rfl,us,hus,hul,hri,_⟩:=fG hrd (hxx.step cQ) hxs;exact⟨us,hul,hri,run _ _ (js (ty:=o.type) hts htx hi hz (hisz▸hus) hos aq aq (by rw[hiby];exact hfit))⟩;exact h.elim
 ·
  rename_i e es xs hxs;obtain⟨he,q,hby,hfit,h⟩:=h;obtain⟨i,z,hi,hz,hisz,hiby,hzsz,hne,hz1⟩:=info q;cases hss with
  | d hd0 =>
   cases hd0 with
   | rof _ _ A vs hel hA hv1 hdd =>
    rcases h with ⟨ds,rfl,h⟩|⟨hnx,h⟩;rcases Nat.eq_zero_or_pos ds.length with h0|h0;have hx0:ds=[]:=List.eq_nil_of_length_eq_zero h0;subst hx0;obtain⟨B,k,rfl,us,hus,hul,hri,_⟩:=fG hr hxx hxs;have hu0:us=#[]:=Array.eq_empty_of_size_eq_zero (by simpa using hul);subst hu0;have hr0:=nM (ty:=o.type) (base:=A) (sLen:=es.length) (sCap:=es.length) (w':=w) hts htx hi (hisz▸hus) aw (by cases A<;>simp[storeCells]);rw[List.append_nil]at h;exact OpOk.val (run _ _ hr0) (Good.same hr h (.d (.ro e es A _ vs (cL _) hel hA hv1 hdd)));have hrd:=kq hr;obtain⟨B,k,rfl,us,hus,hul,hri,_⟩:=fG hrd (hxx.step cQ) hxs;have hb0:AIs w (bQ c w σ hp) σ hp U (.d (.ro e es)) (.slice A es.length es.length):=.d (.ro e es A _ vs (cL _) hel hA hv1 hdd);obtain⟨A2,k',hA2,os,hos,hol,hro,_⟩:=fG hrd (hb0.step cQ) (sz:=P.cellsOf el) (xs:=es.map fun r=>r.map AV.d) (by simp only[dA];rw[if_pos he]);rw[List.length_map]at hA2 hos;have hln:(ds.map fun r=>r.map AV.d).length=ds.length:=List.length_map _;injection hA2 with e1 _ e3;subst e1;subst e3;have hr0:=js (ty:=o.type) (base:=A) (sLen:=es.length) (sCap:=es.length) hts htx hi hz (hisz▸hus) (hisz▸hos) aq aq (by rw[hiby];exact hfit);have hr1:=run _ _ hr0;rw[hln]at hr1;have hge:=grownCap_ge w (es.length+ds.length) es.length el;have hrows:=kr (rest:=Builtin.zeroCells z.cells (grownCap w (es.length+ds.length) es.length el-(es.length+ds.length))) hro hol hri (zone z _ hz1 aq);rw[hr1];have hG:=aan (N:=N) (K:=K) (es:=es++ds) (e:=e) (cap:=grownCap w (es.length+ds.length) es.length el) (C:=os++us++Builtin.zeroCells z.cells (grownCap w (es.length+ds.length) es.length el-(es.length+ds.length))) (w':=w.drew.alloc (.cells (os++us++Builtin.zeroCells z.cells (grownCap w (es.length+ds.length) es.length el-(es.length+ds.length))) el)) hr ⟨rfl,rfl,rfl,by simp[World.size_alloc],fun b hb=>iD w.drew _ b hb⟩ (by rw[World.size_alloc];exact Nat.lt_succ_self _) (fun j v hj=>?_) (fun r hr'=>?_) ?_ (by rw[b_];exact hge) (fun i' j r y x hi' hj hx=>?_) h;rw[b_]at hG;exact hG;exact MU w.drew _ _ j v hj;have:=hrows.row (r.map AV.d) (by rw[←List.map_append];exact List.mem_map_of_mem hr');rw[List.length_map]at this;rw[this,he];have:=hrows.len;rw[←List.map_append,List.length_map]at this;rw[he];exact this;have h1:=hrows.is i' j (r.map AV.d) (.d y) x (by rw[←List.map_append,cU,hi'];rfl) (by rw[cU,hj];rfl) (by rw[←he];exact hx);cases h1 with
    |d h1=>exact DIs.mono (w:=w.drew) (w':=w) (S:=bQ c w.drew σ hp) (S':=bQ c w σ hp) (fun _ h=>h) (fun _ _=>rfl) h1
    ·have h0:0<xs.length:=List.length_pos_iff.2 hnx;have hrd:=kq hr;obtain⟨B,k,rfl,us,hus,hul,hri,_⟩:=fG hrd (hxx.step cQ) hxs;have hb0:AIs w (bQ c w σ hp) σ hp U (.d (.ro e es)) (.slice A es.length es.length):=.d (.ro e es A _ vs (cL _) hel hA hv1 hdd);obtain⟨A2,k',hA2,os,hos,hol,hro,_⟩:=fG hrd (hb0.step cQ) (sz:=P.cellsOf el) (xs:=es.map fun r=>r.map AV.d) (by simp only[dA];rw[if_pos he]);rw[List.length_map]at hA2 hos;injection hA2 with e1 _ e3;subst e1;subst e3;have hr0:=js (ty:=o.type) (base:=A) (sLen:=es.length) (sCap:=es.length) hts htx hi hz (hisz▸hus) (hisz▸hos) aq aq (by rw[hiby];exact hfit);have hge:=grownCap_ge w (es.length+xs.length) es.length el;have hrows:=kr (rest:=Builtin.zeroCells z.cells (grownCap w (es.length+xs.length) es.length el-(es.length+xs.length))) hro hol hri (zone z _ hz1 aq);have hln:((es.map fun r=>r.map AV.d)++xs).length=es.length+xs.length:=(by rw[b_,List.length_map]);rw[List.length_map]at hol;rw[run _ _ hr0];have hG:=se (K:=K) hrd hN (el:=el) (cap:=grownCap w (es.length+xs.length) es.length el) hrows (by rw[hln];exact hge) (by
      simp only[Array.size_append,size_zeroCells,hzsz,hol,hul,←Nat.add_mul];rw[show es.length+xs.length+(grownCap w (es.length+xs.length) es.length el-(es.length+xs.length))=grownCap w (es.length+xs.length) es.length el by omega]
      exact cL _) (by rw[hln];exact h)
     rw[hln]at hG;obtain⟨v,hp',σ',k1,k2,k3,k4⟩:=hG;exact⟨v,hp',σ',k1,k2,cQ.trans k3,k4⟩
 ·
  rename_i id i0 off e len cap tot xs hxs;obtain⟨hgt,q,hby,hfit,h⟩:=h;split at h;rename_i rs hrs;obtain⟨i,z,hi,hz,hisz,hiby,hzsz,hne,hz1⟩:=info q;have hss':=hss;cases hss with
  | sub _ _ _ _ _ _ _ A hU hl hA0 h' =>
   have hrd:=kq hr;obtain⟨B,k,rfl,us,hus,hul,hri,_⟩:=fG hrd (hxx.step cQ) hxs;obtain⟨A2,k',hA2,os,hos,hol,hro,_⟩:=fG hrd (hss'.step cQ) hrs;injection hA2 with e1 e2 e3;subst e1;subst e3;rw[←e2]at hos hol;have hr0:=js (ty:=o.type) (base:=A) (sLen:=len) (sCap:=cap) hts htx hi hz (hisz▸hus) (hisz▸hos) hgt (by rw[hiby];exact hby) (by rw[hiby];exact hfit);have hge:=grownCap_ge w (len+xs.length) cap el;have hol':os.size=rs.length*P.cellsOf el:=by rw[←e2];exact hol
   have hrows:=kr (rest:=Builtin.zeroCells z.cells (grownCap w (len+xs.length) cap el-(len+xs.length))) hro hol' hri (zone z _ hz1 aq);have hln:(rs++xs).length=len+xs.length:=(by rw[b_,←e2]);rw[run _ _ hr0];have hG:=se (K:=K) hrd hN (el:=el) (cap:=grownCap w (len+xs.length) cap el) hrows (by rw[hln];exact hge) (by
    simp only[Array.size_append,size_zeroCells,hzsz,hol,hul,←Nat.add_mul];rw[show len+xs.length+(grownCap w (len+xs.length) cap el-(len+xs.length))=grownCap w (len+xs.length) cap el by omega]
    exact cL _) (by rw[hln];exact h)
   rw[hln]at hG;obtain⟨v,hp',σ',k1,k2,k3,k4⟩:=hG;exact⟨v,hp',σ',k1,k2,cQ.trans k3,k4⟩
  ·exact h.elim
 ·exact h.elim
 ·rename_i el hks hkx;split at h;rename_i id i0 len tot k n k' hs hx hk;obtain⟨rfl,h0,h1,h2,h⟩:=h;split at h;rename_i z hz;exact hint el id i0 len tot k n z hks hkx hs hx hk h0 h1 h2 hz h;exact h.elim;exact h.elim
 ·exact h.elim
end
section
variable {P:Program} {c:Ctx} {K:AV→Hp→Prop} {fr:Fr} {hp:Hp} {U:Nat→Prop} {N:Nat} {σ:Nat→Option Nat} {w:World} {a:Act} {o:Oper}
theorem Ix{α:Type}{n:Nat}{v:α}:∀{l:List (Nat×α)},lk n l=some v→(n,v)∈l
 |[],h=>by cases h
 |(m,u)::t,h=>by
  simp only[lk]at h;split at h;rename_i e;injection h with h;subst e;subst h;exact dz ..;exact cS _ (Ix h)
theorem DC:∀{u v:List (IntKind×Int)},qX u=qX v→u=v
 |[],[],_=>rfl
 |[],_::_,h=>by simp[qX]at h
 |_::_,[],h=>by simp[qX]at h
 |(k,n)::u,(k',n')::v,h=>by
  simp only[qX,List.map_cons,List.cons.injEq,AV.d.injEq,DV.int.injEq]at h;obtain⟨⟨rfl,rfl⟩,h⟩:=h;rw[DC (u:=u) (v:=v) h]
theorem DD{u v:List (IntKind×Int)}(h:oQ u=oQ v):u=v:=by
 have b:u.map (fun p=>Value.int p.1 p.2)=v.map (fun p=>Value.int p.1 p.2):=by simpa[oQ]using h
 clear h;have h:=b;clear b
 induction u generalizing v with
 |nil=>cases v with
  |nil=>rfl
  |cons=>simp at h
 | cons p u ih =>
  cases v with
  |nil=>simp at h
  |cons q v =>
   obtain⟨k,n⟩:=p;obtain⟨e,d⟩:=q;simp only[List.map_cons,List.cons.injEq,Value.int.injEq]at h;obtain⟨⟨rfl,rfl⟩,h⟩:=h;rw[ih h]
theorem MX{a b:List (List (IntKind×Int))}(h:qJ a=qJ b):a=b:=by
 simp only[qJ,List.cons.injEq,true_and]at h
 induction a generalizing b with
 |nil=>cases b with
  |nil=>rfl
  |cons=>simp at h
 | cons x a ih =>
  cases b with
  |nil=>simp at h
  |cons y b =>
   simp only[List.map_cons,List.cons.injEq]at h;rw[DC h.1,ih h.2]
theorem MY{S:Nat→Prop}{u:List (IntKind×Int)}{v:Value}(h:AIs w S σ hp U (.agg (qX u)) v):v=oQ u:=by
 cases h with
 | agg _ xs hl h1 h2 =>
  unfold oQ;congr 1;apply Array.ext';rw[List.toList_toArray];refine List.ext_getElem? fun i=>?_;rw[cU];cases e:u[i]? with
  | none =>
   have:xs.size≤i:=by
    have:=List.getElem?_eq_none_iff.1 e;simp only[qX,List.length_map]at hl;omega
   simp[this]
  | some p =>
   have b:i<xs.size:=by
    have:=(ci.1 e).1;simp only[qX,List.length_map]at hl;omega
   have f:xs[i]?=some xs[i]:=dg b;have:=fq (h2 i (.d (.int p.1 p.2)) xs[i] (by simp[qX,e]) f);rw[Array.getElem?_toList,f,this];rfl
theorem MZ(x:Rel c hp U σ w){id:Nat}{b:Blk}{k:List (List (IntKind×Int))}{v:Value}(h:AIs w (bQ c w σ hp) σ hp U (.mp id) v)(l:lk id hp=some b)(B:b.e=0)(f:b.es=qJ k) :
  ∃j d,v=.map (some b.ty)∧σ id=none∧c.w0.heap.size≤b.ty∧w.heap[b.ty]?=some (.map j d) ∧
   (∀m∈j.toList,m.val=.bool true∧∃u∈k,m.key=oQ u)∧∀u∈k,∃m∈j.toList,m.key=oQ u:=by
 cases h with
 |mp _ g hN h =>
  have A:=h b l;subst A;rcases x.blk id b l with ⟨t,p|⟨_,s,r,j,d,q,k2,k3,k4⟩⟩|⟨g,_,y,_,_,k3,_⟩;rw[f]at p;simp[qJ]at p;rw[f]at q;have:=MX q;subst this;exact⟨j,d,rfl,t,s,k2,k3,k4⟩;have:=k3 [.any] (by rw[f];simp[qJ]);rw[B]at this;simp at this
theorem KC(m:Rel c hp U σ w)(hN:Free U N){t:TypeId}(I:o.op=.makeMap t none)(h:bZ P fr hp N (.makeMap t none) K) :
  OpOk P c K hp U N σ w ((execOp a.eval o).run P w):=by
 have hK:=h w.heap.size;have B:(execOp a.eval o).run P w=.ok (.value (.map (some w.heap.size))) (w.alloc (.map #[] 0)):=by
  have:(Instr.makeMap t none).run P w=.ok (.map (some w.heap.size)) (w.alloc (.map #[] 0)):=rfl;simp[execOp,I,this]
 rw[B]
 let b:Blk:=⟨w.heap.size,0,qJ []⟩
 let w':=w.alloc (.map #[] 0)
 let σ':=fun i=>if i=N then none else σ i
 have k:∀i d,lk i ((N,b)::hp)=some d→(i=N∧d=b)∨(i≠N∧lk i hp=some d):=by
  intro i d h;rw[pG]at h;split at h;rename_i e;injection h with h;exact .inl ⟨e.symm,h.symm⟩;rename_i e;exact .inr ⟨fun h'=>e h'.symm,h⟩
 have y:∀i,i≠N→σ' i=σ i:=fun i h=>if_neg h;have r:σ' N=none:=if_pos rfl;have q:w'.heap.size=w.heap.size+1:=World.size_alloc w _;have f:∀i,i<w.heap.size→w'.heap[i]?=w.heap[i]?:=fun i h=>iD w _ i h;have E:∀i d g,lk i hp=some d→σ i=some g→g<w.heap.size:=fun i d g h l=>ee (m.at h l);have C:Step w (bQ c w σ hp) σ hp U w' (bQ c w' σ' ((N,b)::hp)) σ' ((N,b)::hp) (eN U N):=by
  refine⟨fun g l=>⟨⟨by rw[q];have:=l.1.1;omega,fun id D g' x s=>?_⟩,l.2⟩,fun p hp'=>?_,fun _ h=>.inl h,fun id L H x=>?_⟩;rcases k id D x with ⟨rfl,rfl⟩|⟨h,x⟩;rw[r]at s;cases s;rw[y id h]at s;exact l.1.2 id D g' x s;exact World.cell?_of_block (w:=w) (f _ hp'.1.1);rcases k id L x with ⟨rfl,rfl⟩|⟨h,x⟩;exact absurd H hN.at
  refine⟨L,x,rfl,rfl,cL _,fun _ g l=>⟨(y id h).trans l,fun n Y=>?_⟩⟩;obtain⟨cc,h5,h6⟩:=Y;exact⟨cc,(f _ (E id L g x l)).trans h5,h6⟩
 refine⟨.mp N,_,σ',hK,⟨fun i j T V g A Z u v=>?_,fun i d h=>?_,fun i d h=>?_,fun i d g h l=>?_,m.os,m.tape,m.output,by rw[q];have:=m.size;omega,fun g l M=>?_⟩,C,.mp N _ nK fun d J=>?_⟩;rcases k i T A with ⟨W,_⟩|⟨Q,G⟩<;>rcases k j V Z with ⟨X,_⟩|⟨F,O⟩;rw[W,X];rw[W,r]at u;cases u;rw[X,r]at v;cases v;rw[y i Q]at u;rw[y j F]at v;exact m.inj i j T V g G O u v;rcases k i d h with ⟨rfl,rfl⟩|⟨_,h⟩;exact nK;exact .inl (m.lt i d h);rcases k i d h with ⟨rfl,rfl⟩|⟨A,h⟩;exact .inl ⟨r,.inr ⟨rfl,m.size,[],#[],0,rfl,heap_alloc_new w _,aw,aw⟩⟩;rcases m.blk i d h with ⟨R,k2⟩|⟨g,R,k2⟩;exact .inl ⟨(y i A).trans R,k2.keep fun _ _ _ M=>f _ (wU M)⟩;exact .inr ⟨g,(y i A).trans R,k2.step C (f _ (ee k2))⟩;rcases k i d h with ⟨rfl,rfl⟩|⟨A,h⟩;rw[r]at l;cases l;rw[y i A]at l;exact m.mine i d g h l;rw[f g (by have:=m.size;omega)];exact m.old g l M;rcases k N d J with ⟨_,rfl⟩|⟨h,_⟩;rfl;exact absurd rfl h
theorem M1(D:Rel c hp U σ w)(E:∀x,AIs w (bQ c w σ hp) σ hp U (ev fr x) (a.eval x)){t:TypeId}{m x:Operand}(I:o.op=.lookup t m x false)(h:bZ P fr hp N (.lookup t m x false) K) :
  OpOk P c K hp U N σ w ((execOp a.eval o).run P w):=by
 simp only[bZ]at h;unfold luW at h;split at h;rename_i id cs s hx;obtain⟨b,W,u,hb,he,O,rfl,⟨k,e,X,R,hz,f⟩,A⟩:=h;obtain⟨V,C,J,_,_,g,Z,h2⟩:=MZ D (s▸E m) hb he O;have H:=MY (hx▸E x);obtain⟨l,F⟩:=f u aw;have T:∀m∈V.toList,∃l,keyOf P k m.key=some l:=fun m s=>by
  obtain⟨_,v,J,e⟩:=Z m s;rw[e];exact f v (by simp[J])
 have run:∀r:Value,(Instr.lookup t (.map (some b.ty)) (oQ u) false).run P w=.ok r w→(execOp a.eval o).run P w=.ok (.value r) w:=by
  intro r p;simp[execOp,I,J,H,p]
 rcases R.find w F V.toList T with ⟨M,L⟩|⟨j,Y,M,L,q3⟩;have B:decide (u∈W)=false:=by
  refine decide_eq_false fun hu=>?_;obtain⟨m,s,e⟩:=h2 u hu;exact L m s e
 rw[B]at A;exact OpOk.val (run _ (by simp[Instr.lookup,run_underlying X,MapKept.run_getObj_map g,R.check w _ F,M,hz,Result.andThen])) (Good.same D A (.d (.bool _)));have G:Y∈V.toList:=cr L;obtain⟨y,v,Q,e⟩:=Z Y G;have q:decide (u∈W)=true:=by
  refine decide_eq_true ?_;rw[q3]at e;rw[DD e];exact Q
 rw[q]at A;exact OpOk.val (run _ (by simp[Instr.lookup,run_underlying X,MapKept.run_getObj_map g,R.check w _ F,M,y,Result.andThen])) (Good.same D A (.d (.bool _)));exact h.elim
theorem DF(I:Rel c hp U σ w)(E:∀x,AIs w (bQ c w σ hp) σ hp U (ev fr x) (a.eval x)){t:TypeId}{m x v:Operand}(ap:o.op=.mapUpdate t m x v)(h:bZ P fr hp N (.mapUpdate t m x v) K) :
  OpOk P c K hp U N σ w ((execOp a.eval o).run P w):=by
 simp only[bZ]at h;unfold muW at h;split at h;rename_i id cs H hx ak;obtain⟨b,ks,u,hb,he,aa,rfl,⟨k,e,ht,Kd,_,L⟩,W,hK⟩:=h;obtain⟨M,r,y,G,af,d,h1,h2⟩:=MZ I (H▸E m) hb he aa;have ao:=MY (hx▸E x);have am:=gZ (ak▸E v);obtain⟨l,hl⟩:=L u aw;have ai:∀m∈M.toList,∃l,keyOf P k m.key=some l:=fun m H=>by
  obtain⟨_,v,y,e⟩:=h1 m H;rw[e];exact L v (by simp[y])
 have key:∃s f,(Instr.mapUpdate t (.map (some b.ty)) (oQ u) (.bool true)).run P w=.ok () (ChangeMaps.setBlock w b.ty (.map s f)) ∧
   (∀m∈s.toList,m.val=.bool true∧∃v∈ks++[u],m.key=oQ v)∧∀v∈ks++[u],∃m∈s.toList,m.key=oQ v:=by
  rcases Kd.find w hl M.toList ai with ⟨q1,q2⟩|⟨j,e0,q1,q2,q3⟩;refine⟨M.push ⟨oQ u,.bool true,r⟩,r+1,by simp[Instr.mapUpdate,run_underlying ht,MapKept.run_getObj_map d,Kd.check w false hl,q1,MapKept.run_setObj_map _ d,Result.andThen,ChangeMaps.setBlock],fun m H=>?_,fun v y=>?_⟩;simp only[Array.toList_push,cD,List.mem_singleton]at H;rcases H with H|rfl;obtain⟨p1,v,p2,p3⟩:=h1 m H;exact⟨p1,v,cD.2 (.inl p2),p3⟩;exact⟨rfl,u,aw,rfl⟩;rcases cD.1 y with y|y;obtain⟨m,p1,p2⟩:=h2 v y;exact⟨m,by simp[p1],p2⟩;simp only[List.mem_singleton]at y;subst y;exact⟨⟨oQ v,.bool true,r⟩,aw,rfl⟩;have hj:M[j]?=some e0:=by simpa using q2
  have an:e0∈M.toList:=cr q2;obtain⟨ab,v0,aj,ag⟩:=h1 e0 an;have hu:u∈ks:=by
   rw[q3]at ag;rw[DD ag];exact aj
  have q:M.modify j (fun e'=>{ e' with key:=oQ u,val:=.bool true })=M:=by
   apply Array.ext';rw[Array.toList_modify];refine List.ext_getElem? fun i=>?_;rw[List.getElem?_modify];by_cases ae:j=i;subst ae;rw[q2];simp only[if_true,Option.map_eq_map,Option.map_some,Option.some.injEq];rw[←q3,←ab];simp[ae]
  refine⟨M,r,?_,fun m H=>?_,fun v y=>?_⟩;simp[Instr.mapUpdate,run_underlying ht,MapKept.run_getObj_map d,Kd.check w false hl,q1,hj,q3,Kd.stays w hl,q,MapKept.run_setObj_map _ d,Result.andThen,ChangeMaps.setBlock];obtain⟨p1,v,p2,p3⟩:=h1 m H;exact⟨p1,v,cD.2 (.inl p2),p3⟩;refine h2 v ?_;rcases cD.1 y with y|y;exact y;simp only[List.mem_singleton]at y;subst y;exact hu
 obtain⟨s,f,R,g1,g2⟩:=key;have ad:(execOp a.eval o).run P w=.ok .skip (ChangeMaps.setBlock w b.ty (.map s f)):=by
  simp[execOp,ap,y,ao,am,R]
 rw[ad]
 let w':=ChangeMaps.setBlock w b.ty (.map s f)
 let b':Blk:=⟨b.ty,b.e,qJ (ks++[u])⟩
 have q:w'.heap[b.ty]?=some (.map s f):=ChangeMaps.heap_setBlock_same d _;have C:∀i,i≠b.ty→w'.heap[i]?=w.heap[i]?:=fun i h=>ChangeMaps.heap_setBlock_other d _ h;have J:w'.heap.size=w.heap.size:=by simp[w',ChangeMaps.setBlock]
 have B:∀i A,lk i (bV id b' hp)=some A→(i=id∧A=b')∨(i≠id∧lk i hp=some A):=by
  intro i A h;rw[kW]at h;split at h;rename_i e;rw[hb]at h;simp at h;exact .inl ⟨e,h.symm⟩;rename_i e;exact .inr ⟨e,h⟩
 have F:∀g T ty,w.heap[g]?=some (.cells T ty (0,0))→g≠b.ty:=fun g T ty h e=>by
  subst e;rw[d]at h;cases h
 have Z:Step w (bQ c w σ hp) σ hp U w' (bQ c w' σ (bV id b' hp)) σ (bV id b' hp) U:=by
  refine⟨fun g D=>⟨⟨by rw[J];exact D.1.1,fun i ac g' X O=>?_⟩,D.2⟩,fun p hp'=>?_,fun _ h=>h,fun i A av X=>?_⟩;rcases B i ac X with ⟨rfl,rfl⟩|⟨h,Q⟩;rw[G]at O;cases O;exact D.1.2 i ac g' Q O;by_cases hp0:p.block=b.ty;simp only[World.cell?,hp0,q,d];exact World.cell?_of_block (w:=w) (C _ hp0);rcases B i A X with ⟨rfl,rfl⟩|⟨h,Q⟩;refine⟨b,hb,rfl,rfl,?_,fun _ g D=>?_⟩;rw[aa];simp[b',qJ];rw[G]at D;cases D;refine⟨A,Q,rfl,rfl,cL _,fun _ g D=>⟨D,fun n hn=>?_⟩⟩;obtain⟨cc,h5,h6⟩:=hn;exact⟨cc,(C _ (F _ _ _ h5)).trans h5,h6⟩
 have ah:Rel c (bV id b' hp) U σ w':=by
  refine⟨fun i j bi bj g hi hj Y V=>?_,fun i A h=>?_,fun i A h=>?_,fun i A g h D=>?_,I.os,I.tape,I.output,by rw[J];exact I.size,fun g D H=>?_⟩;rcases B i bi hi with ⟨rfl,_⟩|⟨ar,al⟩;rw[G]at Y;cases Y;rcases B j bj hj with ⟨rfl,_⟩|⟨au,aq⟩;rw[G]at V;cases V;exact I.inj i j bi bj g al aq Y V;rcases B i A h with ⟨rfl,rfl⟩|⟨_,h⟩;exact I.lt _ b hb;exact I.lt i A h;rcases B i A h with ⟨rfl,rfl⟩|⟨hi,h⟩;exact .inl ⟨G,.inr ⟨he,af,ks++[u],s,f,rfl,q,g1,g2⟩⟩;rcases I.blk i A h with ⟨k1,k2|⟨k2,_⟩⟩|⟨g,k1,k2⟩;exact .inl ⟨k1,.inl k2⟩;exact absurd (W _ (Ix h) k2) hi;refine .inr ⟨g,k1,k2.step Z (C _ ?_)⟩;obtain⟨T,k3,_⟩:=k2;exact F _ _ _ k3;rcases B i A h with ⟨rfl,rfl⟩|⟨hi,h⟩;rw[G]at D;cases D;exact I.mine i A g h D;rw[C g (fun e=>by subst e;omega)];exact I.old _ D H
 exact⟨.any,_,σ,hK,ah.more,Z.trans Step.more,.any _⟩;exact h.elim
end
section
variable {P:Program} {c:Ctx} {K:AV→Hp→Prop} {fr:Fr} {hp:Hp} {U:Nat→Prop} {N:Nat} {σ:Nat→Option Nat} {w:World} {a:Act} {o:Oper} {S:Nat→Prop}
theorem Gp(G:Rel c hp U σ w)(E:∀x,AIs w (bQ c w σ hp) σ hp U (ev fr x) (a.eval x)){s t:TypeId}{x:Operand}(v:o.op=.convert s t x){g:List Int}{el:TypeId}(O:dA hp 1 (ev fr x)=some (g.map fun b=>[.d (.int .u8 b)]))(Q:∀b,b∈g→0≤b∧b<256)(M:cp P s=.slice el)(T:cp P t=.str)
  (C:P.underlying el=some (.int .u8)) (h:K (.d (.str g)) hp):OpOk P c K hp U N σ w ((execOp a.eval o).run P w):=by
 obtain⟨A,k,H,B,V,R,J,I⟩:=fG (P:=P) G (E x) O;rw[List.length_map]at H R I;have m:∃s:ByteArray,(Conv.bytesToString (.slice A g.length k)).run P w=.ok (.string s) w∧(s.data.toList.map fun c=>(c.toNat:Int))=g:=by
  rcases g with _|⟨y,bs'⟩;cases A with
  |none=>exact⟨.empty,by simp[Conv.bytesToString],rfl⟩
  |some ad =>
   refine⟨.empty,?_,rfl⟩;exact run_bytesToString (P:=P) w ad 0 k [] (by simp[loadCells,loadCellsFrom])
  ·obtain⟨ad,rfl,L⟩:=I aw;have e:=run_loadCells_list (P:=P) w ad ((y::bs').map (Value.int .u8)) (fun j u F=>by
    simp only[cU,Option.map_eq_some_iff]at F;obtain⟨b,l,rfl⟩:=F;have p:j<B.size:=by have:=(ci.1 l).1;omega
    have q:=L j B[j] (dg p);have r:=J.is j 0 [.d (.int .u8 b)] (.d (.int .u8 b)) B[j] (by rw[cU,l];rfl) rfl (by rw[Nat.mul_one,Nat.add_zero];exact dg p);rw[fq r]at q
    exact q)
   rw[List.length_map]at e;have:=run_bytesToString (P:=P) w ad (y::bs').length k (y::bs') e;refine⟨_,this,?_⟩;rw[zG _ Q];rfl
 obtain⟨D,q,r⟩:=m;refine OpOk.val (x:=.string D) ?_ (Good.same G h (by rw[←r];exact .d (.str D)));have f:=run_convert_bytes_string (P:=P) w s t el A g.length k (bW M) C (pI T);simp only[execOp,v,H,Sem.run_bind,f,q,Result.andThen_ok,Sem.run_pure]
theorem Gq(I:Rel c hp U σ w)(E:∀x,AIs w (bQ c w σ hp) σ hp U (ev fr x) (a.eval x)){s t:TypeId}{x:Operand}(u:o.op=.convert s t x){H:List Int}{el:TypeId}(k:ev fr x=.d (.str H))(J:cp P s=.str)(O:cp P t=.slice el)
  (D:P.underlying el=some (.int .u8)) (h:K (.d (.ro 1 (H.map fun b=>[.int .u8 b]))) hp):OpOk P c K hp U N σ w ((execOp a.eval o).run P w):=by
 have g:=E x;rw[k]at g;generalize L:a.eval x=v at g;cases g with
 | d g =>
  cases g with
  | str s0 =>
   have p:=run_bytes_of_string (P:=P) w s t el s0 (pI J) (bW O) D;simp only[execOp,u,L,Sem.run_bind,p,Result.andThen_ok,Sem.run_pure];have f:(((s0.data.toList.map fun c=>(c.toNat:Int)).map fun b=>[DV.int .u8 b])).length=s0.size:=by rw[List.length_map,List.length_map];rfl
   have Q:s0.size≤(bytesRow s0 (grownCap w s0.size 0 el)).size:=by unfold bytesRow;rw[Array.size_append,Array.size_map];exact Nat.le_add_right _ _
   have:=aan (N:=N) (K:=K) I (w':=w.drew.alloc (.cells (bytesRow s0 (grownCap w s0.size 0 el)) el ((bytesRow s0 (grownCap w s0.size 0 el)).size,(bytesRow s0 (grownCap w s0.size 0 el)).size+1))) (e:=1) (cap:=grownCap w s0.size 0 el) (C:=bytesRow s0 (grownCap w s0.size 0 el))
    (es:=(s0.data.toList.map fun c=>(c.toNat:Int)).map fun b=>[DV.int .u8 b]) ⟨rfl,rfl,rfl,by simp[World.size_alloc],fun b M=>iD w.drew _ b M⟩ (by rw[World.size_alloc];exact Nat.lt_succ_self _) (fun j v l=>?_) (fun r q=>?_) (by rw[f];omega) (by rw[f];exact grownCap_ge w s0.size 0 el) (fun i j r y x G l k=>?_) h
   rw[f]at this;exact this;have B:=heap_alloc_new w.drew (.cells (bytesRow s0 (grownCap w s0.size 0 el)) el ((bytesRow s0 (grownCap w s0.size 0 el)).size,(bytesRow s0 (grownCap w s0.size 0 el)).size+1));simp only[World.cell?];rw[show w.heap.size=w.drew.heap.size from rfl,B];simpa using l;obtain⟨b,_,rfl⟩:=List.mem_map.1 q;rfl;simp only[cU,Option.map_eq_some_iff]at G;obtain⟨b,⟨ch,A,rfl⟩,rfl⟩:=G;cases j with
   |succ j=>simp at l
   |zero =>
    simp at l;subst l;have m:=(ci.1 A);obtain⟨B,F⟩:=m;rw[Nat.mul_one,Nat.add_zero,bytesRow_at s0 _ i (by simpa using B)]at k;injection k with k;subst k;simp only[Array.getElem_toList]at F;rw[F];exact .int _ _
theorem jT{len cap:Nat}{f hi:Option Value}{g:Value}{l h m:Int}(d:f=none∧l=0∨∃k,f=some (.int k l))(b:∃k,hi=some (.int k h))(e:∃k,g=.int k m)(j:0≤l)(q:l≤h)(p:h≤m)(h3:m≤cap) :
  (Instr.sliceBounds true len cap f hi (some g)).run P w=.ok (l.toNat,h.toNat,m.toNat) w:=by
 unfold Instr.sliceBounds;obtain⟨t,rfl⟩:=b;obtain⟨k2,rfl⟩:=e;have s:h≤(m.toNat:Int):=aq;have r:l≤(h.toNat:Int):=aq;rcases d with ⟨rfl,rfl⟩|⟨k,rfl⟩;simp[Instr.sliceBound,asIntOf,show 0≤m∧m≤(cap:Int)by omega,show 0≤h∧h≤max m 0 by omega];simp[Instr.sliceBound,asIntOf,show 0≤m∧m≤(cap:Int)by omega,show 0≤h∧h≤max m 0 by omega,show 0≤l∧l≤max h 0 by omega]
theorem Bf{U:Nat→Prop}(E:∀x,AIs w S σ hp U (ev fr x) (a.eval x)){x:Operand}{l:Int}(h:(ev fr x).num=some l):∃k,a.eval x=.int k l:=by
 have b:=E x;unfold AV.num at h;split at h;rename_i k n d;injection h with h;subst h;rw[d]at b;exact⟨k,fq b⟩;cases h
theorem M3(M:Rel c hp U σ w)(E:∀x,AIs w (bQ c w σ hp) σ hp U (ev fr x) (a.eval x)){t:TypeId}{x:Operand}{J hi:Option Operand}{m:Operand}(O:o.op=.slice t x J hi (some m))(h:bZ P fr hp N (.slice t x J hi (some m)) K) :
  OpOk P c K hp U N σ w ((execOp a.eval o).run P w):=by
 simp only[bZ]at h;have run:∀v,(Instr.sliceAt t (a.eval x) (J.map a.eval) (hi.map a.eval) (some (a.eval m))).run P w=.ok v w→(execOp a.eval o).run P w=.ok (.value v) w:=by
  intro v hv;simp[execOp,O,hv]
 have u:=E x;generalize Z:a.eval x=xv at u run;generalize aa:ev fr x=xa at u h;generalize q:A8 fr 0 J=blo at h;generalize p:Gi fr hi=bhi at h;generalize B:(ev fr m).num=bmx at h;generalize Q:cp P t=k at h;unfold nL at h;have g:∀l,bhi=some l→∃k,hi.map a.eval=some (.int k l):=by
  intro l X;rw[X]at p;cases hi with
  |none=>cases p
  |some y =>
   obtain⟨k,R⟩:=Bf E p;exact⟨k,by simp[R]⟩
 split at h
 ·rename_i e C el l f mm;obtain⟨F,he,W,R,rfl,h2,h⟩:=h;cases u with
  | d u =>
   cases u with
   | ro _ _ A cap vs hc hel hA hv1 hd =>
    have G:=jT (P:=P) (w:=w) (len:=C.length) (cap:=cap) (gy E q) (g _ rfl) (Bf E B) W R (Int.le_refl _) aq;have I:((C.take f.toNat).drop l.toNat).length=f.toNat-l.toNat:=by simp;omega
    have b:∀(i:Nat)(r:List DV),((C.take f.toNat).drop l.toNat)[i]?=some r→C[l.toNat+i]?=some r:=by
     intro i r hi;rw[List.getElem?_drop,List.getElem?_take]at hi;split at hi;exact hi;cases hi
    have D:∀(i:Nat)(r:List DV),((C.take f.toNat).drop l.toNat)[i]?=some r→f.toNat≠l.toNat:=by
     intro i r hi;have:=(ci.1 hi).1;omega
    refine OpOk.val (run (.slice (if f.toNat=l.toNat then A else A.map (·.add (l.toNat*P.cellsOf el))) (f.toNat-l.toNat) (f.toNat-l.toNat)) ?_) (Good.same M h (.d ?_))
    simp[Instr.sliceAt,Instr.slice,run_underlying (bW Q),G,bn F];rw[←I];refine .rof e _ _ (fun i j=>vs (l.toNat+i) j) (fun r s=>?_) (fun r s=>?_) (fun ad H i j r y hi L=>?_) (fun i j r y(hi:((C.take f.toNat).drop l.toNat)[i]?=some r)L=>hd _ j r y (b i r hi) L);obtain⟨i,hi⟩:=List.getElem?_of_mem s;exact hel r (cr (b i r hi));obtain⟨i,hi⟩:=List.getElem?_of_mem s;obtain⟨ad,V,k2⟩:=hA r (cr (b i r hi));rw[if_neg (D i r hi),V];exact⟨_,rfl,by rw[fx];exact k2⟩;rw[if_neg (D i r hi)]at H;obtain⟨T,V,rfl⟩:=Option.map_eq_some_iff.1 H;rw[mn,←he,show l.toNat*e+(i*e+j)=(l.toNat+i)*e+j by rw[Nat.add_mul];omega];exact hv1 T V _ j r y (b i r hi) L
 ·rename_i el l f mm;obtain⟨F,rfl,rfl,rfl,h⟩:=h;have G:=jT (P:=P) (w:=w) (len:=0) (cap:=0) (gy E q) (g _ rfl) (Bf E B) aq aq aq aq;cases u with
  |nil =>
   refine OpOk.val (run (.slice none 0 0) ?_) (Good.same M h (.d (.rof _ [] none (fun _ _=>undef) aw aw aw aw)));simp[Instr.sliceAt,Instr.slice,run_underlying (bW Q),G,bn F]
 ·rename_i id i0 len Y el l f mm;obtain⟨F,rfl,rfl,rfl,h⟩:=h;cases u with
  |own _ _ _ _ A cap hN X W hq =>
   have G:=jT (P:=P) (w:=w) (len:=len) (cap:=cap) (gy E q) (g _ rfl) (Bf E B) aq aq aq aq;refine OpOk.val (run (.slice A 0 0) ?_) (Good.same M h (.d (.rof _ [] A (fun _ _=>undef) aw aw aw aw)));simp[Instr.sliceAt,Instr.slice,run_underlying (bW Q),G,bn F]
 ·exact h.elim
theorem WY(X:Rel c hp U σ w)(E:∀x,AIs w (bQ c w σ hp) σ hp U (ev fr x) (a.eval x))(W:Free U N){t:TypeId}{l m:Operand}(B:o.op=.makeSlice t l m)(h:bZ P fr hp N (.makeSlice t l m) K) :
  OpOk P c K hp U N σ w ((execOp a.eval o).run P w):=by
 simp only[bZ]at h;have run:∀v u,(Instr.makeSlice t (a.eval l) (a.eval m)).run P w=.ok v u→(execOp a.eval o).run P w=.ok (.value v) u:=by
  intro v u hv;simp[execOp,B,hv]
 have J:=E l;have M:=E m;unfold Io at h;split at h;rename_i el kl n kc q hk G p;split at h;rename_i z hz;obtain⟨T,h1,h2,R,h4,h⟩:=h;rw[G]at J;rw[p]at M;obtain⟨v,i,D,I,hs,A,_,H⟩:=zJ (w:=w) (S:=bQ c w σ hp) (σ:=σ) (hp:=hp) (U:=U) hz;have g:i.size=P.cellsOf el:=by simp[Program.cellsOf,D]
 have k:i.bytes=P.bytesOf el:=by simp[Program.bytesOf,D]
 have C:0≤q:=aq;have s:=run_makeSlice (P:=P) w t el i v (bW hk) D I kl kc n q T h1 (by
  rw[g];have:((q.toNat*P.cellsOf el:Nat):Int)≤16777216:=by
   rw[Int.natCast_mul,Int.toNat_of_nonneg C];exact h2
  omega) (by rw[k];exact R) h4
 rw[run _ _ (by rw[fq J,fq M];exact s)];have b:=pO (P:=P) (el:=el) H hs A q.toNat
 have d:RIs w (bQ c w σ hp) σ hp U (P.cellsOf el) (List.replicate n.toNat z) (madeCells v.cells (q.toNat*i.size)):=by
  have Y:madeCells v.cells (q.toNat*i.size)=(Array.range (q.toNat*P.cellsOf el)).map (v.cells[·%v.cells.size]!):=by rw[g];rfl
  rw[Y];refine⟨?_,fun r f=>?_,b.one,fun Z j r y x e V hx=>?_⟩;have:=b.len;rw[List.length_replicate]at this⊢;exact Nat.le_trans (fk _ aq) this;have L:0<n.toNat:=by
   rcases Nat.eq_zero_or_pos n.toNat with F|F;rw[F]at f;simp at f;exact F
  refine b.row r ?_;have e2:=List.eq_of_mem_replicate f;subst e2;exact List.mem_replicate.2 ⟨aq,rfl⟩;refine b.is Z j r y x ?_ V hx;have Q:=(ci.1 e).1;rw[List.length_replicate]at Q;rw[List.getElem?_replicate]at e⊢;rw[if_pos Q]at e;rw[if_pos aq];exact e
 have O:=se (K:=K) X W (el:=el) (cap:=q.toNat) d (by rw[List.length_replicate];omega) (by rw[size_madeCells,g];exact cL _) (by rw[List.length_replicate];exact h);rw[List.length_replicate]at O;exact O;exact h.elim;exact h.elim
theorem aao(C:Rel c hp U σ w)(E:∀x,AIs w (bQ c w σ hp) σ hp U (ev fr x) (a.eval x)){t:TypeId}{x:Operand}(H:o.op=.sliceToArrayPointer t x)(h:bZ P fr hp N (.sliceToArrayPointer t x) K) :
  OpOk P c K hp U N σ w ((execOp a.eval o).run P w):=by
 simp only[bZ]at h;have run:∀v,(Instr.arrayAt t (a.eval x)).run P w=.ok v w→(execOp a.eval o).run P w=.ok (.value v) w:=by
  intro v s;simp[execOp,H,s]
 have m:=E x;unfold Kx at h;split at h
 ·rename_i n el D I s;obtain⟨O,J,h⟩:=h;rw[s]at m;generalize a.eval x=xv at m run;cases m with
  | d m =>
   cases m with
   | ro _ _ A L vs hc hel hA hv1 hd =>
    have B:0<D.length:=aq;obtain⟨ad,Y,k2⟩:=hA D[0] (List.getElem_mem B);subst Y;have k:∀(l:List (List DV)),(∀r,r∈l→r.length=1)→∀(j:Nat)(y:DV),l.flatten[j]?=some y→l[j]?=some [y]:=by
     intro l
     induction l with
     |nil=>intro _ j y f;simp at f
     | cons r l ih =>
      intro G j y f
      match r,G r (dz ..)with
      |[u],_ =>
       cases j with
       |zero=>simp at f;subst f;rfl
       |succ j=>simp at f;simpa using ih (fun r C=>G r (cS _ C)) j y f
    refine OpOk.val (run (.pointer (some ad)) (run_arrayAt (P:=P) w t el n (some ad) _ _ (iP I) J)) (Good.same C h (.rop _ ad (fun j=>vs j 0) k2 (fun j y f=>?_) (fun j y f=>?_)));have:=hv1 ad rfl j 0 _ y (k D hel j y f) rfl;rw[Nat.mul_one,Nat.add_zero]at this;exact this;exact hd j 0 _ y (k D hel j y f) rfl
 ·rename_i n el id i p e R L F I s;split at h;rename_i b M;obtain⟨X,O,J,h⟩:=h;rw[s]at m;generalize a.eval x=xv at m run;cases m with
  |sub _ _ _ _ _ _ _ A hN' G hA0 hA =>
   obtain⟨W,V⟩:=hA b M;obtain⟨q3,Z,Q⟩:=V X;obtain⟨g,T,rfl⟩:=Q aq;refine OpOk.val (run (.pointer (some ⟨g,i*b.e+p,none⟩)) (run_arrayAt (P:=P) w t el n (some ⟨g,i*b.e+p,none⟩) _ _ (iP I) J)) (Good.same C h (.ptr id i p F _ hN' fun b' q=>?_));rw[M]at q;cases q;exact⟨W,fun _=>⟨g,T,rfl⟩⟩
  ·exact h.elim
 ·exact h.elim
theorem KD(T:Rel c hp U σ w){id g i off:Nat}{b:Blk}{d:List AV}{f:Array Value}(W:lk id hp=some b)(V:σ id=some g)(h:b.es[i]?=some d)(s:w.heap[g]?=some (.cells f b.ty (0,0)))
  (l:List Value) (cs:List AV) (aa:cs.length=l.length) (X:off+l.length≤d.length) (h1:∀u∈l,u.oneCell'=true) (h2:∀(j:Nat)(y:AV)(u:Value),cs[j]?=some y→l[j]?=some u→AIs w (bQ c w σ hp) σ hp U y u) :
  let w':=w.setRow g (f.toList.take (i*b.e+off)++l++f.toList.drop (i*b.e+off+l.length)).toArray
  let b':Blk:=⟨b.ty,b.e,b.es.set i (d.take off++(cs++d.drop (off+cs.length)))⟩
  Rel c (bV id b' hp) U σ w'∧Step w (bQ c w σ hp) σ hp U w' (bQ c w' σ (bV id b' hp)) σ (bV id b' hp) U:=by
 have H:i<b.es.length:=(ci.1 h).1;obtain⟨ab,G,C,O,q4,M⟩:=T.at W V;rw[s]at G;injection G with G;injection G with G;subst G;have Z:d.length=b.e:=O d (cr h);have ac:i*b.e+b.e≤f.size:=by
  have:(i+1)*b.e≤b.es.length*b.e:=fk _ aq;rw[Nat.add_mul,Nat.one_mul]at this;omega
 have I:(d.take off++(cs++d.drop (off+cs.length))).length=b.e:=by simp;omega
 have A:∀m,(f.toList.take (i*b.e+off)++l++f.toList.drop (i*b.e+off+l.length)).toArray[m]? =
   if m<i*b.e+off then f[m]? else if m<i*b.e+off+l.length then l[m-(i*b.e+off)]? else f[m]?:=by
  intro m;simp only[List.getElem?_toArray,cA];rw[List.getElem?_append];have D:(f.toList.take (i*b.e+off)).length=i*b.e+off:=by simp;omega
  rw[D];by_cases E:m<i*b.e+off;simp[E];rw[if_neg E,if_neg E,List.getElem?_append];by_cases q:m<i*b.e+off+l.length;rw[if_pos aq,if_pos q];rw[if_neg aq,if_neg q,List.getElem?_drop,Array.getElem?_toList];congr 1;omega
 have v:∀m,(d.take off++(cs++d.drop (off+cs.length)))[m]?=if m<off then d[m]? else if m<off+cs.length then cs[m-off]? else d[m]?:=by
  intro m;rw[List.getElem?_append];have D:(d.take off).length=off:=by simp;omega
  rw[D];by_cases E:m<off;simp[E];rw[if_neg E,if_neg E,List.getElem?_append];by_cases q:m<off+cs.length;rw[if_pos aq,if_pos q];rw[if_neg aq,if_neg q,List.getElem?_drop];congr 1;omega
 exact A9 T (b':=⟨b.ty,b.e,b.es.set i (d.take off++(cs++d.drop (off+cs.length)))⟩) W V rfl rfl aw f (f.toList.take (i*b.e+off)++l++f.toList.drop (i*b.e+off+l.length)).toArray s (by simp;omega)
  (fun m y x=>by
   rw[A]at x;split at x;exact C m y x;split at x;exact h1 y (cr x)
   exact C m y x)
  (fun y x=>by
   rcases List.mem_or_eq_of_mem_set x with Q|rfl;exact O y Q
   exact I)
  (fun k j r y u B t p=>by
   rw[A]at p;simp only[List.getElem?_set]at B;by_cases R:i=k;subst R;simp only[if_true,H]at B;injection B with B;subst B;rw[v]at t;by_cases F:j<off;rw[if_pos F]at t;rw[if_pos aq]at p;exact M i j d y u h t p;rw[if_neg F]at t;rw[if_neg aq]at p;by_cases L:j<off+cs.length;rw[if_pos L]at t;rw[if_pos aq]at p;rw[show i*b.e+j-(i*b.e+off)=j-off by omega]at p;exact h2 _ y u t p;rw[if_neg L]at t;rw[if_neg aq]at p;exact M i j d y u h t p;rw[if_neg R]at B;have hj:j<b.e:=by
    have:=(ci.1 t).1;rw[O r (cr B)]at this;exact this
   have Y:¬(i*b.e≤k*b.e+j∧k*b.e+j<i*b.e+b.e):=by
    rintro⟨F,L⟩;rcases Nat.lt_or_gt_of_ne R with Q|Q;have:(i+1)*b.e≤k*b.e:=fk _ aq;rw[Nat.add_mul,Nat.one_mul]at this;omega;have:(k+1)*b.e≤i*b.e:=fk _ aq;rw[Nat.add_mul,Nat.one_mul]at this;omega
   have J:f[k*b.e+j]?=some u:=by
    by_cases F:k*b.e+j<i*b.e+off
    ·rwa [if_pos F]at p
    ·rw[if_neg F,if_neg aq]at p;exact p
   exact M k j r y u B t J)
theorem DG:∀(xs:List (List AV)),(∀r,r∈xs→r.length=1)→∀(j:Nat)(y:AV),xs.flatten[j]?=some y→xs[j]?=some [y]
 |[],_,j,y,h=>by simp at h
 | r :: xs,hr,j,y,h=>by
  have d:=hr r (dz ..)
  match r,d with
  | [x],_ =>
   cases j with
   |zero=>simpa using h
   |succ j =>
    simp only[List.flatten_cons,List.cons_append,List.nil_append,List.getElem?_cons_succ]at h⊢;exact DG xs (fun r b=>hr r (cS _ b)) j y h
theorem sf:∀(xs:List (List AV)),(∀r,r∈xs→r.length=1)→xs.flatten.length=xs.length
 |[],_=>rfl
 |r::xs,hr=>by
  rw[List.flatten_cons,b_,hr r (dz ..),sf xs fun r h=>hr r (cS _ h),List.length_cons];omega
theorem WZ (hr:Rel c hp U σ w) (E:∀ x,AIs w (bQ c w σ hp) σ hp U (ev fr x) (a.eval x)) {ts tx:TypeId} {s x:Operand} {cl:Call} (ay:o.op=.call cl) (hc:cl.callee=.builtin .copy) (ha:cl.args.toList=[s,x]) (ht:cl.argTypes.toList=[ts,tx])
  (h:y5 P fr hp N .copy [s,x] [ts,tx] K):OpOk P c K hp U N σ w ((execOp a.eval o).run P w):=by
 simp only[y5]at h;have aC:cl.args=#[s,x]:=by rw[←Array.toArray_toList (xs:=cl.args),ha]
 have av:cl.argTypes=#[ts,tx]:=by rw[←Array.toArray_toList (xs:=cl.argTypes),ht]
 have run:∀(v:Value)(w':World),(Builtin.copy_ #[ts,tx] o.type #[a.eval s,a.eval x]).run P w=.ok v w'→(execOp a.eval o).run P w=.ok (.value v) w':=by
  intro v w' I;simp[execOp,ay,resolve,hc,aC,av,invoke,builtin,I]
 split at h
 ·rename_i el el2 au ar;have Z:=bW au;have aK:=bW ar;obtain⟨aJ,h⟩:=h;have aa:=E x;have Y:=E s;generalize aL:a.eval x=xv at aa run;generalize aH:a.eval s=sv at Y run;generalize ev fr x=xa at aa h;generalize ev fr s=sa at Y h;generalize ai:dA hp (P.cellsOf el) xa=oxs at h;unfold Iq at h;split at h
  ·rename_i id p f ap xs;split at h
   ·rename_i b hb;obtain⟨ac,V,X,h⟩:=h;obtain⟨B,k,rfl,us,aB,ag,C,L⟩:=fG (P:=P) hr aa ai;rw[X,Nat.mul_one]at ag;have t:(P.info? el).map (·.size)=some 1:=by
     have l:P.cellsOf el=1:=X;unfold Program.cellsOf at l;cases hq:P.info? el with
     |none=>rw[hq]at l;simp at l
     |some i=>rw[hq]at l;simp at l;simp[l]
    cases Y with
    | own _ _ _ _ A W hU hl hA0 h' =>
     obtain⟨k1,k2⟩:=h' b hb;obtain⟨k3,k4,k5⟩:=k2 ac;have T:Nat.min xs.length f=min f xs.length:=(by rw[Nat.min_comm]);rcases Nat.eq_zero_or_pos (min f xs.length)with h0|h0;have J:=run_copy_none (P:=P) w ts tx o.type el A B f W xs.length k Z t (by rw[T];exact h0);refine OpOk.val (run _ _ J) (Good.same hr (v:=.d (.int .i64 0)) ?_ (.d (.int _ _)));rw[h0]at h;have ah:xs.take f=[]:=by
      apply List.eq_nil_of_length_eq_zero;rw[List.length_take];exact h0
     rw[ah,List.nil_append,Nat.add_zero,List.take_append_drop]at h;have e1:(⟨b.ty,b.e,b.es⟩:Blk)=b:=rfl;rw[e1,pQ hb]at h;exact h
     ·obtain⟨g,hg,hA,n,al,hn⟩:=k5 aq;obtain⟨q,m1,m2,m3,m4,m5⟩:=hr.at hb hg;have aF:q.size=n:=by
       obtain⟨cc,p1,p2⟩:=al;rw[m1]at p1;injection p1 with p1;injection p1 with p1;rw[p1];exact p2
      rw[V,Nat.mul_one]at hA hn m4;clear al k5 k2 h';subst hA;obtain⟨ad,Q,F⟩:=L aq;subst Q
      let n0:=min f xs.length
      let cs:=us.toList.take n0
      have G:cs.length=n0:=by simp only[cs,List.length_take,Array.length_toList];omega
      have J:=run_copy_row (P:=P) w ts tx o.type el g p f W ad xs.length k q b.ty cs Z t m1 (by rw[G,T]) (fun j v D=>F j v (by
       rw[List.getElem?_take]at D;split at D;simpa using D
       cases D)) aq (fun v I=>by
       obtain⟨j,D⟩:=List.getElem?_of_mem (List.mem_of_mem_take I)
       exact C.one j v (by simpa using D))
      rw[run _ _ J,G];have ak:(b.es.take p++(xs.take f++b.es.drop (p+n0))).length=b.es.length:=by
       simp only[b_,List.length_take,e_];omega
      have hC:∀m,((q.toList.take p++cs++q.toList.drop (p+n0)).toArray)[m]?=if m<p then q[m]? else if m<p+n0 then us[m-p]? else q[m]?:=by
       intro m;rw[List.getElem?_toArray,cA,List.getElem?_append];have e0:(q.toList.take p).length=p:=by simp;omega
       rw[e0];split;rename_i H;rw[List.getElem?_take,if_pos H];simp;rename_i H;rw[List.getElem?_append,G];by_cases am:m<p+n0;rw[if_pos aq,if_pos am,List.getElem?_take,if_pos aq];simp;rw[if_neg aq,if_neg am,List.getElem?_drop,show p+n0+(m-p-n0)=m by omega];simp
      have hE:∀(m:Nat)(r:List AV),(b.es.take p++(xs.take f++b.es.drop (p+n0)))[m]?=some r→(m<p∧b.es[m]?=some r)∨(p≤m∧m<p+n0∧xs[m-p]?=some r)∨(p+n0≤m∧b.es[m]?=some r):=by
       intro m r H;rw[List.getElem?_append]at H;have e0:(b.es.take p).length=p:=by simp;omega
       rw[e0]at H;split at H;rename_i O;rw[List.getElem?_take,if_pos O]at H;exact .inl ⟨O,H⟩;rename_i O;rw[List.getElem?_append,List.length_take]at H;split at H;rename_i aj;rw[List.getElem?_take,if_pos aq]at H;exact .inr (.inl ⟨aq,aq,H⟩);rename_i aj;rw[List.getElem?_drop]at H;refine .inr (.inr ⟨aq,?_⟩);rw[show m=p+n0+(m-p-min f xs.length)by omega];exact H
      have aA:=A9 hr hb hg (b':=⟨b.ty,b.e,b.es.take p++(xs.take f++b.es.drop (p+n0))⟩) rfl rfl ak q (q.toList.take p++cs++q.toList.drop (p+n0)).toArray m1 (by
        simp only[List.size_toArray,b_,List.length_take,e_,G,Array.length_toList]
        omega) (fun i' y hy=>by
        rw[hC]at hy;split at hy;exact m2 _ _ hy;split at hy;exact C.one _ _ hy
        exact m2 _ _ hy) (fun r ae=>by
        obtain⟨m,H⟩:=List.getElem?_of_mem ae;rcases hE m r H with ⟨_,l⟩|⟨_,_,l⟩|⟨_,l⟩;exact m3 r (cr l);rw[V,←X];exact C.row r (cr l)
        exact m3 r (cr l)) (fun i' j r y v hi D I=>by
        rw[hC]at I;have aI:j<b.e:=by
         have l:=(ci.1 D).1;rcases hE i' r hi with ⟨_,R⟩|⟨_,_,R⟩|⟨_,R⟩;rw[m3 r (cr R)]at l;exact l;rw[C.row r (cr R),X]at l;omega;rw[m3 r (cr R)]at l;exact l
        have az:j=0:=aq;subst az;rw[V,Nat.mul_one,Nat.add_zero]at I;rcases hE i' r hi with ⟨l,R⟩|⟨l,aD,R⟩|⟨l,R⟩;rw[if_pos l]at I;exact m5 i' 0 r y v R D (by rw[V,Nat.mul_one,Nat.add_zero];exact I);rw[if_neg aq,if_pos aD]at I;exact C.is _ 0 r y v R D (by rw[X,Nat.mul_one,Nat.add_zero];exact I);rw[if_neg aq,if_neg aq]at I
        exact m5 i' 0 r y v R D (by rw[V,Nat.mul_one,Nat.add_zero];exact I))
      obtain⟨r1,r2⟩:=aA;exact⟨_,_,_,h,r1.more,r2.trans Step.more,.d (.int _ _)⟩
   ·exact h.elim
  ·rename_i id i off e f W ap xs;split at h;rename_i b hb;split at h;rename_i af M;obtain⟨ac,rfl,X,h⟩:=h;obtain⟨B,k,rfl,us,aB,ag,C,L⟩:=fG (P:=P) hr aa ai;rw[X,Nat.mul_one]at ag;have t:(P.info? el).map (·.size)=some 1:=by
    have l:P.cellsOf el=1:=X;unfold Program.cellsOf at l;cases hq:P.info? el with
    |none=>rw[hq]at l;simp at l
    |some i=>rw[hq]at l;simp at l;simp[l]
   have an:∀r,r∈xs.take f→r.length=1:=fun r ae=>by
    have:=C.row r (List.mem_of_mem_take ae);rw[X]at this;exact this
   have aw:=sf _ an;have ao:(xs.take f).length=min f xs.length:=List.length_take;cases Y with
   | sub _ _ _ _ _ _ _ A hU hl hA0 h' =>
    obtain⟨k1,k2⟩:=h' b hb;obtain⟨k3,k4,k5⟩:=k2 ac;have T:Nat.min xs.length f=min f xs.length:=(by rw[Nat.min_comm]);rcases Nat.eq_zero_or_pos (min f xs.length)with h0|h0;have J:=run_copy_none (P:=P) w ts tx o.type el A B f W xs.length k Z t (by rw[T];exact h0);refine OpOk.val (run _ _ J) (Good.same hr (v:=.d (.int .i64 0)) ?_ (.d (.int _ _)));rw[h0]at h;have ah:xs.take f=[]:=List.eq_nil_of_length_eq_zero (by rw[ao];exact h0);have ax:b.es.set i af=b.es:=by
     obtain⟨O,he⟩:=ci.1 M;rw[←he];exact List.set_getElem_self O
    rw[ah,List.flatten_nil,List.nil_append,List.length_nil,Nat.add_zero,List.take_append_drop,ax]at h;have e1:(⟨b.ty,b.e,b.es⟩:Blk)=b:=rfl;rw[e1,pQ hb]at h;exact h;obtain⟨g,hg,hA⟩:=k5 aq;obtain⟨q,m1,m2,m3,m4,m5⟩:=hr.at hb hg;have aG:af.length=b.e:=m3 af (cr M);have aE:i<b.es.length:=(ci.1 M).1;have aM:i*b.e+b.e≤q.size:=by
     have:(i+1)*b.e≤b.es.length*b.e:=fk _ aq;rw[Nat.add_mul,Nat.one_mul]at this;omega
    subst hA;obtain⟨ad,Q,F⟩:=L aq;subst Q
    let n0:=min f xs.length
    let cs:=us.toList.take n0
    have G:cs.length=n0:=by simp only[cs,List.length_take,Array.length_toList];omega
    have J:=run_copy_row (P:=P) w ts tx o.type el g (i*b.e+off) f W ad xs.length k q b.ty cs Z t m1 (by rw[G,T]) (fun j v D=>F j v (by
     rw[List.getElem?_take]at D;split at D;simpa using D
     cases D)) aq (fun v I=>by
     obtain⟨j,D⟩:=List.getElem?_of_mem (List.mem_of_mem_take I)
     exact C.one j v (by simpa using D))
    rw[run _ _ J];obtain⟨r1,r2⟩:=KD hr (off:=off) hb hg M m1 cs (xs.take f).flatten (by rw[aw,ao,G]) aq (fun v I=>by
     obtain⟨j,D⟩:=List.getElem?_of_mem (List.mem_of_mem_take I)
     exact C.one j v (by simpa using D)) (fun j y u hy hu=>by
     have ab:=DG _ an j y hy;rw[List.getElem?_take]at ab;simp only[cs]at hu;rw[List.getElem?_take]at hu;split at ab;split at hu;exact C.is j 0 [y] y u ab rfl (by rw[X,Nat.mul_one,Nat.add_zero];simpa using hu);cases hu
     cases ab)
    rw[G]at r1 r2⊢;exact⟨_,_,_,h,r1.more,r2.trans Step.more,.d (.int _ _)⟩
   ·exact h.elim
   ·exact h.elim
  ·exact h.elim
 ·exact h.elim
theorem sk{t:TypeId}{v:AV}{f:List AV}{xs:Array Value}{off:Nat}{S:Nat→Prop}(g:Gh P t f=some v)
  (p:∀(j:Nat)(y:AV),f[j]?=some y→∃x,xs[off+j]?=some x∧x.oneCell'=true∧AIs w S σ hp U y x) :
  ∃x,(part t xs off).run P w=.ok x w∧AIs w S σ hp U v x:=by
 have agg:∀d,P.underlying t=some d→Ky d=true→P.cellsOf t≤f.length→v=.agg (f.take (P.cellsOf t)) →
   ∃x,(part t xs off).run P w=.ok x w∧AIs w S σ hp U v x:=by
  intro d h l D r;subst r;refine⟨.agg (xs.extract off (off+P.cellsOf t)),?_,?_⟩;unfold part;rw[Sem.run_bind,fg h,l];simp[rZ h];have A:P.cellsOf t=0∨off+P.cellsOf t≤xs.size:=by
   rcases Nat.eq_zero_or_pos (P.cellsOf t)with m|m;exact .inl m;obtain⟨x,k,_,_⟩:=p (P.cellsOf t-1) _ (cm aq);have:=(Array.getElem?_eq_some_iff.1 k).1;exact .inr aq
  refine .agg _ _ (by simp;omega) (fun i x b=>?_) (fun i E x hc b=>?_);rw[Array.getElem?_extract]at b;split at b;rename_i s;obtain⟨C,k,B,_⟩:=p i _ (cm aq);rw[k]at b;injection b with b;subst b;exact B;cases b;rw[Array.getElem?_extract]at b;rw[List.getElem?_take]at hc;split at hc;split at b;obtain⟨C,k,_,q⟩:=p i _ hc;rw[k]at b;injection b with b;subst b;exact q;cases b;cases hc
 have scal:∀d,P.underlying t=some d→Ky d=false→f.head?=some v →
   ∃x,(part t xs off).run P w=.ok x w∧AIs w S σ hp U v x:=by
  intro d h l u;have m:f[0]?=some v:=by rw[←List.head?_eq_getElem?];exact u
  obtain⟨x,k,_,q⟩:=p 0 v m;rw[Nat.add_zero]at k;refine⟨x,?_,q⟩;unfold part;rw[Sem.run_bind,fg h,l];simp[k]
 unfold Gh at g;cases h:P.underlying t with
 |none=>simp[cp,h]at g
 | some d =>
  cases d with
  |struct F =>
   simp only[cp,h]at g;split at g;injection g with g;exact agg _ h rfl ‹_› g.symm;cases g
  |array n e =>
   simp only[cp,h]at g;split at g;injection g with g;exact agg _ h rfl ‹_› g.symm;cases g
  |_=>simp only[cp,h]at g;exact scal _ h rfl g
theorem RQ(l:Rel c hp U σ w)(E:∀x,AIs w (bQ c w σ hp) σ hp U (ev fr x) (a.eval x)){t:TypeId}{x:Operand}{i:Nat}(k:o.op=.field t x i)(h:bZ P fr hp N (.field t x i) K) :
  OpOk P c K hp U N σ w ((execOp a.eval o).run P w):=by
 simp only[bZ]at h;split at h;rename_i C B A r q;have d:=E x;rw[r]at d;generalize g:a.eval x=vx at d;cases d with
 | agg _ xs hl h2 h3 =>
  split at h;rename_i v s;obtain⟨F,f,p,m,rfl,rfl⟩:=uV q;obtain⟨y,e,u⟩:=sk (w:=w) (xs:=xs) (off:=f.offset) s fun j y e=>by
   rw[List.getElem?_drop]at e;have b:f.offset+j<xs.size:=by rw[←hl];exact(ci.1 e).1
   exact⟨xs[f.offset+j],dg b,h2 _ _ (dg b),h3 _ y _ e (dg b)⟩
  refine OpOk.val (x:=y) ?_ (Good.same l h u);simp[execOp,k,g,Instr.field,asAgg,run_underlying p,m,e];exact h.elim
 ·exact h.elim
theorem RR (J:Rel c hp U σ w) (E:∀ x,AIs w (bQ c w σ hp) σ hp U (ev fr x) (a.eval x)) {t:TypeId} {x i:Operand} (A:o.op=.index t x i) (h:bZ P fr hp N (.index t x i) K) :
  OpOk P c K hp U N σ w ((execOp a.eval o).run P w):=by
 simp only[bZ]at h;split at h
 ·rename_i n el W k m I M O;obtain⟨G,Q,h⟩:=h;have f:=E x;rw[M]at f;have p:=fq (O▸E i);generalize l:a.eval x=vx at f;cases f with
  | agg _ xs hl h2 h3 =>
   split at h
   ·rename_i g;obtain⟨D,h⟩:=h;split at h
    ·rename_i v r;have e:m.toNat<xs.size:=by rw[←hl];exact(ci.1 r).1
     refine OpOk.val (x:=xs[m.toNat]) ?_ (Good.same J h (h3 _ v _ r (dg e)));have q:(isAgg el).run P w=.ok false w:=by
      have H:∃d,P.underlying el=some d∧Ky d=false:=by
       unfold cp at g;cases u:P.underlying el with
       |none=>rw[u]at g;cases g
       |some d =>
        rw[u]at g;refine⟨d,rfl,?_⟩;cases d<;>first|rfl|cases g
      obtain⟨d,u,C⟩:=H;rw[fg u,C]
     have R:m.toNat*1=m.toNat:=Nat.mul_one _;simp[execOp,A,l,p,Instr.index,asIntOf,run_underlying (iP I),G,Q,bn (P:=P) (w:=w) (t:=el) (by rw[D];decide),D,part,q,e]
    ·exact h.elim
   ·rename_i g;obtain⟨D,h⟩:=h;split at h
    ·rename_i v r;have e:m.toNat<xs.size:=by rw[←hl];exact(ci.1 r).1
     refine OpOk.val (x:=xs[m.toNat]) ?_ (Good.same J h (h3 _ v _ r (dg e)));have q:(isAgg el).run P w=.ok false w:=by
      have H:∃d,P.underlying el=some d∧Ky d=false:=by
       unfold cp at g;cases u:P.underlying el with
       |none=>rw[u]at g;cases g
       |some d =>
        rw[u]at g;refine⟨d,rfl,?_⟩;cases d<;>first|rfl|cases g
      obtain⟨d,u,C⟩:=H;rw[fg u,C]
     have R:m.toNat*1=m.toNat:=Nat.mul_one _;simp[execOp,A,l,p,Instr.index,asIntOf,run_underlying (iP I),G,Q,bn (P:=P) (w:=w) (t:=el) (by rw[D];decide),D,part,q,e]
    ·exact h.elim
   ·obtain⟨D,h⟩:=h;split at h;rename_i v r;obtain⟨y,F,L⟩:=sk (w:=w) (xs:=xs) (off:=m.toNat*P.cellsOf el) r fun j y F=>by
     rw[List.getElem?_drop]at F;have e:m.toNat*P.cellsOf el+j<xs.size:=by rw[←hl];exact(ci.1 F).1
     exact⟨xs[m.toNat*P.cellsOf el+j],dg e,h2 _ _ (dg e),h3 _ y _ F (dg e)⟩
    refine OpOk.val (x:=y) ?_ (Good.same J h L);simp[execOp,A,l,p,Instr.index,asIntOf,run_underlying (iP I),G,Q,bn (P:=P) (w:=w) (t:=el) D,F];exact h.elim
   ·exact h.elim
 ·rename_i V k m I M O;obtain⟨G,h⟩:=h;have f:=E x;rw[M]at f;have p:=fq (O▸E i);split at h;rename_i b r;generalize l:a.eval x=vx at f;cases f with
  | d H =>
   cases H with
   | str s =>
    rw[cU,Option.map_eq_some_iff]at r;obtain⟨T,B,rfl⟩:=r;rw[Array.getElem?_toList]at B;have e:m.toNat<s.size:=(Array.getElem?_eq_some_iff.1 B).1;have g:s[m.toNat]?=some T:=by
     rw[getElem?_pos s m.toNat e];exact congrArg some (Array.getElem?_eq_some_iff.1 B).2
    refine OpOk.val (x:=.int .u8 (T.toNat:Int)) ?_ (Good.same J h (.d (.int .u8 _)));simp[execOp,A,l,p,Instr.index,asIntOf,run_underlying (pI I),G,g]
  ·exact h.elim
 ·exact h.elim
section
variable {ts tx ty el:TypeId} {i:TypeInfo} {z:Value}
theorem y9{r:IntKind}(f:P.underlying ts=some (.slice el))(g:P.underlying tx=some (.int r))(hi:P.info? el=some i)(hz:i.zero=some z)(s:z.cells.size=i.size)(p:i.size≠0){base:Option Addr}{sLen sCap:Nat}{n:Int}{w':World}(t:0≤n)(v:n≤4294967296)(u:i.bytes*n≤281474976710656)
  (d:sLen+n.toNat≤sCap) (b:(match base with|some a=>storeCells (a.add (sLen*i.size)) (Builtin.zeroCells z.cells n.toNat).toList|none=>pure ()).run P w=.ok () w') :
  (Builtin.append_ #[ts,tx] ty #[.slice base sLen sCap,.int r n]).run P w=.ok (.slice base (sLen+n.toNat) sCap) w':=by
 have l:IntKind.i64.wrap n=n:=IntWalk.i64_in _ aq;have j:¬(281474976710656<n*i.bytes):=by rw[Int.mul_comm];omega
 have k:¬n<0:=aq;by_cases e:n.toNat*i.size=0;have q:n.toNat=0:=by
  rcases Nat.mul_eq_zero.1 e with h|h;exact h;exact absurd h p
 have m:Builtin.zeroCells z.cells n.toNat=#[]:=by rw[q];simp[Builtin.zeroCells]
 rw[m]at b;cases base with
 |none =>
  simp at b;subst b;simp[Builtin.append_,run_underlying f,run_underlying g,sizeOf,typeInfo,hi,asInt,asIntOf,l,j,k,d,e]
 |some ad =>
  simp only at b;simp[Builtin.append_,run_underlying f,run_underlying g,sizeOf,typeInfo,hi,asInt,asIntOf,l,j,k,d,e,b]
 ·cases base with
  |none =>
   simp at b;subst b;simp[Builtin.append_,run_underlying f,run_underlying g,sizeOf,typeInfo,hi,hz,zeroValue,asInt,asIntOf,l,j,k,d]
  |some ad =>
   simp only at b;simp[Builtin.append_,run_underlying f,run_underlying g,sizeOf,typeInfo,hi,hz,zeroValue,asInt,asIntOf,l,j,k,d,e,b]
theorem zf{v:IntKind}(l:P.underlying ts=some (.slice el))(m:P.underlying tx=some (.int v))(hi:P.info? el=some i)(hz:i.zero=some z)(C:z.cells.size=i.size)(r:i.size≠0){base:Option Addr}{sLen sCap:Nat}{n:Int}{os:Array Value}(D:0≤n)(F:n≤4294967296)(E:i.bytes*n≤281474976710656)
  (g:(Builtin.firstCells i.size sLen (.slice base sLen sCap)).run P w.drew=.ok os w.drew) (e:sCap<sLen+n.toNat) (x:i.bytes≠0) (k:(sLen+n.toNat)*i.bytes≤140737488355328) :
  (Builtin.append_ #[ts,tx] ty #[.slice base sLen sCap,.int v n]).run P w=.ok (.slice (some ⟨w.heap.size,0,none⟩) (sLen+n.toNat) (grownCap w (sLen+n.toNat) sCap el))
    (w.drew.alloc (.cells (os++Builtin.zeroCells z.cells n.toNat++Builtin.zeroCells z.cells (grownCap w (sLen+n.toNat) sCap el-(sLen+n.toNat))) el)):=by
 have A:IntKind.i64.wrap n=n:=IntWalk.i64_in _ aq;have u:¬(281474976710656<n*i.bytes):=by rw[Int.mul_comm];omega
 have y:¬n<0:=aq;have t:¬(sLen+n.toNat≤sCap):=aq;have d:¬(281474976710656<Builtin.nextslicecap (sLen+n.toNat) sCap*i.bytes):=by
  have:=growslice_fits e k;omega
 have j:¬((IntKind.i64.max:Int)<sLen+n.toNat):=by
  have G:sLen+n.toNat≤(sLen+n.toNat)*i.bytes:=Nat.le_mul_of_pos_right _ aq;have B:IntKind.i64.max=9223372036854775807:=by decide
  omega
 have b:¬(9223372036854775807<(sLen:Int)+max n 0):=by
  have B:IntKind.i64.max=9223372036854775807:=by decide
  rw[B]at j;omega
 by_cases f:n.toNat*i.size=0
 ·have s:n.toNat=0:=by
   rcases Nat.mul_eq_zero.1 f with h|h;exact h;exact absurd h r
  have p:Builtin.zeroCells z.cells n.toNat=#[]:=by rw[s];simp[Builtin.zeroCells]
  rw[p];simp[Builtin.append_,run_underlying l,run_underlying m,sizeOf,typeInfo,zeroValue,hi,hz,asInt,asIntOf,A,u,y,t,f,x,d,Question.forced,g,newRow,grownCap]
  all_goals(intro q;exact absurd q b)
 ·simp[Builtin.append_,run_underlying l,run_underlying m,sizeOf,typeInfo,zeroValue,hi,hz,asInt,asIntOf,A,u,y,t,f,x,d,Question.forced,g,newRow,grownCap]
  all_goals(intro q;exact absurd q b)
end
theorem KE(hr:Rel c hp U σ w)(E:∀x,AIs w (bQ c w σ hp) σ hp U (ev fr x) (a.eval x)){ts tx:TypeId}{s x:Operand}{cl:Call}(ac:o.op=.call cl)(hc:cl.callee=.builtin .append)(ha:cl.args.toList=[s,x])(ht:cl.argTypes.toList=[ts,tx])
  {el:TypeId} {id i0 len D:Nat} {k:IntKind} {n:Int} {z:List AV} (W:cp P ts=.slice el) (ak:cp P tx=.scal) (hs:ev fr s=.own id i0 len D) (hx:ev fr x=.d (.int k n)) (C:ko P tx=some k) (h0:0≤n) (h1:n≤4294967296) (h2:P.bytesOf el*n≤281474976710656) (hz:gi P el=some z)
  (h:gr P el (.own id i0 len D) (some (List.replicate n.toNat z)) N K hp):OpOk P c K hp U N σ w ((execOp a.eval o).run P w):=by
 have ag:cl.args=#[s,x]:=by rw[←Array.toArray_toList (xs:=cl.args),ha]
 have X:cl.argTypes=#[ts,tx]:=by rw[←Array.toArray_toList (xs:=cl.argTypes),ht]
 have ae:=fq (hx▸E x);have run:∀(v:Value)(O:World),(Builtin.append_ #[ts,tx] o.type #[a.eval s,.int k n]).run P w=.ok v O→(execOp a.eval o).run P w=.ok (.value v) O:=by
  intro v O L;simp[execOp,ac,resolve,hc,ag,X,invoke,builtin,ae,L]
 have y:=E s;rw[hs]at y;generalize al:a.eval s=sv at y run;have F:=bW W;have H:P.underlying tx=some (.int k):=by
  unfold ko at C;split at C;rename_i k' hu;injection C with C;rw[hu,C];cases C
 obtain⟨v,i,Q,I,f,j,am,l⟩:=zJ (w:=w) (S:=bQ c w σ hp) (σ:=σ) (hp:=hp) (U:=U) hz;have p:i.size=P.cellsOf el:=by simp[Program.cellsOf,Q]
 have r:i.bytes=P.bytesOf el:=by simp[Program.bytesOf,Q]
 have J:∀(z:Value)(m:Nat),(∀(n:Nat)(v:Value),z.cells[n]?=some v→v.oneCell'=true)→z.cells.size≠0→∀(n:Nat)(v:Value),(Builtin.zeroCells z.cells m)[n]?=some v→v.oneCell'=true:=by
  intro z m V an n v L;unfold Builtin.zeroCells at L;simp only[Array.getElem?_map,Option.map_eq_some_iff]at L;obtain⟨k,_,rfl⟩:=L;have Y:k%z.cells.size<z.cells.size:=Nat.mod_lt _ aq;exact V (k%z.cells.size) _ (by simp[Y])
 unfold gr at h;split at h;rename_i B _;cases B;rename_i ao aj ai xs B u;injection B with q1 q2 q3 q4;subst q1;subst q2;subst q3;subst q4;injection u with u;subst u;split at h;rename_i b hb;obtain⟨T,ab,af,q,Z,t,R,ad⟩:=h;rw[List.length_replicate]at t;refine Iw (i:=i) (z:=v) hr y hb T ab af R ad p f j l.one J (fun A ah e g=>?_) (fun A ah os e g aa=>?_);subst e;rw[List.length_replicate]at g⊢;refine⟨Builtin.zeroCells v.cells n.toNat,by rw[size_zeroCells,f],?_,fun O M=>run _ _ (y9 (ty:=o.type) F H Q I (by rw[f,p]) (by rw[p];exact j) h0 h1 (by rw[r];exact h2) g M)⟩;have:=pO (P:=P) (el:=el) l f j n.toNat
 rw[←f]at this⊢;exact this;subst e;rw[List.length_replicate]at g⊢;refine⟨Builtin.zeroCells v.cells n.toNat,by rw[size_zeroCells,f],?_,run _ _ (zf (ty:=o.type) F H Q I (by rw[f,p]) (by rw[p];exact j) h0 h1 (by rw[r];exact h2) aa aq (by rw[r];exact Z) (by rw[r];exact t))⟩;have G:LIs w.drew (bQ c w.drew σ hp) σ hp U z v.cells:=⟨l.len,l.one,fun i c x hc hx=>(l.is i c x hc hx).step cQ⟩;have:=pO (P:=P) (el:=el) G f j n.toNat
 rw[←f]at this⊢;exact this;exact h.elim;rename_i B _;cases B;rename_i B _;cases B;exact h.elim
theorem Gs(j:Rel c hp U σ w)(E:∀x,AIs w (bQ c w σ hp) σ hp U (ev fr x) (a.eval x)){f:FuncId}{b:Array Operand}(e:o.op=.makeFunc (.func f) #[] b)(h:K (.fn f (b.toList.map (ev fr))) hp):OpOk P c K hp U N σ w ((execOp a.eval o).run P w):=by
 have run:(execOp a.eval o).run P w=.ok (.value (.func (.func f) #[] (b.map a.eval))) w:=by simp[execOp,e,Instr.makeFunc]
 refine OpOk.val run (Good.same j h (.fn f _ _ aw fun i k x hc d=>?_));rw[cU,Array.getElem?_toList]at hc;rw[Array.getElem?_map]at d;cases g:b[i]? with
 |none=>rw[g]at hc;cases hc
 |some y =>
  rw[g]at hc d;simp only[Option.map_some,Option.some.injEq]at hc d;subst hc;subst d;exact E y
theorem KF(j:Rel c hp U σ w)(E:∀x,AIs w (bQ c w σ hp) σ hp U (ev fr x) (a.eval x)){f:FuncId}{b:Array Operand}(e:o.op=.makeFunc (.func f) b #[])(h:K (.mth f (b.toList.map (ev fr))) hp):OpOk P c K hp U N σ w ((execOp a.eval o).run P w):=by
 have run:(execOp a.eval o).run P w=.ok (.value (.func (.func f) (b.map a.eval) #[])) w:=by simp[execOp,e,Instr.makeFunc]
 refine OpOk.val run (Good.same j h (.mth f _ _ aw fun i k x hc d=>?_));rw[cU,Array.getElem?_toList]at hc;rw[Array.getElem?_map]at d;cases g:b[i]? with
 |none=>rw[g]at hc;cases hc
 |some y =>
  rw[g]at hc d;simp only[Option.map_some,Option.some.injEq]at hc d;subst hc;subst d;exact E y
theorem aap(l:Rel c hp U σ w)(E:∀x,AIs w (bQ c w σ hp) σ hp U (ev fr x) (a.eval x)){x y:Operand}{tx ty:TypeId}{cl:Call}(e:o.op=.call cl)(hc:cl.callee=.builtin .max)(j:cl.args.toList=[x,y])(r:cl.argTypes.toList=[tx,ty])
  (h:y5 P fr hp N .max [x,y] [tx,ty] K):OpOk P c K hp U N σ w ((execOp a.eval o).run P w):=by
 simp only[y5]at h;have b:cl.args=#[x,y]:=by rw[←Array.toArray_toList (xs:=cl.args),j]
 have f:cl.argTypes=#[tx,ty]:=by rw[←Array.toArray_toList (xs:=cl.argTypes),r]
 split at h
 ·rename_i k m t n p g;have s:=fq (p▸E x);have q:=fq (g▸E y);have run:(execOp a.eval o).run P w=.ok (.value (.int k (if n>m then n else m))) w:=by
   simp[execOp,e,resolve,hc,b,f,invoke,builtin,s,q,Builtin.max_,Builtin.max2]
  exact OpOk.val run (Good.same l h (.d (.int k _)))
 ·exact h.elim
theorem aaq(l:Rel c hp U σ w)(E:∀x,AIs w (bQ c w σ hp) σ hp U (ev fr x) (a.eval x)){x y:Operand}{tx ty:TypeId}{cl:Call}(e:o.op=.call cl)(hc:cl.callee=.builtin .min)(j:cl.args.toList=[x,y])(r:cl.argTypes.toList=[tx,ty])
  (h:y5 P fr hp N .min [x,y] [tx,ty] K):OpOk P c K hp U N σ w ((execOp a.eval o).run P w):=by
 simp only[y5]at h;have b:cl.args=#[x,y]:=by rw[←Array.toArray_toList (xs:=cl.args),j]
 have f:cl.argTypes=#[tx,ty]:=by rw[←Array.toArray_toList (xs:=cl.argTypes),r]
 split at h
 ·rename_i k m t n p g;have s:=fq (p▸E x);have q:=fq (g▸E y);have run:(execOp a.eval o).run P w=.ok (.value (.int k (if n<m then n else m))) w:=by
   simp[execOp,e,resolve,hc,b,f,invoke,builtin,s,q,Builtin.min_,Builtin.min2]
  exact OpOk.val run (Good.same l h (.d (.int k _)))
 ·exact h.elim
theorem sn(e:Rel c hp U σ w)(E:∀x,AIs w (bQ c w σ hp) σ hp U (ev fr x) (a.eval x))(g:Free U N)(h:bZ P fr hp N o.op K):OpOk P c K hp U N σ w ((execOp a.eval o).run P w):=by
 generalize d:o.op=op at h;cases op with
 |move x=>exact MR e E (.inl d) h
 |assign x=>exact MR e E (.inr d) h
 |pick x y z=>exact WS e E d h
 |binOp op t x y t'=>exact aak e E d h
 |unOp op t x=>exact adp e E d h
 |nilCheck x=>exact Gl e E d h
 |extract x i=>exact Kz e E d h
 |convert s t x=>exact KA e E d (fun O el D B A C F=>Gq e E d D B A C F) (fun O el D B A C F I=>Gp e E d D B A C F I) h
 |load t x=>exact WU e E d h
 |fieldAddr t x i=>exact Dv e E d h
 |indexAddr t x ix=>exact Dw e E d h
 |alloc t=>exact RL e g d h
 |build t parts=>exact RN e E d h
 |buildSlice t n parts=>exact Be e E g d h
 |slice t x lo hi m =>
  cases m with
  |none=>exact RO e E d h
  |some m=>exact M3 e E d h
 |index t x i=>exact RR e E d h
 |field t x i=>exact RQ e E d h
 |makeSlice t l m=>exact WY e E g d h
 | makeFunc fn first caps =>
  cases fn with
  | func f =>
   simp only[bZ]at h;split at h
   ·rename_i G;obtain rfl:first=#[]:=by simpa using G
    exact Gs e E d h
   ·obtain⟨rfl,h⟩:=h;exact KF e E d h
  |_=>exact h.elim
 |sliceToArrayPointer t x=>exact aao e E d h
 |box t x=>exact aal e E g d h
 |store t x v=>exact RI e E d h
 |makeMap t r =>
  cases r with
  |none=>exact KC e g d h
  |some r=>exact h.elim
 |lookup t m x ok =>
  cases ok with
  |false=>exact M1 e E d h
  |true=>exact h.elim
 |mapUpdate t m x v=>exact DF e E d h
 | call cl =>
  simp only[bZ]at h;split at h
  ·rename_i b p;generalize j:cl.args.toList=as at h;generalize q:cl.argTypes.toList=ts at h;cases b with
   |len =>
    match as,ts,h with
    |[x],[t],h=>exact aam e E d p j q h
   |append =>
    match as,ts,h with
    |[s,x],[t,u],h=>exact MW e E g d p j q (fun el id R len L k n z D B A C F I J M Q H=>KE e E d p j q D B A C F I J M Q H) h
   |copy =>
    match as,ts,h with
    |[s,x],[t,u],h=>exact WZ e E d p j q h
   |max =>
    match as,ts,h with
    |[s,x],[t,u],h=>exact aap e E d p j q h
   |min =>
    match as,ts,h with
    |[s,x],[t,u],h=>exact aaq e E d p j q h
   |_=>exact h.elim
  ·rename_i f G;split at h;exact WV e E g d G ‹_› h;exact RJ e E g d G ‹_› h;exact h.elim
  ·exact h.elim
 |_=>exact h.elim
end
section
variable {P:Program} {fr fr':Fr} {hp hp':Hp} {N N':Nat} {K K':AV→Hp→Prop}
theorem t7{d:Int}{x:Option Operand}(h:∀y,x=some y→ev fr y=ev fr' y):A8 fr d x=A8 fr' d x:=by
 cases x with
 |none=>rfl
 |some y=>simp only[A8,h y rfl]
theorem so{l:List (Nat×Operand)}(h:∀p,p∈l→ev fr p.2=ev fr' p.2):(l.map fun p=>(p.1,ev fr p.2))=l.map fun p=>(p.1,ev fr' p.2):=by
 apply List.map_congr_left;intro p hp;rw[h p hp]
theorem ua{g:Op}(h:∀x,x∈g.operands→ev fr x=ev fr' x):bZ P fr hp N g K=bZ P fr' hp N g K:=by
 cases g with
 |build t parts =>
  simp only[bZ];rw[so (fr:=fr) (fr':=fr') fun p hp=>h p.2 (by simp only[Op.operands,List.mem_toArray,List.mem_map];exact⟨p,hp,rfl⟩)]
 |buildSlice t n parts =>
  simp only[bZ];rw[so (fr:=fr) (fr':=fr') fun p hp=>h p.2 (by simp only[Op.operands,List.mem_toArray,List.mem_map];exact⟨p,hp,rfl⟩)]
 | slice t x lo hi m =>
  cases m with
  | some m =>
   have D:Gi fr hi=Gi fr' hi:=by
    cases hi with
    |none=>rfl
    |some y=>simp only[Gi];rw[h y (by simp[Op.operands])]
   simp only[bZ];rw[h x (by simp[Op.operands]),t7 (fr:=fr) (fr':=fr') (x:=lo) fun y k=>h y (by subst k;simp[Op.operands]),D,h m (by simp[Op.operands])]
  |none =>
   simp only[bZ];rw[h x (by simp[Op.operands]),t7 (fr:=fr) (fr':=fr') (x:=lo) fun y k=>h y (by subst k;simp[Op.operands]),t7 (fr:=fr) (fr':=fr') (x:=hi) fun y k=>h y (by subst k;simp[Op.operands])]
 | call cl =>
  have d:∀x,x∈cl.args.toList→ev fr x=ev fr' x:=fun x j=>h x (by
   obtain⟨e,q,B⟩:=cl
   cases e<;>simp_all[Op.operands,Call.operands])
  simp only[bZ];cases hc:cl.callee with
  | builtin b =>
   simp only;generalize cl.args.toList=as at d;generalize cl.argTypes.toList=ts;cases b with
   |len =>
    match as,ts,d with
    |[],_,_=>rfl
    |[x],[],_=>rfl
    |[x],[t],d=>simp only[y5];rw[d x aw]
    |[x],_::_::_,_=>rfl
    |_::_::_,_,_=>rfl
   |append =>
    match as,ts,d with
    |[],_,_=>rfl
    |[s],_,_=>rfl
    |[s,x],[],_=>rfl
    |[s,x],[_],_=>rfl
    |[s,x],[t,u],d=>simp only[y5];rw[d x aw,d s aw]
    |[s,x],_::_::_::_,_=>rfl
    |_::_::_::_,_,_=>rfl
   |copy =>
    match as,ts,d with
    |[],_,_=>rfl
    |[s],_,_=>rfl
    |[s,x],[],_=>rfl
    |[s,x],[_],_=>rfl
    |[s,x],[t,u],d=>simp only[y5];rw[d x aw,d s aw]
    |[s,x],_::_::_::_,_=>rfl
    |_::_::_::_,_,_=>rfl
   |max =>
    match as,ts,d with
    |[],_,_=>rfl
    |[s],_,_=>rfl
    |[s,x],[],_=>rfl
    |[s,x],[_],_=>rfl
    |[s,x],[t,u],d=>simp only[y5];rw[d x aw,d s aw]
    |[s,x],_::_::_::_,_=>rfl
    |_::_::_::_,_,_=>rfl
   |min =>
    match as,ts,d with
    |[],_,_=>rfl
    |[s],_,_=>rfl
    |[s,x],[],_=>rfl
    |[s,x],[_],_=>rfl
    |[s,x],[t,u],d=>simp only[y5];rw[d x aw,d s aw]
    |[s,x],_::_::_::_,_=>rfl
    |_::_::_::_,_,_=>rfl
   |_=>rfl
  | value f =>
   simp only;have A:ev fr f=ev fr' f:=h f (by
    obtain⟨e,q,B⟩:=cl;simp only at hc;subst hc
    simp[Op.operands,Call.operands])
   have C:cl.args.toList.map (ev fr)=cl.args.toList.map (ev fr'):=List.map_congr_left d;rw[A,C]
  |invoke _ _=>rfl
 |move x=>simp only[bZ];rw[h x (by simp[Op.operands])]
 |assign x=>simp only[bZ];rw[h x (by simp[Op.operands])]
 |pick x y z=>simp only[bZ];rw[h x (by simp[Op.operands]),h y (by simp[Op.operands]),h z (by simp[Op.operands])]
 |binOp g t x y t'=>simp only[bZ];rw[h x (by simp[Op.operands]),h y (by simp[Op.operands])]
 |unOp g t x =>
  have j:=h x (by simp[Op.operands]);cases g<;>simp only[bZ]<;>rw[j]
 |nilCheck x=>simp only[bZ];rw[h x (by simp[Op.operands])]
 |extract x i=>simp only[bZ];rw[h x (by simp[Op.operands])]
 |convert s t x=>simp only[bZ];rw[h x (by simp[Op.operands])]
 |load t x=>simp only[bZ];rw[h x (by simp[Op.operands])]
 |fieldAddr t x i=>simp only[bZ];rw[h x (by simp[Op.operands])]
 |indexAddr t x ix=>simp only[bZ];rw[h x (by simp[Op.operands]),h ix (by simp[Op.operands])]
 |box t x=>simp only[bZ];rw[h x (by simp[Op.operands])]
 |index t x i=>simp only[bZ];rw[h x (by simp[Op.operands]),h i (by simp[Op.operands])]
 |field t x i=>simp only[bZ];rw[h x (by simp[Op.operands])]
 | makeFunc fn first caps =>
  cases fn with
  |func f =>
   simp only[bZ];have C:caps.toList.map (ev fr)=caps.toList.map (ev fr'):=List.map_congr_left fun x j=>h x (by simp[Op.operands];exact .inr (by simpa using j));have A:first.toList.map (ev fr)=first.toList.map (ev fr'):=List.map_congr_left fun x j=>h x (by simp[Op.operands];exact .inl (by simpa using j));rw[C,A]
  |_=>rfl
 |makeSlice t l m=>simp only[bZ];rw[h l (by simp[Op.operands]),h m (by simp[Op.operands])]
 |sliceToArrayPointer t x=>simp only[bZ];rw[h x (by simp[Op.operands])]
 |store t x v=>simp only[bZ];rw[h x (by simp[Op.operands]),h v (by simp[Op.operands])]
 |lookup t m x ok=>cases ok<;>first|rfl|(simp only[bZ];rw[h m (by simp[Op.operands]),h x (by simp[Op.operands])])
 |mapUpdate t m x v=>simp only[bZ];rw[h m (by simp[Op.operands]),h x (by simp[Op.operands]),h v (by simp[Op.operands])]
 |makeMap t r=>cases r<;>rfl
 |_=>rfl
def uW(hp hp':Hp):Prop:=∀id b,lk id hp=some b→lk id hp'=some b
theorem Gt{hp hp':Hp}{sz:Nat}{v:AV}{xs:List (List AV)}(g:uW hp hp')(h:dA hp sz v=some xs):dA hp' sz v=some xs:=by
 cases v with
 |own id i0 len tot =>
  simp only[dA]at h⊢;cases f:lk id hp with
  |none=>rw[f]at h;cases h
  |some b=>rw[f]at h;rw[g _ _ f];exact h
 |sub id i off e len cap tot =>
  simp only[dA]at h⊢;cases f:lk id hp with
  |none=>rw[f]at h;cases h
  |some b=>rw[f]at h;rw[g _ _ f];exact h
 |d v=>cases v<;>exact h
 |_=>exact h
def be(P:Program):Op→Bool
 | .move _=>true
 | .assign _=>true
 | .pick ..=>true
 | .binOp _ t _ _ _=>match cp P t with
  | .slice _=>false
  |_=>true
 | .unOp ..=>true
 | .nilCheck _=>true
 | .extract ..=>true
 | .convert _ t _=>match cp P t with
  | .slice _=>false
  |_=>true
 | .sliceToArrayPointer ..=>true
 | .load ..=>true
 | .fieldAddr ..=>true
 | .indexAddr ..=>true
 | .index ..=>true
 | .field ..=>true
 | .build ..=>true
 | .slice ..=>true
 | .call cl=>match cl.callee with
  | .builtin .len=>true
  |_=>false
 |_=>false
def mY(P:Program)(fr:Fr)(hp:Hp)(b:Op)(v:AV):Prop:=∀hp' N' K',uW hp hp'→K' v hp'→bZ P fr hp' N' b K'
theorem Gu{b:BinOp}{k:IntKind}{x y:Int}(h:lw b k x y K hp):∃v,K v hp∧∀hp'(K':AV→Hp→Prop),K' v hp'→lw b k x y K' hp':=by
 cases b<;>simp only[lw]at h⊢
 case quo=>exact⟨_,h.2,fun _ _ q=>⟨h.1,q⟩⟩
 case rem=>exact⟨_,h.2,fun _ _ q=>⟨h.1,q⟩⟩
 case shl=>exact⟨_,h.2,fun _ _ q=>⟨h.1,q⟩⟩
 case shr=>exact⟨_,h.2,fun _ _ q=>⟨h.1,q⟩⟩
 all_goals exact⟨_,h,fun _ _ q=>q⟩
theorem Gv{b:BinOp}{t:TypeId}{x y:AV}(d:(∀e,cp P t≠.slice e)∨(b≠.eql∧b≠.neq))(h:dO P b t x y K hp):∃v,K v hp∧∀hp'(K':AV→Hp→Prop),K' v hp'→dO P b t x y K' hp':=by
 unfold dO at h;split at h;obtain⟨k,j⟩:=h;obtain⟨v,g,f⟩:=Gu j;exact⟨v,g,fun hp' K' q=>by simp only[dO];exact⟨k,f hp' K' q⟩⟩
 split at h;exact⟨_,h.2,fun hp' K' q=>by simp only[dO];exact⟨h.1,q⟩⟩
 exact⟨_,h.2,fun hp' K' q=>by simp only[dO];exact⟨h.1,q⟩⟩
 exact h.elim;split at h;exact⟨_,h,fun hp' K' q=>by simp only[dO];exact q⟩
 exact⟨_,h,fun hp' K' q=>by simp only[dO];exact q⟩
 exact⟨_,h,fun hp' K' q=>by simp only[dO];exact q⟩
 exact⟨_,h,fun hp' K' q=>by simp only[dO];exact q⟩
 exact⟨_,h,fun hp' K' q=>by simp only[dO];exact q⟩
 exact⟨_,h,fun hp' K' q=>by simp only[dO];exact q⟩
 exact⟨_,h.2,fun hp' K' q=>by simp only[dO];exact⟨h.1,q⟩⟩
 exact h.elim
 ·split at h
  all_goals first|exact h.elim|exact absurd ‹cp P t=_› (d.elim (fun h=>h _) fun h=>absurd rfl h.1)|exact absurd ‹cp P t=_› (d.elim (fun h=>h _) fun h=>absurd rfl h.2)
 ·exact h.elim
theorem w9{d:BinOp}{t:TypeId}{b:Bool}(h:Ry P d t b K hp):∃v,K v hp∧∀hp'(K':AV→Hp→Prop),K' v hp'→Ry P d t b K' hp':=by
 obtain⟨e,h⟩:=h;split at h;exact⟨_,h,fun hp' K' q=>⟨e,q⟩⟩;exact⟨_,h,fun hp' K' q=>⟨e,q⟩⟩;exact h.elim
theorem M4{g:BinOp}{t:TypeId}{n:Nat}{el:TypeId}{k:Option IntKind}{a b:List AV}(h:VS P g t n el k a b K hp):∃v,K v hp∧∀hp'(K':AV→Hp→Prop),K' v hp'→VS P g t n el k a b K' hp':=by
 unfold VS at h⊢;split at h;split at h;obtain⟨j,e,d,f,h⟩:=h;split at h;exact⟨_,h,fun hp' K' q=>⟨j,e,d,f,q⟩⟩;exact⟨_,h,fun hp' K' q=>⟨j,e,d,f,q⟩⟩;exact h.elim;exact h.elim;exact h.elim
theorem M5{f:BinOp}{t:TypeId}{a b:List AV}(h:VT P f t a b K hp):∃v,K v hp∧∀hp'(K':AV→Hp→Prop),K' v hp'→VT P f t a b K' hp':=by
 unfold VT at h⊢;split at h;obtain⟨g,e,d,h⟩:=h;split at h;exact⟨_,h,fun hp' K' q=>⟨g,e,d,q⟩⟩;exact⟨_,h,fun hp' K' q=>⟨g,e,d,q⟩⟩;exact h.elim;exact h.elim
theorem zK{b:BinOp}{t:TypeId}{x y:AV}(d:(∀e,cp P t≠.slice e)∨(b≠.eql∧b≠.neq))(h:dr P b t x y K hp):∃v,K v hp∧∀hp'(K':AV→Hp→Prop),K' v hp'→dr P b t x y K' hp':=by
 unfold dr at h⊢;split at h;exact w9 h;exact w9 h;exact w9 h;split at h;exact M4 h;exact M5 h;exact h.elim;exact Gv d h
theorem KG{D:Op}(F:be P D=true)(h:bZ P fr hp N D K):∃v,K v hp∧mY P fr hp D v:=by
 unfold mY;cases D with
 |move x=>exact⟨_,h,fun _ _ _ _ q=>q⟩
 |assign x=>exact⟨_,h,fun _ _ _ _ q=>q⟩
 | pick c a b =>
  simp only[bZ]at h⊢;split at h;rename_i t G;split at h;rename_i x y X R;exact⟨_,h,fun hp' N' K' d q=>q⟩;rename_i T;cases t with
  |true =>
   refine⟨_,h.1 rfl,fun hp' N' K' d q=>?_⟩;exact⟨fun _=>q,fun h=>by cases h⟩
  |false =>
   refine⟨_,h.2 rfl,fun hp' N' K' d q=>?_⟩;exact⟨fun h=>(by cases h),fun _=>q⟩
  ·exact h.elim
 | binOp D t x y t' =>
  have L:∀e,cp P t≠.slice e:=by
   intro e O;simp[be,O]at F
  obtain⟨v,f,p⟩:=zK (.inl L) h;exact⟨v,f,fun hp' N' K' _ q=>p hp' K' q⟩
 | unOp D t x =>
  cases D with
  |not =>
   simp only[bZ]at h⊢;split at h;exact⟨_,h,fun hp' N' K' d q=>q⟩;exact h.elim
  |neg =>
   simp only[bZ]at h⊢;split at h;exact⟨_,h,fun hp' N' K' d q=>q⟩;exact h.elim
  |xor =>
   simp only[bZ]at h⊢;split at h;exact⟨_,h,fun hp' N' K' d q=>q⟩;exact h.elim
  |_=>exact h.elim
 |nilCheck x =>
  simp only[bZ]at h⊢;split at h
  all_goals first|exact⟨_,h,fun hp' N' K' d q=>q⟩|exact h.elim
 | extract x i =>
  simp only[bZ]at h⊢;split at h;split at h;exact⟨_,h,fun hp' N' K' d q=>q⟩;exact h.elim;exact h.elim
 | convert s t x =>
  simp only[bZ]at h⊢;split at h;obtain⟨H,f,p,A⟩:=h;split at A;exact⟨_,A.2,fun hp' N' K' d q=>⟨H,f,p,A.1,q⟩⟩;exact A.elim;split at h;exact⟨_,h,fun hp' N' K' d q=>q⟩;exact h.elim;split at h;rename_i el _ G;simp[be,G]at F;exact h.elim;rename_i v V W Y;obtain⟨H,f,p,A⟩:=h;split at A;refine⟨_,A.2,fun hp' N' K' d q=>⟨H,Gt d f,p,A.1,q⟩⟩;exact A.elim
 | sliceToArrayPointer t x =>
  simp only[bZ]at h⊢;unfold Kx at h⊢;split at h;exact⟨_,h.2.2,fun hp' N' K' d q=>⟨h.1,h.2.1,q⟩⟩;split at h;rename_i b u;refine⟨_,h.2.2.2,fun hp' N' K' d q=>?_⟩;simp only[d _ _ u];exact⟨h.1,h.2.1,h.2.2.1,q⟩;exact h.elim;exact h.elim
 | load t x =>
  simp only[bZ]at h⊢;split at h;split at h;rename_i b u;split at h;rename_i J E;obtain⟨G,h⟩:=h;split at h;rename_i v M;refine⟨v,h,fun hp' N' K' d q=>?_⟩;rw[d _ _ u];simp only[E,M];exact⟨G,q⟩;exact h.elim;exact h.elim;exact h.elim;split at h;exact⟨_,h,fun hp' N' K' d q=>q⟩;exact h.elim;exact h.elim
 |fieldAddr t x i =>
  simp only[bZ]at h⊢;split at h;exact⟨_,h.2,fun hp' N' K' d q=>⟨h.1,q⟩⟩;exact⟨_,h.2,fun hp' N' K' d q=>⟨h.1,q⟩⟩;exact h.elim
 | indexAddr t x ix =>
  simp only[bZ]at h⊢;split at h;split at h;obtain⟨r,f,p,h⟩:=h;split at h;exact⟨_,h,fun hp' N' K' d q=>⟨r,f,p,q⟩⟩;exact h.elim;obtain⟨r,f,h⟩:=h;split at h;rename_i b u;obtain⟨I,k2,k3,h⟩:=h;refine⟨_,h,fun hp' N' K' d q=>?_⟩;rw[d _ _ u];exact⟨r,f,I,k2,k3,q⟩;exact h.elim;obtain⟨r,f,h⟩:=h;split at h;rename_i b u;obtain⟨I,k2,k3,h⟩:=h;refine⟨_,h,fun hp' N' K' d q=>?_⟩;rw[d _ _ u];exact⟨r,f,I,k2,k3,q⟩;exact h.elim;exact⟨_,h.2.2.2,fun hp' N' K' d q=>⟨h.1,h.2.1,h.2.2.1,q⟩⟩;exact⟨_,h.2.2.2,fun hp' N' K' d q=>⟨h.1,h.2.1,h.2.2.1,q⟩⟩;exact h.elim;exact h.elim
 | field t x i =>
  simp only[bZ]at h⊢;split at h;split at h;exact⟨_,h,fun hp' N' K' d q=>q⟩;exact h.elim;exact h.elim
 | index t x i =>
  simp only[bZ]at h⊢;split at h;obtain⟨r,f,h⟩:=h;split at h;obtain⟨p,h⟩:=h;split at h;exact⟨_,h,fun hp' N' K' d q=>⟨r,f,p,q⟩⟩;exact h.elim;obtain⟨p,h⟩:=h;split at h;exact⟨_,h,fun hp' N' K' d q=>⟨r,f,p,q⟩⟩;exact h.elim;obtain⟨p,h⟩:=h;split at h;exact⟨_,h,fun hp' N' K' d q=>⟨r,f,p,q⟩⟩;exact h.elim;exact h.elim;obtain⟨r,h⟩:=h;split at h;exact⟨_,h,fun hp' N' K' d q=>⟨r,q⟩⟩;exact h.elim;exact h.elim
 | build t parts =>
  simp only[bZ]at h⊢;split at h;unfold tZ at h⊢;split at h;obtain⟨f,h⟩:=h;split at h;exact⟨_,h,fun hp' N' K' d q=>⟨f,q⟩⟩;exact h.elim;obtain⟨f,h⟩:=h;split at h;exact⟨_,h,fun hp' N' K' d q=>⟨f,q⟩⟩;exact h.elim;exact h.elim;exact h.elim
 | slice t x lo hi m =>
  cases m with
  |some m =>
   simp only[bZ]at h⊢;unfold nL at h⊢;split at h;exact⟨_,h.2.2.2.2.2.2,fun hp' N' K' d q=>⟨h.1,h.2.1,h.2.2.1,h.2.2.2.1,h.2.2.2.2.1,h.2.2.2.2.2.1,q⟩⟩;exact⟨_,h.2.2.2.2,fun hp' N' K' d q=>⟨h.1,h.2.1,h.2.2.1,h.2.2.2.1,q⟩⟩;exact⟨_,h.2.2.2.2,fun hp' N' K' d q=>⟨h.1,h.2.1,h.2.2.1,h.2.2.2.1,q⟩⟩;exact h.elim
  | none =>
   simp only[bZ]at h⊢;generalize ev fr x=xa at h⊢;generalize cp P t=k at h⊢;generalize A8 fr 0 lo=bl at h⊢;generalize A8 fr (AV.topLen k xa) hi=bh at h⊢;unfold iU at h;split at h;obtain⟨l,j,g,h⟩:=h;exact⟨_,h,fun hp' N' K' d q=>⟨l,j,g,q⟩⟩;obtain⟨l,j,g,B,C,h⟩:=h;exact⟨_,h,fun hp' N' K' d q=>⟨l,j,g,B,C,q⟩⟩;split at h;rename_i b u;obtain⟨l,j,g,B,C,h⟩:=h;refine⟨_,h,fun hp' N' K' d q=>?_⟩;simp only[iU];rw[d _ _ u];exact⟨l,j,g,B,C,q⟩;exact h.elim;obtain⟨l,j,g,B,C,h⟩:=h;exact⟨_,h,fun hp' N' K' d q=>⟨l,j,g,B,C,q⟩⟩;split at h;rename_i b u;obtain⟨l,j,g,B,C,Q,h⟩:=h;refine⟨_,h,fun hp' N' K' d q=>?_⟩;simp only[iU];rw[d _ _ u];exact⟨l,j,g,B,C,Q,q⟩;exact h.elim;obtain⟨l,j,g,B,C,h⟩:=h;exact⟨_,h,fun hp' N' K' d q=>⟨l,j,g,B,C,q⟩⟩;obtain⟨l,j,g,h⟩:=h;exact⟨_,h,fun hp' N' K' d q=>⟨l,j,g,q⟩⟩;exact h.elim
 | call cl =>
  simp only[bZ]at h⊢;cases hc:cl.callee with
  | builtin b =>
   simp only[hc]at h;generalize cl.args.toList=as at h;generalize cl.argTypes.toList=ts at h;cases b with
   | len =>
    simp only
    match as,ts,h with
    | [x],[t],h =>
     simp only[y5]at h⊢;split at h;exact⟨_,h,fun hp' N' K' d q=>q⟩;exact⟨_,h,fun hp' N' K' d q=>q⟩;split at h;exact⟨_,h,fun hp' N' K' d q=>q⟩;exact h.elim;exact h.elim
   |_=>simp[be,hc]at F
  |_=>simp[be,hc]at F
 |_=>simp[be]at F
def KH:Op→Bool
 | .move _=>true
 | .assign _=>true
 | .binOp op _ _ _ _=>match op with
  | .eql=>false
  | .neq=>false
  |_=>true
 |_=>false
theorem RS{hp0:Hp}{fr:Fr}{b:Op}{v:AV}(d:KH b=true)(e:mY P fr hp0 b v)(hp':Hp)(N':Nat)(K':AV→Hp→Prop)(q:K' v hp'):bZ P fr hp' N' b K':=by
 have h:=e hp0 0 (fun r _=>r=v) (fun _ _ h=>h) rfl;cases b with
 |move x=>simp only[bZ]at h⊢;rw[h];exact q
 |assign x=>simp only[bZ]at h⊢;rw[h];exact q
 |binOp b t x y t' =>
  simp only[bZ]at h⊢;obtain⟨j,g,f⟩:=zK (.inr (by cases b<;>simp[KH]at d⊢)) h;subst g;exact f hp' K' q
 |_=>simp[KH]at d
end
def cB(ops:Array Oper)(j:Nat):Option Tmp:=(ops[j]?).bind (·.dst)
def iE(ops:Array Oper)(j:Nat):List Tmp:=match ops[j]? with
 |some o=>o.looksAt ops
 |none=>[]
inductive Waits(ops:Array Oper):Nat→Nat→Prop
 |edge {j:Nat} {o:Oper} {e:Edge} (ho:ops[j]?=some o) (he:e∈o.after) (hb:Region.binds .any e=true):Waits ops j e.on
 |step {j i:Nat} {o:Oper} {e:Edge} (ho:ops[j]?=some o) (he:e∈o.after) (hb:Region.binds .any e=true) (h:Waits ops e.on i):Waits ops j i
def Iy(b:List Nat):List Edge→Nat→Nat
 |[],acc=>acc
 |e::r,acc=>Iy b r (if Region.binds .any e=true then acc ||| 2 ^ e.on ||| b.getD e.on 0 else acc)
def M6:List Oper→List Nat→List Nat
 |[],ms=>ms
 |o::r,ms=>M6 r (ms++[Iy ms o.after.toList 0])
def wt(b:List Nat)(j i:Nat):Bool:=(b.getD j 0).testBit i
theorem zL(f:List Nat)(i:Nat):∀(l:List Edge)(d:Nat),(Iy f l d).testBit i=true→d.testBit i=true∨∃e,e∈l∧Region.binds .any e=true∧(e.on=i∨wt f e.on i=true)
 |[],d,h=>.inl h
 | e :: r,d,h=>by
  rcases zL f i r _ h with b|⟨j,b,m,k⟩;split at b;rename_i g;rw[Nat.testBit_or,Nat.testBit_or,Bool.or_eq_true,Bool.or_eq_true]at b;rcases b with (b|b)|b;exact .inl b;rw[Nat.testBit_two_pow]at b;exact .inr ⟨e,dz ..,g,.inl (by simpa using b)⟩;exact .inr ⟨e,dz ..,g,.inr b⟩;exact .inl b;exact .inr ⟨j,cS _ b,m,k⟩
theorem DI{ops:Array Oper}:∀(l:List Oper)(b:List Nat),(∀k o,l[k]?=some o→ops[b.length+k]?=some o)→(∀j i,wt b j i=true→Waits ops j i)→∀j i,wt (M6 l b) j i=true→Waits ops j i
 |[],b,_,h,j,i,d=>h j i d
 | o :: r,b,ho,h,j,i,d=>by
  refine DI r (b++[Iy b o.after.toList 0]) (fun k s t=>?_) (fun j i d=>?_) j i d;have:=ho (k+1) s (by simpa using t);rw[b_,List.length_singleton,show b.length+1+k=b.length+(k+1)by omega];exact this;unfold wt at d;rcases Nat.lt_trichotomy j b.length with m|m|m;rw[cR,List.getElem?_append_left m,←cR]at d;exact h j i d;subst m;rw[cR,dn (cL _),Nat.sub_self,List.getElem?_cons_zero,Option.getD_some]at d;have f:ops[b.length]?=some o:=by simpa using ho 0 o rfl
  rcases zL b i _ _ d with g|⟨e,g,q,p⟩;simp at g;rw[Array.mem_toList_iff]at g;rcases p with rfl|p;exact .edge f g q;exact .step f g q (h _ _ p);rw[cR,List.getElem?_eq_none (by simp;omega)]at d;simp at d
def W0(ops:Array Oper):List Nat:=M6 ops.toList []
theorem lC{ops:Array Oper}{j i:Nat}(h:wt (W0 ops) j i=true):Waits ops j i :=
 DI ops.toList [] (fun k o b=>by simpa using b) (fun j i h=>by simp[wt]at h) j i h
def Bg(d:List Nat):List Nat→Bool
 |a::b::r=>wt d b a&&Bg d (b::r)
 |_=>true
def ub(ops:Array Oper):List Nat→Prop
 |a::b::r=>Waits ops b a∧ub ops (b::r)
 |_=>True
def im(ops:Array Oper):List Nat→Bool
 |[]=>true
 | z :: r=>(z :: r).all (fun y=>match cB ops y with
   |some d=>!(iE ops z).contains d
   |none=>true)&&im ops r
def eR:List Nat→Bool
 |[]=>true
 |a::r=>!r.contains a&&eR r
abbrev kX:=List (Nat×List Nat)
def gz:kX→List Nat
 |[]=>[]
 |s::r=>s.1::gz r
def sr:kX→List Nat
 |[]=>[]
 |s::r=>s.2++sr r
def xc:kX→List Nat
 |[]=>[]
 |s::r=>s.1::(s.2++xc r)
def RU(ops:Array Oper)(b:List Nat):List Nat→kX→Bool
 |_,[]=>true
 | zv,s :: r=>(match cB ops s.1 with
   |some d=>zv.all fun z=>!(iE ops z).contains d||wt b s.1 z
   |none=>true)&&(s.2.all fun z=>wt b z s.1)&&RU ops b (zv++s.2) r
def M7(ops:Array Oper):List Nat→kX→Prop
 |_,[]=>True
 |zv,s::r=>(∀d,cB ops s.1=some d→∀z,z∈zv→d∈iE ops z→Waits ops s.1 z)∧(∀z,z∈s.2→Waits ops z s.1)∧M7 ops (zv++s.2) r
theorem M8{ops:Array Oper}:∀{zv:List Nat}{e:kX},RU ops (W0 ops) zv e=true→M7 ops zv e
 |_,[],_=>trivial
 |zv,s::r,h=>by
  simp only[RU,Bool.and_eq_true]at h;obtain⟨⟨f,k⟩,g⟩:=h;refine⟨fun d j z b l=>?_,fun z b=>lC (fa.1 k z b),M8 g⟩;simp only[j]at f;have:=fa.1 f z b;simp only[l,List.contains_eq_mem,decide_true,Bool.not_true,Bool.false_or]at this;exact lC this
theorem DJ{ops:Array Oper}:∀{l:List Nat},Bg (W0 ops) l=true→ub ops l
 |[],_=>trivial
 |[_],_=>trivial
 |a::b::r,h=>by
  simp only[Bg,Bool.and_eq_true]at h;exact⟨lC h.1,DJ h.2⟩
def aar(n:Nat)(ops:Array Oper)(f:List Nat)(g:List Nat)(h:kX)(m:Nat)(b is:List Nat):Bool :=
 (List.range ops.size).all (fun j=>(b.contains j||is.contains j)&&!(b.contains j&&is.contains j)) &&
 is.all (fun j=>decide (j<ops.size))&&b.all (fun j=>decide (j<ops.size))&&eR is&&eR b &&
 (List.range ops.size).all (fun i=>match cB ops i with
  |some d=>decide (d<n)&&(List.range ops.size).all fun j=>j==i||cB ops j != some d
  |none=>true) &&
 b.all (fun z=>match cB ops z with
  |some d=>(List.range ops.size).all fun j=>!(iE ops j).contains d||wt f j z
  |none=>true) &&
 RU ops f g h &&
 Bg f is&&im ops b &&
 (is.drop m).all (fun i=>b.all fun z=>wt f i z) &&
 (List.range ops.size).all (fun j=>match ops[j]? with
  |some o=>o.after.all fun e=>!Region.binds .any e||decide (e.on<j)
  |none=>true)
def Gw(n:Nat)(ops:Array Oper)(d:List Nat)(b:kX)(m:Nat):Bool:=aar n ops (W0 ops) d b m (d++sr b) (gz b)
section
variable (P:Program) (n:Nat) (ops:Array Oper) (base:Nat) (hp0:Hp) (K:Fr→Hp→Prop)
def dM(hp':Hp):Prop:=∀p,p∈hp0→lk p.1 hp'=lk p.1 hp0
def VV(fr:Fr)(N:Nat)(b:Op)(next:AV→Prop):Prop :=
 if be P b=true then bZ P fr hp0 N b (fun v _=>next v)else ∃v,mY P fr hp0 b v∧next v
def zW (C:Fr→Prop):List Nat→Fr→Prop
 |[],fr=>C fr
 | z :: r,fr=>match ops[z]? with
  | some o=>(match o.guard with
   |none=>VV P hp0 fr base o.op fun v=>zW C r (bz fr o.dst v)
   | some (g,want)=>(match (ops[g]?).bind (·.dst) with
    |some d=>(match fv d fr with
     | .d (.bool b)=>(b=want→VV P hp0 fr base o.op fun v=>zW C r (bz fr o.dst v))∧(b=!want→zW C r (bz fr o.dst (.tup [])))
     | .tup []=>zW C r (bz fr o.dst (.tup []))
     |_=>False)
    |none=>False))
  |none=>False
def F8:kX→Nat→Fr→Hp→Prop
 |[],_,fr,hp=>K fr hp
 | s :: r,m,fr,hp=>match ops[s.1]? with
  | some o=>(match o.guard with
   |none=>bZ P fr hp (base+32*s.1) o.op fun v hp'=>(m≠0→dM hp0 hp')∧zW P ops base hp0 (fun fr=>F8 r (m-1) fr hp') s.2 (bz fr o.dst v)
   | some (g,want)=>(match (ops[g]?).bind (·.dst) with
    |some d=>(match fv d fr with
     | .d (.bool b)=>(b=want→bZ P fr hp (base+32*s.1) o.op fun v hp'=>(m ≠ 0→dM hp0 hp')∧zW P ops base hp0 (fun fr=>F8 r (m - 1) fr hp') s.2 (bz fr o.dst v)) ∧
       (b=!want→zW P ops base hp0 (fun fr=>F8 r (m-1) fr hp) s.2 (bz fr o.dst (.tup [])))
     | .tup []=>zW P ops base hp0 (fun fr=>F8 r (m-1) fr hp) s.2 (bz fr o.dst (.tup []))
     |_=>False)
    |none=>False))
  |none=>False
def M9(fr:Fr)(v:AV)(o:Oper):Prop :=
 match o.guard with
 |none=>mY P fr hp0 o.op v
 |some (g,want)=>∃d,(ops[g]?).bind (·.dst)=some d∧((∃b,fv d fr=.d (.bool b)∧(b=want→mY P fr hp0 o.op v)∧(b=!want→v=.tup []))∨(fv d fr=.tup []∧v=.tup []))
def Na(z:Nat)(fr:Fr):Prop:=∃v o,ops[z]?=some o∧(∀d,o.dst=some d→fv d fr=v)∧M9 P ops hp0 fr v o
end
section
variable {P:Program} {c:Ctx} {ops:Array Oper} {base:Nat} {hp0:Hp} {K:Fr→Hp→Prop} {fr fr':Fr}
theorem xe{o:Oper}(h:∀t,t∈o.looksAt ops→fv t fr=fv t fr'):∀x,x∈o.op.operands→ev fr x=ev fr' x:=by
 intro x b;cases x with
 |tmp t =>
  refine h t ?_;unfold Oper.looksAt;rw[cD];left;rw[List.mem_filterMap];exact⟨.tmp t,by simpa using b,rfl⟩
 |_=>rfl
theorem kt{o:Oper}{g:Nat}{b:Bool}{d:Tmp}(e:o.guard=some (g,b))(f:(ops[g]?).bind (·.dst)=some d):d∈o.looksAt ops:=by
 unfold Oper.looksAt;rw[cD];right;simp[e,f]
theorem mo{o:Oper}{v:AV}(h:∀t,t∈o.looksAt ops→fv t fr=fv t fr')(d:mY P fr hp0 o.op v):mY P fr' hp0 o.op v:=by
 intro hp' N' K' b e;rw[←ua (xe h)];exact d hp' N' K' b e
theorem uc{o:Oper}{v:AV}(h:∀t,t∈o.looksAt ops→fv t fr=fv t fr')(hz:M9 P ops hp0 fr v o):M9 P ops hp0 fr' v o:=by
 unfold M9 at hz⊢;split at hz;exact mo h hz;rename_i g l m;obtain⟨d,k,hz⟩:=hz;have e:=h d (kt m k);rcases hz with ⟨b,j,f,p⟩|⟨j,f⟩;exact⟨d,k,.inl ⟨b,by rw[←e];exact j,fun q=>mo h (f q),p⟩⟩;exact⟨d,k,.inr ⟨by rw[←e];exact j,f⟩⟩
theorem mL{b:Option Tmp}{v:AV}{t:Nat}(h:b≠some t):fv t (bz fr b v)=fv t fr:=by
 cases b with
 |none=>rfl
 |some d =>
  simp only[bz,j5];rw[if_neg (fun e=>h (by rw[e]))]
theorem ku{d:Tmp}{v:AV}:fv d (bz fr (some d) v)=v:=by simp[bz,j5]
theorem oW{C:Fr→Prop}(hu:∀i j d,cB ops i=some d→cB ops j=some d→i=j):∀(zs:List Nat)(fr:Fr),im ops zs=true→eR zs=true→zW P ops base hp0 C zs fr →
  ∃frZ,C frZ∧(∀t,(∀z,z∈zs→cB ops z≠some t)→fv t frZ=fv t fr)∧∀z,z∈zs→Na P ops hp0 z frZ
 |[],fr,_,_,h=>⟨fr,h,fun _ _=>rfl,aw⟩
 | z :: r,fr,ho,hn,h=>by
  simp only[im,Bool.and_eq_true]at ho;simp only[eR,Bool.and_eq_true]at hn;obtain⟨ho1,ho2⟩:=ho;simp only[zW]at h;cases hz:ops[z]? with
  |none=>rw[hz]at h;exact h.elim
  | some o =>
   rw[hz]at h;simp only at h;have hdz:cB ops z=o.dst:=(by simp[cB,hz]);have hlz:iE ops z=o.looksAt ops:=by simp[iE,hz]
   -- what is read is put by none of these
   have hno:∀y,y∈z::r→∀t,t∈o.looksAt ops→cB ops y≠some t:=by
    intro y hy t ht he;have:=fa.1 ho1 y hy;simp only[he,hlz,Bool.not_eq_true',List.contains_eq_mem,decide_eq_false_iff_not]at this;exact this ht
   -- from one value
   have go:∀v,M9 P ops hp0 fr v o→zW P ops base hp0 C r (bz fr o.dst v)→∃frZ,C frZ∧(∀t,(∀y,y∈z::r→cB ops y≠some t)→fv t frZ=fv t fr)∧∀y,y∈z::r→Na P ops hp0 y frZ:=by
    intro v hv hrest;obtain⟨frZ,h1,h2,h3⟩:=oW hu r _ ho2 hn.2 hrest;refine⟨frZ,h1,fun t ht=>?_,fun y hy=>?_⟩;rw[h2 t fun y hy=>ht y (cS _ hy)];exact mL (by rw[←hdz];exact ht z (dz ..));rcases d_.1 hy with rfl|hy;refine⟨v,o,hz,fun d hd=>?_,uc (fun t ht=>?_) hv⟩;rw[h2 d fun y' hy' he=>?_];rw[hd];exact ku;have:=hu y' y d he (by rw[hdz];exact hd);subst this;have hn1:=hn.1;simp only[Bool.not_eq_true',List.contains_eq_mem,decide_eq_false_iff_not]at hn1;exact hn1 hy';rw[h2 t fun y' hy'=>hno y' (cS _ hy') t ht,mL];rw[←hdz];exact hno _ (dz ..) t ht;exact h3 y hy
   have one:∀next:AV→Prop,VV P hp0 fr base o.op next→∃v,mY P fr hp0 o.op v∧next v:=by
    intro next hq;unfold VV at hq
    split at hq;rename_i hk;obtain⟨v,q1,q2⟩:=KG hk hq;exact⟨v,q2,q1⟩;exact hq
   split at h;rename_i hg;obtain⟨v,q1,q2⟩:=one _ h;exact go v (by unfold M9;rw[hg];exact q1) q2;rename_i g want hg;split at h;rename_i d hd;split at h;rename_i b hb;by_cases hbw:b=want;obtain⟨v,q1,q2⟩:=one _ (h.1 hbw);exact go v (by unfold M9;rw[hg];exact⟨d,hd,.inl ⟨b,hb,fun _=>q1,fun h'=>by rw[hbw]at h';cases want<;>cases h'⟩⟩) q2
   have hbn:b=!want:=by cases b<;>cases want<;>simp_all
   exact go (.tup []) (by unfold M9;rw[hg];exact⟨d,hd,.inl ⟨b,hb,fun h'=>absurd h' hbw,fun _=>rfl⟩⟩) (h.2 hbn);rename_i hb;exact go (.tup []) (by unfold M9;rw[hg];exact⟨d,hd,.inr ⟨hb,rfl⟩⟩) h;exact h.elim;exact h.elim
theorem Gx(fr:Fr):∀l:List Tmp,∃b:Fr,(∀t,t∈l→fv t b=.any)∧∀t,t ∉ l→fv t b=fv t fr
 |[]=>⟨fr,aw,fun _ _=>rfl⟩
 | d :: l=>by
  obtain⟨b,k,j⟩:=Gx fr l;refine⟨(d,.any)::b,fun t f=>?_,fun t f=>?_⟩;rw[j5];split;rfl;rename_i g;rcases d_.1 f with rfl|h;exact absurd rfl g;exact k t h;rw[j5,if_neg (fun e=>f (by rw[←e];exact dz ..))];exact j t fun h=>f (cS _ h)
def RV(d:Array Bool):Nat:=(d.toList.filter fun b=>!b).length
theorem vX{d:Array Bool}{i:Nat}(h:d.getD i true=false):RV (d.setIfInBounds i true)+1=RV d:=by
 unfold RV;rw[Array.toList_setIfInBounds];have e:d.toList[i]?=some false:=by
  cases f:d[i]? with
  |none=>simp[f]at h
  |some b=>simp[f]at h;subst h;simpa using f
 clear h;generalize d.toList=l at e
 induction l generalizing i with
 |nil=>simp at e
 | cons b r ih =>
  cases i with
  |zero=>simp at e;subst e;simp
  |succ i =>
   simp only[List.getElem?_cons_succ]at e;have:=ih e;simp only[List.set_cons_succ,List.filter_cons];split<;>simp_all<;>omega
structure RInv(P:Program)(c:Ctx)(ops:Array Oper)(base:Nat)(hp0:Hp)(za zs rest:List Nat)(listed:Array Bool)(fr:Fr)(hp:Hp)(a:Act)(w:World):Prop where
 size:listed.size=ops.size
 closed:∀j o,ops[j]?=some o→listed.getD j false=true→∀e,e∈o.after→Region.binds .any e=true→listed.getD e.on false=true
 un:∀j,j∈rest→listed.getD j true=false
 done:∀j,j<ops.size→j ∉ zs→j ∉ rest→listed.getD j false=true
 def_:a.defers=[]
 tmps:a.tmps.size=c.n
 sim:∃U σ,Rel c hp U σ w∧Dt c hp U σ w∧(∀k,U k→k<base∨∃j,base+32*j≤k∧k<base+32*j+32∧listed.getD j false=true) ∧
  ∀t,(∀z,z∈zs→listed.getD z true=false→cB ops z≠some t)→AIs w (bQ c w σ hp) σ hp U (fv t fr) (a.tmps.getD t undef)
 facts:∀z,z∈zs→listed.getD z true=false→Na P ops hp0 z fr
 sa:uW hp0 hp∨∀z,z∈za→listed.getD z true=true
theorem nN{b:Array Bool}(hc:∀j o,ops[j]?=some o→b.getD j false=true→∀e,e∈o.after→Region.binds .any e=true→b.getD e.on false=true){j i:Nat}(f:Waits ops j i) :
  (∀o,ops[j]?=some o→∀e,e∈o.after→Region.binds .any e=true→b.getD e.on false=true)→b.getD i false=true:=by
 induction f with
 |edge ho he hb=>intro h;exact h _ ho _ he hb
 |step ho he hb _ ih=>intro h;exact ih fun g d=>hc _ g d (h _ ho _ he hb)
theorem kY{d:Array Bool}{i:Nat}(h:d.getD i false=true):d.getD i true=true:=by
 simp only[ct]at h⊢;cases e:d[i]? with
 |none=>rfl
 |some b=>rw[e]at h;simpa using h
theorem j7{b:Array Bool}{i:Nat}(hi:i<b.size)(h:b.getD i false=false):b.getD i true=false:=by
 simp only[ct]at h⊢;rw[dg hi]at h⊢;simpa using h
theorem aL{b:Array Bool}{i j:Nat}(d:Bool)(hi:i<b.size):(b.setIfInBounds i true).getD j d=if i=j then true else b.getD j d:=by
 simp only[ct,Array.getElem?_setIfInBounds];split;rename_i h;subst h;simp;rfl
theorem xf:∀(l:List Nat)(j:Nat),ub ops (j::l)→∀i,i∈l→∃p,p∈j::l∧Waits ops i p
 |[],_,_,_,h=>by simp at h
 |b::r,j,hc,i,hi=>by
  rcases d_.1 hi with rfl|h;exact⟨j,dz ..,hc.1⟩;obtain⟨p,e,d⟩:=xf r b hc.2 i h;exact⟨p,cS _ e,d⟩
theorem qZ:∀{b:kX}{i:Nat},i∈gz b→i∈xc b
 |s::r,i,h=>by
  rcases d_.1 h with rfl|h;exact dz ..;exact cS _ (cD.2 (.inr (qZ h)))
theorem zM:∀{b:kX}{i:Nat},i∈sr b→i∈xc b
 |s::r,i,h=>by
  rcases cD.1 h with h|h;exact cS _ (cD.2 (.inl h));exact cS _ (cD.2 (.inr (zM h)))
theorem sw:∀{b:kX}{i:Nat},i∈xc b→i∈gz b∨i∈sr b
 | s :: r,i,h=>by
  rcases d_.1 h with rfl|h;exact .inl (dz ..);rcases cD.1 h with h|h;exact .inr (cD.2 (.inl h));rcases sw h with h|h;exact .inl (cS _ h);exact .inr (cD.2 (.inr h))
theorem DK:∀{zv:List Nat}{b:kX}{i:Nat},M7 ops zv b→i∈sr b→∃p,p∈gz b∧Waits ops i p
 |zv,s::r,i,h,hi=>by
  rcases cD.1 hi with d|d;exact⟨s.1,dz ..,h.2.1 i d⟩;obtain⟨p,f,e⟩:=DK h.2.2 d;exact⟨p,cS _ f,e⟩
theorem lD:∀{a b:List Nat},im ops (a++b)=true→im ops a=true∧im ops b=true∧∀z,z∈a→∀y,y∈b→∀t,t∈iE ops z→cB ops y≠some t
 |[],b,h=>⟨rfl,h,aw⟩
 | z :: r,b,h=>by
  simp only[List.cons_append,im,Bool.and_eq_true]at h;obtain⟨j,k⟩:=h;obtain⟨l,k2,k3⟩:=lD k;refine⟨?_,k2,fun x e y d t g f=>?_⟩;simp only[im,Bool.and_eq_true];refine⟨fa.2 fun y d=>fa.1 j y ?_,l⟩;rcases d_.1 d with rfl|h;exact dz ..;exact cS _ (cD.2 (.inl h));rcases d_.1 e with rfl|e;have:=fa.1 j y (cS _ (cD.2 (.inr d)));simp only[f,Bool.not_eq_true',List.contains_eq_mem,decide_eq_false_iff_not]at this;exact this g;exact k3 x e y d t g f
theorem jU:∀{a b:List Nat},eR (a++b)=true→eR a=true∧eR b=true∧∀z,z∈a→z ∉ b
 |[],b,h=>⟨rfl,h,aw⟩
 |z::r,b,h=>by
  simp only[List.cons_append,eR,Bool.and_eq_true,Bool.not_eq_true',List.contains_eq_mem,decide_eq_false_iff_not,cD,not_or]at h;obtain⟨⟨j,d⟩,f⟩:=h;obtain⟨g,k2,k3⟩:=jU f;refine⟨by simp[eR,j,g],k2,fun x e=>?_⟩;rcases d_.1 e with rfl|e;exact d;exact k3 x e
theorem DL{hp':Hp}(h:dM hp0 hp'):uW hp0 hp':=by
 intro id b f;have d:∀{l:Hp},lk id l=some b→(id,b)∈l:=by
  intro l
  induction l with
  |nil=>intro h;cases h
  |cons p t ih =>
   intro h;obtain⟨m,u⟩:=p;simp only[lk]at h;split at h;rename_i e;injection h with h;subst e;subst h;exact dz ..;exact cS _ (ih h)
 have:=h _ (d f);simp only at this;rw[this,f]
structure RegOk(n:Nat)(ops:Array Oper)(za is:List Nat):Prop where
 part:∀j,j<ops.size→(j∈za∨j∈is)∧¬(j∈za∧j∈is)
 inb:∀j,j∈is→j<ops.size
 lt:∀i d,cB ops i=some d→d<n
 uniq:∀i j d,cB ops i=some d→cB ops j=some d→i=j
 zdst:∀z,z∈za→∀d,cB ops z=some d→∀j,d∈iE ops j→Waits ops j z
 low:∀j o,ops[j]?=some o→∀e,e∈o.after→Region.binds .any e=true→e.on<j
structure RegMore(ops:Array Oper)(zs:List Nat)(ss:kX)(m:Nat)(za is:List Nat):Prop where
 nis:eR is=true
 nza:eR za=true
 seg:M7 ops zs ss
 chain:ub ops is
 order:im ops za=true
 tail:∀i,i∈is.drop m→∀z,z∈za→Waits ops i z
 inz:∀z,z∈za→z<ops.size
theorem RX{n:Nat}{p:List Nat}{g:kX}{m:Nat}(h:Gw n ops p g m=true):RegOk n ops (p++sr g) (gz g)∧RegMore ops p g m (p++sr g) (gz g):=by
 unfold Gw at h;generalize p++sr g=za at h;generalize gz g=is at h;simp only[aar,Bool.and_eq_true]at h;obtain⟨⟨⟨⟨⟨⟨⟨⟨⟨⟨⟨E,C⟩,r⟩,x⟩,s⟩,u⟩,I⟩,G⟩,v⟩,y⟩,F⟩,q⟩:=h;have inr:∀{i d},cB ops i=some d→i∈List.range ops.size:=by
  intro i d f;rw[List.mem_range];rcases Nat.lt_or_ge i ops.size with h|h;exact h;simp[cB,Array.getElem?_eq_none h]at f
 refine⟨⟨fun j b=>?_,fun j b=>?_,fun i d f=>?_,fun i j d f b=>?_,fun z l d A j b=>?_,fun j o t e H B=>?_⟩,⟨x,s,M8 G,DJ v,y,fun i f z l=>?_,fun z l=>by simpa using fa.1 r z l⟩⟩
 have:=fa.1 E j (List.mem_range.2 b);simp at this;exact⟨this.1,fun h=>by rcases this.2 with D|D<;>simp_all⟩
 simpa using fa.1 C j b;have:=fa.1 u i (inr f);simp only[f,Bool.and_eq_true,decide_eq_true_eq]at this;exact this.1;have:=fa.1 u i (inr f);simp only[f,Bool.and_eq_true]at this;have:=fa.1 this.2 j (inr b);simp only[b,bne_self_eq_false,Bool.or_false,beq_iff_eq]at this;exact this.symm;have:=fa.1 I z l;simp only[A]at this;have k:j∈List.range ops.size:=by
  rw[List.mem_range];rcases Nat.lt_or_ge j ops.size with h|h;exact h;simp[iE,Array.getElem?_eq_none h]at b
 have:=fa.1 this j k;simp only[b,List.contains_eq_mem,decide_true,Bool.not_true,Bool.false_or]at this;exact lC this;have k:j∈List.range ops.size:=by
  rw[List.mem_range];exact(Array.getElem?_eq_some_iff.1 t).1
 have:=fa.1 q j k;simp only[t]at this;have:=Array.all_eq_true_iff_forall_mem.1 this e H;simpa[B]using this;have:=fa.1 F i f;exact lC (fa.1 this z l)
theorem mq{e:Fr}{hp:Hp}{U:Nat→Prop}{N:Nat}{σ:Nat→Option Nat}{a:Act}{w:World}{b:Option Tmp}(j:a.defers=[])(f:a.tmps.size=c.n)(k:Rel c hp U σ w)(l:Dt c hp U σ w)
  (g:∀t,AIs w (bQ c w σ hp) σ hp U (fv t e) (a.tmps.getD t undef)):oK c (bz e b (.tup [])) hp (eN U N) (a.put b undef) w:=by
 cases b with
 |none=>exact⟨j,f,σ,k.more,fun n=>(g n).step Step.more,l.trans Step.more⟩
 | some d =>
  refine⟨j,by simp[Act.put,f],σ,k.more,fun n=>?_,l.trans Step.more⟩;simp only[bz,Act.put,j5];by_cases h:d=n;subst h;have m:(a.tmps.setIfInBounds d undef).getD d undef=.tuple #[]:=by
   simp only[ct,Array.getElem?_setIfInBounds,if_true];split<;>rfl
  rw[m];simp only[if_true];exact .tup [] #[] rfl aw;simp only[if_neg h];have:(a.tmps.setIfInBounds d undef).getD n undef=a.tmps.getD n undef:=by
   simp only[ct,Array.getElem?_setIfInBounds,if_neg h]
  rw[this];exact(g n).step Step.more
theorem W4 {za is:List Nat} {Q:Exit→Act→World→Prop} (hB:RegOk c.n ops za is)
  (hQ:∀fr hp a w U,K fr hp→(∀k,U k→k<base+32*ops.size)→oK c fr hp U a w→Q .normal a w) :
  ∀(fuel:Nat)(listed:Array Bool)(zs:List Nat)(rest:kX)(m:Nat)(fr:Fr)(hp:Hp)(a:Act)(w:World),RV listed≤fuel→(∀i,i∈(gz rest).drop m→∀z,z∈za→Waits ops i z)→ub ops (gz rest)→eR (gz rest)=true→(∀i,i∈gz rest→i∈is) →
   M7 ops zs rest→im ops (zs++sr rest)=true→eR (zs++sr rest)=true→(∀z,z∈zs++sr rest→z∈za) →
   RInv P c ops base hp0 za zs (xc rest) listed fr hp a w→F8 P ops base hp0 K rest m fr hp→wpAny P .any ops Q fuel listed a w:=by
 have notboth:∀{listed:Array Bool}{i:Nat},listed.getD i true=false→listed.getD i false=true→False:=by
  intro listed i h1 h2;rw[kY h2]at h1;cases h1
 -- where nothing is left
 have u7:∀ (listed:Array Bool) (zs:List Nat) (rest:kX) (m:Nat) (fr:Fr) (hp:Hp) (a:Act) (w:World),(∀ i,i ∈ gz rest→i ∈ is)→RInv P c ops base hp0 za zs (xc rest) listed fr hp a w→F8 P ops base hp0 K rest m fr hp→Region.ready .any ops listed=[]→Q .normal a w:=by
  intro listed zs rest m fr hp a w hsub hI hW hr0;have all:∀k j,j≤k→j<ops.size→listed.getD j false=true:=by
   intro k
   induction k with
   | zero =>
    intro j hj hjs;cases hl:listed.getD j false with
    |true=>rfl
    | false =>
     have hmem:j∈Region.ready .any ops listed:=mem_ready.2 ⟨j7 (by rw[hI.size];exact hjs) hl,ops[j],dg hjs,fun e he hb=>by
      have:=hB.low j _ (dg hjs) e he hb
      omega⟩
     rw[hr0]at hmem;simp at hmem
   | succ k ih =>
    intro j hj hjs;cases hl:listed.getD j false with
    |true=>rfl
    | false =>
     have hmem:j∈Region.ready .any ops listed:=mem_ready.2 ⟨j7 (by rw[hI.size];exact hjs) hl,ops[j],dg hjs,fun e he hb=>by
      have:=hB.low j _ (dg hjs) e he hb
      exact ih e.on aq aq⟩
     rw[hr0]at hmem;simp at hmem
  have hnil:rest=[]:=by
   cases rest with
   |nil=>rfl
   |cons j r =>
    have h1:=hI.un j.1 (dz ..);exact(notboth h1 (all j.1 j.1 (cL _) (hB.inb j.1 (hsub j.1 (dz ..))))).elim
  subst hnil;simp only[F8]at hW;obtain⟨U,σ,hr,hh,hU,hf⟩:=hI.sim;refine hQ fr hp a w U hW (fun k hk=>?_) ⟨hI.def_,hI.tmps,σ,hr,fun t=>hf t fun z hz hun=>?_,hh⟩;rcases hU k hk with h|⟨j,hj1,hj2,hj⟩;omega;have:j<listed.size:=by
   rcases Nat.lt_or_ge j listed.size with h|h;exact h;simp[Array.getElem?_eq_none h]at hj
  have:=hI.size;omega;intro he;have:z<ops.size:=by
   rcases Nat.lt_or_ge z ops.size with h|h;exact h;simp[cB,Array.getElem?_eq_none h]at he
  exact notboth hun (all z z (cL _) this)
 intro fuel
 induction fuel with
 | zero =>
  intro listed zs rest m fr hp a w hf ht hc hn hsub hsg hord hnz hza hI hW;have hr0:Region.ready .any ops listed=[]:=by
   rw[List.eq_nil_iff_forall_not_mem];intro i hi;have:=vX (mem_ready.1 hi).1;omega
  exact⟨hr0,u7 listed zs rest m fr hp a w hsub hI hW hr0⟩
 | succ fuel ih =>
  intro listed zs rest m fr hp a w hfuel ht hc hn hsub hsg hord hnz hza hI hW;refine⟨u7 listed zs rest m fr hp a w hsub hI hW,fun i hi=>?_⟩;obtain⟨hun,o,ho,haft⟩:=mem_ready.1 hi;have his:i<ops.size:=(Array.getElem?_eq_some_iff.1 ho).1;have hil:i<listed.size:=by rw[hI.size];exact his
  have hdi:cB ops i=o.dst:=by simp[cB,ho]
  have hli:iE ops i=o.looksAt ops:=by simp[iE,ho]
  have hwl:∀z,Waits ops i z→listed.getD z false=true:=fun z hz=>nN hI.closed hz fun o' ho'=>by
   rw[ho]at ho';injection ho' with ho';subst ho';exact haft
  have hzza:∀z,z∈zs→z∈za:=fun z hz=>hza z (cD.2 (.inl hz));have hdst:ii c.n o.dst:=by
   unfold ii;cases hd:o.dst with
   |none=>trivial
   |some d=>exact hB.lt i d (by rw[hdi,hd])
  have hun':∀z,(listed.setIfInBounds i true).getD z true=false→listed.getD z true=false∧z≠i:=by
   intro z hz;rw[aL true hil]at hz;split at hz;cases hz;rename_i hne;exact⟨hz,fun h=>hne h.symm⟩
  have hclosed':∀j o',ops[j]?=some o'→(listed.setIfInBounds i true).getD j false=true→∀e,e∈o'.after→Region.binds .any e=true→(listed.setIfInBounds i true).getD e.on false=true:=by
   intro j o' hj hl e he hb;rw[aL false hil]at hl⊢;split;rfl;split at hl;rename_i hij;subst hij;rw[ho]at hj;injection hj with hj;subst hj;exact haft e he hb;exact hI.closed j o' hj hl e he hb
  have hfuel':RV (listed.setIfInBounds i true)≤fuel:=by
   have:=vX hun;omega
  obtain⟨U,σ,hr,hh,hU,hf⟩:=hI.sim;have hNU:Free U (base+32*i):=by
   intro k k1 k2 h;rcases hU _ h with h|⟨j,hj,hj2,hl⟩;omega;have:j=i:=aq;subst this;exact notboth hun hl
  have hU':∀k,eN U (base+32*i) k→k<base∨∃j,base+32*j≤k∧k<base+32*j+32∧(listed.setIfInBounds i true).getD j false=true:=by
   rintro k(h|h);rcases hU k h with h|⟨j,h1,h1',h2⟩;exact .inl h;exact .inr ⟨j,h1,h1',by rw[aL false hil];split<;>simp[h2]⟩;exact .inr ⟨i,h.1,h.2,by rw[aL false hil];simp⟩
  obtain⟨frm,hm1,hm2⟩:=Gx fr (zs.filterMap fun z=>if listed.getD z true=true then none else cB ops z);have hml:∀t,t∈(zs.filterMap fun z=>if listed.getD z true=true then none else cB ops z)↔∃z,z∈zs∧listed.getD z true=false∧cB ops z=some t:=by
   intro t;rw[List.mem_filterMap];constructor;rintro⟨z,hz,h⟩;split at h;cases h;rename_i hne;exact⟨z,hz,by simpa using hne,h⟩;rintro⟨z,hz,h1,h2⟩;exact⟨z,hz,by simp[h1,h2]⟩
  have hfm:∀t,AIs w (bQ c w σ hp) σ hp U (fv t frm) (a.tmps.getD t undef):=by
   intro t;by_cases hm:t∈(zs.filterMap fun z=>if listed.getD z true=true then none else cB ops z);rw[hm1 t hm];exact .any _;rw[hm2 t hm];exact hf t fun z hz hzu he=>hm ((hml t).2 ⟨z,hz,hzu,he⟩)
  have hlook:∀t,t∈o.looksAt ops→fv t frm=fv t fr:=by
   intro t ht';refine hm2 t fun hm=>?_;obtain⟨z,hz,hzu,he⟩:=(hml t).1 hm;exact notboth hzu (hwl z (hB.zdst z (hzza z hz) t he i (by rw[hli];exact ht')))
  have hlook':∀t,t∈o.looksAt ops→fv t fr=fv t frm:=fun t ht'=>(hlook t ht').symm;have hgu:∀{g want d},o.guard=some (g,want)→(ops[g]?).bind (·.dst)=some d→fv d fr=.tup []→¬(yielded ops a.tmps g=some want):=by
   intro g want d hg hd hb;have hx:=hfm d;rw[hlook d (kt hg hd),hb]at hx;unfold yielded;rw[hd];cases ht:a.tmps[d]? with
   |none=>simp[ht]
   |some u =>
    have e:a.tmps.getD d undef=u:=(by simp[ht]);rw[e]at hx;cases hx with
    |tup _ xs _ _=>simp[ht]
  have hgv:∀{g want d b},o.guard=some (g,want)→(ops[g]?).bind (·.dst)=some d→fv d fr=.d (.bool b)→yielded ops a.tmps g=some b:=by
   intro g want d b hg hd hb;have hx:=hfm d;rw[hlook d (kt hg hd),hb]at hx;have hv:=gZ hx;unfold yielded;rw[hd];have hv':a.tmps[d]?.getD undef=.bool b:=(by simpa using hv);cases ht:a.tmps[d]? with
   |none=>rw[ht]at hv';cases hv'
   |some u=>rw[ht]at hv';simp at hv';subst hv';simp[ht]
  unfold wpOp;simp only[ho];by_cases hz:i∈zs
  ·
   have hag:uW hp0 hp:=by
    rcases hI.sa with h|h;exact h;have:=h i (hzza i hz);rw[hun]at this;cases this
   have hirest:i ∉ xc rest:=fun h=>by
    rcases sw h with h|h;exact(hB.part i his).2 ⟨hzza i hz,hsub i h⟩;exact(jU hnz).2.2 i hz h
   obtain⟨v,o',ho',hdv,hzk⟩:=hI.facts i hz hun;rw[ho]at ho';injection ho' with ho';subst ho';have next:∀a' w',oK c (bz frm o.dst v) hp (eN U (base+32*i)) a' w'→wpAny P .any ops Q fuel (listed.setIfInBounds i true) a' w':=by
    rintro a' w'⟨q1,q2,σ',q3,q4,q5⟩;refine ih _ zs rest m fr hp a' w' hfuel' ht hc hn hsub hsg hord hnz hza ⟨by simp[hI.size],hclosed',fun j hj=>?_,fun j hj hjz hjr=>?_,q1,q2,⟨_,σ',q3,q5,hU',fun t htu=>?_⟩,fun z hz' hzu=>hI.facts z hz' (hun' z hzu).1,.inl hag⟩ hW;rw[aL true hil,if_neg (fun e=>hirest (by rw[e];exact hj))];exact hI.un j hj;rw[aL false hil];split;rfl;exact hI.done j hj hjz hjr;have:=q4 t;by_cases hd:o.dst=some t;rw[hd,ku]at this;rw[hdv t hd];exact this;rw[mL hd,hm2 t fun hm=>?_]at this;exact this;obtain⟨z,hz',hzu,he⟩:=(hml t).1 hm;refine htu z hz' ?_ he;rw[aL true hil,if_neg];exact hzu;intro e;subst e;exact hd (by rw[←hdi];exact he)
   have exec:mY P fr hp0 o.op v→o.wp P a w (wpAny P .any ops Q fuel (listed.setIfInBounds i true)) Q:=by
    intro hs;have hop:=mo hlook' hs hp (base+32*i) (fun v' hp'=>v'=v∧hp'=hp) hag ⟨rfl,rfl⟩;have hok:=sn (o:=o) hr (fun x=>zD hfm x) hNU hop;refine rW hI.def_ hI.tmps hdst hfm hh hok fun v' hp' a' w' hK hS=>?_;obtain⟨rfl,rfl⟩:=hK;exact next a' w' hS
   unfold M9 at hzk;split at hzk;rename_i hg;rw[if_pos (by simp[Region.wanted,hg])];exact .inl (exec hzk)
   ·rename_i g want hg;obtain⟨d,hd,⟨b,hb,h1,h2⟩|⟨hb,hv⟩⟩:=hzk
    ·have hy:=hgv hg hd hb;by_cases hbw:b=want;rw[if_pos (by simp[Region.wanted,hg,hy,hbw])];exact .inl (exec (h1 hbw))
     ·rw[if_neg (by simp[Region.wanted,hg,hy,hbw])];have hv:=h2 (by cases b<;>cases want<;>simp_all)
      subst hv;exact next _ _ (mq hI.def_ hI.tmps hr hh hfm)
    ·have hy:=hgu hg hd hb;rw[if_neg (by simp[Region.wanted,hg,hy])];subst hv;exact next _ _ (mq hI.def_ hI.tmps hr hh hfm)
  ·
   have hir:i∈xc rest:=by
    rcases Classical.em (i∈xc rest)with h|h;exact h;exact(notboth hun (hI.done i his hz h)).elim
   cases rest with
   |nil=>simp[xc]at hir
   | cons s r =>
    obtain⟨j,zj⟩:=s;have hij:i=j:=by
     have far:∀p,p∈gz ((j,zj)::r)→Waits ops i p→False:=fun p hp1 hp2=>notboth (hI.un p (qZ hp1)) (hwl p hp2);rcases sw hir with h|h;rcases d_.1 h with h|h;exact h;obtain⟨p,hp1,hp2⟩:=xf (gz r) j hc i h;exact(far p hp1 hp2).elim;obtain⟨p,hp1,hp2⟩:=DK hsg h;exact(far p hp1 hp2).elim
    subst hij;have hiza:i ∉ za:=fun h=>(hB.part i his).2 ⟨h,hsub i (dz ..)⟩;have hni:i ∉ gz r:=by
     simp only[gz,eR,Bool.and_eq_true,Bool.not_eq_true',List.contains_eq_mem,decide_eq_false_iff_not]at hn;exact hn.1
    have hns:i ∉ xc r:=fun h=>by
     rcases sw h with h|h;exact hni h;exact hiza (hza i (cD.2 (.inr (cD.2 (.inr h)))))
    have hnr:eR (gz r)=true:=by
     simp only[gz,eR,Bool.and_eq_true]at hn;exact hn.2
    have hcr:ub ops (gz r):=by
     cases r with
     |nil=>trivial
     |cons b r=>exact hc.2
    have htr:∀k,k∈(gz r).drop (m-1)→∀z,z∈za→Waits ops k z:=by
     intro k hk;refine ht k ?_;cases m with
     |zero=>exact cS _ (by simpa using hk)
     |succ m=>simpa[gz]using hk
    have hord':im ops ((zs++zj)++sr r)=true:=by rw[cA];exact hord
    have hnz':eR ((zs++zj)++sr r)=true:=by rw[cA];exact hnz
    have hza':∀z,z∈(zs++zj)++sr r→z∈za:=by rw[cA];exact hza
    have hzj:∀z,z∈zj→z∈za:=fun z hz'=>hza' z (cD.2 (.inl (cD.2 (.inr hz'))));have hordj:=lD (lD hord').1;have hnzj:=jU (jU hnz').1;have hunj:∀z,z∈zj→listed.getD z true=false:=fun z hz'=>hI.un z (cS _ (cD.2 (.inl hz')));simp only[F8,ho]at hW;have next:∀ v hp' a' w',(m ≠ 0→uW hp0 hp' ∨ ∀ z,z ∈ za→listed.getD z true=true)→zW P ops base hp0 (fun fr=>F8 P ops base hp0 K r (m - 1) fr hp') zj (bz fr o.dst v)→oK c (bz frm o.dst v) hp' (eN U (base+32*i)) a' w'→wpAny P .any ops Q fuel (listed.setIfInBounds i true) a' w':=by
     rintro v hp' a' w' hsa hW'⟨q1,q2,σ',q3,q4,q5⟩;obtain⟨frZ,g1,g2,g3⟩:=oW hB.uniq zj _ hordj.2.1 hnzj.2.1 hW';refine ih _ (zs++zj) r (m-1) frZ hp' a' w' hfuel' htr hcr hnr (fun k hk=>hsub k (cS _ hk)) hsg.2.2 hord' hnz' hza' ⟨by simp[hI.size],hclosed',fun k hk=>?_,fun k hk hkz hkr=>?_,q1,q2,⟨_,σ',q3,q5,hU',fun t htu=>?_⟩,fun z hz' hzu=>?_,?_⟩ g1;rw[aL true hil,if_neg (fun e=>hns (by rw[e];exact hk))];exact hI.un k (cS _ (cD.2 (.inr hk)));rw [aL false hil];split;rfl;rename_i hne;exact hI.done k hk (fun h=>hkz (cD.2 (.inl h))) (fun h=>by
      rcases d_.1 h with h|h;exact hne h.symm;rcases cD.1 h with h|h;exact hkz (cD.2 (.inr h))
      exact hkr h)
     have hnj:∀z,z∈zj→cB ops z≠some t:=fun z hz'=>htu z (cD.2 (.inr hz')) (by
      rw[aL true hil,if_neg (fun e=>hiza (by rw[e];exact hzj z hz'))]
      exact hunj z hz')
     rw[g2 t hnj];have:=q4 t;by_cases hd:o.dst=some t;rw[hd,ku]at this⊢;exact this;rw[mL hd]at this⊢;rw[hm2 t fun hm=>?_]at this;exact this;obtain⟨z,hz',hzu,he⟩:=(hml t).1 hm;refine htu z (cD.2 (.inl hz')) ?_ he;rw[aL true hil,if_neg (fun e=>hz (by rw[e];exact hz'))];exact hzu;rcases cD.1 hz' with hz'|hz';obtain⟨hzu1,hzi⟩:=hun' z hzu;obtain⟨vz,oz,hoz,hdz,hzk⟩:=hI.facts z hz' hzu1;have hdz':cB ops z=oz.dst:=(by simp[cB,hoz]);have hlz:iE ops z=oz.looksAt ops:=(by simp[iE,hoz]);refine⟨vz,oz,hoz,fun d hd=>?_,uc (fun t ht'=>?_) hzk⟩;rw[g2 d fun y hy he=>?_,mL];exact hdz d hd;intro he;exact hzi (hB.uniq z i d (by rw[hdz'];exact hd) (by rw[hdi];exact he));have:=hB.uniq z y d (by rw[hdz'];exact hd) he;subst this;exact hnzj.2.2 z hz' hy;rw[g2 t fun y hy=>hordj.2.2 z hz' y hy t (by rw[hlz];exact ht'),mL];intro he;exact notboth hzu1 (hwl z (hsg.1 t (by rw[hdi];exact he) z hz' (by rw[hlz];exact ht')));exact g3 z hz';cases m with
     |zero =>
      right;intro z hz';have:=hwl z (ht i (by simp[gz]) z hz');rw[aL true hil];split;rfl;exact kY this
     | succ m =>
      rcases hsa aq with h|h;exact .inl h;right;intro z hz';rw[aL true hil];split;rfl;exact h z hz'
    have exec:bZ P fr hp (base+32*i) o.op (fun v hp'=>(m≠0→dM hp0 hp')∧zW P ops base hp0 (fun fr=>F8 P ops base hp0 K r (m-1) fr hp') zj (bz fr o.dst v))→o.wp P a w (wpAny P .any ops Q fuel (listed.setIfInBounds i true)) Q:=by
     intro hop;rw[ua (xe hlook')]at hop;have hok:=sn (o:=o) hr (fun x=>zD hfm x) hNU hop;refine rW hI.def_ hI.tmps hdst hfm hh hok fun v' hp' a' w' hK hS=>?_;exact next v' hp' a' w' (fun h=>.inl (DL (hK.1 h))) hK.2 hS
    split at hW;rename_i hg;rw[if_pos (by simp[Region.wanted,hg])];exact .inl (exec hW)
    ·rename_i g want hg;split at hW
     ·rename_i d hd;split at hW
      ·rename_i b hb;have hy:=hgv hg hd hb;by_cases hbw:b=want;rw[if_pos (by simp[Region.wanted,hg,hy,hbw])];exact .inl (exec (hW.1 hbw))
       ·rw[if_neg (by simp[Region.wanted,hg,hy,hbw])];have hv:=hW.2 (by cases b<;>cases want<;>simp_all)
        exact next (.tup []) hp _ _ (fun hm=>hI.sa) hv (mq hI.def_ hI.tmps hr hh hfm)
      ·rename_i hb;have hy:=hgu hg hd hb;rw[if_neg (by simp[Region.wanted,hg,hy])];exact next (.tup []) hp _ _ (fun hm=>hI.sa) hW (mq hI.def_ hI.tmps hr hh hfm)
      ·exact hW.elim
     ·exact hW.elim
theorem Gy{p:List Nat}{q:kX}{m:Nat}{id:Nat}{U:Nat→Prop}{a:Act}{w:World}{Q:Exit→Act→World→Prop}(g:P.follows .mixedOrders=true)(B:Gw c.n ops p q m=true)
  (H:∀fr hp a w U,K fr hp→(∀k,U k→k<base+32*ops.size)→oK c fr hp U a w→Q .normal a w)
  (A:∀k,U k→k<base) (F:oK c fr hp0 U a w) (h:zW P ops base hp0 (fun fr=>F8 P ops base hp0 K q m fr hp0) p fr):(Code.region id ops true).wp P Q a w:=by
 obtain⟨d,b⟩:=RX B;obtain⟨r,R,M,C⟩:=oW d.uniq p fr (lD b.order).1 (jU b.nza).1 h;obtain⟨J,I,σ,G,D,E⟩:=F;have u:=kq G;have Kp:∀j,(Array.replicate ops.size false).getD j false=false:=by
  intro j;simp only[ct,Array.getElem?_replicate];split<;>rfl
 have e:∀j,j<ops.size→(Array.replicate ops.size false).getD j true=false:=by
  intro j f;simp[f]
 refine wp_region_any g (W4 d H ops.size _ p q m r hp0 a w.drew ?_ b.tail b.chain b.nis (fun _ h=>h) b.seg b.order b.nza (fun _ h=>h) ⟨aw,fun j o T v=>(by rw[Kp]at v;cases v),fun j f=>?_,fun j f l x=>?_,J,I,
  ⟨U,σ,u,E.trans cQ,fun k O=>.inl (A k O),fun t L=>?_⟩,fun z l _=>C z l,.inl fun _ _ h=>h⟩ R)
 unfold RV;refine Nat.le_trans (List.length_filter_le _ _) ?_;simp;refine e j ?_;rcases sw f with h|h;exact d.inb j h;rcases Nat.lt_or_ge j ops.size with s|s;exact s;exact absurd s (by have:=b.inz j (cD.2 (.inr h));omega);rcases(d.part j f).1 with h|h;rcases cD.1 h with h|h;exact absurd h l;exact absurd (zM h) x;exact absurd (qZ h) x;rw[M t fun z l y=>?_];exact(D t).step cQ;refine L z l (e z ?_) y;rcases Nat.lt_or_ge z ops.size with h|h;exact h;simp[cB,Array.getElem?_eq_none h]at y
end
end Go.Proofs.YtmfnimjnneflnaaGreat
