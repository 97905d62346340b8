/-
 Part 5 of what the claim rests on.
-/
import Derived.Test.YtmfnimjnneflnaaGreatR3
set_option linter.unusedVariables false
set_option linter.unusedSimpArgs false
set_option maxRecDepth 100000
set_option maxHeartbeats 16000000
namespace Go.Am
open Go.ChangeShapes Go.RowKit
def ga (P:Program):Nat→TypeId→List DV→Prop
 | 0,_,_=>False
 | n+1,t,ds =>
  match P.underlying t with
  | some .bool=>∃ b,ds=[.bool b]
  | some (.int k)=>∃ x,ds=[.int k x]∧k.has x
  | some .string=>∃ bs:List Int,ds=[.str bs]∧bs.length≤maxLen∧∀ b,b ∈ bs→0≤b∧b<256
  | some (.slice e)=>∃ es,ds=[.ro (P.cellsOf e) es]∧(es.length≤maxLen∧es.length*P.bytesOf e≤reachBytes)∧∀ r,r ∈ es→ga P n e r∧r.length=P.cellsOf e
  | some (.pointer e)=>ds=[.nilp] ∨ ∃ cs,ds=[.box cs]∧ga P n e cs∧cs.length=P.cellsOf e
  | some (.struct fs)=>uQ (ga P n) P.cellsOf (fs.toList.map (·.type)) ds
  | some (.array m e)=>uQ (ga P n) P.cellsOf (List.replicate m e) ds
  | _=>False
theorem qK {R R':TypeId→List DV→Prop} {size:TypeId→Nat} (h:∀ t ds,R t ds→R' t ds):∀ (ts:List TypeId) (ds:List DV),uQ R size ts ds→uQ R' size ts ds
 | [],_,e=>e
 | t :: r,ds,⟨a,b,e,l,h1,h2⟩=>⟨a,b,e,l,h t a h1,qK h r b h2⟩
theorem mB {P:Program}:∀ (n:Nat) (t:TypeId) (ds:List DV),ga P n t ds→kS P n t ds
 | 0,_,_,h=>h
 | n+1,t,ds,h=>by
  rw [ga] at h;rw [kS]
  cases hu:P.underlying t with
  | none=>rw [hu] at h;exact h
  | some td =>
   rw [hu] at h
   cases td with
   | slice e =>
    obtain ⟨es,e1,e2,e3⟩:=h;exact ⟨es,e1,e2.1,fun r hr=>⟨mB n e r (e3 r hr).1,(e3 r hr).2⟩⟩
   | pointer e =>
    rcases h with h | ⟨cs,e1,e2,e3⟩
    ·exact .inl h
    ·exact .inr ⟨cs,e1,mB n e cs e2,e3⟩
   | struct fs=>exact qK (mB n) _ _ h
   | array m e=>exact qK (mB n) _ _ h
   | _=>exact h
theorem pD {α β:Type} {f:α→Option β}:∀ {l:List α} {r:List β},l.mapM f=some r→r.length=l.length∧∀ (i:Nat) (x:α),l[i]?=some x→∃ y,r[i]?=some y∧f x=some y
 | [],r,h=>by simp at h;subst h;exact ⟨rfl,fun i x hx=>by simp at hx⟩
 | a :: l,r,h=>by
  rw [List.mapM_cons] at h
  cases ha:f a with
  | none=>simp [ha] at h
  | some b =>
   cases hl:l.mapM f with
   | none=>simp [ha,hl] at h
   | some bs =>
    simp [ha,hl] at h;subst h;obtain ⟨h1,h2⟩:=pD hl;refine ⟨by simp [h1],fun i x hx=>?_⟩
    cases i with
    | zero=>simp at hx;subst hx;exact ⟨b,rfl,ha⟩
    | succ i=>simp at hx;exact h2 i x hx
section
variable {H:Type} {enc:TypeId × Value→H} {P:Program} {w W:World} {spare:Nat→Bool}
theorem ti {e:TypeId} {b:Nat} {d:DataW H}:∀ {E:List (DataW H)},d ∈ E→b ∈ d.weights P e→b ∈ DataW.weightsAll P e E
 | [],h,_=>by cases h
 | x :: E,h,hb=>by
  rw [DataW.weightsAll];rcases et.1 h with rfl | h
  ·exact List.mem_append_left _ hb
  ·exact List.mem_append_right _ (ti h hb)
theorem yZ {b:Nat} {d:DataW H} {t:TypeId}:∀ {ts:List TypeId} {E:List (DataW H)} {i:Nat},ts[i]?=some t→E[i]?=some d→b ∈ d.weights P t→b ∈ DataW.weightsEach P ts E
 | [],_,_,h,_,_=>by simp at h
 | _ :: _,[],_,_,h,_=>by simp at h
 | t' :: ts,x :: E,i,h1,h2,hb=>by
  rw [DataW.weightsEach]
  cases i with
  | zero=>simp at h1 h2;subst h1;subst h2;exact List.mem_append_left _ hb
  | succ i=>simp at h1 h2;exact List.mem_append_right _ (yZ h1 h2 hb)
theorem tj:∀ (fuel n:Nat) (t:TypeId) (cs:List Value) (x:DataW H × List MemPlace),r7 P n t=true→DataW.trod enc P w 0 spare true fuel t cs=some x→(∀ b,b ∈ x.1.weights P t→b≤reachBytes)→∃ ds,ga P n t ds∧xi w ds cs
 | 0,_,_,_,_,_,h,_=>by simp [DataW.trod] at h
 | _+1,0,_,_,_,hk,_,_=>by simp [r7] at hk
 | fuel+1,n+1,t,cs,x,hk,h,hz=>by
  have ih:=fun e cs x hk h hz=>tj fuel n e cs x hk h hz
  have one:∀ d v,DIs w (fun b=>b<w.heap.size) d v→xi w [d] [v]:=by
   intro d v hd;refine ⟨rfl,fun j d' v' h1 h2=>?_⟩
   cases j with
   | zero=>simp at h1 h2;subst h1;subst h2;exact hd
   | succ j=>simp at h1
  simp only [r7] at hk
  cases hu:P.underlying t with
  | none=>simp [hu] at hk
  | some td =>
   rw [hu] at hk
   cases td with
   | bool =>
    rcases cs with _ | ⟨v,_ | ⟨u,r⟩⟩
    ·simp [DataW.trod,hu] at h
    ·cases v <;> simp [DataW.trod,hu] at h
     exact ⟨[.bool _],by simp [ga,hu],one _ _ (.bool _)⟩
    ·simp [DataW.trod,hu] at h
   | int k =>
    rcases cs with _ | ⟨v,_ | ⟨u,r⟩⟩
    ·simp [DataW.trod,hu] at h
    ·cases v <;> simp [DataW.trod,hu] at h
     rename_i k' x';obtain ⟨⟨rfl,hw⟩,_⟩:=h;exact ⟨[.int _ x'],by simp [ga,hu];exact FSa hw,one _ _ (.int _ _)⟩
    ·simp [DataW.trod,hu] at h
   | string =>
    rcases cs with _ | ⟨v,_ | ⟨u,r⟩⟩
    ·simp [DataW.trod,hu] at h
    ·cases v <;> simp [DataW.trod,hu] at h
     rename_i s;refine ⟨[.str (s.data.toList.map fun c=>(c.toNat:Int))],?_,one _ _ (.str _)⟩;simp only [ga,hu];refine ⟨_,rfl,by simpa using h.1,fun b hb=>?_⟩;rw [List.mem_map] at hb;obtain ⟨c,_,rfl⟩:=hb;have:=c.toNat_lt;omega
    ·simp [DataW.trod,hu] at h
   | slice e =>
    rw [Bool.and_eq_true,decide_eq_true_eq] at hk;rcases cs with _ | ⟨v,_ | ⟨u,r⟩⟩
    ·simp [DataW.trod,hu] at h
    ·cases v with
     | slice A len cap =>
      cases A with
      | none =>
       have:len=0∧cap=0:=by
        rcases len with _ | len <;> rcases cap with _ | cap <;> simp [DataW.trod,hu] at h ⊢
       obtain ⟨rfl,rfl⟩:=this;refine ⟨[.ro (P.cellsOf e) []],by simp [ga,hu],one _ _ ?_⟩;exact .ro _ [] none 0 (fun _ _=>default) aw aw aw aw aw
      | some ad =>
       simp only [DataW.trod,hu] at h
       split at h
       ·rename_i hc;obtain ⟨_,hlc,hcm⟩:=hc
        cases he:(List.range len).mapM fun i=>(w.cells? 0 (ad.add (i*P.cellsOf e)) (P.cellsOf e)).bind (DataW.trod enc P w 0 spare true fuel e) with
        | none=>simp [he] at h
        | some elems =>
         obtain ⟨hr1,hr2⟩:=pD he
         have hxs:∃ S,x.1=.slice (elems.map (·.1)) S:=by
          simp only [he,Option.bind_some,Option.map_eq_some_iff] at h;obtain ⟨rest,_,rfl⟩:=h;exact ⟨_,rfl⟩
         obtain ⟨S,hxs⟩:=hxs;rw [hxs] at hz;simp only [DataW.weights,hu,et,cL] at hz
         have hbig:len*P.bytesOf e≤reachBytes:=by
          have h1:=hz _ (.inl rfl);rw [List.length_map,hr1,List.length_range] at h1;exact Nat.le_trans (d_ _ (Nat.le_add_right _ _)) h1
         have hel:∀ i,i<len→∃ cells ds,w.cells? 0 (ad.add (i*P.cellsOf e)) (P.cellsOf e)=some cells∧ga P n e ds∧xi w ds cells:=by
          intro i hi;obtain ⟨y,hyi,hy⟩:=hr2 i i (by rw [List.getElem?_range hi]);have hyz:∀ b,b ∈ y.1.weights P e→b≤reachBytes:=fun b hb=>hz b (.inr (.inl (ti (List.mem_map.2 ⟨y,cr hyi,rfl⟩) hb)))
          cases hcl:w.cells? 0 (ad.add (i*P.cellsOf e)) (P.cellsOf e) with
          | none=>simp [hcl] at hy
          | some cells =>
           simp only [hcl,Option.bind_some] at hy;obtain ⟨ds,h1,h2⟩:=ih e cells y hk.2 hy hyz;exact ⟨cells,ds,rfl,h1,h2⟩
         let es:List (List DV):=(List.range len).map fun i=>if hi:i<len then (hel i hi).choose_spec.choose else []
         have hes:∀ i r,es[i]?=some r→∃ cells,i<len∧w.cells? 0 (ad.add (i*P.cellsOf e)) (P.cellsOf e)=some cells∧ga P n e r∧xi w r cells:=by
          intro i r hr
          have hi:i<len:=by
           have:=(ci.1 hr).1
           simpa [es] using this
          simp only [es,c_,List.getElem?_range hi,Option.map_some,Option.some.injEq,dif_pos hi] at hr;subst hr;exact ⟨(hel i hi).choose,hi,(hel i hi).choose_spec.choose_spec⟩
         have hlen:es.length=len:=by simp [es]
         have hrl:∀ r,r ∈ es→ga P n e r∧r.length=P.cellsOf e:=by
          intro r hr;obtain ⟨i,hi⟩:=List.getElem?_of_mem hr;obtain ⟨cells,_,h1,h2,h3⟩:=hes i r hi;exact ⟨h2,by rw [h3.1,(World.cells?_some h1).2.1]⟩
         refine ⟨[.ro (P.cellsOf e) es],?_,one _ _ ?_⟩
         ·simp only [ga,hu];exact ⟨es,rfl,⟨aq,by rw [hlen];exact hbig⟩,hrl⟩
         ·have:=DIs.ro (w:=w) (S:=fun b=>b<w.heap.size) (P.cellsOf e) es (some ad) cap (fun i j=>(w.cell? (ad.add (i*P.cellsOf e+j))).getD undef) aq (fun r hr=>(hrl r hr).2)
           (fun r hr=>⟨ad,rfl,by
            obtain ⟨i,hi⟩:=List.getElem?_of_mem hr;obtain ⟨cells,_,h1,_,_⟩:=hes i r hi;have:=World.cells?_block h1 hk.1
            rwa [dW] at this⟩)
           (fun a' ha i j r y hi hj=>by
            injection ha with ha;subst ha;obtain ⟨cells,_,h1,_,h3⟩:=hes i r hi
            have hj':j<P.cellsOf e:=by
             have:=(ci.1 hj).1;rw [h3.1,(World.cells?_some h1).2.1] at this;exact this
            have h4:=(World.cells?_some h1).2.2 j hj';rw [kn] at h4;have:cells[j]?=some (cells[j]'(by rw [(World.cells?_some h1).2.1];exact hj')):=cm _;rw [h4,this]
            rfl)
           (fun i j r y hi hj=>by
            obtain ⟨cells,_,h1,_,h3⟩:=hes i r hi
            have hj':j<P.cellsOf e:=by
             have:=(ci.1 hj).1;rw [h3.1,(World.cells?_some h1).2.1] at this;exact this
            have h4:=(World.cells?_some h1).2.2 j hj';rw [kn] at h4;have h5:cells[j]?=some (cells[j]'(by rw [(World.cells?_some h1).2.1];exact hj')):=cm _;rw [h4,h5]
            exact h3.2 j y _ hj h5)
          rw [hlen] at this;exact this
       ·cases h
     | _=>simp [DataW.trod,hu] at h
    ·simp [DataW.trod,hu] at h
   | pointer e =>
    rw [Bool.and_eq_true,decide_eq_true_eq] at hk;rcases cs with _ | ⟨v,_ | ⟨u,r⟩⟩
    ·simp [DataW.trod,hu] at h
    ·cases v with
     | pointer A =>
      cases A with
      | none=>exact ⟨[.nilp],by simp [ga,hu],one _ _ .nilp⟩
      | some ad =>
       simp only [DataW.trod,hu] at h
       cases hcl:w.cells? 0 ad (P.cellsOf e) with
       | none=>simp [hcl] at h
       | some cells =>
        simp only [hcl,Option.bind_some] at h
        cases hy:DataW.trod enc P w 0 spare true fuel e cells with
        | none=>simp [hy] at h
        | some y =>
         have hxp:x.1=.ptr y.1:=by simp [hy] at h;rw [← h]
         rw [hxp] at hz;simp only [DataW.weights,hu] at hz;obtain ⟨ds,h1,h2⟩:=ih e cells y hk.2 hy hz;have hc:=World.cells?_some hcl;refine ⟨[.box ds],?_,one _ _ (.box ds ad (fun j=>(w.cell? (ad.add j)).getD undef) (World.cells?_block hcl hk.1) (fun j z hz=>?_) (fun j z hz=>?_))⟩
         ·simp only [ga,hu];exact .inr ⟨ds,rfl,h1,by rw [h2.1,hc.2.1]⟩
         ·have hj:j<P.cellsOf e:=by
           have:=(ci.1 hz).1;rw [h2.1,hc.2.1] at this;exact this
          have h5:cells[j]?=some (cells[j]'(by rw [hc.2.1];exact hj)):=cm _;rw [hc.2.2 j hj,h5];rfl
         ·have hj:j<P.cellsOf e:=by
           have:=(ci.1 hz).1;rw [h2.1,hc.2.1] at this;exact this
          have h5:cells[j]?=some (cells[j]'(by rw [hc.2.1];exact hj)):=cm _;rw [hc.2.2 j hj,h5];exact h2.2 j z _ hz h5
     | _=>simp [DataW.trod,hu] at h
    ·simp [DataW.trod,hu] at h
   | struct fs =>
    rw [Bool.and_eq_true,decide_eq_true_eq] at hk;obtain ⟨hk1,hk2⟩:=hk;obtain ⟨l1,l2⟩:=Du fs.toList 0 _ hk1
    have hh:cs.length=P.cellsOf t∧∃ xs,(fs.toList.mapM fun f=>DataW.trod enc P w 0 spare true fuel f.type ((cs.drop f.offset).take (P.cellsOf f.type)))=some xs∧x.1=.agg (xs.map (·.1)):=by
     simp only [DataW.trod,hu] at h
     split at h
     ·rename_i hc
      cases hm:(fs.toList.mapM fun f=>DataW.trod enc P w 0 spare true fuel f.type ((cs.drop f.offset).take (P.cellsOf f.type))) with
      | none=>simp [hm] at h
      | some xs =>
       simp only [hm,Option.map_some,Option.some.injEq] at h;exact ⟨hc,xs,rfl,by rw [← h]⟩
     ·cases h
    obtain ⟨hc,xs,hxs,hxa⟩:=hh;rw [hxa] at hz;simp only [DataW.weights,hu] at hz;obtain ⟨hr1,hr2⟩:=pD hxs
    obtain ⟨ds,d1,d2⟩:=mA (w:=w) (R:=ga P n) (size:=P.cellsOf) (fs.toList.map (·.type)) cs aq (fun jq u post e=>by
     rw [List.map_eq_append_iff] at e;obtain ⟨fp,fr,e1,e2,e3⟩:=e;rw [List.map_eq_cons_iff] at e3;obtain ⟨f,fr',e4,e5,e6⟩:=e3;subst e2 e5;have hmem:f ∈ fs.toList:=by rw [e1,e4];simp
     have hfi:fs.toList[fp.length]?=some f:=by rw [e1,e4];simp
     obtain ⟨y,hyi,hy⟩:=hr2 fp.length f hfi;have hyz:∀ b,b ∈ y.1.weights P f.type→b≤reachBytes:=fun b hb=>hz b (yZ (i:=fp.length) (by rw [c_,hfi];rfl) (by rw [c_,hyi];rfl) hb);have ho:=l2 fp f fr' (by rw [e1,e4]);rw [Nat.zero_add] at ho;rw [ho] at hy
     exact ih _ _ y (d9.1 hk2 f hmem) hy hyz)
    exact ⟨ds,by simp only [ga,hu];exact d1,d2⟩
   | array m e =>
    rw [Bool.and_eq_true,decide_eq_true_eq] at hk;obtain ⟨hk1,hk2⟩:=hk
    have hh:cs.length=P.cellsOf t∧∃ xs,((List.range m).mapM fun i=>DataW.trod enc P w 0 spare true fuel e ((cs.drop (i*P.cellsOf e)).take (P.cellsOf e)))=some xs∧x.1=.agg (xs.map (·.1)):=by
     simp only [DataW.trod,hu] at h
     split at h
     ·rename_i hc
      cases hm:((List.range m).mapM fun i=>DataW.trod enc P w 0 spare true fuel e ((cs.drop (i*P.cellsOf e)).take (P.cellsOf e))) with
      | none=>simp [hm] at h
      | some xs =>
       simp only [hm,Option.map_some,Option.some.injEq] at h;exact ⟨hc,xs,rfl,by rw [← h]⟩
     ·cases h
    obtain ⟨hc,xs,hxs,hxa⟩:=hh;rw [hxa] at hz;simp only [DataW.weights,hu] at hz;obtain ⟨hr1,hr2⟩:=pD hxs
    obtain ⟨ds,d1,d2⟩:=mA (w:=w) (R:=ga P n) (size:=P.cellsOf) (List.replicate m e) cs (by rw [xj];omega) (fun jq u post h'=>by
     have hpl:jq.length<m:=by
      have:=congrArg List.length h';simp at this;omega
     have hpe:jq=List.replicate jq.length e:=List.eq_replicate_iff.2 ⟨rfl,fun x hx=>List.eq_of_mem_replicate (n:=m) (by rw [h'];simp [hx])⟩
     have hu':u=e:=by
      have:u ∈ List.replicate m e:=by rw [h'];simp
      exact List.eq_of_mem_replicate this
     subst hu';obtain ⟨y,hyi,hy⟩:=hr2 jq.length jq.length (by rw [List.getElem?_range hpl]);have hyz:∀ b,b ∈ y.1.weights P u→b≤reachBytes:=fun b hb=>hz b (ti (List.mem_map.2 ⟨y,cr hyi,rfl⟩) hb)
     have hs:(jq.map P.cellsOf).sum=jq.length*P.cellsOf u:=by
      rw [hpe,xj,List.length_replicate]
     rw [hs]
     exact ih _ _ y hk2 hy hyz)
    exact ⟨ds,by simp only [ga,hu];exact d1,d2⟩
   | _=>simp at hk
def oo (P:Program) (n:Nat) (t:TypeId) (a:AV):Prop :=
 match P.underlying t with
 | some (.struct _)=>∃ ds,a=.agg (ds.map .d)∧ga P n t ds
 | some (.array _ _)=>∃ ds,a=.agg (ds.map .d)∧ga P n t ds
 | _=>∃ d,a=.d d∧ga P n t [d]
def sy (P:Program) (n:Nat):List TypeId→List AV→Prop
 | [],as=>as=[]
 | t :: ts,as=>∃ a r,as=a :: r∧oo P n t a∧sy P n ts r
theorem IG {n:Nat} {t:TypeId} {a:AV} (h:oo P n t a):Dv P n t a:=by
 unfold oo at h;unfold Dv
 split at h
 ·rename_i hu;rw [hu];obtain ⟨ds,e,h⟩:=h;exact ⟨ds,e,mB n t ds h⟩
 ·rename_i hu;rw [hu];obtain ⟨ds,e,h⟩:=h;exact ⟨ds,e,mB n t ds h⟩
 ·rename_i hu1 hu2;obtain ⟨d,e,h⟩:=h
  split
  ·rename_i h3;exact absurd h3 (hu1 _)
  ·rename_i h3;exact absurd h3 (hu2 _ _)
  ·exact ⟨d,e,mB n t [d] h⟩
theorem Nn {n:Nat} {t:TypeId} {v:Value} {d:DataW H} {ps:List MemPlace} {base:Nat} (hk:r7 P n t=true) (hv:Value.okWide P W .any base t v) (h:DataW.Trod enc P W 0 (fun _=>true) true t v d ps) (hz:∀ b,b ∈ d.weights P t→b≤reachBytes) :
  ∃ a,oo P n t a∧AIs W (fun b=>b<W.heap.size) (fun _=>none) [] (fun _=>False) a v:=by
 obtain ⟨fuel,h⟩:=h;obtain ⟨ds,h1,h2⟩:=tj fuel n t _ _ hk h hz
 have agg:(∃ cs,v=.agg cs∧cs.size=P.cellsOf t∧Row.okWide P W .any base t cs)→∃ a,(∃ ds,a=.agg (ds.map .d)∧ga P n t ds)∧AIs W (fun b=>b<W.heap.size) (fun _=>none) [] (fun _=>False) a v:=by
  rintro ⟨cs,rfl,_,_⟩;simp only [Value.cells] at h2;have hl:ds.length=cs.size:=by simpa using h2.1
  refine ⟨_,⟨ds,rfl,h1⟩,.agg _ cs (by simp [hl]) (fun i x hx=>?_) (fun i c x hc hx=>?_)⟩
  ·have hi:i<ds.length:=by
    have:=(Array.getElem?_eq_some_iff.1 hx).1;omega
   exact wL (h2.2 i ds[i] x (cm hi) (by simpa using hx))
  ·simp only [c_,Option.map_eq_some_iff] at hc;obtain ⟨d,hd,rfl⟩:=hc;exact .d (h2.2 i d x hd (by simpa using hx))
 have one:v.cells=#[v]→∃ a,(∃ d,a=.d d∧ga P n t [d])∧AIs W (fun b=>b<W.heap.size) (fun _=>none) [] (fun _=>False) a v:=by
  intro hc;rw [hc] at h2;simp only at h2;have hl:=h2.1
  match ds,hl,h1,h2 with
  | [d],_,h1,h2=>exact ⟨_,⟨d,rfl,h1⟩,.d (h2.2 0 d v rfl rfl)⟩
 unfold oo;unfold Value.okWide at hv
 cases n with
 | zero=>simp [r7] at hk
 | succ n =>
  simp only [r7] at hk
  cases hu:P.underlying t with
  | none=>simp [hu] at hk
  | some td =>
   rw [hu] at hk hv
   cases td with
   | struct fs=>exact agg hv
   | array m e=>exact agg hv
   | bool =>
    simp only [Cell.okWide,Cell.ok,hu] at hv;refine one ?_
    cases v <;> simp at hv <;> rfl
   | int k =>
    simp only [Cell.okWide,Cell.ok,hu] at hv;refine one ?_
    cases v <;> simp at hv <;> rfl
   | string =>
    simp only [Cell.okWide,Cell.ok,hu] at hv;refine one ?_
    cases v <;> simp at hv <;> rfl
   | slice e =>
    simp only [Cell.okWide,Cell.ok,hu] at hv;refine one ?_
    cases v <;> simp at hv <;> rfl
   | pointer e =>
    simp only [Cell.okWide,Cell.ok,hu] at hv;refine one ?_
    cases v <;> simp at hv <;> rfl
   | _=>simp at hk
theorem y5 {n:Nat} {base:Nat}:∀ (ts:List TypeId) (vs:List Value) (ds:List (DataW H)) (ps:List MemPlace),ts.all (r7 P n)=true→(∀ (j:Nat) (t:TypeId) (v:Value),ts[j]?=some t→vs[j]?=some v→Value.okWide P W .any base t v) →
  DataW.TrodAll enc P W 0 (fun _=>true) true ts vs ds ps→(∀ b,b ∈ DataW.weightsEach P ts ds→b≤reachBytes)→vs.length=ts.length∧ds.length=ts.length∧∃ as,sy P n ts as∧as.length=ts.length∧∀ (i:Nat) (a:AV) (x:Value),as[i]?=some a→vs[i]?=some x→AIs W (fun b=>b<W.heap.size) (fun _=>none) [] (fun _=>False) a x
 | [],vs,ds,ps,_,_,h,_=>by
  cases vs <;> cases ds <;> simp [DataW.TrodAll] at h
  exact ⟨rfl,rfl,[],rfl,rfl,aw⟩
 | t :: ts,vs,ds,ps,hk,hv,h,hz=>by
  obtain ⟨v,vs',d,ds',p,q,rfl,rfl,rfl,h1,h2⟩:=trodAll_cons h;simp only [List.all_cons,Bool.and_eq_true] at hk;obtain ⟨a,ha1,ha2⟩:=Nn hk.1 (hv 0 t v rfl rfl) h1 (fun b hb=>hz b (by rw [DataW.weightsEach];exact List.mem_append_left _ hb));obtain ⟨l1,l2,as,k1,k2,k3⟩:=y5 ts vs' ds' q hk.2 (fun j t v ht hv'=>hv (j+1) t v (by simpa using ht) (by simpa using hv')) h2 (fun b hb=>hz b (by rw [DataW.weightsEach];exact List.mem_append_right _ hb));refine ⟨by simp [l1],by simp [l2],a :: as,⟨a,as,rfl,ha1,k1⟩,by simp [k2],fun i b x hb hx=>?_⟩
  cases i with
  | zero=>simp at hb hx;subst hb;subst hx;exact ha2
  | succ i=>simp at hb hx;exact k3 i b x hb hx
theorem IH {f:Func} {s:ChangeSpec} {g:FuncId} {n base:Nat} {args:Array Value} {ds gs:List (DataW H)} {before:List MemPlace} {tb:TypeId} (hl:laidOutB P=true) (hr:f.resultTypes=#[tb]) (htb:P.underlying tb=some .bool) (hvars:s.vars=[])
  (hrd:(f.params.toList.all fun t=>P.readableRec t && decide (t<P.types.size))=true) (hok:f.params.toList.all (r7 P n)=true)
  (hval:∀ (j:Nat) (t:TypeId) (v:Value),f.params[j]?=some t→args[j]?=some v→Value.okWide P W .any base t v) (hW:DataW.Whole enc P f.params.toList s.vars false W args.toList ds gs before)
  (hsz:(DataW.weightsEach P (f.params.toList ++ s.plain.varTypes P) (ds ++ gs)).all (·≤reachBytes)=true)
  (hs:∀ ds:List (DataW H),ds.length=f.params.size→s.fn H ds={ results:=[.lit (.bool true)],args:=ds })
  (hlaw:∀ as,sy P n f.params.toList as→av P g as (fun r=>r=.d (.bool true))) :
  Calls P g args W fun e W'=>∃ v,e=.returned v∧s.post enc P f false true false false W args v W':=by
 have hW':=hW;obtain ⟨p,q,hA,hV,rfl,hfz,hnd⟩:=hW;rw [hvars] at hV;obtain ⟨rfl,rfl⟩:=trodVars_none hV;have hvt:s.plain.varTypes P=[]:=by unfold DataSpec.varTypes;rw [show s.plain.vars=s.vars from rfl,hvars];rfl
 rw [hvt,List.append_nil,List.append_nil,d9] at hsz;obtain ⟨l1,l2,as,k1,k2,k3⟩:=y5 f.params.toList args.toList ds p hok (fun j t v ht hv=>hval j t v (by simpa using ht) (by simpa using hv)) hA (fun b hb=>by simpa using hsz b hb);have hc:=(hlaw as k1).2 W (fun b=>b<W.heap.size) args.toList (fun b hb=>hb) aq k3;have e:args.toList.toArray=args:=Array.toArray_toList;rw [e] at hc;refine hc.mono fun e W' he=>?_;obtain ⟨x,r,rfl,rfl,hd,hb,hx⟩:=he;have hx':=fh hx;subst hx';have hfn:=hs ds (by simpa using l2);refine ⟨_,rfl,ds,[],p ++ [],[],p,[],hW',?_,?_,?_,hb.frame _,fun h=>by cases h⟩
 ·rw [List.append_nil,hfn,hr];exact trodAll_mk1 (shut_bool htb true)
 ·rw [List.append_nil,hfn];exact nU hl hb _ _ _ _ hrd (fun x hx=>by simpa using hW'.lt x (by simp [hx])) hA
 ·rw [hvars,List.append_nil,hfn];rfl
end
end Go.Am
