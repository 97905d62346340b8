/-
  Part 16 of what the claim rests on.
-/
import Derived.Test.YtfahccoobfjkeaaGreatT14
set_option linter.unusedVariables false
set_option linter.unusedSimpArgs false
set_option maxRecDepth 100000
set_option maxHeartbeats 16000000
namespace Go.Proofs.YtfahccoobfjkeaaGreat
open Go.Am Go.Sha Go.Ec
section
variable {PO:Wt→List Nat→Option (List Nat)} {EN:Wt→En→List (List Nat)→Int}
theorem spendL_by {W:List Wt} {i:Ip} {E:List En} (hb:∀ y,y ∈ i.wit→bytes y):∀ b,b ∈ spendL PO EN W i E→by8 b.t:=by
  intro b h
  unfold spendL at h
  obtain ⟨e,he,h⟩:=List.mem_filterMap.1 h
  unfold begE at h
  split at h
  · rename_i hc
    simp only [Bool.and_eq_true,decide_eq_true_eq] at hc
    have:=(Option.some.inj h)
    subst this
    have h3:(annexW i.wit)[3]?=some ((annexW i.wit).getD 3 []):=by
      rw [List.getD_eq_getElem?_getD,List.getElem?_eq_getElem (by omega)];rfl
    exact hb _ (annexW_mem (List.mem_of_getElem? h3))
  · cases h
theorem insL_by {W:List Wt} {h:Nat}:∀ {is:List Ip} {E:List En} {L:List Bg},(∀ i,i ∈ is→∀ y,y ∈ i.wit→bytes y)→(∀ b,b ∈ L→by8 b.t)→∀ b,b ∈ insL PO EN W h is E L→by8 b.t
  | [],E,L,_,hL=>hL
  | i :: is,E,L,hi,hL=>by
    rw [insL]
    refine insL_by (fun i' h'=>hi i' (List.mem_cons_of_mem _ h')) ?_
    intro b hb
    rcases List.mem_append.1 hb with hb | hb
    · exact hL b hb
    · exact spendL_by (hi i (by simp)) b hb
theorem entV_en {W:List Wt} {k:Nat} {o:Nat × List Nat} {L:List Bg} {e:En} (hk:k<W.length) (hL:∀ b,b ∈ L→Bg.okB b) (hB:∀ b,b ∈ L→by8 b.t) (h:entV W k o L=some e):e.tx.length=32∧e.tpl.length=32∧e.pl<W.length∧1≤e.st∧e.st≤2∧by8 e.tpl∧e.v=o.1:=by
  unfold entV at h
  split at h
  · have:=Option.some.inj h
    subst this
    refine ⟨rfl,rfl,hk,(by decide:(1:Int)≤1),(by decide:(1:Int)≤2),?_,rfl⟩
    intro x hx
    have:=List.eq_of_mem_replicate hx
    omega
  · obtain ⟨b,hb,rfl⟩:=Option.map_eq_some_iff.1 h
    have hm:=List.mem_of_find?_eq_some hb
    exact ⟨rfl,(hL b hm).1,hk,(by decide:(1:Int)≤2),(by decide:(2:Int)≤2),hB b hm,rfl⟩
theorem fstV_en {W:List Wt} {o:Nat × List Nat} {L:List Bg} {e:En} (hL:∀ b,b ∈ L→Bg.okB b) (hB:∀ b,b ∈ L→by8 b.t):∀ {n k:Nat},k+n≤W.length→fstV W o L n k=some e→e.tx.length=32∧e.tpl.length=32∧e.pl<W.length∧1≤e.st∧e.st≤2∧by8 e.tpl∧e.v=o.1
  | 0,k,_,h=>by cases h
  | n+1,k,hk,h=>by
    rw [fstV] at h
    cases hV:entV W k o L with
    | some e' =>
      rw [hV] at h
      cases h
      exact entV_en (by omega) hL hB hV
    | none =>
      rw [hV] at h
      exact fstV_en hL hB (by omega) h
theorem outsE_len {W:List Wt} {nm:List Nat} {h:Nat} {L:List Bg}:∀ {os:List (Nat × List Nat)} {k:Nat} {E:List En},(outsE W nm h L k os E).length≤E.length+os.length∧∃ X,outsE W nm h L k os E=E ++ X
  | [],k,E=>⟨by simp [outsE],[],by simp [outsE]⟩
  | o :: os,k,E=>by
    rw [outsE]
    obtain ⟨q1,X,q2⟩:=outsE_len (os:=os) (k:=k+1) (E:=E ++ outE W nm h L k o) (W:=W) (nm:=nm) (h:=h) (L:=L)
    refine ⟨?_,outE W nm h L k o ++ X,by rw [q2,List.append_assoc]⟩
    rw [List.length_append] at q1
    have:(outE W nm h L k o).length≤1:=by
      unfold outE
      split <;> simp
    rw [List.length_cons]
    omega
theorem outsE_ok {W:List Wt} {nm:List Nat} {h:Nat} {L:List Bg} (hn:nm.length=32) (hh:h<4294967296) (hL:∀ b,b ∈ L→Bg.okB b) (hB:∀ b,b ∈ L→by8 b.t) :
    ∀ {os:List (Nat × List Nat)} {k:Nat} {E:List En},k+os.length≤4294967296→(∀ e,e ∈ E→e.ok W.length)→∀ e,e ∈ outsE W nm h L k os E→e.ok W.length
  | [],k,E,_,hE=>hE
  | o :: os,k,E,hk,hE=>by
    rw [outsE]
    rw [List.length_cons] at hk
    refine outsE_ok hn hh hL hB (by omega) ?_
    intro e he
    rcases List.mem_append.1 he with he | he
    · exact hE e he
    · unfold outE at he
      split at he
      · rename_i e0 h0
        obtain ⟨q1,q2,q3,q4,q5,q6,_⟩:=fstV_en hL hB (by omega) h0
        simp only [List.mem_cons,List.mem_nil_iff,or_false] at he
        subst he
        exact ⟨hn,q2,q3,by show k<4294967296;omega,hh,q4,by show e0.st≤6;omega,q6⟩
      · cases he
def okTx (x:Tn):Prop:=Sm x∧(∀ i,i ∈ x.ins→∀ y,y ∈ i.wit→bytes y)∧∀ o,o ∈ x.outs→bytes o.2
theorem thruE_ok (hPO:HPO PO) (hEN:HEN EN) {W:List Wt} (hW:∀ w,w ∈ W→w.ok) {h:Nat} (hh:h<4294967296) {first:Bool} {x:Tn} (hx:okTx x) {E:List En} (hE:∀ e,e ∈ E→e.ok W.length) :
    (∀ e,e ∈ thruE PO EN W nameT h first x E→e.ok W.length)∧(thruE PO EN W nameT h first x E).length≤E.length+6:=by
  obtain ⟨hs,hwb,hob⟩:=hx
  have ho:=hs.2.2.1
  have hq:∀ i,i ∈ x.ins→i.wit.length≤1000∧∀ y,y ∈ i.wit→bytes y:=fun i h'=>⟨by have:=(hs.2.2.2.2 i h').1;omega,hwb i h'⟩
  unfold thruE
  split
  · exact ⟨outsE_ok (nameT_len x) hh (by intro b hb;cases hb) (by intro b hb;cases hb) (by omega) hE,by have:=(outsE_len (W:=W) (nm:=nameT x) (h:=h) (L:=[]) (os:=x.outs) (k:=0) (E:=E)).1;omega⟩
  · refine ⟨outsE_ok (nameT_len x) hh (insL_ok hPO hEN hW hh hq hE (by intro b hb;cases hb)) (insL_by hwb (by intro b hb;cases hb)) (by omega) (insE_ok hEN hW hh hq hE),?_⟩
    have:=(outsE_len (W:=W) (nm:=nameT x) (h:=h) (L:=insL PO EN W h x.ins E []) (os:=x.outs) (k:=0) (E:=insE EN W h x.ins E)).1
    rw [insE_len] at this
    omega
theorem thrusE_ok (hPO:HPO PO) (hEN:HEN EN) {W:List Wt} (hW:∀ w,w ∈ W→w.ok) {h:Nat} (hh:h<4294967296):∀ {ts:List Tn} {first:Bool} {E:List En},(∀ x,x ∈ ts→okTx x)→(∀ e,e ∈ E→e.ok W.length) →
    (∀ e,e ∈ thrusE PO EN W nameT h first ts E→e.ok W.length)∧(thrusE PO EN W nameT h first ts E).length≤E.length+6*ts.length
  | [],first,E,_,hE=>⟨hE,by simp [thrusE]⟩
  | x :: ts,first,E,hx,hE=>by
    obtain ⟨q1,q2⟩:=thruE_ok hPO hEN hW hh (first:=first) (hx x (by simp)) hE
    rw [thrusE]
    obtain ⟨q3,q4⟩:=thrusE_ok hPO hEN hW hh (first:=false) (fun y hy=>hx y (List.mem_cons_of_mem _ hy)) q1
    refine ⟨q3,?_⟩
    rw [List.length_cons]
    omega
theorem thrusE_snoc {W:List Wt} {h:Nat} {x:Tn}:∀ {ts:List Tn} {first:Bool} {E:List En},thrusE PO EN W nameT h first (ts ++ [x]) E=thruE PO EN W nameT h (first && decide (ts.length=0)) x (thrusE PO EN W nameT h first ts E)
  | [],first,E=>by simp [thrusE]
  | y :: ts,first,E=>by
    rw [List.cons_append,thrusE,thrusE,thrusE_snoc]
    simp
def updB (B:Nat→List En) (m:Nat) (E:List En):Nat→List En:=fun k=>if k=m then E else B k
def cfI (m c:Nat) (f:Nat→Nat):Nat→Nat:=fun j=>if j=3+m then c else f j
theorem cfI_inj {m c:Nat} {f:Nat→Nat} (hf:InjN 27 f) (hc:∀ j,j<27→f j ≠ c):InjN 27 (cfI m c f):=by
  intro i j hi hj e
  simp only [cfI] at e
  split at e <;> split at e
  · omega
  · exact absurd e.symm (hc j hj)
  · exact absurd e (hc i hi)
  · exact hf i j hi hj e
theorem vxG_low {W:List Wt} {E:List En} {B:Nat→List En} {m t N:Nat} {f:Nat→Nat} (hm:m≤24) (hf:∀ j,j<27→f j<N) (i:Nat) (hi:i<27):∀ r,r ∈ (vxB W E B m t f i).es→∀ v,v ∈ r→v.low1 N:=by
  intro r hr v hv
  match i with
  | 0 =>
    simp only [vxB,List.mem_cons,List.mem_nil_iff,or_false] at hr
    subst hr
    simp only [List.mem_cons,List.mem_nil_iff,or_false] at hv
    rcases hv with rfl | rfl | rfl
    · trivial
    · exact hf 1 (by omega)
    · exact hf 2 (by omega)
  | 1 =>
    obtain ⟨e,_,rfl⟩:=List.mem_map.1 hr
    exact enR_low _ _ v hv
  | 2 =>
    rcases List.mem_append.1 hr with h | h
    · obtain ⟨k,hk,rfl⟩:=List.mem_map.1 h
      have:=List.mem_range.1 hk
      simp at hv
      subst hv
      exact hf (3+k) (by omega)
    · have:=List.eq_of_mem_replicate h
      subst this
      simp at hv
      subst hv
      trivial
  | i+3 =>
    obtain ⟨e,_,rfl⟩:=List.mem_map.1 hr
    exact enR_low _ _ v hv
def Ix (W:List Wt) (E:List En) (B:Nat→List En) (m t:Nat) (f:Nat→Nat) (hp:Hp):Prop:=∀ j,j<27→lk (f j) hp=some (vxB W E B m t f j)
def vxG (W:List Wt) (E:List En) (B:Nat→List En) (m t:Nat) (f:Nat→Nat):Hp:=hpL 27 f (vxB W E B m t f)
theorem vxG_ix {W:List Wt} {E:List En} {B:Nat→List En} {m t:Nat} {f:Nat→Nat} (hf:InjN 27 f):Ix W E B m t f (vxG W E B m t f):=fun j hj=>lk_hpL _ hf hj
theorem vxG_weak {W:List Wt} {E:List En} {B:Nat→List En} {m t nx N:Nat} {f:Nat→Nat} {hp:Hp} (hm:m≤24) (hN:∀ j,j<27→f j<N) (h:∀ j,j<27→lk (f j) hp=some (vxB W E B m t f j) ∨ (nx≤f j∧(vxB W E B m t f j).es=[])) :
    ∀ p,p ∈ vxG W E B m t f→(lk p.1 hp=some p.2 ∨ (nx≤p.1∧p.2.es=[]))∧p.1<N∧∀ r,r ∈ p.2.es→∀ v,v ∈ r→v.low1 N:=by
  intro p hp'
  obtain ⟨i,hi,rfl⟩:=mem_hpL.1 hp'
  exact ⟨h i hi,hN i hi,vxG_low hm hN i hi⟩
theorem vxG_weakP {P:Hp} {W:List Wt} {E:List En} {B:Nat→List En} {m t nx N:Nat} {f:Nat→Nat} {hp:Hp} (hm:m≤24) (hP:∀ p,p ∈ P→(lk p.1 hp=some p.2 ∨ (nx≤p.1∧p.2.es=[]))∧p.1<N∧∀ r,r ∈ p.2.es→∀ v,v ∈ r→v.low1 N) (hN:∀ j,j<27→f j<N) (h:∀ j,j<27→lk (f j) hp=some (vxB W E B m t f j) ∨ (nx≤f j∧(vxB W E B m t f j).es=[])) :
    ∀ p,p ∈ P ++ vxG W E B m t f→(lk p.1 hp=some p.2 ∨ (nx≤p.1∧p.2.es=[]))∧p.1<N∧∀ r,r ∈ p.2.es→∀ v,v ∈ r→v.low1 N:=by
  intro p hp'
  rcases List.mem_append.1 hp' with hp' | hp'
  · exact hP p hp'
  · exact vxG_weak hm hN h p hp'
theorem lk_appH {i:Nat} {Q:Hp}:∀ {P:Hp},lk i (P ++ Q)=match lk i P with
    | some b=>some b
    | none=>lk i Q
  | []=>rfl
  | (j,b) :: P=>by
    simp only [List.cons_append,lk]
    split
    · rfl
    · exact lk_appH
theorem cl_thru (hPO:HPO PO) (hEN:HEN EN) {W:List Wt} {E:List En} {B:Nat→List En} {m t:Nat} {x:Tn} {h:Nat} {first:Bool} (hW:∀ w,w ∈ W→w.ok) (hWn:W.length≤8) (hE:∀ e,e ∈ E→e.ok W.length) (hEn:E.length≤90000)
    (hx:okTx x) (hh:h<4294967296) (hm:m≤24) {P:Hp} {N:Nat} {f:Nat→Nat} {K:AV→Hp→Prop} (hf:InjN 27 f) (hN:∀ j,j<27→f j<N) (hP:∀ p,p ∈ P→p.1<N∧∀ j,j<27→f j ≠ p.1)
    (hK:∀ r,K r (P ++ vxG W (thruE PO EN W nameT h first x E) B m t f)) :
    ClW Tryz.prog 39 [.ptr (f 0) 0 0 1,.agg (eT x),.d (.int .u32 (h:Int)),.d (.bool first)] (P ++ vxG W E B m t f) N K:=by
  have hid:∀ j,j<27→rho (prF 27 f id) 27 (f j)=j:=fun j hj=>rho_prF id 27 hf hj
  have hnw:newsB (prF 27 id f) []=true:=rfl
  have hix:Ix W E B m t f (P ++ vxG W E B m t f):=fun j hj=>by
    rw [lk_appH]
    cases hl:lk (f j) P with
    | none=>exact vxG_ix hf j hj
    | some b=>exact absurd rfl ((hP _ (lk_mem hl)).2 j hj)
  refine callsA_ob (n:=27) (b0:=vxB W E B m t id) f (through_fn hPO hEN W E B m t x h first hW hWn hE hEn hx.1 hx.2.1 hx.2.2 hh hm) (fun j b hj=>vxI_is j b hj) hf hN
    (fun j hj=>⟨_,hix j hj,vxB_e _ _ _ _ _ _ _,(vxB_ren hm hid j).symm⟩) ?_ [] hnw ?_
  · simp only [AV.renL,AV.ren,hid 0 (by omega),eT]
  · intro r hp' hj hpX q1 q2 q3
    have hro:∀ j,j<27→roO 27 f [] N (id j)=f j:=fun j hj=>roO_of hnw hj
    refine ⟨_,fun i b hi=>?_,hK _⟩
    rw [lk_appH] at hi
    cases hl:lk i P with
    | some b' =>
      rw [hl] at hi
      cases hi
      obtain ⟨p1,p2⟩:=hP _ (lk_mem hl)
      rw [q3 i p1 p2,lk_appH,hl]
    | none =>
      rw [hl] at hi
      obtain ⟨j,hj',e⟩:=mem_hpL.1 (lk_mem hi)
      cases e
      have:=q1 j hj' _ (hj j hj')
      rw [vxB_ren hm hro] at this
      exact this
end
end Go.Proofs.YtfahccoobfjkeaaGreat
namespace Go.Am
variable {P:Program}
theorem sem_post {n:Nat} {x:Code} {Q:Exit→St→Prop} {st:St} (h:sem P n x (fun e st'=>∃ S,Wk st' S∧Q e S) st):sem P n x Q st:=fun c a w hn hs =>
  wp_mono (h c a w hn hs) fun e a' w' ⟨_,⟨S,hw,hq⟩,hs'⟩=>⟨S,hq,hw _ _ _ hs'⟩
end Go.Am
namespace Go.Proofs.YtfahccoobfjkeaaGreat
open Go.Am Go.Sha Go.Ec
theorem copyW_fn (rows:List (List AV)) (hn:rows.length≤100000) (hlow:∀ r,r ∈ rows→∀ v,v ∈ r→v.low1 2000) (hr:∀ ρ,renR ρ rows=rows) :
    RetsE Tryz.prog 38 1 [(0,⟨28,69,rows⟩)] [.own 0 0 rows.length rows.length]
      (fun r hp'=>r=.own 1000 0 rows.length rows.length∧lk 0 hp'=some ⟨28,69,rows⟩∧lk 1000 hp'=some ⟨28,69,rows⟩):=by
  refine fnE_of_sem Tryz.func38 (by kernel_rfl) rfl Tryz.ntmps38 (rs:=[.tmp 2]) rfl (nlb rfl) (by decide) ?_
  refine sem_post (sem_of_awp ?_)
  simp only [go_sem,Nat.reduceEqDiff,Nat.reduceAdd,Nat.reduceLT,↓reduceIte]
  intro t hb
  cases t with
  | true =>
    have h0:rows=[]:=List.eq_nil_of_length_eq_zero (by simpa using hb rfl)
    subst h0
    simp [go_sem]
    refine ⟨⟨[(2,.own 1000 0 0 0)],[(0,⟨28,69,[]⟩),(1000,⟨28,69,[]⟩)],2000⟩,weak_wk (by simp [Weak,slotOk,fv,lk,AV.low,AV.low1]),?_⟩
    simp [resV,fv,lk]
  | false =>
    simp [go_sem]
    refine ⟨by omega,?_⟩
    refine ⟨_,ren_wk [(0,0),(98,1000)] 1999 rfl (by simp) (by simp) (by omega),?_⟩
    simp [resV,fv,lk,renF,renH,rho,AV.ren,Blk.ren,hr]
theorem cl_copyE {rows:List (List AV)} (hn:rows.length≤100000) (hlow:∀ r,r ∈ rows→∀ v,v ∈ r→v.low1 2000) (hr:∀ ρ,renR ρ rows=rows) {hp:Hp} {N a:Nat} {K:AV→Hp→Prop} (hN:∀ p,p ∈ hp→p.1<N) (ha:lk a hp=some ⟨28,69,rows⟩)
    (hK:K (.own N 0 rows.length rows.length) ((N,⟨28,69,rows⟩) :: hp)) :
    ClW Tryz.prog 38 [.own a 0 rows.length rows.length] hp N K:=by
  have haN:a<N:=hN _ (lk_mem ha)
  have hf:InjN 1 (fun _:Nat=>a):=fun i j hi hj _=>by omega
  have hid:rho (prF 1 (fun _=>a) id) 1 a=0:=rho_prF (f:=fun _=>a) id 1 hf (i:=0) (by omega)
  have hbr:∀ ρ,Blk.ren ρ ⟨28,69,rows⟩=⟨28,69,rows⟩:=fun ρ=>by simp only [Blk.ren,hr]
  have hnw:newsB (prF 1 id (fun _=>a)) [(1000,0)]=true:=rfl
  refine callsA_ob (n:=1) (b0:=fun _=>⟨28,69,rows⟩) (fun _=>a) (copyW_fn rows hn hlow hr) ?_ hf (fun _ _=>haN) (fun i hi=>⟨_,ha,Nat.succ_ne_zero 68,(hbr _).symm⟩) ?_ [(1000,0)] hnw ?_
  · intro i b h
    simp only [lk] at h
    split at h
    · rename_i e;subst e;exact ⟨by omega,(Option.some.inj h).symm⟩
    · cases h
  · simp only [AV.renL,AV.ren,hid]
  · rintro r hp' ⟨rfl,h0,h1⟩ hpX q1 q2 q3
    have h50:roO 1 (fun _=>a) [(1000,0)] N 1000=N:=roO_new (c:=1000) (j:=0) hnw (by simp)
    have q0:=q1 0 (by omega) _ h0
    rw [hbr] at q0
    have q4:=q2 1000 0 (by simp) _ h1
    rw [hbr] at q4
    refine ⟨(N,⟨28,69,rows⟩) :: hp,fun i b hi=>?_,by simpa only [AV.ren,h50] using hK⟩
    simp only [lk] at hi
    split at hi
    · rename_i e;subst e;rw [← hi];exact q4
    · have:=hN _ (lk_mem hi)
      by_cases e:a=i
      · subst e;rw [q0,← ha,hi]
      · rw [q3 i this (fun _ _=>e),hi]
theorem updB_at {B:Nat→List En} {m:Nat} {E:List En}:updB B m E m=E:=if_pos rfl
theorem updB_ne {B:Nat→List En} {m k:Nat} {E:List En} (h:k ≠ m):updB B m E k=B k:=if_neg h
theorem cfI_at {m c:Nat} {f:Nat→Nat}:cfI m c f (3+m)=c:=if_pos rfl
theorem cfI_ne {m c j:Nat} {f:Nat→Nat} (h:j ≠ 3+m):cfI m c f j=f j:=if_neg h
def befR (B:Nat→List En) (m t:Nat) (f:Nat→Nat):List (List AV):=((List.range m).map fun k=>[AV.own (f (3+k)) 0 (B k).length (B k).length]) ++ List.replicate (t - m) [.any]
theorem befR_len {B:Nat→List En} {m t:Nat} {f:Nat→Nat} (h:m≤t):(befR B m t f).length=t:=by simp [befR];omega
theorem befR_up {B:Nat→List En} {m t c:Nat} {E:List En} {f:Nat→Nat} (h:m<t):(befR B m t f).set m [.own c 0 E.length E.length]=befR (updB B m E) (m+1) t (cfI m c f):=by
  have e1:(List.range m).map (fun k=>[AV.own (cfI m c f (3+k)) 0 (updB B m E k).length (updB B m E k).length])=(List.range m).map fun k=>[AV.own (f (3+k)) 0 (B k).length (B k).length]:=by
    refine List.map_congr_left fun k hk=>?_
    have:=List.mem_range.1 hk
    rw [cfI_ne (by omega),updB_ne (by omega)]
  obtain ⟨n,hn⟩:∃ n,t - m=n+1:=⟨t - m - 1,by omega⟩
  unfold befR
  rw [List.range_succ,List.map_append,e1,List.set_append_right _ _ (by simp),List.length_map,List.length_range,Nat.sub_self,hn,show t - (m+1)=n by omega]
  simp [List.replicate_succ,cfI_at,updB_at]
theorem befR_end {B:Nat→List En} {m c:Nat} {E:List En} {f:Nat→Nat}:befR B m m f ++ [[.own c 0 E.length E.length]]=befR (updB B m E) (m+1) (m+1) (cfI m c f):=by
  have e1:(List.range m).map (fun k=>[AV.own (cfI m c f (3+k)) 0 (updB B m E k).length (updB B m E k).length])=(List.range m).map fun k=>[AV.own (f (3+k)) 0 (B k).length (B k).length]:=by
    refine List.map_congr_left fun k hk=>?_
    have:=List.mem_range.1 hk
    rw [cfI_ne (by omega),updB_ne (by omega)]
  unfold befR
  rw [List.range_succ,List.map_append,e1]
  simp [cfI_at,updB_at]
section
variable {PO:Wt→List Nat→Option (List Nat)} {EN:Wt→En→List (List Nat)→Int}
theorem befR_up1 {B:Nat→List En} {m t c:Nat} {E:List En} (h:m+1≤t):List.map (fun k=>[AV.own (3+k) 0 (B k).length (B k).length]) (List.range m) ++ [AV.own c 0 E.length E.length] :: List.drop (m+1) (List.map (fun k=>[AV.own (3+k) 0 (B k).length (B k).length]) (List.range m) ++ List.replicate (t - m) [AV.any])=befR (updB B m E) (m+1) t (cfI m c id):=by
  rw [← befR_up (by omega:m<t),List.set_eq_take_append_cons_drop,if_pos (by rw [befR_len (by omega)];omega)]
  unfold befR
  rw [List.take_append_of_le_length (by simp),List.take_of_length_le (by simp)]
  rfl
theorem befR_end1 {B:Nat→List En} {m t c:Nat} {E:List En} (h:t=m+1):List.map (fun k=>[AV.own (3+k) 0 (B k).length (B k).length]) (List.range m) ++ [[AV.own c 0 E.length E.length]]=befR (updB B m E) (m+1) t (cfI m c id):=by
  subst h
  rw [← befR_end]
  unfold befR
  rw [Nat.sub_self,List.replicate_zero,List.append_nil]
  rfl
theorem conn_ix {W:List Wt} {E:List En} {B:Nat→List En} {m t:Nat} {hp:Hp} (hm:m≤23) (h0:lk 0 hp=some ⟨108,3,[[.d (.ro 69 (W.map wtD)),.own 1 0 E.length E.length,.own 2 0 (m+1) t]]⟩)
    (h1:lk 1 hp=some ⟨28,69,E.map enR⟩) (h2:lk 2 hp=some ⟨49,1,befR (updB B m E) (m+1) t (cfI m 412 id)⟩) (h4:lk 412 hp=some ⟨28,69,E.map enR⟩) (h3:∀ i,i<24→lk (i+3) hp=some ⟨28,69,(B i).map enR⟩) :
    Ix W E (updB B m E) (m+1) t (cfI m 412 id) hp:=by
  have c1:cfI m 412 id 1=1:=cfI_ne (by omega)
  have c2:cfI m 412 id 2=2:=cfI_ne (by omega)
  intro j hj
  match j,hj with
  | 0,_=>rw [cfI_ne (by omega)];simp only [vxB,c1,c2];exact h0
  | 1,_=>rw [c1];exact h1
  | 2,_=>rw [c2];exact h2
  | i+3,hj =>
    by_cases e:i=m
    · subst e
      have:cfI i 412 id (i+3)=412:=by rw [Nat.add_comm];exact cfI_at
      rw [this,h4]
      simp only [vxB,updB_at]
    · rw [cfI_ne (by omega)]
      simp only [vxB,updB_ne e]
      exact h3 i (by omega)
theorem connect_fn (hPO:HPO PO) (hEN:HEN EN) (W:List Wt) (E:List En) (B:Nat→List En) (m t:Nat) (hd:Hd) (ts:List Tn) (h:Nat) (hW:∀ w,w ∈ W→w.ok) (hWn:W.length≤8) (hE:∀ e,e ∈ E→e.ok W.length) (hEn:E.length≤80000)
    (hk:hd.ok) (hts:∀ x,x ∈ ts→okTx x) (htn:ts.length≤8) (hh:h<4294967296) (hm:m≤23) (hmt:m≤t) (htt:t≤100) :
    RetsE Tryz.prog 15 27 (vxI W E B m t) [.ptr 0 0 0 1,.agg (eB hd ts),.d (.int .u32 (h:Int))]
      (fun r hp'=>Ix W (thrusE PO EN W nameT h true ts E) (updB B m E) (m+1) (max t (m+1)) (cfI m 412 id) hp'):=by
  refine fnE_of_awp Tryz.func15 (by kernel_rfl) rfl Tryz.ntmps15 (rs:=[]) rfl (nlb rfl) (by decide) ?_
  have hbl:=eB_len hk ts
  have hba:=eB_all hk ts
  have hl:(E.map enR).length=E.length:=by simp
  simp [go_sem,hbl]
  refine drw3 [1,2,3,4,5,6,7,8] [0,9,10,11,12,13,14] [1,2,3,4,5,6,7,8] (.alt (.step 0 [] true (.step 9 [] true (.step 10 [] true (.step 11 [] false (.step 12 [] false (.step 13 [] false (.step 14 [] false .done))))))) (.step 9 [] true (.alt (.step 0 [] true (.step 10 [] true (.step 11 [] false (.step 12 [] false (.step 13 [] false (.step 14 [] false .done)))))) (.step 10 [] true (.alt (.step 0 [] true (.step 11 [] false (.step 12 [] false (.step 13 [] false (.step 14 [] false .done))))) (.step 11 [] false (.step 0 [] false (.step 12 [] false (.step 13 [] false (.step 14 [] false .done)))))))))) ⟨[(0,.ptr 0 0 0 1),(2,.d (.int .u32 (h:Int))),(4,.ptr 28 0 0 1)],(28,⟨42,69,[eB hd ts]⟩) :: vxG W E (updB B m E) (m+1) (max t (m+1)) (cfI m 412 id),9000⟩ (k:=15) ?h3 ?hq
  case h3 =>
    intro G hG
    have hc:=fun (K:AV→Hp→Prop)=>cl_copyE (rows:=E.map enR) (by rw [hl];omega) (by
      intro r hr
      obtain ⟨e,_,rfl⟩:=List.mem_map.1 hr
      exact enR_low _ _) (fun ρ=>rows_ren ρ E) (hp:=(28,⟨42,69,[eB hd ts]⟩) :: vxI W E B m t) (N:=412) (a:=1) (K:=K) (by
      intro p hp
      rcases List.mem_cons.1 hp with rfl | hp
      · show 28<412;omega
      · simp only [vxI,List.mem_cons] at hp
        rcases hp with rfl | rfl | rfl | hp
        · show 0<412;omega
        · show 1<412;omega
        · show 2<412;omega
        · obtain ⟨i,hi,rfl⟩:=vxT_mem hp
          show i+3<412;omega) rfl
    rw [hl] at hc
    simp only [vxI,vxB] at hc ⊢
    simp (config := { maxSteps := 3000000 }) [go_sem]
    have hS:∀ j,j<24→¬ (j+3=412):=by intro j hj;omega
    have hA:∀ fr:Fr,(fv 0 fr=.ptr 0 0 0 1∧fv 2 fr=.d (.int .u32 (h:Int))∧fv 4 fr=.ptr 28 0 0 1)→∀ T R,T=max t (m+1)→R=befR (updB B m E) (m+1) T (cfI m 412 id) →
        G fr ((444,⟨49,1,[[.own 412 0 E.length E.length]]⟩) :: (412,⟨28,69,E.map enR⟩) :: (28,⟨42,69,[eB hd ts]⟩) :: (0,(⟨108,3,[[.d (.ro 69 (W.map wtD)),.own 1 0 E.length E.length,.own 2 0 (m+1) T]]⟩:Blk)) :: (1,⟨28,69,E.map enR⟩) :: (2,⟨49,1,R⟩) :: vxT B):=by
      rintro fr ⟨q0,q2,q4⟩ T R hT rfl
      rw [← hT] at hG
      refine hG _ _ (weak_wk ⟨by simp [slotOk,AV.low,AV.low1,q0,q2,q4],?_,by simp⟩)
      refine vxG_weakP (P:=[(28,⟨42,69,[eB hd ts]⟩)]) (by omega) ?_ ?_ ?_
      · intro p hp
        simp only [List.mem_cons,List.mem_nil_iff,or_false] at hp
        subst hp
        refine ⟨.inl rfl,by show 28<9000;omega,?_⟩
        intro r hr
        simp only [List.mem_cons,List.mem_nil_iff,or_false] at hr
        subst hr
        exact eB_low _ _ _
      · intro j hj
        simp only [cfI]
        split
        · omega
        · show j<9000;omega
      · intro j hj
        refine .inl (conn_ix hm rfl rfl rfl rfl (fun i hi=>?_) j hj)
        simp only [lk]
        rw [if_neg (by omega),if_neg (by omega),if_neg (by omega),if_neg (by omega),if_neg (by omega),if_neg (by omega)]
        exact vxT_lk hi
    have hin:∀ (a:Nat) (b:Blk),(a,b) ∈ vxT B→3≤a∧a<27:=by
      intro a b hab
      obtain ⟨i,hi,e⟩:=vxT_mem hab
      cases e
      omega
    repeat' apply And.intro
    all_goals
      refine hc _ ?_
      simp (config := { maxSteps := 3000000 }) [go_sem]
      simp only [r_ap_own]
      simp (config := { maxSteps := 3000000 }) [go_sem,apB]
      repeat' apply And.intro
      all_goals first
        | omega
        | (intro a b hab e;have:=hin a b hab;omega)
        | (intro a b hab;have:=hin a b hab;rw [if_neg (by omega),if_neg (by omega)])
        | (intro hlt;exact hA _ (by simp [fv,lk]) t _ (by omega) (befR_up1 hlt))
        | (intro hge;exact hA _ (by simp [fv,lk]) (m+1) _ (by omega) (by
            have:t=m:=by omega
            subst this
            exact befR_end1 rfl))
  case hq =>
    simp [go_sem,eB_get hk,eB_g hk,hbl]
    have hF:InjN 27 (cfI m 412 id):=cfI_inj (injN_id 27) (fun j hj=>by show j ≠ 412;omega)
    have hFN:∀ j,j<27→cfI m 412 id j<413:=fun j hj=>by
      simp only [cfI]
      split
      · omega
      · show j<413;omega
    have hF0:cfI m 412 id 0=0:=cfI_ne (by omega)
    refine loop_of (fun k:Nat=>⟨[(0,.ptr 0 0 0 1),(2,.d (.int .u32 (h:Int))),(25,.d (.ro 4 (ts.map eTd))),(26,.d (.int .i64 (ts.length:Int))),(27,.d (.int .i64 (k:Int)))],vxG W (thrusE PO EN W nameT h true (ts.take k) E) (updB B m E) (m+1) (max t (m+1)) (cfI m 412 id),9000⟩)
      (fun k=>k≤ts.length) (fun k=>ts.length - k) 0 (by omega) ⟨by simp [slotOk,fv,lk,AV.low,AV.low1],vxG_weak (by omega) (fun j hj=>by have:=hFN j hj;show cfI m 412 id j<9000;omega) (fun j hj=>.inl (by
        have:=hFN j hj
        show lk _ ((28,_) :: _)=_
        simp only [lk]
        rw [if_neg (by
          simp only [cfI]
          split
          · omega
          · show ¬ 28=j;omega)]
        exact vxG_ix hF j hj)),by simp⟩ ?_
    intro k hk2
    simp only [go_sem,Nat.reduceEqDiff,Nat.reduceAdd,Nat.reduceLT,↓reduceIte,Nat.reduceMul]
    refine ⟨fun hlt=>?_,fun hlt=>?_⟩
    · obtain ⟨x,hx1,hd2⟩:=drop_of (l:=ts) (k:=k) (by omega)
      have w3:=next_i64 (k:=k) (by omega)
      have hxm:=hts x (List.mem_of_getElem? hx1)
      have tk:ts.take (k+1)=ts.take k ++ [x]:=by rw [List.take_add_one,hx1];rfl
      have hok:=thrusE_ok hPO hEN hW hh (first:=true) (ts:=ts.take k) (fun x hx=>hts x (List.mem_of_mem_take hx)) hE
      have hnx:thrusE PO EN W nameT h true (ts.take (k+1)) E=thruE PO EN W nameT h (decide (k=0)) x (thrusE PO EN W nameT h true (ts.take k) E):=by
        have:(ts.take k).length=k:=by rw [List.length_take];omega
        rw [tk,thrusE_snoc,this]
        simp
      generalize thrusE PO EN W nameT h true (ts.take k) E=Ek at *
      have hEk:Ek.length≤90000:=by
        have:=hok.2
        have:(ts.take k).length≤8:=by rw [List.length_take];omega
        omega
      simp [go_sem,hx1,eTd_map,eTd_len,eT_len,eT_take]
      have hc:=fun (K:AV→Hp→Prop)=>cl_thru hPO hEN (first:=decide (k=0)) (B:=updB B m E) (m:=m+1) (t:=max t (m+1)) hW hWn hok.1 hEk hxm hh (by omega) (P:=[(9128,⟨79,4,[eT x]⟩)]) (N:=9384) (K:=K) hF (fun j hj=>by have:=hFN j hj;omega) (by
        intro p hp
        simp only [List.mem_cons,List.mem_nil_iff,or_false] at hp
        subst hp
        refine ⟨by show 9128<9384;omega,fun j hj=>?_⟩
        have:=hFN j hj
        show _ ≠ 9128
        omega)
      rw [hF0] at hc
      refine hc _ (fun r=>?_)
      simp [go_sem,w3]
      refine next_of (k+1) (by omega) (by omega) ?_
      rw [hnx]
      refine ⟨by simp [slotOk,fv,lk,AV.low,AV.low1],vxG_weak (by omega) (fun j hj=>by have:=hFN j hj;show cfI m 412 id j<9000;omega) (fun j hj=>.inl ?_),by simp⟩
      have:=hFN j hj
      show lk _ ((9128,_) :: _)=_
      simp only [lk]
      rw [if_neg (by omega)]
      exact vxG_ix hF j hj
    · have hk3:k=ts.length:=by omega
      subst hk3
      rw [List.take_length]
      exact vxG_ix hF
end
theorem vxB_congr {W:List Wt} {E:List En} {B:Nat→List En} {m t:Nat} {f g:Nat→Nat} (hm:m≤24) (h:∀ j,j<27→f j=g j) (i:Nat):vxB W E B m t f i=vxB W E B m t g i:=by
  match i with
  | 0=>simp only [vxB,h 1 (by omega),h 2 (by omega)]
  | 1=>rfl
  | 2 =>
    simp only [vxB]
    congr 2
    refine List.map_congr_left fun k hk=>?_
    have:=List.mem_range.1 hk
    rw [h (3+k) (by omega)]
  | i+3=>rfl
theorem vxG_congr {W:List Wt} {E:List En} {B:Nat→List En} {m t:Nat} {f g:Nat→Nat} (hm:m≤24) (h:∀ j,j<27→f j=g j):vxG W E B m t f=vxG W E B m t g:=by
  unfold vxG hpL
  refine List.map_congr_left fun i hi=>?_
  rw [h i (List.mem_range.1 hi),vxB_congr hm h]
def swI (m:Nat) (f:Nat→Nat):Nat→Nat:=fun j=>f (if j=1 then 2+m else if j=2+m then 1 else j)
theorem swI_lt {m j:Nat} (hm:m≤24) (hj:j<27):(if j=1 then 2+m else if j=2+m then 1 else j)<27:=by
  split
  · omega
  · split <;> omega
theorem swI_inj {m:Nat} {f:Nat→Nat} (hm:m≤24) (h0:0<m) (hf:InjN 27 f):InjN 27 (swI m f):=by
  intro i j hi hj e
  have:=hf _ _ (swI_lt hm hi) (swI_lt hm hj) e
  split at this
  · split at this
    · omega
    · split at this <;> omega
  · split at this
    · split at this
      · omega
      · split at this <;> omega
    · split at this
      · omega
      · split at this <;> omega
theorem befR_lo {B:Nat→List En} {m t i:Nat} {f:Nat→Nat} (h:i<m):(befR B m t f)[i]?=some [.own (f (3+i)) 0 (B i).length (B i).length]:=by
  unfold befR
  rw [List.getElem?_append_left (by simpa using h)]
  simp [h]
theorem befR_hi {B:Nat→List En} {m t i:Nat} {f:Nat→Nat} (h:m≤i) (ht:i<t):(befR B m t f)[i]?=some [.any]:=by
  unfold befR
  rw [List.getElem?_append_right (by simpa using h),List.getElem?_replicate,if_pos (by simp;omega)]
theorem cl_copyV {W:List Wt} {E:List En} {B:Nat→List En} {m t N:Nat} {P:Hp} (hN:27≤N) (hE:E.length≤100000) (hP:∀ p,p ∈ P→p.1<N∧27≤p.1) {K:AV→Hp→Prop} (hK:K (.own N 0 E.length E.length) ((N,⟨28,69,E.map enR⟩) :: (P ++ vxI W E B m t))) :
    ClW Tryz.prog 38 [.own 1 0 E.length E.length] (P ++ vxI W E B m t) N K:=by
  have hl:(E.map enR).length=E.length:=by simp
  have hc:=cl_copyE (rows:=E.map enR) (by rw [hl];omega) (by
      intro r hr
      obtain ⟨e,_,rfl⟩:=List.mem_map.1 hr
      exact enR_low _ _) (fun ρ=>rows_ren ρ E) (hp:=P ++ vxI W E B m t) (N:=N) (a:=1) (K:=K) (by
      intro p hp
      rcases List.mem_append.1 hp with hp | hp
      · exact (hP p hp).1
      · simp only [vxI,List.mem_cons] at hp
        rcases hp with rfl | rfl | rfl | hp
        · show 0<N;omega
        · show 1<N;omega
        · show 2<N;omega
        · obtain ⟨i,hi,rfl⟩:=vxT_mem hp
          show i+3<N;omega) (by
      rw [lk_appH]
      cases hl:lk 1 P with
      | none=>exact vxI_lk (by omega)
      | some b=>have:=(hP _ (lk_mem hl)).2;simp at this)
  rw [hl] at hc
  exact hc hK
theorem entries_fn (W:List Wt) (E:List En) (B:Nat→List En) (m t:Nat) (hm:m≤24) (hE:E.length≤100000) :
    RetsE Tryz.prog 13 27 (vxI W E B m t) [.ptr 0 0 0 1] (fun r hp'=>r=.own 252 0 E.length E.length∧lk 252 hp'=some ⟨28,69,E.map enR⟩∧Ix W E B m t id hp'):=by
  refine fnE_of_awp Tryz.func13 (by kernel_rfl) rfl Tryz.ntmps13 (rs:=[.tmp 2]) rfl (nlb rfl) (by decide) ?_
  simp only [vxI,vxB]
  simp [go_sem]
  have hc:=fun (N:Nat) (hN:27≤N) (K:AV→Hp→Prop)=>cl_copyV (W:=W) (E:=E) (B:=B) (m:=m) (t:=t) (N:=N) (P:=[]) hN hE (by simp) (K:=K)
  refine hc _ (by omega) _ ?_
  simp [go_sem,resV]
  intro j hj
  show lk j ((252,_) :: _)=_
  simp only [lk]
  rw [if_neg (by omega)]
  exact vxI_lk hj
theorem disc_ix {W:List Wt} {E:List En} {B:Nat→List En} {n t:Nat} {hp:Hp} (hm:n≤23) (h0:lk 0 hp=some ⟨108,3,[[.d (.ro 69 (W.map wtD)),.own (3+n) 0 (B n).length (B n).length,.own 2 0 n t]]⟩)
    (h1:lk 1 hp=some ⟨28,69,E.map enR⟩) (h2:lk 2 hp=some ⟨49,1,befR (updB B n E) n t (swI (n+1) id)⟩) (h3:∀ i,i<24→lk (i+3) hp=some ⟨28,69,(B i).map enR⟩) :
    Ix W (B n) (updB B n E) n t (swI (n+1) id) hp:=by
  have c0:swI (n+1) id 0=0:=by simp only [swI];rw [if_neg (by omega),if_neg (by omega)];rfl
  have c1:swI (n+1) id 1=3+n:=by show 2+(n+1)=3+n;omega
  have c2:swI (n+1) id 2=2:=by simp only [swI];rw [if_neg (by omega),if_neg (by omega)];rfl
  intro j hj
  match j,hj with
  | 0,_=>rw [c0];simp only [vxB,c1,c2];exact h0
  | 1,_=>rw [c1,Nat.add_comm];exact h3 n (by omega)
  | 2,_=>rw [c2];exact h2
  | i+3,hj =>
    by_cases e:i=n
    · subst e
      have:swI (i+1) id (i+3)=1:=by simp only [swI];rw [if_neg (by omega),if_pos (by omega)];rfl
      rw [this,h1]
      simp only [vxB,updB_at]
    · have:swI (n+1) id (i+3)=i+3:=by simp only [swI];rw [if_neg (by omega),if_neg (by omega)];rfl
      rw [this]
      simp only [vxB,updB_ne e]
      exact h3 i (by omega)
theorem disc_fn (W:List Wt) (E:List En) (B:Nat→List En) (m t:Nat) (hm:m≤24) (hmt:m≤t) :
    RetsE Tryz.prog 16 27 (vxI W E B m t) [.ptr 0 0 0 1] (fun r hp'=>r=.d (.bool (decide (0<m)))∧(m=0→Ix W E B m t id hp')∧(0<m→Ix W (B (m - 1)) (updB B (m - 1) E) (m - 1) t (swI m id) hp')):=by
  refine fnE_of_sem Tryz.func16 (by kernel_rfl) rfl Tryz.ntmps16 (rs:=[.tmp 2]) rfl (nlb rfl) (by decide) ?_
  refine sem_post (sem_of_awp ?_)
  by_cases h0:m=0
  · subst h0
    simp only [vxI,vxB]
    simp [go_sem]
    refine ⟨_,fun _ _ _ h=>h,rfl,fun j hj=>?_⟩
    exact vxI_lk (W:=W) (E:=E) (B:=B) (m:=0) (t:=t) hj
  · obtain ⟨n,rfl⟩:∃ n,m=n+1:=⟨m - 1,by omega⟩
    have w0:IntKind.i64.wrap (((n+1:Nat):Int) - 1)=(n:Int):=by rw [IntWalk.i64_in _ (by omega)];omega
    have w1:IntKind.i64.wrap (n:Int)=(n:Int):=IntWalk.i64_in _ (by omega)
    have c0:¬ ((n:Int)+1=0):=by omega
    have hI:vxI W E B (n+1) t=(0,(⟨108,3,[[.d (.ro 69 (W.map wtD)),.own 1 0 E.length E.length,.own 2 0 (n+1) t]]⟩:Blk)) :: (1,⟨28,69,E.map enR⟩) :: (2,⟨49,1,befR B (n+1) t id⟩) :: vxT B:=rfl
    have hR0:=befR_len (B:=B) (f:=id) hmt
    have hR1:=befR_lo (B:=B) (t:=t) (f:=id) (Nat.lt_succ_self n)
    have hle:∀ (N i:Nat) (x x':List AV),(befR B (n+1) t id)[i]?=some x→(befR (updB B n E) n t (swI (n+1) id))[i]?=some x'→x'.length=x.length∧∀ (j:Nat) (v v':AV),x[j]?=some v→x'[j]?=some v'→leV N v v':=by
      intro N i x x' h1 h2
      have hi:i<t:=by have:=(List.getElem?_eq_some_iff.1 h1).1;omega
      by_cases e1:i<n
      · rw [befR_lo (by omega)] at h1
        rw [befR_lo e1,updB_ne (by omega)] at h2
        have:swI (n+1) id (3+i)=3+i:=by simp only [swI];rw [if_neg (by omega),if_neg (by omega)];rfl
        rw [this] at h2
        have:x'=x:=Option.some.inj (h2.symm.trans h1)
        subst this
        exact ⟨rfl,fun j v v' q1 q2=>.inl (Option.some.inj (q2.symm.trans q1))⟩
      · rw [befR_hi (by omega) hi] at h2
        have:=Option.some.inj h2
        subst this
        have hx1:x.length=1:=by
          by_cases e2:i<n+1
          · rw [befR_lo e2] at h1;rw [← Option.some.inj h1];rfl
          · rw [befR_hi (by omega) hi] at h1;rw [← Option.some.inj h1];rfl
        refine ⟨by rw [hx1];rfl,fun j v v' q1 q2=>.inr (.inl ?_)⟩
        match j with
        | 0=>exact (Option.some.inj q2).symm
        | j+1=>simp at q2
    have hL2:(befR (updB B n E) n t (swI (n+1) id)).length=(befR B (n+1) t id).length:=by rw [befR_len (by omega),befR_len hmt]
    rw [hI]
    generalize befR B (n+1) t id=R at *
    have hR2:∀ hl:n<R.length,R[n]=[.own (3+n) 0 (B n).length (B n).length]:=fun hl=>Option.some.inj ((List.getElem?_eq_getElem hl).symm.trans hR1)
    have hnt:n<t:=by omega
    simp [go_sem,w0,w1,c0]
    refine drw3 [0,2,3,4,5,6,7,8,9,10,11,12,15,16] [1,13,14,17,18,19,20] [0,2,3,4,5,6,7,8,9,10,11,12,15,16] (.alt (.step 1 [] true (.alt (.step 13 [] true (.alt (.step 14 [] true (.step 17 [] false (.step 18 [] false (.step 19 [] false (.step 20 [] false .done))))) (.step 17 [] false (.step 14 [] false (.step 18 [] false (.step 19 [] false (.step 20 [] false .done))))))) (.step 17 [] false (.step 13 [] false (.step 14 [] false (.step 18 [] false (.step 19 [] false (.step 20 [] false .done)))))))) (.alt (.step 13 [] true (.alt (.step 1 [] true (.alt (.step 14 [] true (.step 17 [] false (.step 18 [] false (.step 19 [] false (.step 20 [] false .done))))) (.step 17 [] false (.step 14 [] false (.step 18 [] false (.step 19 [] false (.step 20 [] false .done))))))) (.alt (.step 14 [] true (.alt (.step 1 [] true (.step 17 [] false (.step 18 [] false (.step 19 [] false (.step 20 [] false .done))))) (.step 17 [] false (.step 1 [] false (.step 18 [] false (.step 19 [] false (.step 20 [] false .done))))))) (.step 17 [] false (.alt (.step 1 [] false (.step 14 [] false (.step 18 [] false (.step 19 [] false (.step 20 [] false .done))))) (.step 14 [] false (.step 1 [] false (.step 18 [] false (.step 19 [] false (.step 20 [] false .done)))))))))) (.step 17 [] false (.alt (.step 1 [] false (.step 13 [] false (.step 14 [] false (.step 18 [] false (.step 19 [] false (.step 20 [] false .done)))))) (.step 13 [] false (.alt (.step 1 [] false (.step 14 [] false (.step 18 [] false (.step 19 [] false (.step 20 [] false .done))))) (.step 14 [] false (.step 1 [] false (.step 18 [] false (.step 19 [] false (.step 20 [] false .done))))))))))) ⟨[(0,.ptr 0 0 0 1)],vxG W (B n) (updB B n E) n t (swI (n+1) id),9000⟩ (k:=21) ?h3 ?hq
    case h3 =>
      intro G hG
      have hW:∀ fr:Fr,fv 0 fr=.ptr 0 0 0 1→G fr ((0,(⟨108,3,[[.d (.ro 69 (W.map wtD)),.own (3+n) 0 (B n).length (B n).length,.own 2 0 n t]]⟩:Blk)) :: (1,⟨28,69,E.map enR⟩) :: (2,⟨49,1,R⟩) :: vxT B):=by
        intro fr e0
        refine hG _ _ ((le_wk (L:=2) (b:=⟨49,1,R⟩) (es':=befR (updB B n E) n t (swI (n+1) id)) rfl (Nat.succ_ne_zero 0) hL2 (fun i x x' q1 q2=>?_)).trans (weak_wk ⟨?_,?_,?_⟩))
        · exact hle _ i x x' q1 q2
        · simp [slotOk,AV.low,AV.low1,e0]
        · refine vxG_weak (by omega) (fun j hj=>?_) (fun j hj=>.inl ?_)
          · have:=swI_lt (m:=n+1) hm hj
            show (if j=1 then 2+(n+1) else if j=2+(n+1) then 1 else j)<9000
            omega
          · refine disc_ix (by omega) rfl rfl rfl (fun i hi=>?_) j hj
            show lk (i+3) (setH 2 _ _)=_
            rw [lk_setH,if_neg (by omega)]
            simp only [lk]
            rw [if_neg (by omega),if_neg (by omega),if_neg (by omega)]
            exact vxT_lk hi
        · simp
      simp (config := { maxSteps := 3000000 }) [go_sem,w0,w1,hR0,hR1,hR2,hnt]
      repeat' apply And.intro
      all_goals first
        | omega
        | exact hW _ (by simp [fv,lk])
    case hq =>
      simp [go_sem,resV]
      refine ⟨_,fun _ _ _ h=>h,?_⟩
      simp [fv,lk]
      intro j hj
      exact vxG_ix (swI_inj hm (by omega) (injN_id 27)) j hj
theorem cl_ix {W:List Wt} {E:List En} {B:Nat→List En} {m t N:Nat} {f:Nat→Nat} {P:Hp} {g:FuncId} {args args0:List AV} {Q K:AV→Hp→Prop} (h:RetsE Tryz.prog g 27 (vxI W E B m t) args0 Q) (hm:m≤24) (hf:InjN 27 f) (hN:∀ j,j<27→f j<N) (hP:∀ p,p ∈ P→p.1<N∧∀ j,j<27→f j ≠ p.1)
    (ha:args0=AV.renL (rho (prF 27 f id) 27) args) (news:List (Nat × Nat)) (hnw:newsB (prF 27 id f) news=true)
    (hK:∀ r hp',Q r hp'→∃ (fc:Nat→Nat) (W':List Wt) (E':List En) (B':Nat→List En) (m' t':Nat) (X:List (Nat × Nat × Blk)),m'≤24∧Ix W' E' B' m' t' fc hp'∧(∀ j,j<27→fc j<27 ∨ ∃ i,(fc j,i) ∈ news) ∧
      (∀ x,x ∈ X→(x.1,x.2.1) ∈ news∧lk x.1 hp'=some x.2.2∧x.2.2.ren (roO 27 f news N)=x.2.2) ∧
      K (r.ren (roO 27 f news N)) (X.map (fun x=>(N+x.2.1,x.2.2)) ++ (P ++ vxG W' E' B' m' t' (fun j=>roO 27 f news N (fc j))))) :
    ClW Tryz.prog g args (P ++ vxG W E B m t f) N K:=by
  have hid:∀ j,j<27→rho (prF 27 f id) 27 (f j)=j:=fun j hj=>rho_prF id 27 hf hj
  have hix:Ix W E B m t f (P ++ vxG W E B m t f):=fun j hj=>by
    rw [lk_appH]
    cases hl:lk (f j) P with
    | none=>exact vxG_ix hf j hj
    | some b=>exact absurd rfl ((hP _ (lk_mem hl)).2 j hj)
  refine callsA_ob (n:=27) (b0:=vxB W E B m t id) f h (fun j b hj=>vxI_is j b hj) hf hN (fun j hj=>⟨_,hix j hj,vxB_e _ _ _ _ _ _ _,(vxB_ren hm hid j).symm⟩) ha news hnw ?_
  intro r hp' hq hpX q1 q2 q3
  obtain ⟨fc,W',E',B',m',t',X,hm',h1,h2,h3,hk⟩:=hK r hp' hq
  refine ⟨_,fun i b hi=>?_,hk⟩
  rw [lk_appH] at hi
  cases hl:lk i (X.map fun x=>(N+x.2.1,x.2.2)) with
  | some b' =>
    rw [hl] at hi
    cases hi
    obtain ⟨x,hx,e⟩:=List.mem_map.1 (lk_mem hl)
    cases e
    obtain ⟨p1,p2,p3⟩:=h3 x hx
    have:=q2 _ _ p1 _ p2
    rw [p3] at this
    exact this
  | none =>
    rw [hl] at hi
    simp only at hi
    rw [lk_appH] at hi
    cases hl2:lk i P with
    | some b' =>
      rw [hl2] at hi
      cases hi
      obtain ⟨p1,p2⟩:=hP _ (lk_mem hl2)
      rw [q3 i p1 p2,lk_appH,hl2]
    | none =>
      rw [hl2] at hi
      obtain ⟨j,hj',e⟩:=mem_hpL.1 (lk_mem hi)
      cases e
      have h4:=h1 j hj'
      have h5:(vxB W' E' B' m' t' fc j).ren (roO 27 f news N)=vxB W' E' B' m' t' (fun j=>roO 27 f news N (fc j)) j:=vxB_ren hm' (fun _ _=>rfl) j
      rcases h2 j hj' with h6 | ⟨i,h6⟩
      · have:=q1 _ h6 _ h4
        rw [h5] at this
        have e:roO 27 f news N (fc j)=f (fc j):=roO_of hnw h6
        rw [e]
        exact this
      · have:=q2 _ _ h6 _ h4
        rw [h5] at this
        have e:roO 27 f news N (fc j)=N+i:=roO_new hnw h6
        rw [e]
        exact this
end Go.Proofs.YtfahccoobfjkeaaGreat
namespace Go.Sha
structure Ac where
  kd:Int
  hd:Hd
  ts:List Tn
  ht:Nat
end Go.Sha
namespace Go.Proofs.YtfahccoobfjkeaaGreat
open Go.Am Go.Sha Go.Ec
def hdD (h:Hd):List DV:=.int .u32 (h.ver:Int) :: (cd h.prev ++ (cd h.root ++ [.int .u32 (h.time:Int),.int .u32 (h.bits:Int),.int .u32 (h.nonce:Int)]))
theorem hdD_map (h:Hd):(hdD h).map AV.d=eH h:=by simp [hdD,eH,cd_map]
def bkD (h:Hd) (ts:List Tn):List DV:=hdD h ++ [.ro 4 (ts.map eTd)]
theorem bkD_map (h:Hd) (ts:List Tn):(bkD h ts).map AV.d=eB h ts:=by simp [bkD,hdD_map,eB]
def acD (a:Ac):List DV:=.int .i64 a.kd :: (bkD a.hd a.ts ++ [.int .u32 (a.ht:Int)])
def acC (a:Ac):List AV:=.d (.int .i64 a.kd) :: (eB a.hd a.ts ++ [.d (.int .u32 (a.ht:Int))])
theorem acD_map (a:Ac):(acD a).map AV.d=acC a:=by simp [acD,acC,bkD_map]
def okT0 (t:Tn):Prop:=t.ok∧(∀ i,i ∈ t.ins→∀ y,y ∈ i.wit→bytes y)∧∀ o,o ∈ t.outs→bytes o.2
def okAc (a:Ac):Prop:=a.hd.ok∧(∀ t,t ∈ a.ts→okT0 t)∧a.ht<4294967296∧(-9223372036854775808≤a.kd∧a.kd<9223372036854775808)
theorem acC_len {a:Ac} (h:okAc a):(acC a).length=71:=by simp [acC,eB_len h.1]
theorem acD_len {a:Ac} (h:okAc a):(acD a).length=71:=by rw [← List.length_map (f:=AV.d),acD_map,acC_len h]
theorem acC_deep (a:Ac):(AV.agg (acC a)).deep:=by
  intro v hv
  unfold acC at hv
  rcases List.mem_cons.1 hv with rfl | hv
  · trivial
  · rcases List.mem_append.1 hv with hv | hv
    · exact eB_deep _ _ _ hv
    · simp at hv;subst hv;trivial
theorem acC_low (n:Nat) (a:Ac):∀ v,v ∈ acC a→v.low1 n:=by
  intro v hv
  unfold acC at hv
  rcases List.mem_cons.1 hv with rfl | hv
  · trivial
  · rcases List.mem_append.1 hv with hv | hv
    · exact eB_low _ _ _ _ hv
    · simp at hv;subst hv;trivial
theorem smallB_tx {ts:List Tn} (h0:∀ t,t ∈ ts→okT0 t) (h:smallB ts=true):ts.length≤8∧∀ t,t ∈ ts→okTx t:=by
  simp only [smallB,Bool.and_eq_true,decide_eq_true_eq,List.all_eq_true] at h
  exact ⟨h.1,fun t ht=>⟨sm_of (h0 t ht).1 (h.2 t ht),(h0 t ht).2.1,(h0 t ht).2.2⟩⟩
theorem ty_inB {n:Nat} {ds:List DV} (h:TyD Tryz.prog (n+4) 86 ds):∃ i:Ip,ds=eI i∧i.ok∧∀ y,y ∈ i.wit→bytes y:=by
  rw [TyD] at h
  simp only [Tryz.underlying86,List.map_cons,List.map_nil] at h
  obtain ⟨a,b,rfl,ha,ha2,a',b',rfl,hb,hb2,a3,b3,rfl,hc,hc2,rfl⟩:=h
  rw [TyD] at ha2
  simp only [Tryz.underlying25,List.map_cons,List.map_nil] at ha2
  obtain ⟨c,d,rfl,hc1,hc3,c',d',rfl,hd,hd2,rfl⟩:=ha2
  obtain ⟨hash,rfl,h1,h2⟩:=ty_h32 hc3
  obtain ⟨x,rfl,hx⟩:=ty_u32 hd2
  obtain ⟨y,rfl,hy⟩:=ty_u32 hb2
  rw [show Tryz.prog.cellsOf 84=1 by kernel_rfl] at hc
  match a3,hc,hc2 with
  | [z],_,hc2 =>
    obtain ⟨xs,rfl,h5⟩:=ty_things hc2
    exact ⟨⟨hash,x,y,xs⟩,by simp [eI],⟨h1,hx,hy⟩,h5⟩
theorem ty_insB {n:Nat} {ds:List DV} (h:TyD Tryz.prog (n+5) 76 ds):∃ is:List Ip,ds=[.ro 35 (is.map eI)]∧∀ i,i ∈ is→i.ok∧∀ y,y ∈ i.wit→bytes y:=by
  rw [TyD] at h
  simp only [Tryz.underlying76] at h
  obtain ⟨es,rfl,hl,hr⟩:=h
  obtain ⟨os,rfl,hos⟩:=map_of (enc:=eI) (R:=fun i=>i.ok∧∀ y,y ∈ i.wit→bytes y) (es:=es) (fun r hr'=>by
    obtain ⟨h1,h2⟩:=hr r hr'
    obtain ⟨o,rfl,h3⟩:=ty_inB h1
    exact ⟨o,rfl,h3⟩)
  exact ⟨os,by rw [show Tryz.prog.cellsOf 86=35 by kernel_rfl],hos⟩
theorem ty_txB {n:Nat} {ds:List DV} (h:TyD Tryz.prog (n+6) 79 ds):∃ t:Tn,ds.map .d=eT t∧okT0 t:=by
  rw [TyD] at h
  simp only [Tryz.underlying79,List.map_cons,List.map_nil] at h
  obtain ⟨a,b,rfl,ha,ha2,a',b',rfl,hb,hb2,a3,b3,rfl,hc,hc2,a4,b4,rfl,hd,hd2,rfl⟩:=h
  obtain ⟨v,rfl,hv⟩:=ty_u32 ha2
  obtain ⟨is,rfl,his⟩:=ty_insB hb2
  obtain ⟨os,rfl,hos⟩:=ty_outs hc2
  obtain ⟨l,rfl,hl⟩:=ty_u32 hd2
  exact ⟨⟨v,is,os,l⟩,rfl,⟨hv,hl,fun i hi=>(his i hi).1,fun o ho=>(hos o ho).1⟩,fun i hi=>(his i hi).2,fun o ho=>(hos o ho).2⟩
theorem ty_txsB {n:Nat} {ds:List DV} (h:TyD Tryz.prog (n+7) 40 ds):∃ ts:List Tn,ds=[.ro 4 (ts.map eTd)]∧∀ t,t ∈ ts→okT0 t:=by
  rw [TyD] at h
  simp only [Tryz.underlying40] at h
  obtain ⟨es,rfl,hl,hr⟩:=h
  obtain ⟨ts,rfl,hts⟩:=map_of (enc:=eTd) (R:=okT0) (es:=es) (fun r hr'=>by
    obtain ⟨h1,h2⟩:=hr r hr'
    obtain ⟨t,e,q1⟩:=ty_txB h1
    exact ⟨t,d_inj (by rw [e];rfl),q1⟩)
  exact ⟨ts,by rw [show Tryz.prog.cellsOf 79=4 by kernel_rfl],hts⟩
theorem ty_blkB {n:Nat} {ds:List DV} (h:TyD Tryz.prog (n+8) 42 ds):∃ (g:Hd) (ts:List Tn),ds=bkD g ts∧g.ok∧∀ t,t ∈ ts→okT0 t:=by
  rw [TyD] at h
  simp only [Tryz.underlying42,List.map_cons,List.map_nil] at h
  obtain ⟨a,b,rfl,ha,ha2,a',b',rfl,hb,hb2,rfl⟩:=h
  obtain ⟨g,e1,q1⟩:=ty_hd ha2
  obtain ⟨ts,rfl,q2⟩:=ty_txsB hb2
  exact ⟨g,ts,by rw [d_inj (e1.trans (hdD_map g).symm)];rfl,q1,q2⟩
theorem ty_act {n:Nat} {ds:List DV} (h:TyD Tryz.prog (n+9) 44 ds):∃ a:Ac,ds=acD a∧okAc a:=by
  rw [TyD] at h
  simp only [Tryz.underlying44,List.map_cons,List.map_nil] at h
  obtain ⟨a,b,rfl,ha,ha2,a',b',rfl,hb,hb2,a3,b3,rfl,hc,hc2,rfl⟩:=h
  obtain ⟨k,rfl,hk⟩:=ty_intv ha2
  obtain ⟨g,ts,rfl,q1,q2⟩:=ty_blkB hb2
  obtain ⟨x,rfl,hx⟩:=ty_u32 hc2
  exact ⟨⟨k,g,ts,x⟩,by simp [acD],q1,q2,hx,hk⟩
theorem arg_act {n:Nat} {a:AV} (h:ArgTy Tryz.prog (n+9) 44 a):∃ c:Ac,a=.agg (acC c)∧okAc c:=by
  unfold ArgTy at h
  simp only [Tryz.underlying44] at h
  obtain ⟨ds,rfl,h⟩:=h
  obtain ⟨c,rfl,hc⟩:=ty_act h
  exact ⟨c,by rw [acD_map],hc⟩
theorem arg_acts {n:Nat} {a:AV} (h:ArgTy Tryz.prog (n+10) 37 a):∃ cs:List Ac,a=.d (.ro 71 (cs.map acD))∧∀ c,c ∈ cs→okAc c:=by
  unfold ArgTy at h
  simp only [Tryz.underlying37] at h
  obtain ⟨d,rfl,h⟩:=h
  rw [TyD] at h
  simp only [Tryz.underlying37,List.cons.injEq,and_true] at h
  obtain ⟨es,rfl,hl,hr⟩:=h
  obtain ⟨cs,rfl,hcs⟩:=map_of (enc:=acD) (R:=okAc) (es:=es) (fun r hr'=>by
    obtain ⟨h1,h2⟩:=hr r hr'
    exact ty_act h1)
  exact ⟨cs,by rw [show Tryz.prog.cellsOf 44=71 by kernel_rfl],hcs⟩
theorem ty_plan {n:Nat} {ds:List DV} (h:TyD Tryz.prog (n+4) 31 ds):∃ p:P4,ds=pcD p∧okP p:=by
  rw [TyD] at h
  simp only [Tryz.underlying31,List.map_cons,List.map_nil] at h
  obtain ⟨a,b,rfl,ha,ha2,a',b',rfl,hb,hb2,a3,b3,rfl,hc,hc2,a4,b4,rfl,hd,hd2,rfl⟩:=h
  obtain ⟨inner,rfl,h1,h2⟩:=ty_h32 ha2
  rw [show Tryz.prog.cellsOf 29=1 by kernel_rfl] at hb
  obtain ⟨d,rfl,h3⟩:=ty_i64v hc2
  obtain ⟨trig,rfl,h5,h6⟩:=ty_h32 hd2
  match a',hb,hb2 with
  | [y],_,hb2 =>
    obtain ⟨rec,rfl,_,h4⟩:=ty_bytes hb2
    exact ⟨(inner,rec,d,trig),d_inj (by rw [pcD_map];simp [pcC,planC,cd_map]),h1,h2,h4,h3,h5,h6⟩
theorem arg_plans {n:Nat} {a:AV} (h:ArgTy Tryz.prog (n+5) 36 a):∃ ps:List P4,a=.d (.ro 66 (ps.map pcD))∧∀ p,p ∈ ps→okP p:=by
  unfold ArgTy at h
  simp only [Tryz.underlying36] at h
  obtain ⟨d,rfl,h⟩:=h
  rw [TyD] at h
  simp only [Tryz.underlying36,List.cons.injEq,and_true] at h
  obtain ⟨es,rfl,hl,hr⟩:=h
  obtain ⟨ps,rfl,hps⟩:=map_of (enc:=pcD) (R:=okP) (es:=es) (fun r hr'=>by
    obtain ⟨h1,h2⟩:=hr r hr'
    exact ty_plan h1)
  exact ⟨ps,by rw [show Tryz.prog.cellsOf 31=66 by kernel_rfl],hps⟩
section
variable {PO:Wt→List Nat→Option (List Nat)} {EN:Wt→En→List (List Nat)→Int}
theorem newsN {f:Nat→Nat} {c:Nat} (hc:27≤c):newsB (prF 27 id f) [(c,0)]=true:=by
  simp only [newsB,prsB,List.all_cons,List.all_nil,Bool.and_true,Bool.and_eq_true,beq_self_eq_true,true_and,decide_eq_true_eq,List.all_eq_true]
  refine ⟨by decide,fun p hp=>?_⟩
  obtain ⟨i,hi,rfl⟩:=mem_prF.1 hp
  simp only [id,bne_iff_ne,ne_eq]
  omega
theorem cl_conn (hPO:HPO PO) (hEN:HEN EN) {W:List Wt} {E:List En} {B:Nat→List En} {m t N:Nat} {f:Nat→Nat} {P:Hp} {hd:Hd} {ts:List Tn} {h:Nat} {K:AV→Hp→Prop} (hW:∀ w,w ∈ W→w.ok) (hWn:W.length≤8) (hE:∀ e,e ∈ E→e.ok W.length) (hEn:E.length≤80000)
    (hk:hd.ok) (hts:∀ x,x ∈ ts→okTx x) (htn:ts.length≤8) (hh:h<4294967296) (hm:m≤23) (hmt:m≤t) (htt:t≤100)
    (hf:InjN 27 f) (hN:∀ j,j<27→f j<N) (hP:∀ p,p ∈ P→p.1<N∧∀ j,j<27→f j ≠ p.1)
    (hK:∀ r,K r (P ++ vxG W (thrusE PO EN W nameT h true ts E) (updB B m E) (m+1) (max t (m+1)) (cfI m N f))) :
    ClW Tryz.prog 15 [.ptr (f 0) 0 0 1,.agg (eB hd ts),.d (.int .u32 (h:Int))] (P ++ vxG W E B m t f) N K:=by
  have hid:∀ j,j<27→rho (prF 27 f id) 27 (f j)=j:=fun j hj=>rho_prF id 27 hf hj
  have hnw:newsB (prF 27 id f) [(412,0)]=true:=newsN (by omega)
  have eren:∀ ρ,AV.renL ρ (eB hd ts)=eB hd ts:=fun ρ=>by
    unfold eB eH
    simp [AV.renL,AV.ren,renL_apV,cb_ren]
  refine cl_ix (connect_fn hPO hEN W E B m t hd ts h hW hWn hE hEn hk hts htn hh hm hmt htt) (by omega) hf hN hP ?_ [(412,0)] hnw ?_
  · simp only [AV.renL,AV.ren,hid 0 (by omega),eren]
  · intro r hp' hq
    refine ⟨cfI m 412 id,_,_,_,_,_,[],by omega,hq,fun j hj=>?_,by simp,?_⟩
    · simp only [cfI]
      split
      · exact .inr ⟨0,by simp⟩
      · exact .inl hj
    · have e:∀ j,j<27→roO 27 f [(412,0)] N (cfI m 412 id j)=cfI m N f j:=fun j hj=>by
        simp only [cfI]
        split
        · exact roO_new (c:=412) (j:=0) hnw (by simp)
        · exact roO_of hnw hj
      rw [List.map_nil,List.nil_append,vxG_congr (by omega) e]
      exact hK _
theorem cl_disc {W:List Wt} {E:List En} {B:Nat→List En} {m t N:Nat} {f:Nat→Nat} {P:Hp} {K:AV→Hp→Prop} (hm:m≤24) (hmt:m≤t) (hf:InjN 27 f) (hN:∀ j,j<27→f j<N) (hP:∀ p,p ∈ P→p.1<N∧∀ j,j<27→f j ≠ p.1)
    (h0:m=0→K (.d (.bool false)) (P ++ vxG W E B m t f)) (h1:0<m→K (.d (.bool true)) (P ++ vxG W (B (m - 1)) (updB B (m - 1) E) (m - 1) t (swI m f))) :
    ClW Tryz.prog 16 [.ptr (f 0) 0 0 1] (P ++ vxG W E B m t f) N K:=by
  have hid:∀ j,j<27→rho (prF 27 f id) 27 (f j)=j:=fun j hj=>rho_prF id 27 hf hj
  have hnw:newsB (prF 27 id f) []=true:=rfl
  refine cl_ix (disc_fn W E B m t hm hmt) hm hf hN hP ?_ [] hnw ?_
  · simp only [AV.renL,AV.ren,hid 0 (by omega)]
  · rintro r hp' ⟨rfl,q1,q2⟩
    by_cases e0:m=0
    · refine ⟨id,_,_,_,_,_,[],hm,q1 e0,fun j hj=>.inl hj,by simp,?_⟩
      have e:∀ j,j<27→roO 27 f [] N (id j)=f j:=fun j hj=>roO_of hnw hj
      rw [List.map_nil,List.nil_append,vxG_congr hm e]
      have:(decide (0<m))=false:=by simp;exact e0
      rw [this]
      exact h0 e0
    · refine ⟨swI m id,_,_,_,_,_,[],by omega,q2 (by omega),fun j hj=>.inl (swI_lt hm hj),by simp,?_⟩
      have e:∀ j,j<27→roO 27 f [] N (swI m id j)=swI m f j:=fun j hj=>roO_of hnw (swI_lt hm hj)
      rw [List.map_nil,List.nil_append,vxG_congr (by omega) e]
      have:(decide (0<m))=true:=by simp;omega
      rw [this]
      exact h1 (by omega)
theorem cl_ents {W:List Wt} {E:List En} {B:Nat→List En} {m t N:Nat} {f:Nat→Nat} {P:Hp} {K:AV→Hp→Prop} (hm:m≤24) (hE:E.length≤100000) (hf:InjN 27 f) (hN:∀ j,j<27→f j<N) (hP:∀ p,p ∈ P→p.1<N∧∀ j,j<27→f j ≠ p.1)
    (hK:K (.own N 0 E.length E.length) ((N,⟨28,69,E.map enR⟩) :: (P ++ vxG W E B m t f))) :
    ClW Tryz.prog 13 [.ptr (f 0) 0 0 1] (P ++ vxG W E B m t f) N K:=by
  have hid:∀ j,j<27→rho (prF 27 f id) 27 (f j)=j:=fun j hj=>rho_prF id 27 hf hj
  have hnw:newsB (prF 27 id f) [(252,0)]=true:=newsN (by omega)
  refine cl_ix (entries_fn W E B m t hm hE) hm hf hN hP ?_ [(252,0)] hnw ?_
  · simp only [AV.renL,AV.ren,hid 0 (by omega)]
  · rintro r hp' ⟨rfl,q0,q1⟩
    refine ⟨id,_,_,_,_,_,[(252,0,⟨28,69,E.map enR⟩)],hm,q1,fun j hj=>.inl hj,?_,?_⟩
    · intro x hx
      simp only [List.mem_cons,List.mem_nil_iff,or_false] at hx
      subst hx
      exact ⟨by simp,q0,by simp only [Blk.ren,rows_ren]⟩
    have e:∀ j,j<27→roO 27 f [(252,0)] N (id j)=f j:=fun j hj=>roO_of hnw hj
    have e2:roO 27 f [(252,0)] N 252=N:=roO_new (j:=0) hnw (by simp)
    rw [vxG_congr hm e]
    simp only [AV.ren,e2]
    exact hK
theorem ix_ren {W:List Wt} {E:List En} {B:Nat→List En} {m t N:Nat} {f g:Nat→Nat} {hp:Hp} (hm:m≤24) (hf:InjN 27 f) (hg:InjN 27 g) (hgN:∀ j,j<27→g j<N) (hix:Ix W E B m t f hp) {nx:Nat} :
    ∀ p,p ∈ vxG W E B m t g→(lk p.1 (renH (prF 27 f g) N hp)=some p.2 ∨ (nx≤p.1∧p.2.es=[]))∧p.1<N∧∀ r,r ∈ p.2.es→∀ v,v ∈ r→v.low1 N:=by
  refine vxG_weak hm hgN (fun j hj=>.inl ?_)
  rw [lk_renH hg hj (hix j hj),vxB_ren hm (fun i hi=>rho_prF g N hf hi)]
theorem small31_fn (ps:List P4) (hp:∀ p,p ∈ ps→okP p) (hn:ps.length≤4611686018427387904):Rets Tryz.prog 18 [.d (.ro 66 (ps.map pcD))] (fun r=>∃ b,r=.d (.bool b)):=by
  refine fna Tryz.func18 Tryz.ntmps18 (rs:=[.tmp 2]) (by simp [AV.deep,AV.deep1]) ?_
  simp [go_sem]
  refine loop_of (fun k:Nat=>⟨[(0,.d (.ro 66 (ps.map pcD))),(3,.d (.int .i64 (k:Int)))],[],1000⟩)
    (fun k=>k≤ps.length) (fun k=>ps.length - k) 0 (by omega) (by simp [Weak,slotOk,fv,lk,AV.low,AV.low1]) ?_
  intro k hk
  simp only [go_sem,Nat.reduceEqDiff,Nat.reduceAdd,Nat.reduceLT,↓reduceIte,Nat.reduceMul]
  refine ⟨fun hlt=>?_,fun hlt=>?_⟩
  · obtain ⟨p,hp1,hd⟩:=drop_of (l:=ps) (k:=k) (by omega)
    have hpm:=hp p (List.mem_of_getElem? hp1)
    have w3:=next_i64 (k:=k) (by omega)
    have hpl:(pcC p).length=66:=planC_len hpm.1 hpm.2.2.2.2.1 _ _
    by_cases h10:k=10
    · subst h10
      simp [go_sem,resV]
      exact post_same (by simp [AV.deep,AV.deep1]) (by simp)
    · have i10:¬ (k:Int)=10:=by omega
      have h32:(pcD p)[32]?=some (nb p.2.1):=by
        unfold pcD
        rw [List.getElem?_append_right (by rw [cd_len,hpm.1];omega),cd_len,hpm.1];rfl
      simp [go_sem,i10,hp1,h32,nb,w3]
      refine ⟨fun hh=>?_,fun hh=>?_⟩
      · exact post_same (by simp [AV.deep,AV.deep1]) (by simp)
      · refine next_of (k+1) (by omega) (by omega) ?_
        simp [Weak,slotOk,fv,lk,AV.low,AV.low1]
  · simp [go_sem,resV]
    exact post_same (by simp [AV.deep,AV.deep1]) (by simp)
end
def VxOk (n:Nat) (W:List Wt) (E:List En) (B:Nat→List En) (m t:Nat):Prop :=
  m≤n∧m≤t∧t≤n∧(∀ e,e ∈ E→e.ok W.length)∧E.length≤48*n∧(∀ i,(∀ e,e ∈ B i→e.ok W.length)∧(B i).length≤48*n)
def WsOk (W:List Wt):Prop:=W.length≤8∧∀ w,w ∈ W→w.ok
def id4:Nat→Nat:=fun j=>if j=0 then 97 else 4000+j
theorem id4_inj:InjN 27 id4:=fun i j _ _ e=>by
  simp only [id4] at e
  split at e <;> split at e <;> omega
theorem id4_lt {j:Nat} (hj:j<27):64≤id4 j∧id4 j<4100∧(j ≠ 0→4000<id4 j):=by
  simp only [id4]
  split <;> omega
theorem wtC_ren (ρ:Nat→Nat) (w:Wt):AV.renL ρ (wtC w)=wtC w:=by
  unfold wtC plC
  simp [renL_apV,cb_ren,AV.renL,AV.ren]
theorem wtC_cmp (ρ:Nat→Nat):AV.renL ρ ∘ wtC=wtC:=funext fun w=>wtC_ren ρ w
def emp4 (W:List Wt):Hp:=hpL 26 (fun i=>id4 (i+1)) (fun i=>vxB W [] (fun _=>[]) 0 0 id4 (i+1))
theorem emp4_es {W:List Wt} {p:Nat × Blk} (h:p ∈ emp4 W):4000<p.1∧p.1<4100∧p.2.es=[]:=by
  obtain ⟨i,hi,rfl⟩:=mem_hpL.1 h
  have:=id4_lt (j:=i+1) (by omega)
  refine ⟨this.2.2 (by omega),this.2.1,?_⟩
  match i with
  | 0=>rfl
  | 1=>rfl
  | i+2=>rfl
theorem new_wk {W:List Wt} (hW:∀ w,w ∈ W→w.ok) {fr fr':Fr} {nx:Nat} (hnx:nx≤4000) (h98:98<nx) (hfr:∀ p,p ∈ fr'→fv p.1 fr=p.2∧p.2.low 6000∧fv p.1 fr'=p.2) :
    Wk ⟨fr,[(97,⟨108,3,[[.own 98 0 W.length W.length,.nil,.nil]]⟩),(98,⟨111,69,W.map wtC⟩)],nx⟩ ⟨fr',vxG W [] (fun _=>[]) 0 0 id4,6000⟩:=by
  refine (cells_froz (st:=⟨fr,_,nx⟩) (L:=97) (b:=⟨108,3,[[.own 98 0 W.length W.length,.nil,.nil]]⟩) (es':=[[.d (.ro 69 (W.map wtD)),.nil,.nil]]) [98] (by simp) rfl (Nat.succ_ne_zero 2) rfl ?_).trans ?_
  · intro i x x' h1 h2
    match i,h1,h2 with
    | 0,h1,h2 =>
      simp at h1 h2
      subst h1;subst h2
      refine ⟨rfl,fun j v v' q1 q2=>?_⟩
      match j,q1,q2 with
      | 0,q1,q2 =>
        simp at q1 q2
        subst q1;subst q2
        refine .inr ⟨_,rfl,?_⟩
        exact snap_row (ty:=111) (e:=69) (es:=W.map wtD) (by simp [lk,wtD_map]) (by simp) (by simp) (by
          intro r hr
          obtain ⟨w,hw,rfl⟩:=List.mem_map.1 hr
          rw [← List.length_map (f:=AV.d),wtD_map,wtC_len (hW w hw)])
      | 1,q1,q2=>simp at q1 q2;subst q1;subst q2;exact .inl rfl
      | 2,q1,q2=>simp at q1 q2;subst q1;subst q2;exact .inl rfl
      | j+3,q1,q2=>simp at q1
    | i+1,h1,h2=>simp at h1
  refine (weak_wk (st':=⟨fr',(97,⟨108,3,[[.d (.ro 69 (W.map wtD)),.nil,.nil]]⟩) :: emp4 W,6000⟩) ⟨?_,?_,by simp⟩).trans ?_
  · intro p hp
    exact ⟨.inl (hfr p hp).1.symm,(hfr p hp).2.1⟩
  · intro p hp
    rcases List.mem_cons.1 hp with rfl | hp
    · refine ⟨.inl (by simp [dropH,lk,setH]),by show 97<6000;omega,?_⟩
      intro r hr v hv
      simp at hr;subst hr
      simp at hv
      rcases hv with rfl | rfl <;> trivial
    · obtain ⟨q1,q2,q3⟩:=emp4_es hp
      refine ⟨.inr ⟨by show nx≤p.1;omega,q3⟩,by show p.1<6000;omega,?_⟩
      rw [q3]
      intro r hr;cases hr
  refine (le_one (L:=97) (ty:=108) (e:=3) (x:=[.d (.ro 69 (W.map wtD)),.nil,.nil]) (x':=[.d (.ro 69 (W.map wtD)),.own 4001 0 0 0,.own 4002 0 0 0]) rfl (by decide) ⟨rfl,?_⟩).trans (weak_wk ⟨?_,?_,by simp⟩)
  · intro j v v' q1 q2
    match j,q1,q2 with
    | 0,q1,q2=>simp at q1 q2;subst q1;subst q2;exact .inl rfl
    | 1,q1,q2=>simp at q1 q2;subst q1;subst q2;exact .inr (.inr ⟨.inl rfl,.inl ⟨4001,by show 4001<6000;omega,rfl⟩⟩)
    | 2,q1,q2=>simp at q1 q2;subst q1;subst q2;exact .inr (.inr ⟨.inl rfl,.inl ⟨4002,by show 4002<6000;omega,rfl⟩⟩)
    | j+3,q1,q2=>simp at q1
  · intro p hp
    exact ⟨.inl (hfr p hp).2.2.symm,(hfr p hp).2.1⟩
  · refine vxG_weak (by omega) (fun j hj=>by have:=id4_lt hj;show id4 j<6000;omega) (fun j hj=>.inl ?_)
    rw [lk_setH]
    match j,hj with
    | 0,_=>rfl
    | j+1,hj =>
      have:=(id4_lt hj).2.2 (by omega)
      rw [if_neg (by omega)]
      simp only [lk]
      rw [if_neg (by omega)]
      exact lk_hpL (f:=fun i=>id4 (i+1)) _ (fun a b ha hb e=>by have:=id4_inj _ _ (by omega) (by omega) e;omega) (by omega:j<26)
section
variable {PO:Wt→List Nat→Option (List Nat)} {EN:Wt→En→List (List Nat)→Int}
theorem vxOk_conn (hPO:HPO PO) (hEN:HEN EN) {W:List Wt} (hW:WsOk W) {n:Nat} {E:List En} {B:Nat→List En} {m t h:Nat} {ts:List Tn} (hts:∀ x,x ∈ ts→okTx x) (htn:ts.length≤8) (hh:h<4294967296) (hx:VxOk n W E B m t) :
    VxOk (n+1) W (thrusE PO EN W nameT h true ts E) (updB B m E) (m+1) (max t (m+1)):=by
  obtain ⟨h1,h2,h3,h4,h5,h6⟩:=hx
  obtain ⟨q1,q2⟩:=thrusE_ok hPO hEN hW.2 hh (first:=true) hts h4
  refine ⟨by omega,by omega,by omega,q1,by omega,fun i=>?_⟩
  by_cases e:i=m
  · subst e
    rw [updB_at]
    exact ⟨h4,by omega⟩
  · rw [updB_ne e]
    exact ⟨(h6 i).1,by have:=(h6 i).2;omega⟩
theorem vxOk_disc {W:List Wt} {n:Nat} {E:List En} {B:Nat→List En} {m t:Nat} (h0:0<m) (hx:VxOk n W E B m t):VxOk (n+1) W (B (m - 1)) (updB B (m - 1) E) (m - 1) t:=by
  obtain ⟨h1,h2,h3,h4,h5,h6⟩:=hx
  refine ⟨by omega,by omega,by omega,(h6 _).1,by have:=(h6 (m - 1)).2;omega,fun i=>?_⟩
  by_cases e:i=m - 1
  · subst e
    rw [updB_at]
    exact ⟨h4,by omega⟩
  · rw [updB_ne e]
    exact ⟨(h6 i).1,by have:=(h6 i).2;omega⟩
theorem vxOk_up {W:List Wt} {n k:Nat} {E:List En} {B:Nat→List En} {m t:Nat} (hnk:n≤k) (hx:VxOk n W E B m t):VxOk k W E B m t:=by
  obtain ⟨h1,h2,h3,h4,h5,h6⟩:=hx
  exact ⟨by omega,by omega,by omega,h4,by omega,fun i=>⟨(h6 i).1,by have:=(h6 i).2;omega⟩⟩
def plSt (ps:List P4) (cs:List Ac) (W:List Wt) (u:Nat × List En × (Nat→List En) × Nat × Nat):St :=
  ⟨[(0,.d (.ro 66 (ps.map pcD))),(1,.d (.ro 71 (cs.map acD))),(6,.ptr 97 0 0 1),(8,.d (.int .i64 (u.1:Int)))],vxG W u.2.1 u.2.2.1 u.2.2.2.1 u.2.2.2.2 id4,6000⟩
theorem acD_68 {c:Ac} (hc:okAc c):(acD c)[69]?=some (.ro 4 (c.ts.map eTd)):=by
  have h:(acC c)[69]?=some (.d (.ro 4 (c.ts.map eTd))):=by
    unfold acC
    rw [List.getElem?_cons_succ,List.getElem?_append_left (by rw [eB_len hc.1];omega),eB_get hc.1]
  rw [← acD_map,List.getElem?_map] at h
  cases he:(acD c)[69]? with
  | none=>rw [he] at h;cases h
  | some d=>rw [he] at h;simp at h;rw [h]
theorem played_fn (hPO:HPO PO) (hEN:HEN EN) (ps:List P4) (hps:∀ p,p ∈ ps→okP p) (cs:List Ac) (hcs:∀ c,c ∈ cs→okAc c) :
    RetsE Tryz.prog 11 0 [] [.d (.ro 66 (ps.map pcD)),.d (.ro 71 (cs.map acD))]
      (fun r hp'=>(∃ x,(x=.d .nilp ∨ ∃ c,x=.ptr c 0 0 1)∧r=.tup [x,.d (.bool false)]) ∨
        ∃ W E B m t,W.length=ps.length∧WsOk W∧VxOk 20 W E B m t∧r=.tup [.ptr 97 0 0 1,.d (.bool true)]∧Ix W E B m t id4 hp'):=by
  refine fnE_of_sem Tryz.func11 (by kernel_rfl) rfl Tryz.ntmps11 (rs:=[.tmp 4,.tmp 5]) rfl (nlb rfl) (by decide) ?_
  refine sem_post (sem_of_awp ?_)
  obtain ⟨o,ho,hnew⟩:=new_ex ps hps
  simp [go_sem]
  refine cl_eff [] hnew rfl (by simp) (by simp) (by simp) (by simp [AV.renL,AV.ren]) ?_
  intro r hp' hr
  cases o with
  | none =>
    simp only at hr
    subst hr
    refine ⟨[],rfl,?_⟩
    simp [go_sem,outH,outP,AV.ren,AV.renL]
    exact ⟨_,fun _ _ _ h=>h,.inl (by simp [fv,lk])⟩
  | some W =>
    obtain ⟨hWl,hW8,hWo⟩:=ho W rfl
    simp only at hr
    obtain ⟨rfl,h0,h5⟩:=hr
    refine ⟨[(193,0),(5000,1)],rfl,?_⟩
    simp [go_sem,outH,outP,AV.ren,AV.renL,h0,h5,nwX,nwB,rho,lk,Blk.ren,wtC_cmp,renR]
    refine cl_fn (small31_fn ps hps (by omega)) (by simp [AV.deep,AV.deep1]) (fun r hr=>?_)
    obtain ⟨b,rfl⟩:=hr
    cases b with
    | false =>
      simp [go_sem]
      exact ⟨_,fun _ _ _ h=>h,.inl (by simp [fv,lk])⟩
    | true =>
      simp [go_sem]
      refine loopW_of (plSt ps cs W) (fun u=>u.1≤cs.length∧u.1≤20∧VxOk u.1 W u.2.1 u.2.2.1 u.2.2.2.1 u.2.2.2.2) (fun u=>cs.length - u.1) (0,[],fun _=>[],0,0) ⟨by simp,by simp,by simp [VxOk]⟩
        ?hw ?_
      case hw =>
        refine new_wk hWo ?_ ?_ ?_
        · omega
        · omega
        · simp [fv,lk,AV.low,AV.low1]
      rintro ⟨k,E,B,m,t⟩ ⟨hk,hk20,hx⟩
      simp only [plSt] at hk hk20 hx ⊢
      by_cases hlt:k<cs.length
      · by_cases h20:k<20
        · obtain ⟨c,hc1,hd⟩:=drop_of (l:=cs) (k:=k) (by omega)
          have hcm:=hcs c (List.mem_of_getElem? hc1)
          have w3:=next_i64 (k:=k) (by omega)
          have h69:=acD_68 hcm
          have i20:(k:Int)<20:=by omega
          have hck:∀ hl:k<cs.length,cs[k]=c:=fun hl=>Option.some.inj ((List.getElem?_eq_getElem hl).symm.trans hc1)
          simp [go_sem,hlt,h20,i20,hc1,hck,h69]
          refine cl_eq (smallB_fn c.ts (fun t ht=>(hcm.2.1 t ht).1)) (by simp [AV.deep,AV.deep1]) ?_
          have hNX:∀ (fr:Fr) (E':List En) (B':Nat→List En) (m' t':Nat) (f:Nat→Nat) (hp:Hp) (nx:Nat),(fv 0 fr=.d (.ro 66 (ps.map pcD))∧fv 1 fr=.d (.ro 71 (cs.map acD))∧fv 6 fr=.ptr 97 0 0 1∧fv 8 fr=.d (.int .i64 ((k+1:Nat):Int))) →
              VxOk (k+1) W E' B' m' t'→InjN 27 f→f 0=97→Ix W E' B' m' t' f hp→Wk ⟨fr,hp,nx⟩ (plSt ps cs W (k+1,E',B',m',t')):=by
            rintro fr E' B' m' t' f hp nx ⟨q0,q1,q6,q8⟩ hx' hf hf0 hix
            have hr0:rho (prF 27 f id4) 5999 97=97:=by
              have:=rho_prF id4 5999 hf (i:=0) (by omega)
              rw [hf0] at this
              exact this
            refine (ren_wk (prF 27 f id4) 5999 (prF_B hf id4_inj) ?_ ?_ (by omega)).trans (weak_wk ⟨?_,?_,by simp [plSt]⟩)
            · intro p hp
              obtain ⟨i,hi,rfl⟩:=mem_prF.1 hp
              exact .inr (id4_lt hi).1
            · intro p hp
              obtain ⟨i,hi,rfl⟩:=mem_prF.1 hp
              have:=(id4_lt hi).2.1
              show id4 i<5999;omega
            · intro p hp
              simp only [plSt,List.mem_cons,List.mem_nil_iff,or_false] at hp
              rcases hp with rfl | rfl | rfl | rfl
              all_goals refine ⟨.inl ?_,by simp [AV.low,AV.low1,plSt]⟩
              · show _=fv 0 (renF _ fr)
                rw [fv_renF,q0];rfl
              · show _=fv 1 (renF _ fr)
                rw [fv_renF,q1];rfl
              · show _=fv 6 (renF _ fr)
                rw [fv_renF,q6]
                simp only [AV.ren,hr0]
              · show _=fv 8 (renF _ fr)
                rw [fv_renF,q8];rfl
            · intro p hp'
              obtain ⟨p1,p2,p3⟩:=ix_ren (nx:=6000) (N:=5999) (by have:=hx'.1;omega) hf id4_inj (fun j hj=>by have:=(id4_lt hj).2.1;omega) hix p hp'
              refine ⟨p1,by show p.1<6000;omega,fun r hr v hv=>?_⟩
              have:=p3 r hr v hv
              revert this
              cases v <;> simp [AV.low1,plSt] <;> omega
          have hm20:m≤20:=by have:=hx.1;omega
          have hEn:E.length≤80000:=by have:=hx.2.2.2.2.1;omega
          have hk0:(acD c)[0]?=some (.int .i64 c.kd):=rfl
          have hkh:(acD c).head?=some (.int .i64 c.kd):=rfl
          have hbd:(bkD c.hd c.ts).length=69:=by rw [← List.length_map (f:=AV.d),bkD_map,eB_len hcm.1]
          have hk1:List.take 69 (acD c).tail=bkD c.hd c.ts:=by
            show List.take 69 (bkD c.hd c.ts ++ _)=_
            rw [List.take_append_of_le_length (by omega),List.take_of_length_le (by omega)]
          have hk70:(acD c)[70]?=some (.int .u32 (c.ht:Int)):=by
            show (bkD c.hd c.ts ++ [DV.int .u32 (c.ht:Int)])[69]?=_
            rw [List.getElem?_append_right (by omega),hbd];rfl
          have hbl:=eB_len hcm.1 c.ts
          have hal:=acD_len hcm
          have hkg:∀ hl:70<(acD c).length,(acD c)[70]=.int .u32 (c.ht:Int):=fun hl=>Option.some.inj ((List.getElem?_eq_getElem hl).symm.trans hk70)
          have hk1':List.take 69 (List.map AV.d (acD c)).tail=eB c.hd c.ts:=by rw [← List.map_tail,← List.map_take,hk1,bkD_map]
          cases hs:smallB c.ts with
          | false =>
            simp [go_sem,w3]
            refine nextW_of (k+1,E,B,m,t) ⟨by show k+1≤_;omega,by show k+1≤20;omega,vxOk_up (by omega) hx⟩ (by show _ - (k+1)<_ - k;omega) ?_
            exact hNX _ _ _ _ _ id4 _ _ (by simp [fv,lk]) (vxOk_up (by omega) hx) id4_inj rfl (vxG_ix id4_inj)
          | true =>
            obtain ⟨hts8,htx⟩:=smallB_tx hcm.2.1 hs
            by_cases c1:c.kd=1
            · simp [go_sem,c1,hc1,hck,hk0,hkh,hk1,hk70,hlt,bkD_map]
              refine drw2 [0,1,2,3,4,5,6,7,8,9,10] [(11,[])] 0 (k:=12) ?_
              intro G hG
              simp [go_sem,hc1,hck,hk0,hkh,hk1',hk70,hkg,hlt,hal]
              refine cl_conn hPO hEN (P:=[]) (f:=id4) (N:=7056) hWo hW8 hx.2.2.2.1 hEn hcm.1 htx hts8 hcm.2.2.1 (by omega) hx.2.1 (by have:=hx.2.2.1;omega) id4_inj (fun j hj=>by have:=(id4_lt hj).2.1;omega) (by simp) (fun r=>?_)
              simp [go_sem]
              refine hG _ _ ?_
              clear hG G
              have hck':=vxOk_conn hPO hEN ⟨hW8,hWo⟩ htx hts8 hcm.2.2.1 hx
              simp [go_sem,c1,hc1,hck,hk0,hkh,hlt,w3]
              refine nextW_of (k+1,_,_,_,_) ⟨by show k+1≤_;omega,by show k+1≤20;omega,hck'⟩ (by show _ - (k+1)<_ - k;omega) ?_
              exact hNX _ _ _ _ _ (cfI m _ id4) _ _ (by simp [fv,lk]) hck' (cfI_inj id4_inj (fun j hj=>by have:=(id4_lt hj).2.1;omega)) (cfI_ne (by omega)) (vxG_ix (cfI_inj id4_inj (fun j hj=>by have:=(id4_lt hj).2.1;omega)))
            · by_cases c2:c.kd=2
              · simp [go_sem,c1,c2,hc1,hck,hk0,hkh,hlt]
                refine cl_disc (P:=[]) (f:=id4) (by omega) hx.2.1 id4_inj (fun j hj=>by have:=(id4_lt hj).2.1;omega) (by simp) (fun hz=>?_) (fun hz=>?_)
                · simp [go_sem,w3]
                  refine nextW_of (k+1,E,B,m,t) ⟨by show k+1≤_;omega,by show k+1≤20;omega,vxOk_up (by omega) hx⟩ (by show _ - (k+1)<_ - k;omega) ?_
                  exact hNX _ _ _ _ _ id4 _ _ (by simp [fv,lk]) (vxOk_up (by omega) hx) id4_inj rfl (vxG_ix id4_inj)
                · have hdk:=vxOk_disc hz hx
                  simp [go_sem,w3]
                  refine nextW_of (k+1,_,_,_,_) ⟨by show k+1≤_;omega,by show k+1≤20;omega,hdk⟩ (by show _ - (k+1)<_ - k;omega) ?_
                  exact hNX _ _ _ _ _ (swI m id4) _ _ (by simp [fv,lk]) hdk (swI_inj (by omega) hz id4_inj) (by show id4 (if 0=1 then 2+m else if 0=2+m then 1 else 0)=97;rw [if_neg (by omega),if_neg (by omega)];rfl) (vxG_ix (swI_inj (by omega) hz id4_inj))
              · simp [go_sem,c1,c2,hc1,hck,hk0,hkh,hlt,w3]
                refine nextW_of (k+1,E,B,m,t) ⟨by show k+1≤_;omega,by show k+1≤20;omega,vxOk_up (by omega) hx⟩ (by show _ - (k+1)<_ - k;omega) ?_
                exact hNX _ _ _ _ _ id4 _ _ (by simp [fv,lk]) (vxOk_up (by omega) hx) id4_inj rfl (vxG_ix id4_inj)
        · have i20:¬ (k:Int)<20:=by omega
          simp [go_sem,hlt,h20,i20]
          exact ⟨_,fun _ _ _ h=>h,.inr ⟨W,hWl,⟨hW8,hWo⟩,E,B,m,t,vxOk_up hk20 hx,⟨by simp [fv,lk],by simp [fv,lk]⟩,vxG_ix id4_inj⟩⟩
      · simp [go_sem,hlt]
        exact ⟨_,fun _ _ _ h=>h,.inr ⟨W,hWl,⟨hW8,hWo⟩,E,B,m,t,vxOk_up hk20 hx,⟨by simp [fv,lk],by simp [fv,lk]⟩,vxG_ix id4_inj⟩⟩
end
theorem cfI_all {Q:Nat→Prop} {m c:Nat} {f:Nat→Nat} (h:∀ j,j<27→Q (f j)) (hc:Q c):∀ j,j<27→Q (cfI m c f j):=fun j hj=>by
  simp only [cfI]
  split
  · exact hc
  · exact h j hj
section
variable {PO:Wt→List Nat→Option (List Nat)} {EN:Wt→En→List (List Nat)→Int}
theorem cl_played (hPO:HPO PO) (hEN:HEN EN) {ps:List P4} (hps:∀ p,p ∈ ps→okP p) {cs:List Ac} (hcs:∀ c,c ∈ cs→okAc c) {P:Hp} {N:Nat} {K:AV→Hp→Prop} (hP:∀ p,p ∈ P→p.1<N)
    (hA:∀ x,(x=.d .nilp ∨ ∃ c,x=.ptr c 0 0 1)→K (.tup [x,.d (.bool false)]) P)
    (hB:∀ W E B m t,W.length=ps.length→WsOk W→VxOk 20 W E B m t→K (.tup [.ptr N 0 0 1,.d (.bool true)]) (P ++ vxG W E B m t (fun j=>N+j))) :
    ClW Tryz.prog 11 [.d (.ro 66 (ps.map pcD)),.d (.ro 71 (cs.map acD))] P N K:=by
  have hnw:newsB (prF 0 id id) (prF 27 id4 id)=true:=by
    simp only [newsB,Bool.and_eq_true,List.all_eq_true,decide_eq_true_eq]
    refine ⟨prF_B id4_inj (injN_id 27),fun p hp=>⟨?_,fun q hq=>?_⟩⟩
    · obtain ⟨i,hi,rfl⟩:=mem_prF.1 hp
      show i<31;omega
    · obtain ⟨i,hi,_⟩:=mem_prF.1 hq
      omega
  refine callsA_ob (n:=0) (b0:=fun _=>⟨0,0,[]⟩) id (played_fn hPO hEN ps hps cs hcs) (fun i b h=>by cases h) (fun i j hi=>by omega) (fun i hi=>by omega) (fun i hi=>by omega) (by simp [AV.renL,AV.ren]) (prF 27 id4 id) hnw ?_
  intro r hp' hr hpX q1 q2 q3
  have sub:∀ i b,lk i P=some b→lk i hpX=some b:=fun i b h=>by
    rw [q3 i (hP _ (lk_mem h)) (fun i hi=>by omega)];exact h
  rcases hr with ⟨x,hx,rfl⟩ | ⟨W,E,B,m,t,h1,h2,h3,rfl,h4⟩
  · refine ⟨P,sub,?_⟩
    simp only [AV.ren,AV.renL]
    refine hA _ ?_
    rcases hx with rfl | ⟨c,rfl⟩
    · exact .inl rfl
    · exact .inr ⟨_,rfl⟩
  · have hr:∀ j,j<27→roO 0 id (prF 27 id4 id) N (id4 j)=N+j:=fun j hj=>roO_new hnw (mem_prF.2 ⟨j,hj,rfl⟩)
    have h97:roO 0 id (prF 27 id4 id) N 97=N:=hr 0 (by omega)
    refine ⟨P ++ vxG W E B m t (fun j=>N+j),fun i b hi=>?_,?_⟩
    · rw [lk_appH] at hi
      cases hl:lk i P with
      | some b' =>
        rw [hl] at hi
        cases hi
        exact sub i _ hl
      | none =>
        rw [hl] at hi
        obtain ⟨j,hj,e⟩:=mem_hpL.1 (lk_mem hi)
        cases e
        have:=q2 _ _ (mem_prF.2 ⟨j,hj,rfl⟩) _ (h4 j hj)
        rw [vxB_ren (by have:=h3.1;omega) hr] at this
        exact this
    · simp only [AV.ren,AV.renL,h97]
      exact hB W E B m t h1 h2 h3
def enL (e:En):List L1:=l1B e.tx ++ ([.i .u32 (e.ix:Int),.i .u64 (e.v:Int),.i .i64 (e.pl:Int),.i .i64 e.st,.i .u32 (e.ht:Int)] ++ l1B e.tpl)
theorem lits_cb0 (l:List Nat):litsOf (cb l)=some (l1B l):=by
  have:=lits_cb l []
  rw [List.append_nil] at this
  rw [this]
  simp [litsOf]
theorem enL_of (e:En):litsOf (enR e)=some (enL e):=by
  unfold enR enC enL
  rw [lits_cb]
  simp [litsOf,lits_cb0]
theorem enL_k {n:Nat} {e:En} (h:e.ok n):(enL e).map L1.k=List.replicate 32 (some .u8) ++ ([some .u32,some .u64,some .i64,some .i64,some .u32] ++ List.replicate 32 (some .u8)):=by
  unfold enL
  rw [List.map_append,l1B_kinds h.1,List.map_append,l1B_kinds h.2.1]
  rfl
theorem ksEn:kindsOf Tryz.prog 8 28=some (List.replicate 32 (some .u8) ++ ([some .u32,some .u64,some .i64,some .i64,some .u32] ++ List.replicate 32 (some .u8))):=by kernel_rfl
theorem egEn:Tryz.prog.eqGuardType Tryz.prog.depth 28=false:=by kernel_rfl
end
def Up (h:Nat) (b e:En):Prop:=e.tx=b.tx∧e.ix=b.ix∧e.v=b.v∧e.pl=b.pl∧e.tpl=b.tpl∧(e=b ∨ (b.st≤2∧3≤e.st∧¬ (b.st=1∧e.st=5)∧¬ (b.st=2∧e.st=4)∧e.ht=h))
def Ups (h:Nat) (E0 E:List En):Prop:=(∀ (i:Nat) (b:En),E0[i]?=some b→∃ e,E[i]?=some e∧Up h b e)∧∀ (i:Nat) (e:En),E0.length≤i→E[i]?=some e→e.ht=h
section
variable {PO:Wt→List Nat→Option (List Nat)} {EN:Wt→En→List (List Nat)→Int}
theorem ups_refl (h:Nat) (E:List En):Ups h E E:=⟨fun i b hb=>⟨b,hb,rfl,rfl,rfl,rfl,rfl,.inl rfl⟩,fun i e hi he=>by have:=(List.getElem?_eq_some_iff.1 he).1;omega⟩
theorem ups_app {h:Nat} {E0 E X:List En} (hu:Ups h E0 E) (hX:∀ e,e ∈ X→e.ht=h):Ups h E0 (E ++ X):=by
  refine ⟨fun i b hb=>?_,fun i e hi he=>?_⟩
  · obtain ⟨e,he,q⟩:=hu.1 i b hb
    exact ⟨e,by rw [List.getElem?_append_left (List.getElem?_eq_some_iff.1 he).1];exact he,q⟩
  · rcases Nat.lt_or_ge i E.length with hl | hl
    · rw [List.getElem?_append_left hl] at he
      exact hu.2 i e hi he
    · rw [List.getElem?_append_right hl] at he
      exact hX e (List.mem_of_getElem? he)
theorem ups_step (hEN:HEN EN) {W:List Wt} (hW:∀ w,w ∈ W→w.ok) {h:Nat} {i:Ip} (hq:i.wit.length≤1000∧∀ y,y ∈ i.wit→bytes y) {E0 E:List En} (hE:∀ e,e ∈ E→e.ok W.length) (hu:Ups h E0 E):Ups h E0 (E.map (stepE EN W i h)):=by
  refine ⟨fun k b hb=>?_,fun k e hk he=>?_⟩
  · obtain ⟨e,he,q1,q2,q3,q4,q5,q6⟩:=hu.1 k b hb
    refine ⟨stepE EN W i h e,by rw [List.getElem?_map,he];rfl,?_⟩
    unfold stepE
    split
    · rename_i hh
      unfold hitE at hh
      simp only [decide_eq_true_eq] at hh
      have heok:=hE e (List.mem_of_getElem? he)
      have hen:=(hEN (atW W e.pl) W.length e (annexW i.wit) (hW _ (atW_mem heok.2.2.1)) heok (by have:=annexW_len i.wit;omega) (fun y hy=>hq.2 y (annexW_mem hy))).1
      rcases q6 with rfl | ⟨r1,r2,_⟩
      · refine ⟨q1,q2,q3,q4,q5,.inr ?_⟩
        generalize EN (atW W e.pl) e (annexW i.wit)=s at hen
        unfold endOk at hen
        refine ⟨hh.2.2,?_,?_,?_,rfl⟩
        · show 3≤s;omega
        · show ¬ (e.st=1∧s=5);omega
        · show ¬ (e.st=2∧s=4);omega
      · omega
    · exact ⟨q1,q2,q3,q4,q5,q6⟩
  · rw [List.getElem?_map] at he
    cases h0:E[k]? with
    | none=>rw [h0] at he;cases he
    | some e0 =>
      rw [h0] at he
      have e1:=Option.some.inj he
      subst e1
      unfold stepE
      split
      · rfl
      · exact hu.2 k e0 hk h0
theorem ups_ins (hEN:HEN EN) {W:List Wt} (hW:∀ w,w ∈ W→w.ok) {h:Nat} (hh:h<4294967296):∀ {is:List Ip} {E0 E:List En},(∀ i,i ∈ is→i.wit.length≤1000∧∀ y,y ∈ i.wit→bytes y)→(∀ e,e ∈ E→e.ok W.length)→Ups h E0 E→Ups h E0 (insE EN W h is E)
  | [],E0,E,_,_,hu=>hu
  | i :: is,E0,E,hi,hE,hu=>by
    rw [insE]
    obtain ⟨q1,q2⟩:=hi i (by simp)
    refine ups_ins hEN hW hh (fun i' h'=>hi i' (List.mem_cons_of_mem _ h')) ?_ (ups_step hEN hW (hi i (by simp)) hE hu)
    intro e he
    obtain ⟨e0,h0,rfl⟩:=List.mem_map.1 he
    exact stepE_ok hEN hW (hE e0 h0) hh (by have:=annexW_len i.wit;omega) (fun y hy=>q2 y (annexW_mem hy))
theorem ups_outs {W:List Wt} {nm:List Nat} {h:Nat} {L:List Bg}:∀ {os:List (Nat × List Nat)} {k:Nat} {E0 E:List En},Ups h E0 E→Ups h E0 (outsE W nm h L k os E)
  | [],k,E0,E,hu=>hu
  | o :: os,k,E0,E,hu=>by
    rw [outsE]
    refine ups_outs (ups_app hu ?_)
    intro e he
    unfold outE at he
    split at he
    · simp only [List.mem_cons,List.mem_nil_iff,or_false] at he
      subst he;rfl
    · cases he
theorem ups_thru (hPO:HPO PO) (hEN:HEN EN) {W:List Wt} (hW:∀ w,w ∈ W→w.ok) {h:Nat} (hh:h<4294967296) {first:Bool} {x:Tn} (hx:okTx x) {E0 E:List En} (hE:∀ e,e ∈ E→e.ok W.length) (hu:Ups h E0 E):Ups h E0 (thruE PO EN W nameT h first x E):=by
  unfold thruE
  split
  · exact ups_outs hu
  · exact ups_outs (ups_ins hEN hW hh (fun i h'=>⟨by have:=(hx.1.2.2.2.2 i h').1;omega,hx.2.1 i h'⟩) hE hu)
theorem ups_thrus (hPO:HPO PO) (hEN:HEN EN) {W:List Wt} (hW:∀ w,w ∈ W→w.ok) {h:Nat} (hh:h<4294967296):∀ {ts:List Tn} {first:Bool} {E0 E:List En},(∀ x,x ∈ ts→okTx x)→(∀ e,e ∈ E→e.ok W.length)→Ups h E0 E→Ups h E0 (thrusE PO EN W nameT h first ts E)
  | [],_,_,_,_,_,hu=>hu
  | x :: ts,first,E0,E,hx,hE,hu=>by
    rw [thrusE]
    exact ups_thrus hPO hEN hW hh (fun y hy=>hx y (List.mem_cons_of_mem _ hy)) (thruE_ok hPO hEN hW hh (hx x (by simp)) hE).1 (ups_thru hPO hEN hW hh (hx x (by simp)) hE hu)
theorem ks88v:kindsOf Tryz.prog 8 25=some (List.replicate 32 (some .u8) ++ [some .u32]):=by kernel_rfl
theorem states_law (hPO:HPO PO) (hEN:HEN EN) (ps:List P4) (hps:∀ p,p ∈ ps→okP p) (cs:List Ac) (hcs:∀ c,c ∈ cs→okAc c) (a:Ac) (ha:okAc a) :
    Rets Tryz.prog 5 [.d (.ro 66 (ps.map pcD)),.d (.ro 71 (cs.map acD)),.agg (acC a)] (fun r=>r=.d (.bool true)):=by
  refine fna Tryz.func5 Tryz.ntmps5 (rs:=[.tmp 6]) (by
    intro v hv
    simp only [List.mem_cons,List.mem_nil_iff,or_false] at hv
    rcases hv with rfl | rfl | rfl
    · trivial
    · trivial
    · exact acC_deep a) ?_
  have hal:=acC_len ha
  have hat:List.take 71 (acC a)=acC a:=List.take_of_length_le (by omega)
  have h69:(acC a)[69]?=some (.d (.ro 4 (a.ts.map eTd))):=by rw [← acD_map,List.getElem?_map,acD_68 ha];rfl
  have hg69:∀ hl:69<(acC a).length,(acC a)[69]=.d (.ro 4 (a.ts.map eTd)):=fun hl=>Option.some.inj ((List.getElem?_eq_getElem hl).symm.trans h69)
  have hb:List.take 69 (List.drop 1 (acC a))=eB a.hd a.ts:=by
    show List.take 69 (eB a.hd a.ts ++ _)=_
    rw [List.take_append_of_le_length (by rw [eB_len ha.1];omega),eB_all ha.1]
  have hb':List.take 69 (acC a).tail=eB a.hd a.ts:=hb
  have h70:(acC a)[70]?=some (.d (.int .u32 (a.ht:Int))):=by
    show (eB a.hd a.ts ++ [AV.d (.int .u32 (a.ht:Int))])[69]?=_
    rw [List.getElem?_append_right (by rw [eB_len ha.1];omega),eB_len ha.1];rfl
  have hg70:∀ hl:70<(acC a).length,(acC a)[70]=.d (.int .u32 (a.ht:Int)):=fun hl=>Option.some.inj ((List.getElem?_eq_getElem hl).symm.trans h70)
  simp [go_sem,hal,hat]
  refine cl_played hPO hEN hps hcs (by intro p hp;simp at hp;subst hp;simp) (fun x hx=>?_) (fun W E B m t hWl hW hx=>?_)
  · rcases hx with rfl | ⟨c,rfl⟩
    · simp [go_sem]
      refine cl_eq alive31_fn (by simp) ?_
      simp [go_sem,resV]
      exact post_same (by simp [AV.deep,AV.deep1]) rfl
    · simp [go_sem]
      refine cl_eq alive31_fn (by simp) ?_
      simp [go_sem,resV]
      exact post_same (by simp [AV.deep,AV.deep1]) rfl
  · simp [go_sem,hal,h69,hg69]
    refine cl_eq (smallB_fn a.ts (fun t ht=>(ha.2.1 t ht).1)) (by simp [AV.deep,AV.deep1]) ?_
    cases hs:smallB a.ts with
    | false =>
      simp [go_sem]
      refine cl_eq alive31_fn (by simp) ?_
      simp [go_sem,resV]
      exact post_same (by simp [AV.deep,AV.deep1]) rfl
    | true =>
      obtain ⟨hts8,htx⟩:=smallB_tx ha.2.1 hs
      obtain ⟨hm20,hmt,ht20,hEo,hEl,hBo⟩:=hx
      have hEn:E.length≤80000:=by omega
      have hf0:InjN 27 (fun j=>128+j):=fun i j hi hj e=>by simp only at e;omega
      have hpo:∀ {Q:Nat × Blk→Prop} {x:Nat × Blk} {l:Hp},Q x→(∀ p,p ∈ l→Q p)→∀ p,p ∈ x :: l→Q p:=by
        intro Q x l h1 h2 p hp
        rcases List.mem_cons.1 hp with rfl | hp
        · exact h1
        · exact h2 p hp
      have hpn:∀ {Q:Nat × Blk→Prop},∀ p,p ∈ ([]:Hp)→Q p:=by intro Q p hp;cases hp
      simp [go_sem]
      refine cl_ents (N:=640) (P:=[(0,⟨44,71,[acC a]⟩)]) (f:=fun j=>128+j) (by omega) (by omega) hf0 (fun j hj=>by show 128+j<640;omega) (hpo ⟨by show 0<640;omega,fun j hj=>by show 128+j ≠ 0;omega⟩ hpn) ?_
      simp [go_sem,hal,hb',h70,hg70]
      have hW8:=hW.1
      have hWo:=hW.2
      obtain ⟨hTo,hTl⟩:=thrusE_ok hPO hEN hWo ha.2.2.1 (first:=true) htx hEo
      have hQ0:∀ j,j<27→(128≤128+j∧128+j<155):=fun j hj=>by omega
      have hup:=ups_thrus hPO hEN hWo ha.2.2.1 (ts:=a.ts) (first:=true) htx hEo (ups_refl a.ht E)
      refine cl_conn hPO hEN (N:=864) (P:=[(640,⟨28,69,E.map enR⟩),(0,⟨44,71,[acC a]⟩)]) (f:=fun j=>128+j) hWo hW8 hEo hEn ha.1 htx hts8 ha.2.2.1 (by omega) hmt (by omega) hf0 (fun j hj=>by show 128+j<864;omega) (hpo ⟨by show 640<864;omega,fun j hj=>by show 128+j ≠ 640;omega⟩ (hpo ⟨by show 0<864;omega,fun j hj=>by show 128+j ≠ 0;omega⟩ hpn)) (fun r=>?_)
      have hf1:InjN 27 (cfI m 864 (fun j=>128+j)):=cfI_inj hf0 (fun j hj=>by show 128+j ≠ 864;omega)
      have hQ1:∀ j,j<27→(128≤cfI m 864 (fun j=>128+j) j∧cfI m 864 (fun j=>128+j) j<155) ∨ cfI m 864 (fun j=>128+j) j=864:=cfI_all (Q:=fun i=>(128≤i∧i<155) ∨ i=864) (fun j hj=>.inl (hQ0 j hj)) (.inr rfl)
      have h10:cfI m 864 (fun j=>128+j) 0=128:=cfI_ne (by omega)
      generalize hT:thrusE PO EN W nameT a.ht true a.ts E=T at *
      have hTn:T.length≤100000:=by omega
      generalize cfI m 864 (fun j=>128+j)=f1 at *
      simp [go_sem]
      have hce:=fun (K:AV→Hp→Prop)=>cl_ents (K:=K) (W:=W) (E:=T) (B:=updB B m E) (m:=m+1) (t:=max t (m+1)) (N:=928) (P:=[(640,⟨28,69,E.map enR⟩),(0,⟨44,71,[acC a]⟩)]) (f:=f1) (by omega) hTn hf1 (fun j hj=>by have:=hQ1 j hj;omega) (hpo ⟨by show 640<928;omega,fun j hj=>by have:=hQ1 j hj;show f1 j ≠ 640;omega⟩ (hpo ⟨by show 0<928;omega,fun j hj=>by have:=hQ1 j hj;show f1 j ≠ 0;omega⟩ hpn))
      rw [h10] at hce
      refine hce _ ?_
      have hle:E.length≤T.length:=by
        rcases Nat.eq_zero_or_pos E.length with h0 | h0
        · omega
        · obtain ⟨e,he,_⟩:=hup.1 (E.length - 1) E[E.length - 1] (List.getElem?_eq_getElem (by omega))
          have:=(List.getElem?_eq_some_iff.1 he).1
          omega
      have hnlt:¬ T.length<E.length:=by omega
      simp [go_sem,hnlt]
      have elow:∀ (N:Nat) (X:List En),∀ r,r ∈ X.map enR→∀ v,v ∈ r→v.low1 N:=fun N X r hr=>by
        obtain ⟨e,_,rfl⟩:=List.mem_map.1 hr
        exact enR_low N e
      have alow:∀ N r,r ∈ [acC a]→∀ v,v ∈ r→v.low1 N:=fun N r hr=>by
        simp only [List.mem_cons,List.mem_nil_iff,or_false] at hr
        subst hr
        exact acC_low N a
      have hWk:∀ (fr:Fr) (P:Hp) (nx k:Nat),(fv 0 fr=.d (.ro 66 (ps.map pcD))∧fv 5 fr=.ptr 0 0 0 1∧fv 9 fr=.own 640 0 E.length E.length∧fv 10 fr=.own 928 0 T.length T.length∧fv 11 fr=.d (.int .i64 (k:Int))) →
          lk 928 P=some ⟨28,69,T.map enR⟩→lk 640 P=some ⟨28,69,E.map enR⟩→lk 0 P=some ⟨44,71,[acC a]⟩ →
          Weak ⟨fr,P,nx⟩ ⟨[(0,.d (.ro 66 (ps.map pcD))),(5,.ptr 0 0 0 1),(9,.own 640 0 E.length E.length),(10,.own 928 0 T.length T.length),(11,.d (.int .i64 (k:Int)))],[(928,⟨28,69,T.map enR⟩),(640,⟨28,69,E.map enR⟩),(0,⟨44,71,[acC a]⟩)],6000⟩:=by
        rintro fr P nx k ⟨q0,q5,q9,q10,q11⟩ p1 p2 p3
        refine ⟨by simp [slotOk,AV.low,AV.low1,q0,q5,q9,q10,q11],?_,by simp⟩
        exact hpo ⟨.inl p1,by show 928<6000;omega,elow _ T⟩ (hpo ⟨.inl p2,by show 640<6000;omega,elow _ E⟩ (hpo ⟨.inl p3,by show 0<6000;omega,alow _⟩ hpn))
      refine loop_of (fun k:Nat=>⟨[(0,.d (.ro 66 (ps.map pcD))),(5,.ptr 0 0 0 1),(9,.own 640 0 E.length E.length),(10,.own 928 0 T.length T.length),(11,.d (.int .i64 (k:Int)))],[(928,⟨28,69,T.map enR⟩),(640,⟨28,69,E.map enR⟩),(0,⟨44,71,[acC a]⟩)],6000⟩)
        (fun k=>k≤T.length) (fun k=>T.length - k) 0 (by omega) (hWk _ _ _ 0 (by simp [fv,lk]) rfl rfl rfl) ?_
      intro k hk
      by_cases hkt:k<T.length
      · obtain ⟨e,he1,hd⟩:=drop_of (l:=T) (k:=k) (by omega)
        have heok:=hTo e (List.mem_of_getElem? he1)
        have w3:=next_i64 (k:=k) (by omega)
        have hij:∀ hl:k<T.length,T[k]=e:=fun hl=>Option.some.inj ((List.getElem?_eq_getElem hl).symm.trans he1)
        have hel:=enR_len heok
        have het:List.take 69 (enR e)=enR e:=List.take_of_length_le (by omega)
        have e34:(enR e)[34]?=some (.d (.int .i64 (e.pl:Int))):=enC_e34 heok.1 _ _ _ _ _
        have e35:(enR e)[35]?=some (.d (.int .i64 e.st)):=enC_e35 heok.1 _ _ _ _ _
        have e36:(enR e)[36]?=some (.d (.int .u32 (e.ht:Int))):=enC_e36 heok.1 _ _ _ _ _
        have g34:∀ hl:34<(enR e).length,(enR e)[34]=.d (.int .i64 (e.pl:Int)):=fun hl=>Option.some.inj ((List.getElem?_eq_getElem hl).symm.trans e34)
        have g35:∀ hl:35<(enR e).length,(enR e)[35]=.d (.int .i64 e.st):=fun hl=>Option.some.inj ((List.getElem?_eq_getElem hl).symm.trans e35)
        have g36:∀ hl:36<(enR e).length,(enR e)[36]=.d (.int .u32 (e.ht:Int)):=fun hl=>Option.some.inj ((List.getElem?_eq_getElem hl).symm.trans e36)
        have s1:¬ e.st<1:=by have:=heok.2.2.2.2.2.1;omega
        have s6:¬ (6:Int)<e.st:=by have:=heok.2.2.2.2.2.2.1;omega
        have p0:¬ (e.pl:Int)<0:=by omega
        have pW:¬ (ps.length:Int)≤(e.pl:Int):=by have:=heok.2.2.1;omega
        have pW':¬ ps.length≤e.pl:=by have:=heok.2.2.1;omega
        by_cases hke:k<E.length
        · obtain ⟨b,hb1,hd2⟩:=drop_of (l:=E) (k:=k) (by omega)
          have hke':¬ E.length≤k:=by omega
          have hbk:=hEo b (List.mem_of_getElem? hb1)
          have hijb:∀ hl:k<E.length,E[k]=b:=fun hl=>Option.some.inj ((List.getElem?_eq_getElem hl).symm.trans hb1)
          have hbl:=enR_len hbk
          have hbt:List.take 69 (enR b)=enR b:=List.take_of_length_le (by omega)
          have b35:(enR b)[35]?=some (.d (.int .i64 b.st)):=enC_e35 hbk.1 _ _ _ _ _
          have bg35:∀ hl:35<(enR b).length,(enR b)[35]=.d (.int .i64 b.st):=fun hl=>Option.some.inj ((List.getElem?_eq_getElem hl).symm.trans b35)
          simp [go_sem,hkt,he1,hij,hel,het,e34,e35,e36,g34,g35,g36,s1,s6,p0,pW,pW',hke,hke',hb1,hijb,hbl,hbt,zEc_len,zEc_drop]
          refine drw2 [0,1,2,3,4,5] [] 0 (k:=6) ?_
          intro G hG
          simp [go_sem,hel,hbl,e35,g35,b35,bg35]
          refine hG _ _ ?_
          clear hG G
          obtain ⟨e2,he2,u1,u2,u3,u4,u5,u6⟩:=hup.1 k b hb1
          obtain rfl:e2=e:=Option.some.inj (he2.symm.trans he1)
          have tR:∀ x:En,x.tx.length=32→List.take 33 (enR x)=cR x.tx x.ix:=fun x hx=>enC_33 hx _ _ _ _ _
          have t33:∀ x:En,x.tx.length=32→(enR x)[33]?=some (.d (.int .u64 (x.v:Int))):=fun x hx=>enC_e33 hx _ _ _ _ _
          have tg33:∀ x:En,x.tx.length=32→∀ hl:33<(enR x).length,(enR x)[33]=.d (.int .u64 (x.v:Int)):=fun x hx hl=>Option.some.inj ((List.getElem?_eq_getElem hl).symm.trans (t33 x hx))
          have t37:∀ x:En,x.tx.length=32→List.drop 37 (enR x)=cb x.tpl:=fun x hx=>enC_37 hx _ _ _ _ _
          have hRe:=tR e2 heok.1
          have hRb:=tR b hbk.1
          have hVe:=t33 e2 heok.1
          have hVb:=t33 b hbk.1
          have hWe:=tg33 e2 heok.1
          have hWb:=tg33 b hbk.1
          have hTe:=t37 e2 heok.1
          have hTb:=t37 b hbk.1
          have b34:(enR b)[34]?=some (.d (.int .i64 (b.pl:Int))):=enC_e34 hbk.1 _ _ _ _ _
          have bg34:∀ hl:34<(enR b).length,(enR b)[34]=.d (.int .i64 (b.pl:Int)):=fun hl=>Option.some.inj ((List.getElem?_eq_getElem hl).symm.trans b34)
          rw [u1,u2] at hRe
          rw [u3] at hVe hWe
          rw [u4] at e34 g34
          rw [u5] at hTe
          have zi:=ints_cb b.tpl
          have ht32:=hbk.2.1
          have zl:=cR_lits b.tx b.ix
          have zk:kindsOf Tryz.prog 8 25=some ((l1B b.tx ++ [L1.i .u32 (b.ix:Int)]).map L1.k):=by rw [ks88v,cR_kinds hbk.1]
          have hRl:=cR_len hbk.1 b.ix
          generalize l1B b.tx ++ [L1.i .u32 (b.ix:Int)]=lR at zl zk
          generalize cR b.tx b.ix=cRb at *
          have hTl:List.take 32 (cb b.tpl)=cb b.tpl:=List.take_of_length_le (by rw [cb_len,hbk.2.1];omega)
          have hTll:(cb b.tpl).length=32:=by rw [cb_len,hbk.2.1]
          rcases u6 with he | ⟨c1,c2,c3,c4,c5⟩
          · have hst:b.st=e2.st:=by rw [he]
            have hen:enR e2=enR b:=by rw [he]
            by_cases h2:2<b.st
            · have yl:=enL_of b
              have yk:kindsOf Tryz.prog 8 28=some ((enL b).map L1.k):=by rw [ksEn,enL_k hbk]
              generalize enL b=lB at yl yk
              simp [go_sem,← hst,h2,hen,het,hbt,yl,yk,egEn,hel,hbl,hRe,hRb,hVe,hVb,hWe,hWb,b34,bg34,e34,g34,hTe,hTb,hTl,hTll,hRl,zl,zk,zi,eg88,ht32,w3]
              refine next_of (k+1) (by omega) (by omega) ?_
              exact hWk _ _ _ (k+1) (by simp [fv,lk]) rfl rfl rfl
            · simp [go_sem,← hst,h2,hel,hbl,hRe,hRb,hVe,hVb,hWe,hWb,b34,bg34,e34,g34,hTe,hTb,hTl,hTll,hRl,zl,zk,zi,eg88,ht32,w3]
              refine next_of (k+1) (by omega) (by omega) ?_
              exact hWk _ _ _ (k+1) (by simp [fv,lk]) rfl rfl rfl
          · have n1:¬ b.st=e2.st:=by omega
            have n2:¬ 2<b.st:=by omega
            have n3:¬ e2.st<3:=by omega
            by_cases k1:b.st=1
            · have n5:¬ e2.st=5:=fun h=>c3 ⟨k1,h⟩
              have n1':¬ 1=e2.st:=by omega
              simp [go_sem,k1,n1',n3,n5,hel,hbl,hRe,hRb,hVe,hVb,hWe,hWb,b34,bg34,e34,g34,hTe,hTb,hTl,hTll,hRl,zl,zk,zi,eg88,ht32,w3,e36,g36,hal,h70,hg70,c5]
              refine next_of (k+1) (by omega) (by omega) ?_
              exact hWk _ _ _ (k+1) (by simp [fv,lk]) rfl rfl rfl
            · have k2:b.st=2:=by have:=hbk.2.2.2.2.2.1;omega
              have n4:¬ e2.st=4:=fun h=>c4 ⟨k2,h⟩
              have n1':¬ 2=e2.st:=by omega
              simp [go_sem,k2,n1',n3,n4,hel,hbl,hRe,hRb,hVe,hVb,hWe,hWb,b34,bg34,e34,g34,hTe,hTb,hTl,hTll,hRl,zl,zk,zi,eg88,ht32,w3,e36,g36,hal,h70,hg70,c5]
              refine next_of (k+1) (by omega) (by omega) ?_
              exact hWk _ _ _ (k+1) (by simp [fv,lk]) rfl rfl rfl
        · have hke':E.length≤k:=by omega
          have hht:=hup.2 k e hke' he1
          simp [go_sem,hkt,he1,hij,hel,het,e34,e35,e36,g34,g35,g36,s1,s6,p0,pW,pW',hke',hal,h70,hg70,hht,w3,zEc_len,zEc_drop]
          refine next_of (k+1) (by omega) (by omega) ?_
          exact hWk _ _ _ (k+1) (by simp [fv,lk]) rfl rfl rfl
      · have hkt2:k=T.length:=by omega
        subst hkt2
        simp [go_sem]
        refine cl_eq alive31_fn (by simp) ?_
        simp [go_sem,resV]
        exact post_same (by simp [AV.deep,AV.deep1]) rfl
theorem states_args (l:List AV) (h:ArgTys Tryz.prog 12 [36,37,44] l):Rets Tryz.prog 5 l (fun r=>r=.d (.bool true)):=by
  obtain ⟨a0,r0,rfl,h0,a1,r1,rfl,h1,a2,r2,rfl,h2,rfl⟩:=h
  obtain ⟨ps,rfl,hps⟩:=arg_plans (n:=7) h0
  obtain ⟨cs,rfl,hcs⟩:=arg_acts (n:=2) h1
  obtain ⟨a,rfl,ha⟩:=arg_act (n:=3) h2
  obtain ⟨PO,hPO⟩:=hpo_ex
  obtain ⟨EN,hEN⟩:=hen_ex
  exact states_law hPO hEN ps hps cs hcs a ha
end
end Go.Proofs.YtfahccoobfjkeaaGreat
