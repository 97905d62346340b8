/-
  Part 12 of what the claim rests on.
-/
import Derived.Test.YtfahccoobfjkeaaGreatT2
import Derived.Test.YtfahccoobfjkeaaGreatT8
import Derived.Test.YtfahccoobfjkeaaGreatT9
import Derived.Test.YtfahccoobfjkeaaGreatT10
set_option linter.unusedVariables false
set_option linter.unusedSimpArgs false
set_option maxRecDepth 100000
set_option maxHeartbeats 16000000
namespace Go.Proofs.YtfahccoobfjkeaaGreat
open Go.Am Go.Sha
def leF:Nat→Nat→List Nat
  | 0,_=>[]
  | k+1,m=>if m=0 then [] else m % 256 :: leF k (m / 256)
theorem leF_bytes:∀ (k m:Nat),bytes (leF k m)
  | 0,_=>fun x h=>by simp [leF] at h
  | k+1,m=>by
    rw [leF]
    split
    · exact fun x h=>by simp at h
    · intro x h
      rcases List.mem_cons.1 h with rfl | h
      · omega
      · exact leF_bytes k _ x h
theorem leF_len:∀ (k m:Nat),(leF k m).length≤k
  | 0,_=>by simp [leF]
  | k+1,m=>by
    rw [leF]
    split
    · simp
    · have:=leF_len k (m / 256)
      simp;omega
def topA (neg:Bool) (a:List Nat) (x:Nat):List Nat :=
  if 128≤x then (if neg then a ++ [x,128] else a ++ [x,0]) else (if neg then a ++ [x+128] else a ++ [x])
def topE (neg:Bool) (b:List Nat):List Nat:=match b.reverse with
  | []=>[]
  | x :: r=>topA neg r.reverse x
def numE (n:Int):List Nat:=topE (decide (n<0)) (leF 8 n.natAbs)
theorem topE_snoc (neg:Bool) (a:List Nat) (x:Nat):topE neg (a ++ [x])=topA neg a x:=by simp [topE]
theorem snoc_cases (b:List Nat):b=[] ∨ ∃ a x,b=a ++ [x]:=by
  rcases h:b.reverse with _ | ⟨x,r⟩
  · exact .inl (by simpa using h)
  · exact .inr ⟨r.reverse,x,by rw [← List.reverse_reverse b,h,List.reverse_cons]⟩
theorem numE_bytes (n:Int):bytes (numE n):=by
  unfold numE
  rcases snoc_cases (leF 8 n.natAbs) with h | ⟨a,x,h⟩
  · rw [h];exact fun x hx=>by simp [topE] at hx
  · have hb:=leF_bytes 8 n.natAbs
    rw [h] at hb ⊢
    rw [topE_snoc]
    have hx:=hb x (by simp)
    have ha:bytes a:=fun z hz=>hb z (by simp [hz])
    unfold topA
    intro z hz
    split at hz <;> split at hz <;> simp at hz
    all_goals
      rcases hz with h | h
      · exact ha z h
      · omega
theorem numE_len (n:Int):(numE n).length≤9:=by
  unfold numE
  have hl:=leF_len 8 n.natAbs
  rcases snoc_cases (leF 8 n.natAbs) with h | ⟨a,x,h⟩
  · rw [h];simp [topE]
  · rw [h] at hl ⊢
    rw [topE_snoc]
    unfold topA
    simp at hl
    split <;> split <;> simp <;> omega
theorem and128:∀ x:Nat,x<256→bits .and .u8 (x:Int) 128=if 128≤x then 128 else 0:=by decide +kernel
theorem or128:∀ x:Nat,x<128→bits .or .u8 (x:Int) 128=((x+128:Nat):Int):=by decide +kernel
theorem enc_fn (n:Int) (h1:-9223372036854775808≤n) (h2:n<9223372036854775808):Rets Tryz.prog 64 [.d (.int .i64 n)] (fun r=>r=.d (nb (numE n))):=by
  refine fna Tryz.func64 Tryz.ntmps64 (rs:=[.tmp 2]) (by simp [AV.deep,AV.deep1]) ?_
  have hM:n.natAbs<18446744073709551616:=by omega
  simp [go_sem]
  have hpw:(256:Nat) ^ 8=18446744073709551616:=by decide
  have u64w:∀ x:Int,IntKind.u64.wrap x=x % 18446744073709551616:=fun x=>by simp [IntKind.wrap,IntKind.bits,IntKind.signed]
  have wA:n<0→IntKind.u64.wrap (-IntKind.u64.wrap n)=(n.natAbs:Int):=fun h=>by rw [u64w,u64w];omega
  have wB:0≤n→IntKind.u64.wrap n=(n.natAbs:Int):=fun h=>by rw [u64w];omega
  have fd:∀ m:Nat,Int.fdiv (m:Int) 256=((m / 256:Nat):Int):=fun m=>by rw [Int.fdiv_eq_ediv_of_nonneg _ (by decide)];omega
  have leF0:∀ k,leF k 0=[]:=fun k=>by cases k <;> simp [leF]
  have hnn:numE n=topE (decide (n<0)) (leF 8 n.natAbs):=rfl
  refine ⟨fun hneg=>?_,fun hneg=>?_⟩
  all_goals
    refine loop_of (fun t:Nat × List Nat × Nat=>⟨[(3,.d (.bool (decide (n<0)))),(4,.d (.int .u64 (t.2.2:Int))),(5,.own 5000 0 t.2.1.length t.2.1.length)],[(5000,⟨5,1,rb t.2.1⟩)],6000⟩)
      (fun t=>t.2.2<256 ^ t.1∧t.1≤8∧t.2.1.length+t.1≤8∧t.2.1 ++ leF t.1 t.2.2=leF 8 n.natAbs) (fun t=>t.1) (8,[],n.natAbs) ⟨by rw [hpw];exact hM,by simp,by simp,rfl⟩ (by
        first
          | (have w:=wA hneg
             simp [Weak,slotOk,fv,lk,AV.low,AV.low1,w,rb])
          | (have w:=wB hneg
             simp [Weak,slotOk,fv,lk,AV.low,AV.low1,w,rb])) ?_
    rintro ⟨k,b,m⟩ ⟨p1,p2,p4,p3⟩
    simp only at p1 p2 p3 p4
    simp only
    simp [go_sem]
    refine ⟨fun hm=>?_,fun hm=>?_⟩
    · match k,p1,p2,p3,p4 with
      | 0,p1,_,_,_=>simp at p1;omega
      | k+1,p1,p2,p3,p4 =>
        refine ⟨rb_len b,by omega,?_⟩
        rw [leF,if_neg (by omega)] at p3
        rw [Nat.pow_succ] at p1
        have hd:m / 256<256 ^ k:=Nat.div_lt_of_lt_mul (by omega)
        have w8:IntKind.u8.wrap (m:Int)=((m % 256:Nat):Int):=by rw [u8w];omega
        refine next_of (k,b ++ [m % 256],m / 256) ⟨hd,by show k≤8;omega,by simp;omega,by rw [← p3];simp⟩ (by show k<k+1;omega) ⟨?_,?_,by simp⟩
        · simp [slotOk,fv,lk,AV.low,AV.low1,fd]
        · intro p hp
          simp only [List.mem_cons,List.mem_nil_iff,or_false] at hp
          subst hp
          exact ⟨.inl (by rw [w8];simp [lk,rb]),by show 5000<6000;omega,rb_low _ _⟩
    · subst hm
      rw [leF0,List.append_nil] at p3
      subst p3
      rw [hnn]
      have hbb:=leF_bytes 8 n.natAbs
      generalize leF 8 n.natAbs=b at *
      refine ⟨fun hb=>?_,fun hb=>?_⟩
      · subst hb
        exact post_one (snap1_d (snap_full rfl rfl trivial)) trivial rfl
      · rcases snoc_cases b with h | ⟨a,x,rfl⟩
        · exact absurd h hb
        rw [topE_snoc]
        have wl:IntKind.i64.wrap (((a ++ [x]).length:Int) - 1)=(a.length:Int):=by
          have hal:(a ++ [x]).length=a.length+1:=by simp
          rw [hal] at p4 ⊢
          rw [IntWalk.i64_in _ (by omega)];omega
        have hx:x<256:=hbb x (by simp)
        have hrow:(rb (a ++ [x]))[a.length]?=some [.d (.int .u8 (x:Int))]:=by simp [rb]
        have hrowg:∀ h,(rb (a ++ [x]))[a.length]'h=[.d (.int .u8 (x:Int))]:=fun h=>by rw [List.getElem?_eq_getElem h] at hrow;exact Option.some.inj hrow
        have hal:a.length≤7:=by simp at p4;omega
        have w1:IntKind.i64.wrap ((a.length:Int)+1)=((a.length+1:Nat):Int):=by rw [IntWalk.i64_in _ (by omega)];omega
        have w2:IntKind.i64.wrap (a.length:Int)=(a.length:Int):=IntWalk.i64_in _ (by omega)
        have R1:(rb (a ++ [x]) ++ [[AV.d (.int .u8 0)]])[a.length+1]?=some [.d (.int .u8 0)]:=by simp [rb]
        have R1g:∀ h,(rb (a ++ [x]) ++ [[AV.d (.int .u8 0)]])[a.length+1]'h=[.d (.int .u8 0)]:=fun h=>by rw [List.getElem?_eq_getElem h] at R1;exact Option.some.inj R1
        have S1:(rb (a ++ [x]) ++ [[AV.d (.int .u8 0)]]).set (a.length+1) [.d (.int .u8 128)]=rb (a ++ [x,128]):=by
          have:rb (a ++ [x])=rb a ++ [[.d (.int .u8 (x:Int))]]:=(rb_snoc a x).symm
          rw [this,List.append_assoc,List.set_append_right _ _ (by rw [rb_len];omega),rb_len,show a.length+1 - a.length=1 by omega]
          simp [rb]
        have o0:bits .or .u8 0 128=128:=by decide
        have S2:∀ y:Nat,(rb (a ++ [x])).set a.length [.d (.int .u8 (y:Int))]=rb (a ++ [y]):=fun y=>by
          have:rb (a ++ [x])=rb a ++ [[.d (.int .u8 (x:Int))]]:=(rb_snoc a x).symm
          rw [this,List.set_append_right _ _ (by rw [rb_len];omega),rb_len,Nat.sub_self]
          simp [rb]
        have hA:=and128 x hx
        rw [wl]
        by_cases h128:128≤x
        · rw [if_pos h128] at hA
          simp [go_sem,hrow,hrowg,rb_len,hA]
          by_cases hs:n<0
          · simp [go_sem,hs,rb_len,w1,R1,R1g,o0,S1]
            repeat' apply And.intro
            all_goals first
              | omega
              | exact fun h=>absurd hs (by omega)
              | exact post_one (snap1_d (snap_full (L:=topA true a x) (by simp [topA,h128]) (by simp [lk,topA,h128,rb]) trivial)) trivial rfl
              | exact fun _=>post_one (snap1_d (snap_full (L:=topA true a x) (by simp [topA,h128]) (by simp [lk,topA,h128,rb]) trivial)) trivial rfl
          · simp [go_sem,hs]
            repeat' apply And.intro
            all_goals first
              | omega
              | exact fun h=>absurd hs (by omega)
              | exact post_one (snap1_d (snap_full (L:=topA false a x) (by simp [topA,h128]) (by simp [lk,topA,h128,rb]) trivial)) trivial rfl
              | exact fun _=>post_one (snap1_d (snap_full (L:=topA false a x) (by simp [topA,h128]) (by simp [lk,topA,h128,rb]) trivial)) trivial rfl
        · rw [if_neg h128] at hA
          have hO:=or128 x (by omega)
          simp [go_sem,hrow,hrowg,rb_len,hA]
          by_cases hs:n<0
          · simp [go_sem,hs,rb_len,w2,hrowg,hO,S2,-Int.natCast_add]
            repeat' apply And.intro
            all_goals first
              | omega
              | exact fun h=>absurd hs (by omega)
              | exact post_one (snap1_d (snap_full (L:=topA true a x) (by simp [topA,h128]) (by simp [lk,topA,h128,rb]) trivial)) trivial rfl
              | exact fun _=>post_one (snap1_d (snap_full (L:=topA true a x) (by simp [topA,h128]) (by simp [lk,topA,h128,rb]) trivial)) trivial rfl
          · simp [go_sem,hs]
            repeat' apply And.intro
            all_goals first
              | omega
              | exact fun h=>absurd hs (by omega)
              | exact post_one (snap1_d (snap_full (L:=topA false a x) (by simp [topA,h128]) (by simp [lk,topA,h128,rb]) trivial)) trivial rfl
              | exact fun _=>post_one (snap1_d (snap_full (L:=topA false a x) (by simp [topA,h128]) (by simp [lk,topA,h128,rb]) trivial)) trivial rfl
theorem bldW_cat:∀ (ws:List Wd) (out:List Nat),(∀ w,w ∈ ws→(layW w).2=true)→bldW out ws=(out ++ catR ws,0)
  | [],out,_=>by simp [bldW,catR]
  | w :: r,out,h=>by
    have hw:=h w (by simp)
    rw [bldW,if_pos hw,bldW_cat r _ (fun v hv=>h v (by simp [hv])),← refW_eq hw]
    simp [catR]
theorem lay_op {n:Nat} (h1:n=0 ∨ 77<n):(layW (n,[])).2=true:=by
  unfold layW
  rw [if_neg (by simp;omega),if_neg (by simp;omega),if_neg (by simp;omega)]
  rfl
theorem op_ok {n:Nat} (h:n<256):WdOk (n,[]):=⟨by simp,h⟩
def waitW (d:Int):List Wd:=[pushW (numE d),(178,[]),(117,[]),(179,[])]
def recW (rec:List Nat):List Wd:=[pushW (recB rec),(188,[])]
def trigW (trig:List Nat) (d:Int):List Wd:=[pushW trig,(173,[]),pushW (catR (waitW d)),(81,[]),(187,[])]
theorem recB_bytes (x:List Nat):bytes (recB x):=sumB_bytes _
theorem waitW_ok (d:Int):∀ w,w ∈ waitW d→WdOk w∧(layW w).2=true:=by
  intro w hw
  have hl:=numE_len d
  simp [waitW] at hw
  rcases hw with rfl | rfl | rfl | rfl
  · exact ⟨pushW_ok (by omega) (numE_bytes d),push_ok (by omega)⟩
  all_goals exact ⟨op_ok (by omega),lay_op (by omega)⟩
theorem catR_bytes {ws:List Wd} (h:∀ w,w ∈ ws→(layW w).2=true∧w.1<256∧bytes w.2):bytes (catR ws):=by
  unfold catR
  intro z hz
  rw [List.mem_flatten] at hz
  obtain ⟨l,hl,hz⟩:=hz
  obtain ⟨w,hw,rfl⟩:=List.mem_map.1 hl
  obtain ⟨h1,h2,h3⟩:=h w hw
  rw [refW_eq h1] at hz
  exact layW_bytes h2 h3 z hz
theorem catR_lenW:∀ (ws:List Wd) (n:Nat),(∀ w,w ∈ ws→w.2.length≤n)→(catR ws).length≤(n+3)*ws.length
  | [],n,_=>by simp [catR]
  | w :: r,n,h=>by
    have h1:=refW_len w
    have h2:=h w (by simp)
    have h3:=catR_lenW r n (fun v hv=>h v (by simp [hv]))
    simp only [catR,List.map_cons,List.flatten_cons,List.length_append,List.length_cons] at h3 ⊢
    rw [Nat.mul_succ]
    omega
theorem waitC_len (d:Int):(catR (waitW d)).length≤48:=by
  have hl:=numE_len d
  have:=catR_lenW (waitW d) 9 (by
    intro w hw
    simp [waitW] at hw
    rcases hw with rfl | rfl | rfl | rfl
    · have:=pushW_len (numE d);omega
    all_goals simp)
  simpa [waitW] using this
theorem waitC_bytes (d:Int):bytes (catR (waitW d)):=catR_bytes (fun w hw=>by
  have:=waitW_ok d w hw
  refine ⟨this.2,this.1.2,?_⟩
  simp [waitW] at hw
  rcases hw with rfl | rfl | rfl | rfl
  · exact pushW_bytes (numE_bytes d)
  all_goals exact fun z hz=>by simp at hz)
theorem recW_ok (rec:List Nat):∀ w,w ∈ recW rec→WdOk w∧(layW w).2=true:=by
  intro w hw
  have hl:=recB_len rec
  simp [recW] at hw
  rcases hw with rfl | rfl
  · exact ⟨pushW_ok (by omega) (recB_bytes _),push_ok (by omega)⟩
  · exact ⟨op_ok (by omega),lay_op (by omega)⟩
theorem trigW_ok {trig:List Nat} (d:Int) (ht:trig.length=32) (hb:bytes trig):∀ w,w ∈ trigW trig d→WdOk w∧(layW w).2=true:=by
  intro w hw
  have hl:=waitC_len d
  simp [trigW] at hw
  rcases hw with rfl | rfl | rfl | rfl | rfl
  · exact ⟨pushW_ok (by omega) hb,push_ok (by omega)⟩
  · exact ⟨op_ok (by omega),lay_op (by omega)⟩
  · exact ⟨pushW_ok (by omega) (waitC_bytes d),push_ok (by omega)⟩
  all_goals exact ⟨op_ok (by omega),lay_op (by omega)⟩
theorem numW_fn (n:Int) (h1:-9223372036854775808≤n) (h2:n<9223372036854775808):Rets Tryz.prog 124 [.d (.int .i64 n)] (fun r=>r=.agg (wcs (pushW (numE n)))):=by
  refine fna Tryz.func124 Tryz.ntmps124 (rs:=[.cell 2 159]) (by simp [AV.deep,AV.deep1]) ?_
  have hl:=numE_len n
  simp [go_sem]
  refine cl_eq (enc_fn n h1 h2) (by simp [AV.deep,AV.deep1]) ?_
  simp [go_sem]
  refine cl_eq (push_fn (numE n) (by omega) (numE_bytes n)) (by simp [AV.deep,AV.deep1]) ?_
  generalize pushW (numE n)=w
  simp [go_sem,wcs,resV]
  exact post_same (by simp [AV.deep,AV.deep1]) rfl
theorem op_fn (n:Nat):Rets Tryz.prog 84 [.d (.int .u8 (n:Int))] (fun r=>r=.agg (wcs (n,[]))):=by
  refine fna Tryz.func84 Tryz.ntmps84 (rs:=[.cell 2 159]) (by simp [AV.deep,AV.deep1]) ?_
  simp [go_sem,wcs,resV]
  refine post_agg (cs':=[.d (.int .u8 (n:Int)),.d (nb [])]) (fun i c c' h1 h2=>?_) rfl (by simp [AV.deep,AV.deep1]) rfl
  match i,h1,h2 with
  | 0,h1,h2=>simp at h1 h2;subst h1 h2;exact snap1_same trivial
  | 1,h1,h2=>simp at h1 h2;subst h1 h2;exact snap1_d (.nil 1)
  | k+2,h1,_=>simp at h1
theorem buildP_fn (ws:List Wd) (hw:∀ w,w ∈ ws→WdOk w∧(layW w).2=true) (hl:ws.length≤10000):Rets Tryz.prog 82 [.d (.ro 2 (ws.map encW))] (fun r=>r=.d (nb (catR ws))):=by
  refine fna Tryz.func82 Tryz.ntmps82 (rs:=[.tmp 2]) (by simp [AV.deep,AV.deep1]) ?_
  have hb:=build_fn ws (fun w h=>(hw w h).1) hl
  rw [bldW_cat ws [] (fun w h=>(hw w h).2),List.nil_append] at hb
  simp [go_sem]
  refine cl_eq hb (by simp [AV.deep,AV.deep1]) ?_
  simp [go_sem,resV]
  exact post_same (by simp [AV.deep,AV.deep1]) rfl
def planC (inner rec:List Nat) (d:Int) (trig:List Nat):List AV:=cb inner ++ ([.d (nb rec),.d (.int .i64 d)] ++ cb trig)
theorem planC_len {inner trig:List Nat} (hi:inner.length=32) (ht:trig.length=32) (rec:List Nat) (d:Int):(planC inner rec d trig).length=66:=by simp [planC,cb_len,hi,ht]
theorem planC_take {inner trig:List Nat} (hi:inner.length=32) (ht:trig.length=32) (rec:List Nat) (d:Int):List.take 66 (planC inner rec d trig)=planC inner rec d trig:=List.take_of_length_le (by rw [planC_len hi ht];exact Nat.le_refl _)
theorem planC_32 {inner:List Nat} (hi:inner.length=32) (rec:List Nat) (d:Int) (trig:List Nat):(planC inner rec d trig)[32]?=some (.d (nb rec)):=by
  unfold planC;rw [List.getElem?_append_right (by rw [cb_len];omega),cb_len,hi];rfl
theorem planC_33 {inner:List Nat} (hi:inner.length=32) (rec:List Nat) (d:Int) (trig:List Nat):(planC inner rec d trig)[33]?=some (.d (.int .i64 d)):=by
  unfold planC;rw [List.getElem?_append_right (by rw [cb_len];omega),cb_len,hi];rfl
theorem planC_32g {inner:List Nat} (hi:inner.length=32) (rec:List Nat) (d:Int) (trig:List Nat) (hl:32<(planC inner rec d trig).length):(planC inner rec d trig)[32]=.d (nb rec):=by
  have:=planC_32 hi rec d trig
  rw [List.getElem?_eq_getElem hl] at this
  exact Option.some.inj this
theorem planC_33g {inner:List Nat} (hi:inner.length=32) (rec:List Nat) (d:Int) (trig:List Nat) (hl:33<(planC inner rec d trig).length):(planC inner rec d trig)[33]=.d (.int .i64 d):=by
  have:=planC_33 hi rec d trig
  rw [List.getElem?_eq_getElem hl] at this
  exact Option.some.inj this
theorem planC_in {inner:List Nat} (hi:inner.length=32) (rec:List Nat) (d:Int) (trig:List Nat):List.take 32 (planC inner rec d trig)=cb inner:=by
  unfold planC
  rw [List.take_append_of_le_length (by rw [cb_len,hi];exact Nat.le_refl _),cb_take hi]
theorem planC_deep (inner rec:List Nat) (d:Int) (trig:List Nat):(AV.agg (planC inner rec d trig)).deep:=by
  intro c hc
  unfold planC at hc
  rcases List.mem_append.1 hc with h | h
  · exact cb_deep _ _ h
  · rcases List.mem_append.1 h with h | h
    · simp at h;rcases h with rfl | rfl <;> trivial
    · exact cb_deep _ _ h
theorem planC_d1 (inner rec:List Nat) (d:Int) (trig:List Nat):∀ v,v ∈ [AV.agg (planC inner rec d trig)]→v.deep:=by
  intro v hv;simp at hv;subst hv;exact planC_deep _ _ _ _
theorem may_fn (inner rec:List Nat) (d:Int) (trig:List Nat) (hi:inner.length=32) (ht:trig.length=32):Rets Tryz.prog 46 [.agg (planC inner rec d trig)] (fun r=>r=.d (.bool (decide (0≤d∧d≤65535∧rec.length≤1000)))):=by
  refine fna Tryz.func46 Tryz.ntmps46 (rs:=[.tmp 2]) (planC_d1 _ _ _ _) ?_
  have hl:=planC_len hi ht rec d
  have g32:=planC_32g hi rec d trig
  have g33:=planC_33g hi rec d trig
  have e32:=planC_32 hi rec d trig
  have e33:=planC_33 hi rec d trig
  by_cases h1:0≤d
  · by_cases h2:d≤65535
    · by_cases h3:rec.length≤1000
      · have i3:(rec.length:Int)≤1000:=by omega
        simp [go_sem,hl,planC_take hi ht,e32,e33,g32,g33,h1,h2,h3,i3,nb,resV]
        exact post_same (by simp [AV.deep,AV.deep1]) rfl
      · have i3:¬ (rec.length:Int)≤1000:=by omega
        simp [go_sem,hl,planC_take hi ht,e32,e33,g32,g33,h1,h2,h3,i3,nb,resV]
        exact post_same (by simp [AV.deep,AV.deep1]) rfl
    · simp [go_sem,hl,planC_take hi ht,e32,e33,g32,g33,h1,h2,nb,resV]
      exact post_same (by simp [AV.deep,AV.deep1]) rfl
  · simp [go_sem,hl,planC_take hi ht,e32,e33,g32,g33,h1,nb,resV]
    exact post_same (by simp [AV.deep,AV.deep1]) rfl
theorem recoveryP_fn (inner rec:List Nat) (d:Int) (trig:List Nat) (hi:inner.length=32) (ht:trig.length=32) (hr:rec.length≤100000):Rets Tryz.prog 48 [.agg (planC inner rec d trig)] (fun r=>r=.d (nb (catR (recW rec)))):=by
  refine fna Tryz.func48 Tryz.ntmps48 (rs:=[.tmp 2]) (planC_d1 _ _ _ _) ?_
  have hl:=planC_len hi ht rec d
  have g32:=planC_32g hi rec d trig
  have e32:=planC_32 hi rec d trig
  have hL:=recB_len rec
  simp [go_sem,hl,planC_take hi ht,e32,g32]
  refine cl_eq (recHash_fn rec hr) (by simp [AV.deep,AV.deep1]) ?_
  simp [go_sem,cb_len,hL,cb_take hL,z32_drop]
  refine cl_froz [160] (push_fn (recB rec) (by omega) (recB_bytes rec)) rfl (snap_cons (.one (snap1_d (snap_arr rfl (by simp) hL))) snap_nil) ?_
  have hok:=recW_ok rec
  have hRW:recW rec=[pushW (recB rec),(188,[])]:=rfl
  rw [hRW] at hok ⊢
  generalize pushW (recB rec)=w at *
  simp [go_sem,dropH]
  refine cl_eq (op_fn 188) (by simp [AV.deep,AV.deep1]) ?_
  simp [go_sem,wcs]
  refine cl_froz [320] (buildP_fn [w,(188,[])] hok (by simp)) rfl (snap_cons (.one (snap1_d (snap_row (ty:=159) (e:=2) (es:=[w,(188,[])].map encW) (by simp [lk,encW,wcs]) (by simp) rfl (by simp [encW])))) snap_nil) ?_
  simp [go_sem,resV]
  exact post_same (by simp [AV.deep,AV.deep1]) rfl
theorem waits_fn (inner rec:List Nat) (d:Int) (trig:List Nat) (hi:inner.length=32) (ht:trig.length=32) (h1:-9223372036854775808≤d) (h2:d<9223372036854775808):Rets Tryz.prog 85 [.agg (planC inner rec d trig)] (fun r=>r=.d (nb (catR (waitW d)))):=by
  refine fna Tryz.func85 Tryz.ntmps85 (rs:=[.tmp 2]) (planC_d1 _ _ _ _) ?_
  have hl:=planC_len hi ht rec d
  have g33:=planC_33g hi rec d trig
  have e33:=planC_33 hi rec d trig
  simp [go_sem,hl,planC_take hi ht,e33,g33]
  refine cl_eq (numW_fn d h1 h2) (by simp [AV.deep,AV.deep1]) ?_
  have hok:=waitW_ok d
  have hRW:waitW d=[pushW (numE d),(178,[]),(117,[]),(179,[])]:=rfl
  rw [hRW] at hok ⊢
  generalize pushW (numE d)=w at *
  simp [go_sem]
  refine cl_eq (op_fn 178) (by simp [AV.deep,AV.deep1]) ?_
  simp [go_sem]
  refine cl_eq (op_fn 117) (by simp [AV.deep,AV.deep1]) ?_
  simp [go_sem]
  refine cl_eq (op_fn 179) (by simp [AV.deep,AV.deep1]) ?_
  simp [go_sem,wcs]
  refine cl_froz [256] (buildP_fn [w,(178,[]),(117,[]),(179,[])] hok (by simp)) rfl (snap_cons (.one (snap1_d (snap_row (ty:=159) (e:=2) (es:=[w,(178,[]),(117,[]),(179,[])].map encW) (by simp [lk,encW,wcs]) (by simp) rfl (by simp [encW])))) snap_nil) ?_
  simp [go_sem,resV]
  exact post_same (by simp [AV.deep,AV.deep1]) rfl
def planD (inner rec:List Nat) (d:Int) (trig:List Nat):List DV:=cd inner ++ ([nb rec,.int .i64 d] ++ cd trig)
theorem planD_map (inner rec:List Nat) (d:Int) (trig:List Nat):(planD inner rec d trig).map AV.d=planC inner rec d trig:=by simp [planD,planC,cd_map]
theorem planD_len {inner trig:List Nat} (hi:inner.length=32) (ht:trig.length=32) (rec:List Nat) (d:Int):(planD inner rec d trig).length=66:=by simp [planD,cd_len,hi,ht]
theorem planD_tr {inner trig:List Nat} (hi:inner.length=32) (ht:trig.length=32) (rec:List Nat) (d:Int):List.drop 34 (planD inner rec d trig)=cd trig:=by
  unfold planD
  rw [← List.append_assoc,List.drop_append,List.drop_eq_nil_of_le (by simp [cd_len,hi]),List.nil_append]
  simp [cd_len,hi]
theorem triggerP_fn (inner rec:List Nat) (d:Int) (trig:List Nat) (hi:inner.length=32) (ht:trig.length=32) (hb:bytes trig) (h1:-9223372036854775808≤d) (h2:d<9223372036854775808):Rets Tryz.prog 49 [.agg (planC inner rec d trig)] (fun r=>r=.d (nb (catR (trigW trig d)))):=by
  refine fn_of_sem Tryz.func49 (by kernel_rfl) rfl Tryz.ntmps49 (rs:=[.tmp 2]) rfl (nlb rfl) (planC_d1 _ _ _ _) ?_
  have hl:=planC_len hi ht rec d
  refine sem_seq (sem_of_awp ?_)
  simp [go_sem,hl,planC_take hi ht]
  simp only [SeqK]
  refine sem_wk (st':=⟨[(1,.rop (planD inner rec d trig))],[],9000⟩) (weakF_of [0] [(1,.rop (planD inner rec d trig))] ?_ ?_) ?_
  · intro p hp
    simp only [List.mem_cons,List.mem_nil_iff,or_false] at hp
    subst hp
    exact .ptr (by simp) rfl rfl rfl (by rw [List.drop_zero,← planD_map];exact cells_map _)
  · simp [Weak,slotOk,fv,lk,dropH,AV.low,AV.low1]
  refine sem_of_awp ?_
  have hdl:=planD_len hi ht rec d
  have hdt:=planD_tr hi ht rec d
  have hcl:=waitC_len d
  simp [go_sem]
  refine drw2 [0,1,4] [(2,[]),(3,[]),(5,[]),(6,[]),(7,[]),(8,[]),(9,[]),(10,[11])] 8 (k:=12) ?_
  intro G hG
  have hts:List.map (fun c=>[c]) (List.take 32 (cd trig))=trig.map fun (b:Nat)=>[DV.int .u8 (b:Int)]:=by
    rw [List.take_of_length_le (by simp [cd_len,ht])]
    simp [cd]
  simp [go_sem,hdl,hdt,cd_len,ht,planD_map,planC_take hi ht,hts,hl]
  have p1:=push_fn trig (by omega) hb
  have p2:=push_fn (catR (waitW d)) (by omega) (waitC_bytes d)
  have hok:=trigW_ok d ht hb
  have hRW:trigW trig d=[pushW trig,(173,[]),pushW (catR (waitW d)),(81,[]),(187,[])]:=rfl
  rw [hRW] at hok
  rw [hRW] at hG
  have hw:=waits_fn inner rec d trig hi ht h1 h2
  generalize catR (waitW d)=W at *
  generalize pushW trig=w at *
  generalize pushW W=v at *
  simp only [nb] at p1
  refine cl_eq p1 (by simp [AV.deep,AV.deep1]) ?_
  simp [go_sem]
  refine cl_eq (op_fn 173) (by simp [AV.deep,AV.deep1]) ?_
  simp [go_sem]
  refine cl_eq hw (planC_d1 _ _ _ _) ?_
  simp [go_sem]
  refine cl_eq p2 (by simp [AV.deep,AV.deep1]) ?_
  simp [go_sem]
  refine cl_eq (op_fn 81) (by simp [AV.deep,AV.deep1]) ?_
  simp [go_sem]
  refine cl_eq (op_fn 187) (by simp [AV.deep,AV.deep1]) ?_
  simp [go_sem,wcs]
  refine cl_froz [9288] (buildP_fn [w,(173,[]),v,(81,[]),(187,[])] hok (by simp)) rfl (snap_cons (.one (snap1_d (snap_row (ty:=159) (e:=2) (es:=[w,(173,[]),v,(81,[]),(187,[])].map encW) (by simp [lk,encW,wcs]) (by simp) rfl (by simp [encW])))) snap_nil) ?_
  simp [go_sem]
  refine hG _ _ ?_
  clear hG G
  simp [go_sem,resV]
  exact post_same (by simp [AV.deep,AV.deep1]) rfl
def drawW (t:List Nat) (d:Int):List Wd:=pushW t :: waitW d
theorem updW_one (t:List Nat) (d:Int) (ht:t.length=32):updW [t] (catR (waitW d))=(catR (drawW t d),0):=by
  have hl:=waitC_len d
  have h1:=updL_cat [t] [] (by intro x hx;simp at hx;subst hx;omega)
  have h2:catR (wdsT [t]) ++ catR (waitW d)=catR (drawW t d):=by simp [catR,wdsT,drawW]
  have h3:(catR (wdsT [t])).length≤35:=by
    have:=catR_lenW (wdsT [t]) 32 (by
      intro w hw
      simp [wdsT] at hw
      subst hw
      have:=pushW_len t
      omega)
    simpa [wdsT] using this
  unfold updW
  rw [h1]
  simp only [List.nil_append]
  rw [if_neg (by simp only [List.length_append];omega),h2]
theorem two_deep (inner rec:List Nat) (d:Int) (trig t:List Nat):∀ v,v ∈ [AV.agg (planC inner rec d trig),.agg (cb t)]→v.deep:=by
  intro v hv;simp at hv
  rcases hv with rfl | rfl
  · exact planC_deep _ _ _ _
  · exact cb_deep _
theorem planC_low (inner rec:List Nat) (d:Int) (trig:List Nat) (n:Nat):∀ c,c ∈ planC inner rec d trig→AV.low1 n c:=by
  rw [← planD_map]
  intro c hc
  obtain ⟨x,_,rfl⟩:=List.mem_map.1 hc
  trivial
theorem withdrawal_fn (inner rec:List Nat) (d:Int) (trig t:List Nat) (hi:inner.length=32) (ht:trig.length=32) (htl:t.length=32) (htb:bytes t) (h1:-9223372036854775808≤d) (h2:d<9223372036854775808) :
    Rets Tryz.prog 62 [.agg (planC inner rec d trig),.agg (cb t)] (fun r=>r=.tup [.d (nb (catR (drawW t d))),.d (.int .i64 0)]):=by
  refine fn_of_sem Tryz.func62 (by kernel_rfl) rfl Tryz.ntmps62 (rs:=[.tmp 4,.tmp 5]) rfl (nlb rfl) (two_deep _ _ _ _ _) ?_
  have hl:=planC_len hi ht rec d
  refine sem_seq (sem_of_awp ?_)
  simp [go_sem,hl,planC_take hi ht,cb_len,htl,cb_take htl]
  simp only [SeqK]
  refine sem_wk (st':=⟨[(2,.ptr 0 0 0 1),(3,.rop (cd t))],[(0,⟨31,66,[planC inner rec d trig]⟩)],9000⟩) (weakF_of [32] [(3,.rop (cd t))] ?_ ?_) ?_
  · intro p hp
    simp only [List.mem_cons,List.mem_nil_iff,or_false] at hp
    subst hp
    exact .ptr (by simp) rfl rfl rfl (by rw [List.drop_zero,← cd_map];exact cells_map _)
  · simp [Weak,slotOk,fv,lk,dropH,AV.low,AV.low1]
    exact planC_low _ _ _ _ _
  refine sem_of_awp ?_
  simp [go_sem]
  have hts:List.map (fun c=>[c]) (List.take 32 (cd t))=t.map fun (b:Nat)=>[DV.int .u8 (b:Int)]:=by
    rw [List.take_of_length_le (by simp [cd_len,htl])]
    simp [cd]
  have hw:=waits_fn inner rec d trig hi ht h1 h2
  have hu:=updated_fn [t] (catR (waitW d)) (by simp) (by intro x hx;simp at hx;subst hx;exact ⟨by omega,htb⟩) (by have:=waitC_len d;omega)
  rw [updW_one t d htl] at hu
  generalize catR (waitW d)=W at *
  generalize catR (drawW t d)=Y at *
  refine drw3 [0,2] [1,3,4] [0,2,5,6,7,8] (.alt (.step 1 [] true (.step 3 [] true (.step 4 [5,6,7,8] true .done))) (.step 3 [] true (.step 1 [] true (.step 4 [5,6,7,8] true .done)))) ⟨[(4,.d (nb Y)),(5,.d (.int .i64 0))],[],20000⟩ (k:=9) ?h3 ?hq
  case h3 =>
    intro G hG
    have hW:∀ (fr:Fr) (hp:Hp),(fv 4 fr=.d (nb Y)∧fv 5 fr=.d (.int .i64 0))→G fr hp:=by
      rintro fr hp ⟨q0,q1⟩
      refine hG _ _ (weak_wk ⟨?_,by simp,by simp⟩)
      simp [slotOk,AV.low,AV.low1,q0,q1]
    have hr:∀ hp,lk 9032 hp=some ⟨29,1,[[.d (nb t)]]⟩→Snap1 hp (fun i=>i ∈ [9032]) (.own 9032 0 1 1) (.d (.ro 1 ([t].map encT))):=fun hp h=>snap1_d (snap_row (ty:=29) (e:=1) (es:=[t].map encT) (by simp [h,encT,nb]) (by simp) rfl (by simp [encT]))
    simp [go_sem,cd_len,htl,hts,hl,planC_take hi ht]
    refine ⟨?_,?_⟩
    all_goals
      refine cl_eq hw (planC_d1 _ _ _ _) ?_
      simp [go_sem]
      refine cl_froz [9032] hu rfl (snap_cons (.one (hr _ (by simp [lk,nb]))) (snap_cons (.deep (by simp [AV.deep,AV.deep1])) snap_nil)) ?_
      simp [go_sem,dropH]
      refine hW _ _ ?_
      simp [fv,lk]
  case hq =>
    simp [go_sem,resV]
    exact post_same (by simp [AV.deep,AV.deep1]) rfl
theorem plantV_cases (inner:List Nat) (xs:List (List Nat)) (E:Lf→Int):plantV inner xs E=.tup [.nil,.d (.int .i64 1)] ∨ ∃ es,plantV inner xs E=.tup [.d (.ro 34 es),.d (.int .i64 0)]:=by
  unfold plantV
  split
  · exact .inl rfl
  · exact .inr ⟨_,rfl⟩
def leavesV (inner rec:List Nat) (d:Int) (trig:List Nat) (E:Lf→Int):AV :=
  if 0≤d∧d≤65535∧rec.length≤1000 then plantV inner [catR (recW rec),catR (trigW trig d)] E else .tup [.nil,.d (.int .i64 1)]
theorem recC_len (rec:List Nat):(catR (recW rec)).length≤70:=by
  have hL:=recB_len rec
  have:=catR_lenW (recW rec) 32 (by
    intro w hw
    simp [recW] at hw
    rcases hw with rfl | rfl
    · have:=pushW_len (recB rec);omega
    · simp)
  simpa [recW] using this
theorem drawC_len {t:List Nat} (d:Int) (ht:t.length=32):(catR (drawW t d)).length≤175:=by
  have hl:=numE_len d
  have:=catR_lenW (drawW t d) 32 (by
    intro w hw
    simp [drawW,waitW] at hw
    rcases hw with rfl | rfl | rfl | rfl | rfl
    · have:=pushW_len t;omega
    · have:=pushW_len (numE d);omega
    all_goals simp)
  simpa [drawW,waitW] using this
theorem trigC_len {trig:List Nat} (d:Int) (ht:trig.length=32):(catR (trigW trig d)).length≤255:=by
  have hl:=waitC_len d
  have:=catR_lenW (trigW trig d) 48 (by
    intro w hw
    simp [trigW] at hw
    rcases hw with rfl | rfl | rfl | rfl | rfl
    · have:=pushW_len trig;omega
    · simp
    · have:=pushW_len (catR (waitW d));omega
    all_goals simp)
  simpa [trigW] using this
theorem leavesP_fn (inner rec:List Nat) (d:Int) (trig:List Nat) (hi:inner.length=32) (ht:trig.length=32) (hb:bytes trig) (h1:-9223372036854775808≤d) (h2:d<9223372036854775808) (O:Lf→List Nat) (E:Lf→Int)
    (hout:∀ l,l ∈ lvL (pathsF [catR (recW rec),catR (trigW trig d)]) [catR (recW rec),catR (trigW trig d)]→Rets Tryz.prog 31 [.agg (leafC inner (.d (hs32 l.1)) (.d (nb l.2)))] (fun r=>r=.tup [.d (nb (O l)),.d (.int .i64 (E l))])) :
    Rets Tryz.prog 29 [.agg (planC inner rec d trig)] (fun r=>r=leavesV inner rec d trig E):=by
  refine fna Tryz.func29 Tryz.ntmps29 (rs:=[.tmp 2,.tmp 3]) (planC_d1 _ _ _ _) ?_
  have hl:=planC_len hi ht rec d
  unfold leavesV
  simp [go_sem,hl,planC_take hi ht]
  refine cl_eq (may_fn inner rec d trig hi ht) (planC_d1 _ _ _ _) ?_
  by_cases hm:0≤d∧d≤65535∧rec.length≤1000
  · rw [if_pos hm]
    have hpl:=plant_fn inner [catR (recW rec),catR (trigW trig d)] hi (by
      intro x hx;simp at hx
      rcases hx with rfl | rfl
      · have:=recC_len rec;omega
      · have:=trigC_len d ht;omega) clone_fnV O E hout
    have p1:=recoveryP_fn inner rec d trig hi ht (by omega)
    have p2:=triggerP_fn inner rec d trig hi ht hb h1 h2
    simp only [decide_eq_true hm]
    generalize catR (recW rec)=x at *
    generalize catR (trigW trig d)=y at *
    have hPV:=plantV_cases inner [x,y] E
    generalize plantV inner [x,y] E=PV at *
    simp [go_sem]
    refine drw2 [0,1,2,4] [(3,[]),(5,[]),(6,[]),(7,[8,9,10,11])] 4 (k:=12) ?_
    intro G hG
    simp [go_sem,hl,planC_take hi ht,planC_in hi]
    refine cl_eq p1 (planC_d1 _ _ _ _) ?_
    simp [go_sem,hl,planC_take hi ht]
    refine cl_eq p2 (planC_d1 _ _ _ _) ?_
    simp [go_sem]
    refine cl_froz [384] hpl rfl (snap_cons (.deep (cb_deep _)) (snap_cons (.one (snap1_d (snap_row (ty:=29) (e:=1) (es:=[x,y].map encS) (by simp [lk,encS,nb]) (by simp) rfl (by simp [encS])))) snap_nil)) ?_
    rcases hPV with rfl | ⟨es,rfl⟩
    · simp [go_sem,dropH]
      refine hG _ _ ?_
      clear hG G
      simp [go_sem,resV]
      exact post_same (by simp [AV.deep,AV.deep1]) rfl
    · simp [go_sem,dropH]
      refine hG _ _ ?_
      clear hG G
      simp [go_sem,resV]
      exact post_same (by simp [AV.deep,AV.deep1]) rfl
  · rw [if_neg hm]
    simp only [decide_eq_false hm]
    simp [go_sem,resV]
    exact post_same (by simp [AV.deep,AV.deep1]) rfl
def okV (v:AV):Bool:=match v with
  | .tup [.d _,_]=>true
  | _=>false
def erV (v:AV):AV:=match v with
  | .tup [_,e]=>e
  | _=>v
theorem checkP_fn (inner rec:List Nat) (d:Int) (trig:List Nat) (hi:inner.length=32) (ht:trig.length=32) (V:AV) (hV:V=.tup [.nil,.d (.int .i64 1)] ∨ ∃ es,V=.tup [.d (.ro 34 es),.d (.int .i64 0)])
    (hp:Rets Tryz.prog 29 [.agg (planC inner rec d trig)] (fun r=>r=V)) :
    Rets Tryz.prog 61 [.agg (planC inner rec d trig)] (fun r=>r=erV V):=by
  refine fna Tryz.func61 Tryz.ntmps61 (rs:=[.tmp 2]) (planC_d1 _ _ _ _) ?_
  have hl:=planC_len hi ht rec d
  rcases hV with rfl | ⟨es,rfl⟩
  · simp [go_sem,hl,planC_take hi ht]
    refine cl_eq hp (planC_d1 _ _ _ _) ?_
    simp [go_sem,resV]
    exact post_same (by simp [AV.deep,AV.deep1]) rfl
  · simp [go_sem,hl,planC_take hi ht]
    refine cl_eq hp (planC_d1 _ _ _ _) ?_
    simp [go_sem,resV]
    exact post_same (by simp [AV.deep,AV.deep1]) rfl
theorem pendingP_fn (inner rec:List Nat) (d:Int) (trig t:List Nat) (hi:inner.length=32) (ht:trig.length=32) (htl:t.length=32) (htb:bytes t) (h1:-9223372036854775808≤d) (h2:d<9223372036854775808) (V:AV) (hr:V=.tup [.nil,.d (.int .i64 1)] ∨ rec.length≤1000∧∃ es,V=.tup [.d (.ro 34 es),.d (.int .i64 0)])
    (hp:Rets Tryz.prog 29 [.agg (planC inner rec d trig)] (fun r=>r=V)) (O:Lf→List Nat) (E:Lf→Int)
    (hout:∀ l,l ∈ lvL (pathsF [catR (recW rec),catR (drawW t d)]) [catR (recW rec),catR (drawW t d)]→Rets Tryz.prog 31 [.agg (leafC inner (.d (hs32 l.1)) (.d (nb l.2)))] (fun r=>r=.tup [.d (nb (O l)),.d (.int .i64 (E l))])) :
    Rets Tryz.prog 34 [.agg (planC inner rec d trig),.agg (cb t)] (fun r=>r=if okV V then plantV inner [catR (recW rec),catR (drawW t d)] E else .tup [.nil,.d (.int .i64 1)]):=by
  refine fna Tryz.func34 Tryz.ntmps34 (rs:=[.tmp 4,.tmp 5]) (two_deep _ _ _ _ _) ?_
  have hl:=planC_len hi ht rec d
  have hc:=checkP_fn inner rec d trig hi ht V (hr.imp id (fun h=>h.2)) hp
  have hwd:=withdrawal_fn inner rec d trig t hi ht htl htb h1 h2
  rcases hr with rfl | ⟨hrl,es,rfl⟩
  · simp [go_sem,hl,planC_take hi ht,cb_len,htl,cb_take htl]
    refine cl_eq hc (planC_d1 _ _ _ _) ?_
    simp [go_sem,erV,okV,resV]
    exact post_same (by simp [AV.deep,AV.deep1]) rfl
  · have hpl:=plant_fn inner [catR (recW rec),catR (drawW t d)] hi (by
      intro x hx;simp at hx
      rcases hx with rfl | rfl
      · have:=recC_len rec;omega
      · have:=drawC_len d htl;omega) clone_fnV O E hout
    have p1:=recoveryP_fn inner rec d trig hi ht (by omega)
    generalize catR (recW rec)=x at *
    generalize catR (drawW t d)=y at *
    have hPV:=plantV_cases inner [x,y] E
    generalize plantV inner [x,y] E=PV at *
    simp [go_sem,hl,planC_take hi ht,cb_len,htl,cb_take htl]
    refine cl_eq hc (planC_d1 _ _ _ _) ?_
    simp [go_sem,erV,okV,hl,planC_take hi ht,cb_len,htl,cb_take htl]
    refine cl_eq hwd (two_deep _ _ _ _ _) ?_
    simp [go_sem]
    refine drw2 [0,1,2,4] [(3,[]),(5,[]),(6,[7,8,9,10])] 3 (k:=11) ?_
    intro G hG
    simp [go_sem,hl,planC_take hi ht,planC_in hi]
    refine cl_eq p1 (planC_d1 _ _ _ _) ?_
    simp [go_sem,hl,planC_take hi ht]
    refine cl_froz [768] hpl rfl (snap_cons (.deep (cb_deep _)) (snap_cons (.one (snap1_d (snap_row (ty:=29) (e:=1) (es:=[x,y].map encS) (by simp [lk,encS,nb]) (by simp) rfl (by simp [encS])))) snap_nil)) ?_
    rcases hPV with rfl | ⟨es,rfl⟩
    · simp [go_sem,dropH]
      refine hG _ _ ?_
      clear hG G
      simp [go_sem,resV]
      exact post_same (by simp [AV.deep,AV.deep1]) rfl
    · simp [go_sem,dropH]
      refine hG _ _ ?_
      clear hG G
      simp [go_sem,resV]
      exact post_same (by simp [AV.deep,AV.deep1]) rfl
open Go.Am Go.Sha Go.Ec
theorem recC_bytesV (rec:List Nat):bytes (catR (recW rec)):=catR_bytes (fun w hw=>by
  have:=recW_ok rec w hw
  have hL:=recB_len rec
  refine ⟨this.2,this.1.2,?_⟩
  simp [recW] at hw
  rcases hw with rfl | rfl
  · exact pushW_bytes (recB_bytes rec)
  · exact fun z hz=>by simp at hz)
theorem trigC_bytesV {trig:List Nat} (d:Int) (ht:trig.length=32) (hb:bytes trig):bytes (catR (trigW trig d)):=catR_bytes (fun w hw=>by
  have:=trigW_ok d ht hb w hw
  refine ⟨this.2,this.1.2,?_⟩
  simp [trigW] at hw
  rcases hw with rfl | rfl | rfl | rfl | rfl
  · exact pushW_bytes hb
  · exact fun z hz=>by simp at hz
  · exact pushW_bytes (waitC_bytes d)
  all_goals exact fun z hz=>by simp at hz)
theorem drawW_okV {t:List Nat} (d:Int) (ht:t.length=32) (hb:bytes t):∀ w,w ∈ drawW t d→WdOk w∧(layW w).2=true:=by
  intro w hw
  simp only [drawW,List.mem_cons] at hw
  rcases hw with rfl | hw
  · exact ⟨pushW_ok (by omega) hb,push_ok (by omega)⟩
  · exact waitW_ok d w hw
theorem drawC_bytesV {t:List Nat} (d:Int) (ht:t.length=32) (hb:bytes t):bytes (catR (drawW t d)):=catR_bytes (fun w hw=>by
  have:=drawW_okV d ht hb w hw
  refine ⟨this.2,this.1.2,?_⟩
  simp [drawW,waitW] at hw
  rcases hw with rfl | rfl | rfl | rfl | rfl
  · exact pushW_bytes hb
  · exact pushW_bytes (numE_bytes d)
  all_goals exact fun z hz=>by simp at hz)
def twoV (inner X Z:List Nat) (V:AV):Prop:=V=.tup [.nil,.d (.int .i64 1)] ∨ ∃ (p q:List (List Nat)) (a:List Nat),
  V=.tup [.d (.ro 34 [leafE inner (p,X),leafE inner (q,Z)]),.d (.int .i64 0)]∧a.length=34∧bytes a∧Rets Tryz.prog 31 [.agg (leafC inner (.d (hs32 p)) (.d (nb X)))] (fun r=>r=.tup [.d (nb a),.d (.int .i64 0)])
theorem two_ex (inner X Z:List Nat) (hi:inner.length=32) (hib:bytes inner) (hX:X.length≤100000) (hZ:Z.length≤100000) :
    ∃ (O:Lf→List Nat) (E:Lf→Int),(∀ l,l ∈ lvL (pathsF [X,Z]) [X,Z]→Rets Tryz.prog 31 [.agg (leafC inner (.d (hs32 l.1)) (.d (nb l.2)))] (fun r=>r=.tup [.d (nb (O l)),.d (.int .i64 (E l))]))∧twoV inner X Z (plantV inner [X,Z] E):=by
  obtain ⟨O,E,h⟩:=planted inner [X,Z] hi hib (by
    intro x hx;simp at hx
    rcases hx with rfl | rfl <;> omega)
  refine ⟨O,E,fun l hl=>(h l hl).2,?_⟩
  unfold plantV
  split
  · exact .inl rfl
  · rename_i hb
    right
    have hm:((pathsF [X,Z] 0,X):Lf) ∈ lvL (pathsF [X,Z]) [X,Z]:=by simp [lvL]
    obtain ⟨h1,h2⟩:=h _ hm
    have hE:E (pathsF [X,Z] 0,X)=0:=by
      simp only [not_or,Bool.not_eq_true] at hb
      have:=hb.2.2
      unfold badL at this
      rw [List.any_eq_false] at this
      have:=this _ hm
      simpa using this
    rw [hE] at h1 h2
    rcases h1 with ⟨_,k,o,hk,hkb,hO,_⟩ | ⟨h0,_⟩
    · refine ⟨pathsF [X,Z] 0,pathsF [X,Z] 1,O (pathsF [X,Z] 0,X),by simp [lvL],by rw [hO];simp [hk],?_,h2⟩
      rw [hO]
      intro z hz
      rcases List.mem_cons.1 hz with rfl | hz
      · omega
      · rcases List.mem_cons.1 hz with rfl | hz
        · omega
        · exact hkb z hz
    · cases h0
theorem leaves_ex (inner rec:List Nat) (d:Int) (trig:List Nat) (hi:inner.length=32) (hib:bytes inner) (ht:trig.length=32) (htb:bytes trig) (h1:-9223372036854775808≤d) (h2:d<9223372036854775808) :
    ∃ V,Rets Tryz.prog 29 [.agg (planC inner rec d trig)] (fun r=>r=V)∧twoV inner (catR (recW rec)) (catR (trigW trig d)) V∧(V ≠ .tup [.nil,.d (.int .i64 1)]→0≤d∧d≤65535∧rec.length≤1000):=by
  have l1:=recC_len rec
  have l2:=trigC_len d ht
  obtain ⟨O,E,hO,hV⟩:=two_ex inner (catR (recW rec)) (catR (trigW trig d)) hi hib (by omega) (by omega)
  refine ⟨_,leavesP_fn inner rec d trig hi ht htb h1 h2 O E hO,?_,?_⟩
  · unfold leavesV
    split
    · exact hV
    · exact .inl rfl
  · intro hn
    unfold leavesV at hn
    split at hn
    · assumption
    · exact absurd rfl hn
theorem pend_ex (inner rec:List Nat) (d:Int) (trig t:List Nat) (hi:inner.length=32) (hib:bytes inner) (ht:trig.length=32) (htb:bytes trig) (h1:-9223372036854775808≤d) (h2:d<9223372036854775808) (htl:t.length=32) (httb:bytes t) :
    ∃ V,Rets Tryz.prog 34 [.agg (planC inner rec d trig),.agg (cb t)] (fun r=>r=V)∧twoV inner (catR (recW rec)) (catR (drawW t d)) V:=by
  have l1:=recC_len rec
  have l2:=drawC_len d htl
  obtain ⟨V,hV,hV2,hV3⟩:=leaves_ex inner rec d trig hi hib ht htb h1 h2
  obtain ⟨O,E,hO,hP⟩:=two_ex inner (catR (recW rec)) (catR (drawW t d)) hi hib (by omega) (by omega)
  have hr:V=.tup [.nil,.d (.int .i64 1)] ∨ rec.length≤1000∧∃ es,V=.tup [.d (.ro 34 es),.d (.int .i64 0)]:=by
    by_cases hn:V=.tup [.nil,.d (.int .i64 1)]
    · exact .inl hn
    · rcases hV2 with h | ⟨p,q,a,h,_⟩
      · exact .inl h
      · exact .inr ⟨(hV3 hn).2.2,_,h⟩
  refine ⟨_,pendingP_fn inner rec d trig t hi ht htl httb h1 h2 V hr hV O E hO,?_⟩
  split
  · exact hP
  · exact .inl rfl
theorem wtC_len {w:Wt} (h:w.ok):(wtC w).length=69:=by
  obtain ⟨h1,_,_,_,_,h2,_⟩:=h
  simp [wtC,plC_len h1 h2]
theorem wtC_take {w:Wt} (h:w.ok):List.take 69 (wtC w)=wtC w:=List.take_of_length_le (by rw [wtC_len h];exact Nat.le_refl _)
theorem wtC_plan {w:Wt} (h:w.ok):List.take 66 (wtC w)=planC w.inner w.rcv w.d w.trig:=by
  obtain ⟨h1,_,_,_,_,h2,_⟩:=h
  unfold wtC
  rw [List.take_append_of_le_length (by rw [plC_len h1 h2];exact Nat.le_refl _),plC_take h1 h2];rfl
theorem wtC_at {w:Wt} (h:w.ok) (k:Nat):(wtC w)[66+k]?=[AV.d (nb w.out),.d (nb w.rs),.d (nb w.ts)][k]?:=by
  obtain ⟨h1,_,_,_,_,h2,_⟩:=h
  unfold wtC;rw [List.getElem?_append_right (by rw [plC_len h1 h2];omega),plC_len h1 h2,show 66+k - 66=k by omega]
theorem wtC_e66 {w:Wt} (h:w.ok):(wtC w)[66]?=some (.d (nb w.out)):=wtC_at h 0
theorem wtC_e67 {w:Wt} (h:w.ok):(wtC w)[67]?=some (.d (nb w.rs)):=wtC_at h 1
theorem wtC_e68 {w:Wt} (h:w.ok):(wtC w)[68]?=some (.d (nb w.ts)):=wtC_at h 2
theorem wtC_deep (w:Wt):(AV.agg (wtC w)).deep:=by
  intro c hc
  unfold wtC at hc
  rcases List.mem_append.1 hc with h | h
  · exact plC_deep _ _ _ _ c h
  · simp at h;rcases h with rfl | rfl | rfl <;> trivial
theorem enR_deep (e:En):(AV.agg (enR e)).deep:=enC_deep _ _ _ _ _ _ _
theorem two_d {a b:List AV} (h1:(AV.agg a).deep) (h2:(AV.agg b).deep):∀ v,v ∈ [AV.agg a,.agg b]→v.deep:=by
  intro v hv
  simp only [List.mem_cons,List.mem_nil_iff,or_false] at hv
  rcases hv with rfl | rfl
  · exact h1
  · exact h2
theorem leafC_deepV (inner:List Nat) (a b:DV):(AV.agg (leafC inner (.d a) (.d b))).deep:=by
  intro v hv
  unfold leafC at hv
  rcases List.mem_append.1 hv with h | h
  · exact cb_deep _ _ h
  · simp at h;rcases h with rfl | rfl <;> trivial
theorem pendOut_ex (w:Wt) (hw:w.ok) (t:List Nat) (htl:t.length=32) (httb:bytes t) :
    ∃ o:Option (List Nat),(∀ a,o=some a→a.length=34∧bytes a)∧Rets Tryz.prog 103 [.agg (wtC w),.agg (cb t)] (fun r=>r=match o with | none=>.nil | some a=>.d (nb a)):=by
  have hw2:=hw
  obtain ⟨k1,k2,k3,k4,k5,k6,k7,_⟩:=hw2
  obtain ⟨V,hV,hV2⟩:=pend_ex w.inner w.rcv w.d w.trig t k1 k2 k6 k7 k5.1 k5.2 htl httb
  have wl:=wtC_len hw
  have wp:=wtC_plan hw
  have pl:=planC_len k1 k6 w.rcv w.d
  have hd:=two_d (wtC_deep w) (cb_deep t)
  rcases hV2 with rfl | ⟨p,q,a,rfl,ha,hab,ho⟩
  · refine ⟨none,by simp,?_⟩
    refine fna Tryz.func103 Tryz.ntmps103 (rs:=[.tmp 4]) hd ?_
    simp [go_sem,wl,wp,pl,cb_len,htl,cb_take htl]
    refine cl_eq hV (two_d (planC_deep _ _ _ _) (cb_deep t)) ?_
    simp [go_sem,resV]
    exact post_same (by simp [AV.deep,AV.deep1]) rfl
  · refine ⟨some a,by intro b e;cases e;exact ⟨ha,hab⟩,?_⟩
    refine fna Tryz.func103 Tryz.ntmps103 (rs:=[.tmp 4]) hd ?_
    simp [go_sem,wl,wp,pl,cb_len,htl,cb_take htl]
    refine cl_eq hV (two_d (planC_deep _ _ _ _) (cb_deep t)) ?_
    simp [go_sem,leafE_map,leafE_len k1,leaf_lenE k1,leaf_takeE k1]
    refine cl_eq ho (by intro v hv;simp at hv;subst hv;exact leafC_deepV _ _ _) ?_
    simp [go_sem,resV]
    exact post_same (by simp [AV.deep,AV.deep1]) rfl
theorem isWd_ex (w:Wt) (hw:w.ok) (s t:List Nat) (hsb:bytes s) (htl:t.length=32) (httb:bytes t) :
    ∃ b:Bool,Rets Tryz.prog 140 [.agg (wtC w),.d (nb s),.agg (cb t)] (fun r=>r=.d (.bool b)):=by
  have hw2:=hw
  obtain ⟨k1,k2,k3,k4,k5,k6,k7,_⟩:=hw2
  obtain ⟨V,hV,hV2⟩:=pend_ex w.inner w.rcv w.d w.trig t k1 k2 k6 k7 k5.1 k5.2 htl httb
  have wl:=wtC_len hw
  have wp:=wtC_plan hw
  have pl:=planC_len k1 k6 w.rcv w.d
  have hd:∀ v,v ∈ [AV.agg (wtC w),.d (nb s),.agg (cb t)]→v.deep:=by
    intro v hv
    simp only [List.mem_cons,List.mem_nil_iff,or_false] at hv
    rcases hv with rfl | rfl | rfl
    · exact wtC_deep w
    · trivial
    · exact cb_deep t
  rcases hV2 with rfl | ⟨p,q,a,rfl,ha,hab,ho⟩
  · refine ⟨false,?_⟩
    refine fna Tryz.func140 Tryz.ntmps140 (rs:=[.tmp 6]) hd ?_
    simp [go_sem,wl,wp,pl,cb_len,htl,cb_take htl]
    refine cl_eq hV (two_d (planC_deep _ _ _ _) (cb_deep t)) ?_
    simp [go_sem,resV]
    exact post_same (by simp [AV.deep,AV.deep1]) rfl
  · refine ⟨decide (s=catR (drawW t w.d)),?_⟩
    refine fna Tryz.func140 Tryz.ntmps140 (rs:=[.tmp 6]) hd ?_
    have he:=equal_fn s (catR (drawW t w.d)) hsb (drawC_bytesV w.d htl httb)
    have l33:(leafC w.inner (.d (hs32 q)) (.d (nb (catR (drawW t w.d)))))[33]?=some (.d (nb (catR (drawW t w.d)))):=leaf33 k1 _ _
    have g33:=get_at l33
    generalize catR (drawW t w.d)=y at *
    simp [go_sem,wl,wp,pl,cb_len,htl,cb_take htl]
    refine cl_eq hV (two_d (planC_deep _ _ _ _) (cb_deep t)) ?_
    simp [go_sem,leafE_map,leafE_len k1,leaf_lenE k1,leaf_takeE k1,l33,g33]
    refine cl_eq he (by simp [AV.deep,AV.deep1]) ?_
    simp [go_sem,resV]
    exact post_same (by simp [AV.deep,AV.deep1]) rfl
def endOk (st s:Int):Prop:=s=3 ∨ s=6 ∨ (st=2∧s=5) ∨ (st=1∧s=4)
theorem end_ex (w:Wt) (hw:w.ok) {n:Nat} (e:En) (he:e.ok n) (ws:List (List Nat)) (hl:ws.length≤1000) (hb:∀ x,x ∈ ws→bytes x) :
    ∃ s:Int,endOk e.st s∧Rets Tryz.prog 102 [.agg (wtC w),.agg (enR e),.d (.ro 1 (ws.map encT))] (fun r=>r=.d (.int .i64 s)):=by
  have wl:=wtC_len hw
  have wt:=wtC_take hw
  have w67:=wtC_e67 hw
  have w68:=wtC_e68 hw
  have v67:=get_at w67
  have v68:=get_at w68
  have el:=enR_len he
  have e35:(enR e)[35]?=some (.d (.int .i64 e.st)):=enC_e35 he.1 _ _ _ _ _
  have g35:=get_at e35
  have a37:List.drop 37 (enR e)=cb e.tpl:=enC_37 he.1 _ _ _ _ _
  have hd:∀ v,v ∈ [AV.agg (wtC w),.agg (enR e),.d (.ro 1 (ws.map encT))]→v.deep:=by
    intro v hv
    simp only [List.mem_cons,List.mem_nil_iff,or_false] at hv
    rcases hv with rfl | rfl | rfl
    · exact wtC_deep w
    · exact enR_deep e
    · trivial
  have tl:=he.2.1
  by_cases h2:ws.length<2
  · refine ⟨6,.inr (.inl rfl),?_⟩
    refine fna Tryz.func102 Tryz.ntmps102 (rs:=[.tmp 6]) hd ?_
    have h2':(ws.length:Int)<2:=by omega
    simp [go_sem,wl,el,h2,h2',resV]
    exact post_same (by simp [AV.deep,AV.deep1]) rfl
  · obtain ⟨sc,hsc⟩:∃ x,ws[ws.length - 2]?=some x:=⟨_,List.getElem?_eq_getElem (by omega)⟩
    have hsb:=hb sc (List.mem_of_getElem? hsc)
    have w1:IntKind.i64.wrap ((ws.length:Int) - 2)=((ws.length - 2:Nat):Int):=by rw [IntWalk.i64_in _ (by omega)];omega
    have h2':¬ (ws.length:Int)<2:=by omega
    obtain ⟨k1,k2,k3,k4,k5,k6,k7,k8,k9,k10,k11,k12,k13⟩:=hw
    have q1:=equal_fn sc w.rs hsb k12
    have q2:=equal_fn sc w.ts hsb k13
    obtain ⟨bw,q3⟩:=isWd_ex w ⟨k1,k2,k3,k4,k5,k6,k7,k8,k9,k10,k11,k12,k13⟩ sc e.tpl hsb tl he.2.2.2.2.2.2.2
    have hd3:∀ v,v ∈ [AV.agg (wtC w),.d (nb sc),.agg (cb e.tpl)]→v.deep:=by
      intro v hv
      simp only [List.mem_cons,List.mem_nil_iff,or_false] at hv
      rcases hv with rfl | rfl | rfl
      · exact wtC_deep w
      · trivial
      · exact cb_deep _
    by_cases c1:sc=w.rs
    · refine ⟨3,.inl rfl,?_⟩
      refine fna Tryz.func102 Tryz.ntmps102 (rs:=[.tmp 6]) hd ?_
      simp [go_sem,wl,el,h2,h2',w1,hsc,encT,w67,v67]
      refine cl_eq q1 (by simp [AV.deep,AV.deep1]) ?_
      simp [go_sem,c1,resV]
      exact post_same (by simp [AV.deep,AV.deep1]) rfl
    · by_cases c2:e.st=2
      · cases bw with
        | true =>
          refine ⟨5,.inr (.inr (.inl ⟨c2,rfl⟩)),?_⟩
          refine fna Tryz.func102 Tryz.ntmps102 (rs:=[.tmp 6]) hd ?_
          simp [go_sem,wl,el,h2,h2',w1,hsc,encT,w67,v67]
          refine cl_eq q1 (by simp [AV.deep,AV.deep1]) ?_
          simp [go_sem,c1,c2,e35,g35,wt,wl,a37,cb_len,tl,cb_take tl,el]
          refine cl_eq q3 hd3 ?_
          simp [go_sem,resV]
          exact post_same (by simp [AV.deep,AV.deep1]) rfl
        | false =>
          refine ⟨6,.inr (.inl rfl),?_⟩
          refine fna Tryz.func102 Tryz.ntmps102 (rs:=[.tmp 6]) hd ?_
          simp [go_sem,wl,el,h2,h2',w1,hsc,encT,w67,v67]
          refine cl_eq q1 (by simp [AV.deep,AV.deep1]) ?_
          simp [go_sem,c1,c2,e35,g35,wt,wl,a37,cb_len,tl,cb_take tl,el]
          refine cl_eq q3 hd3 ?_
          simp [go_sem,e35,g35,c2,el,resV]
          exact post_same (by simp [AV.deep,AV.deep1]) rfl
      · by_cases c3:e.st=1
        · by_cases c4:sc=w.ts
          · refine ⟨4,.inr (.inr (.inr ⟨c3,rfl⟩)),?_⟩
            refine fna Tryz.func102 Tryz.ntmps102 (rs:=[.tmp 6]) hd ?_
            simp [go_sem,wl,el,h2,h2',w1,hsc,encT,w67,v67]
            refine cl_eq q1 (by simp [AV.deep,AV.deep1]) ?_
            simp [go_sem,c1,c2,c3,e35,g35,el,w68,v68,wl]
            refine cl_eq q2 (by simp [AV.deep,AV.deep1]) ?_
            simp [go_sem,c4,resV]
            exact post_same (by simp [AV.deep,AV.deep1]) rfl
          · refine ⟨6,.inr (.inl rfl),?_⟩
            refine fna Tryz.func102 Tryz.ntmps102 (rs:=[.tmp 6]) hd ?_
            simp [go_sem,wl,el,h2,h2',w1,hsc,encT,w67,v67]
            refine cl_eq q1 (by simp [AV.deep,AV.deep1]) ?_
            simp [go_sem,c1,c2,c3,e35,g35,el,w68,v68,wl]
            refine cl_eq q2 (by simp [AV.deep,AV.deep1]) ?_
            simp [go_sem,c4,resV]
            exact post_same (by simp [AV.deep,AV.deep1]) rfl
        · refine ⟨6,.inr (.inl rfl),?_⟩
          refine fna Tryz.func102 Tryz.ntmps102 (rs:=[.tmp 6]) hd ?_
          simp [go_sem,wl,el,h2,h2',w1,hsc,encT,w67,v67]
          refine cl_eq q1 (by simp [AV.deep,AV.deep1]) ?_
          simp [go_sem,c1,c2,c3,e35,g35,el,resV]
          exact post_same (by simp [AV.deep,AV.deep1]) rfl
theorem lives_fn {n:Nat} (e:En) (he:e.ok n):Rets Tryz.prog 101 [.agg (enR e)] (fun r=>r=.d (.bool (decide (e.st≤2)))):=by
  refine fna Tryz.func101 Tryz.ntmps101 (rs:=[.tmp 2]) (by
    intro v hv;simp at hv;subst hv;exact enR_deep e) ?_
  have el:=enR_len he
  have e35:(enR e)[35]?=some (.d (.int .i64 e.st)):=enC_e35 he.1 _ _ _ _ _
  have g35:=get_at e35
  simp [go_sem,el,e35,g35,resV]
  exact post_same (by simp [AV.deep,AV.deep1]) rfl
abbrev P4:=List Nat × List Nat × Int × List Nat
def okP (p:P4):Prop:=p.1.length=32∧bytes p.1∧bytes p.2.1∧(-9223372036854775808≤p.2.2.1∧p.2.2.1<9223372036854775808)∧p.2.2.2.length=32∧bytes p.2.2.2
def pcD (p:P4):List DV:=cd p.1 ++ ([nb p.2.1,.int .i64 p.2.2.1] ++ cd p.2.2.2)
def pcC (p:P4):List AV:=planC p.1 p.2.1 p.2.2.1 p.2.2.2
theorem pcD_map (p:P4):(pcD p).map AV.d=pcC p:=by simp [pcD,pcC,planC,cd_map]
def mkW (p:P4) (a:List Nat):Wt:=⟨p.1,p.2.1,p.2.2.1,p.2.2.2,a,catR (recW p.2.1),catR (trigW p.2.2.2 p.2.2.1)⟩
def zWt:List AV:=cb z32 ++ ([.nil,.d (.int .i64 0)] ++ (cb z32 ++ [.nil,.nil,.nil]))
theorem zWt_z:tzO Tryz.prog 111=some zWt:=by kernel_rfl
attribute [go_sem] zWt_z
theorem zWt_len:zWt.length=69:=rfl
theorem zWt_take:List.take 69 zWt=zWt:=rfl
theorem zWt_drop:List.drop 69 zWt=[]:=rfl
theorem zWt_drop66:List.drop 66 zWt=[.nil,.nil,.nil]:=rfl
theorem zWt_deep:(AV.agg zWt).deep:=by
  intro v hv
  unfold zWt at hv
  rcases List.mem_append.1 hv with h | h
  · exact cb_deep _ _ h
  · rcases List.mem_append.1 h with h | h
    · simp at h;rcases h with rfl | rfl <;> trivial
    · rcases List.mem_append.1 h with h | h
      · exact cb_deep _ _ h
      · simp at h;subst h;trivial
theorem set_same {l:List AV} {i:Nat} {v:AV} (h:l[i]?=some v):l.set i v=l:=by
  apply List.ext_getElem?
  intro j
  rw [List.getElem?_set]
  by_cases e:i=j
  · subst e
    have:=(List.getElem?_eq_some_iff.1 h).1
    rw [if_pos rfl,if_pos this,h]
  · rw [if_neg e]
theorem dropA {A l:List AV} {n k m:Nat} (hA:A.length=n) (hm:m=n+k):List.drop m (A ++ l)=List.drop k l:=by
  subst hm
  rw [List.drop_append,List.drop_eq_nil_of_le (by omega),List.nil_append,hA,Nat.add_sub_cancel_left]
theorem takeA {A l:List AV} {n k m:Nat} (hA:A.length=n) (hm:m=n+k):List.take m (A ++ l)=A ++ List.take k l:=by
  subst hm
  rw [List.take_append,List.take_of_length_le (by omega),hA,Nat.add_sub_cancel_left]
theorem mkW_C (p:P4) (a:List Nat):wtC (mkW p a)=pcC p ++ [.d (nb a),.d (nb (catR (recW p.2.1))),.d (nb (catR (trigW p.2.2.2 p.2.2.1)))]:=rfl
theorem tup_d {cs:List AV} {e:Int} (h:(AV.agg cs).deep):(AV.tup [.agg cs,.d (.int .i64 e)]).deep:=by
  intro c hc
  simp only [List.mem_cons,List.mem_nil_iff,or_false] at hc
  rcases hc with rfl | rfl
  · exact .inr ⟨_,rfl,h⟩
  · exact .inl trivial
theorem look_ex (p:P4) (hp:okP p):∃ o:Option (List Nat),(∀ a,o=some a→(mkW p a).ok∧a.length=34) ∧
    Rets Tryz.prog 40 [.agg (pcC p)] (fun r=>match o with | none=>r=.tup [.agg zWt,.d (.int .i64 1)] | some a=>r=.tup [.agg (wtC (mkW p a)),.d (.int .i64 0)]):=by
  obtain ⟨k1,k2,k3,k4,k5,k6⟩:=hp
  obtain ⟨V,hV,hV2,hV3⟩:=leaves_ex p.1 p.2.1 p.2.2.1 p.2.2.2 k1 k2 k5 k6 k4.1 k4.2
  have hl:=planC_len k1 k5 p.2.1 p.2.2.1
  have ht:=planC_take k1 k5 p.2.1 p.2.2.1
  have e32:=planC_32 k1 p.2.1 p.2.2.1 p.2.2.2
  have g32:=planC_32g k1 p.2.1 p.2.2.1 p.2.2.2
  have hs:=set_same e32
  have hd:=planC_d1 p.1 p.2.1 p.2.2.1 p.2.2.2
  have hz:=zWt_len
  have hm:=mkW_C p
  unfold pcC at *
  rcases hV2 with rfl | ⟨q,q',a,rfl,ha,hab,ho⟩
  · refine ⟨none,by simp,?_⟩
    refine fna Tryz.func40 Tryz.ntmps40 (rs:=[.cell 2 111,.tmp 3]) hd ?_
    simp [go_sem,hl,ht]
    refine cl_eq hV hd ?_
    simp [go_sem,hz,zWt_take,zWt_drop,resV]
    exact post_same (tup_d zWt_deep) rfl
  · obtain ⟨m1,m2,m3⟩:=hV3 (by simp)
    have bX:=recC_bytesV p.2.1
    have bY:=trigC_bytesV p.2.2.1 k5 k6
    have lX:=recC_len p.2.1
    have lY:=trigC_len p.2.2.1 k5
    refine ⟨some a,fun b e=>?_,?_⟩
    · cases e
      exact ⟨⟨k1,k2,k3,m3,k4,k5,k6,by show a.length≤40;omega,hab,by show (catR (recW p.2.1)).length≤1000;omega,by show (catR (trigW p.2.2.2 p.2.2.1)).length≤1000;omega,bX,bY⟩,ha⟩
    have hcl:=clone_fnV p.2.1 (by omega)
    have hdW:(AV.agg (wtC (mkW p a))).deep:=wtC_deep _
    show Rets Tryz.prog 40 [.agg (planC p.1 p.2.1 p.2.2.1 p.2.2.2)] (fun r=>r=.tup [.agg (wtC (mkW p a)),.d (.int .i64 0)])
    rw [hm a] at hdW ⊢
    refine fna Tryz.func40 Tryz.ntmps40 (rs:=[.cell 2 111,.tmp 3]) hd ?_
    have x33:(leafC p.1 (.d (hs32 q)) (.d (nb (catR (recW p.2.1)))))[33]?=some (.d (nb (catR (recW p.2.1)))):=leaf33 k1 _ _
    have y33:(leafC p.1 (.d (hs32 q')) (.d (nb (catR (trigW p.2.2.2 p.2.2.1)))))[33]?=some (.d (nb (catR (trigW p.2.2.2 p.2.2.1)))):=leaf33 k1 _ _
    have x33g:=get_at x33
    have y33g:=get_at y33
    generalize catR (recW p.2.1)=x at *
    generalize catR (trigW p.2.2.2 p.2.2.1)=y at *
    simp [go_sem,hl,ht]
    refine cl_eq hV hd ?_
    simp [go_sem,leafE_map,leafE_len k1,leaf_lenE k1,leaf_takeE k1]
    refine cl_eq ho (by intro v hv;simp at hv;subst hv;exact leafC_deepV _ _ _) ?_
    simp [go_sem,hl,e32,g32]
    refine cl_eq hcl (by simp [AV.deep,AV.deep1]) ?_
    simp [go_sem,hl,hs]
    have hR:(planC p.1 p.2.1 p.2.2.1 p.2.2.2 ++ [AV.d (nb a),.d (nb x),.d (nb y)]).length=69:=by simp [hl]
    have hRt:List.take 69 (planC p.1 p.2.1 p.2.2.1 p.2.2.2 ++ [AV.d (nb a),.d (nb x),.d (nb y)])=planC p.1 p.2.1 p.2.2.1 p.2.2.2 ++ [AV.d (nb a),.d (nb x),.d (nb y)]:=List.take_of_length_le (by omega)
    refine drw3 [0,1,2,3,4,5,6,7,8,9,10] [11,12,13] [0,1,2,3,4,5,6,7,8,9,10] (.alt (.step 11 [] true (.step 12 [] false (.step 13 [] false .done))) (.step 12 [] false (.step 11 [] false (.step 13 [] false .done)))) ⟨[(2,.ptr 32 0 0 1),(3,.d (.int .i64 0))],[(32,⟨111,69,[planC p.1 p.2.1 p.2.2.1 p.2.2.2 ++ [.d (nb a),.d (nb x),.d (nb y)]]⟩)],5000⟩ (k:=14) ?h3 ?hq
    case h3 =>
      intro G hG
      have hW:∀ (fr:Fr) (hp:Hp),(fv 2 fr=.ptr 32 0 0 1∧fv 3 fr=.d (.int .i64 0)∧lk 32 hp=some ⟨111,69,[planC p.1 p.2.1 p.2.2.1 p.2.2.2 ++ [.d (nb a),.d (nb x),.d (nb y)]]⟩)→G fr hp:=by
        rintro fr hp ⟨q0,q1,q2⟩
        refine hG _ _ (weak_wk ⟨?_,?_,by simp⟩)
        · simp [slotOk,AV.low,AV.low1,q0,q1]
        · intro q hq
          simp only [List.mem_cons,List.mem_nil_iff,or_false] at hq
          subst hq
          refine ⟨.inl q2,by simp,?_⟩
          intro r hr v hv
          simp only [List.mem_cons,List.mem_nil_iff,or_false] at hr
          subst hr
          rcases List.mem_append.1 hv with h | h
          · exact planC_low _ _ _ _ _ v h
          · simp at h;rcases h with rfl | rfl | rfl <;> trivial
      simp [go_sem,hl,ht,leafE_map,leafE_len k1,leaf_lenE k1,leaf_takeE k1,x33,y33,x33g,y33g,hz,zWt_drop66,zWt_drop]
      have e1:List.drop 67 (planC p.1 p.2.1 p.2.2.1 p.2.2.2 ++ [AV.nil,.nil,.nil])=[.nil,.nil]:=dropA hl (k:=1) rfl
      have e2:List.take 67 (planC p.1 p.2.1 p.2.2.1 p.2.2.2 ++ [AV.d (nb a),.nil,.nil])=planC p.1 p.2.1 p.2.2.1 p.2.2.2 ++ [AV.d (nb a)]:=takeA hl (k:=1) rfl
      have e3:List.drop 68 (planC p.1 p.2.1 p.2.2.1 p.2.2.2 ++ [AV.d (nb a),.nil,.nil])=[.nil]:=dropA hl (k:=2) rfl
      have hl2:(planC p.1 p.2.1 p.2.2.1 p.2.2.2 ++ [AV.d (nb a)]).length=67:=by simp [hl]
      have e4:List.take 68 (planC p.1 p.2.1 p.2.2.1 p.2.2.2 ++ [AV.d (nb a)] ++ [AV.d (nb x),.nil])=planC p.1 p.2.1 p.2.2.1 p.2.2.2 ++ [AV.d (nb a)] ++ [AV.d (nb x)]:=takeA hl2 (k:=1) rfl
      have e5:List.drop 69 (planC p.1 p.2.1 p.2.2.1 p.2.2.2 ++ [AV.d (nb a)] ++ [AV.d (nb x),.nil])=[]:=dropA hl2 (k:=2) rfl
      rw [e1,e2,e3,e4,e5]
      have e6:planC p.1 p.2.1 p.2.2.1 p.2.2.2 ++ [AV.d (nb a)] ++ [AV.d (nb x)] ++ [AV.d (nb y)]=planC p.1 p.2.1 p.2.2.1 p.2.2.2 ++ [AV.d (nb a),.d (nb x),.d (nb y)]:=by simp
      rw [e6]
      refine hW _ _ ?_
      simp [fv,lk]
    case hq =>
      simp [go_sem,hR,hRt,resV]
      exact post_same (tup_d hdW) rfl
end Go.Proofs.YtfahccoobfjkeaaGreat
