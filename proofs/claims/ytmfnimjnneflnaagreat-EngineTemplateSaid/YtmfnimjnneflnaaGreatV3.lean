/-
 Part 4 of what the claim rests on.
-/
import Derived.Test.YtmfnimjnneflnaaGreatV2
import Derived.Test.YtmfnimjnneflnaaGreatRows
import Derived.ProofKit
set_option linter.unusedVariables false
set_option linter.unusedSimpArgs false
set_option maxRecDepth 100000
set_option maxHeartbeats 16000000
namespace Go.Am
structure ZIt where
 g:Option (Tmp × Bool)
 z:Nat
 op:Op
 dst:Option Tmp
inductive Its (ops:Array Oper):List Nat→List ZIt→Prop
 | nil:Its ops [] []
 | plain {z:Nat} {d:Option Tmp} {op:Op} {ty:TypeId} {pos:String} {af:Array Edge} {zs:List Nat} {its:List ZIt} (h:ops[z]?=some ⟨d,op,ty,pos,af,none⟩) (t:Its ops zs its):Its ops (z :: zs) (⟨none,z,op,d⟩ :: its)
 | guard {z:Nat} {d:Option Tmp} {op:Op} {ty:TypeId} {pos:String} {af:Array Edge} {g:Nat} {want:Bool} {gd:Tmp} {zs:List Nat} {its:List ZIt} (h:ops[z]?=some ⟨d,op,ty,pos,af,some (g,want)⟩) (hg:(ops[g]?).bind (·.dst)=some gd) (t:Its ops zs its):Its ops (z :: zs) (⟨some (gd,want),z,op,d⟩ :: its)
section
variable (P:Program) (base:Nat) (hp0:Hp)
def zI (F:Fr→Prop):List ZIt→Fr→Prop
 | [],fr=>F fr
 | ⟨none,z,op,d⟩ :: r,fr=>Oy P hp0 fr base op fun v=>zI F r (bg fr d v)
 | ⟨some (t,want),z,op,d⟩ :: r,fr=>match fv t fr with
  | .d (.bool b)=>(b=want→Oy P hp0 fr base op fun v=>zI F r (bg fr d v))∧(b=!want→zI F r (bg fr d (.tup [])))
  | .tup []=>zI F r (bg fr d (.tup []))
  | _=>False
def wo (F:Fr→Hp→Prop):List (ZIt × List ZIt)→Nat→Fr→Hp→Prop
 | [],_,fr,hp=>F fr hp
 | (⟨none,z,op,d⟩,zs) :: r,m,fr,hp=>bF P fr hp (base+32*z) op fun v hp'=>(m ≠ 0→dE hp0 hp')∧zI P base hp0 (fun fr=>wo F r (m - 1) fr hp') zs (bg fr d v)
 | (⟨some (t,want),z,op,d⟩,zs) :: r,m,fr,hp=>match fv t fr with
  | .d (.bool b)=>(b=want→bF P fr hp (base+32*z) op fun v hp'=>(m ≠ 0→dE hp0 hp')∧zI P base hp0 (fun fr=>wo F r (m - 1) fr hp') zs (bg fr d v)) ∧
    (b=!want→zI P base hp0 (fun fr=>wo F r (m - 1) fr hp) zs (bg fr d (.tup [])))
  | .tup []=>zI P base hp0 (fun fr=>wo F r (m - 1) fr hp) zs (bg fr d (.tup []))
  | _=>False
end
inductive Jts (ops:Array Oper):jd→List (ZIt × List ZIt)→Prop
 | nil:Jts ops [] []
 | plain {z:Nat} {d:Option Tmp} {op:Op} {ty:TypeId} {pos:String} {af:Array Edge} {zs:List Nat} {its:List ZIt} {ss:jd} {jts:List (ZIt × List ZIt)} (h:ops[z]?=some ⟨d,op,ty,pos,af,none⟩) (hz:Its ops zs its) (t:Jts ops ss jts):Jts ops ((z,zs) :: ss) ((⟨none,z,op,d⟩,its) :: jts)
 | guard {z:Nat} {d:Option Tmp} {op:Op} {ty:TypeId} {pos:String} {af:Array Edge} {g:Nat} {want:Bool} {gd:Tmp} {zs:List Nat} {its:List ZIt} {ss:jd} {jts:List (ZIt × List ZIt)} (h:ops[z]?=some ⟨d,op,ty,pos,af,some (g,want)⟩) (hg:(ops[g]?).bind (·.dst)=some gd) (hz:Its ops zs its) (t:Jts ops ss jts):Jts ops ((z,zs) :: ss) ((⟨some (gd,want),z,op,d⟩,its) :: jts)
theorem uI {P:Program} {base:Nat} {hp0:Hp} {ops:Array Oper} {C:Fr→Prop} {zs:List Nat} {its:List ZIt} (h:Its ops zs its):∀ (fr:Fr),zW P ops base hp0 C zs fr=zI P base hp0 C its fr:=by
 induction h with
 | nil=>intro fr;rfl
 | plain h _ ih =>
  intro fr;simp only [zW,zI,h,ih]
 | @guard z d op ty pos af g want gd zs its h hg _ ih =>
  intro fr;simp only [zW,zI,h,hg,ih]
  cases fv gd fr with
  | d v=>cases v <;> rfl
  | tup l=>cases l <;> rfl
  | _=>rfl
theorem Qy {P:Program} {base:Nat} {hp0:Hp} {ops:Array Oper} {K:Fr→Hp→Prop} {ss:jd} {jts:List (ZIt × List ZIt)} (h:Jts ops ss jts):∀ (m:Nat) (fr:Fr) (hp:Hp),Ah P ops base hp0 K ss m fr hp=wo P base hp0 K jts m fr hp:=by
 induction h with
 | nil=>intro m fr hp;rfl
 | plain h hz _ ih =>
  intro m fr hp;simp only [Ah,wo,h,ih,uI hz]
 | @guard z d op ty pos af g want gd zs its ss jts h hg hz _ ih =>
  intro m fr hp;simp only [Ah,wo,h,hg,ih,uI hz]
  cases fv gd fr with
  | d v=>cases v <;> rfl
  | tup l=>cases l <;> rfl
  | _=>rfl
theorem HB {P:Program} {n:Nat} {ops:Array Oper} {Q:Exit→St→Prop} {st:St} (zs:List Nat) (ss:jd) (m:Nat) {its:List ZIt} {jts:List (ZIt × List ZIt)} {k:Nat} (h1:AB n ops zs ss m=true) (h2:P.follows .mixedOrders=true) (hk:ops.size=k) (hz:Its ops zs its) (hj:Jts ops ss jts)
  (h3:∀ F:Fr→Hp→Prop,(∀ fr hp,Q .normal ⟨fr,hp,st.nx+32*k⟩→F fr hp)→zI P st.nx st.hp (fun fr=>wo P st.nx st.hp F jts m fr st.hp) its st.fr):Tu P n ops Q st:=by
 subst hk;refine .inl ⟨zs,ss,m,h1,h2,?_⟩;rw [uI hz];have:=h3 (fun fr hp=>Q .normal ⟨fr,hp,st.nx+32*ops.size⟩) (fun fr hp h=>h);refine cast ?_ this;congr 1;funext fr;exact (Qy hj _ _ _).symm
section
variable (P:Program) (base:Nat) (hp0:Hp) (F:Fr→Prop) (G:Fr→Hp→Prop) (fr:Fr) (hp:Hp) (m:Nat) (r:List ZIt) (q:List (ZIt × List ZIt)) (zs:List ZIt)
def Xw (dst:Option Tmp) (v:AV) (hp':Hp):Prop:=zI P base hp0 F r (bg fr dst v)
def HC (dst:Option Tmp) (v:AV) (hp':Hp):Prop:=(m ≠ 0→dE hp0 hp')∧zI P base hp0 (fun fr=>wo P base hp0 G q (m - 1) fr hp') zs (bg fr dst v)
def Qz (op:Op) (dst:Option Tmp):Bool→Prop
 | true=>bF P fr hp0 base op (Xw P base hp0 F fr r dst)
 | false=>∃ v,kw P fr hp0 op v∧zI P base hp0 F r (bg fr dst v)
theorem HD (op:Op) (dst:Option Tmp):(Oy P hp0 fr base op fun v=>zI P base hp0 F r (bg fr dst v))=Qz P base hp0 F fr r op dst (aT P op):=by
 unfold Oy Qz
 cases aT P op
 ·simp
 ·simp only [if_true];rfl
def HE (op:Op) (dst:Option Tmp) (want:Bool):AV→Prop
 | .d (.bool b)=>(b=want→Qz P base hp0 F fr r op dst (aT P op))∧(b=!want→zI P base hp0 F r (bg fr dst (.tup [])))
 | .tup []=>zI P base hp0 F r (bg fr dst (.tup []))
 | _=>False
def KD (op:Op) (dst:Option Tmp) (N:Nat) (want:Bool):AV→Prop
 | .d (.bool b)=>(b=want→bF P fr hp N op (HC P base hp0 G fr m q zs dst))∧(b=!want→zI P base hp0 (fun fr=>wo P base hp0 G q (m - 1) fr hp) zs (bg fr dst (.tup [])))
 | .tup []=>zI P base hp0 (fun fr=>wo P base hp0 G q (m - 1) fr hp) zs (bg fr dst (.tup []))
 | _=>False
theorem Uh:zI P base hp0 F [] fr=F fr:=rfl
theorem Ui (z:Nat) (op:Op) (d:Option Tmp):zI P base hp0 F (⟨none,z,op,d⟩ :: r) fr=Qz P base hp0 F fr r op d (aT P op):=by
 simp only [zI];exact HD ..
theorem Uj (t:Tmp) (want:Bool) (z:Nat) (op:Op) (d:Option Tmp):zI P base hp0 F (⟨some (t,want),z,op,d⟩ :: r) fr=HE P base hp0 F fr r op d want (fv t fr):=by
 simp only [zI,HE,HD]
theorem QA (op:Op) (dst:Option Tmp):Qz P base hp0 F fr r op dst true=bF P fr hp0 base op (Xw P base hp0 F fr r dst):=rfl
theorem Uk (dst:Option Tmp) (v:AV) (hp':Hp):Xw P base hp0 F fr r dst v hp'=zI P base hp0 F r (bg fr dst v):=rfl
theorem LO (op:Op) (dst:Option Tmp) (want:Bool):HE P base hp0 F fr r op dst want (.tup [])=zI P base hp0 F r (bg fr dst (.tup [])):=rfl
theorem LP (op:Op) (dst:Option Tmp):HE P base hp0 F fr r op dst true (.d (.bool true))=Qz P base hp0 F fr r op dst (aT P op):=by simp [HE]
theorem LQ (op:Op) (dst:Option Tmp):HE P base hp0 F fr r op dst false (.d (.bool false))=Qz P base hp0 F fr r op dst (aT P op):=by simp [HE]
theorem HF (op:Op) (dst:Option Tmp):HE P base hp0 F fr r op dst false (.d (.bool true))=zI P base hp0 F r (bg fr dst (.tup [])):=by simp [HE]
theorem HG (op:Op) (dst:Option Tmp):HE P base hp0 F fr r op dst true (.d (.bool false))=zI P base hp0 F r (bg fr dst (.tup [])):=by simp [HE]
theorem QB:wo P base hp0 G [] m fr hp=G fr hp:=rfl
theorem QC (z:Nat) (op:Op) (d:Option Tmp):wo P base hp0 G ((⟨none,z,op,d⟩,zs) :: q) m fr hp=bF P fr hp (base+32*z) op (HC P base hp0 G fr m q zs d):=rfl
theorem QD (t:Tmp) (want:Bool) (z:Nat) (op:Op) (d:Option Tmp):wo P base hp0 G ((⟨some (t,want),z,op,d⟩,zs) :: q) m fr hp=KD P base hp0 G fr hp m q zs op d (base+32*z) want (fv t fr):=rfl
theorem QE (dst:Option Tmp) (v:AV) (hp':Hp):HC P base hp0 G fr m q zs dst v hp'=((m ≠ 0→dE hp0 hp')∧zI P base hp0 (fun fr=>wo P base hp0 G q (m - 1) fr hp') zs (bg fr dst v)):=rfl
theorem LR (op:Op) (dst:Option Tmp) (N:Nat) (want:Bool):KD P base hp0 G fr hp m q zs op dst N want (.tup [])=zI P base hp0 (fun fr=>wo P base hp0 G q (m - 1) fr hp) zs (bg fr dst (.tup [])):=rfl
theorem LS (op:Op) (dst:Option Tmp) (N:Nat):KD P base hp0 G fr hp m q zs op dst N true (.d (.bool true))=bF P fr hp N op (HC P base hp0 G fr m q zs dst):=by simp [KD]
theorem LU (op:Op) (dst:Option Tmp) (N:Nat):KD P base hp0 G fr hp m q zs op dst N false (.d (.bool false))=bF P fr hp N op (HC P base hp0 G fr m q zs dst):=by simp [KD]
theorem HH (op:Op) (dst:Option Tmp) (N:Nat):KD P base hp0 G fr hp m q zs op dst N false (.d (.bool true))=zI P base hp0 (fun fr=>wo P base hp0 G q (m - 1) fr hp) zs (bg fr dst (.tup [])):=by simp [KD]
theorem HI (op:Op) (dst:Option Tmp) (N:Nat):KD P base hp0 G fr hp m q zs op dst N true (.d (.bool false))=zI P base hp0 (fun fr=>wo P base hp0 G q (m - 1) fr hp) zs (bg fr dst (.tup [])):=by simp [KD]
end
inductive TI where
 | done
 | alt (a b:TI)
 | step (it:ZIt) (zs:List ZIt) (keep:Bool) (t:TI)
section
variable (P:Program) (base:Nat) (hp0:Hp) (F:Fr→Hp→Prop)
def tI:TI→Fr→Hp→Prop
 | .done,fr,hp=>F fr hp
 | .alt a b,fr,hp=>tI a fr hp∧tI b fr hp
 | .step ⟨none,z,op,d⟩ zs keep t,fr,hp=>bF P fr hp (base+32*z) op fun v hp'=>(keep=true→dE hp0 hp')∧zI P base hp0 (fun fr=>tI t fr hp') zs (bg fr d v)
 | .step ⟨some (g,want),z,op,d⟩ zs keep t,fr,hp=>match fv g fr with
  | .d (.bool b)=>(b=want→bF P fr hp (base+32*z) op fun v hp'=>(keep=true→dE hp0 hp')∧zI P base hp0 (fun fr=>tI t fr hp') zs (bg fr d v)) ∧
    (b=!want→zI P base hp0 (fun fr=>tI t fr hp) zs (bg fr d (.tup [])))
  | .tup []=>zI P base hp0 (fun fr=>tI t fr hp) zs (bg fr d (.tup []))
  | _=>False
end
inductive Tts (ops:Array Oper):Tr→TI→Prop
 | done:Tts ops .done .done
 | alt {a b:Tr} {x y:TI} (h:Tts ops a x) (h':Tts ops b y):Tts ops (.alt a b) (.alt x y)
 | plain {z:Nat} {d:Option Tmp} {op:Op} {ty:TypeId} {pos:String} {af:Array Edge} {zs:List Nat} {its:List ZIt} {t:Tr} {x:TI} {keep:Bool} (h:ops[z]?=some ⟨d,op,ty,pos,af,none⟩) (hz:Its ops zs its) (ht:Tts ops t x):Tts ops (.step z zs keep t) (.step ⟨none,z,op,d⟩ its keep x)
 | guard {z:Nat} {d:Option Tmp} {op:Op} {ty:TypeId} {pos:String} {af:Array Edge} {g:Nat} {want:Bool} {gd:Tmp} {zs:List Nat} {its:List ZIt} {t:Tr} {x:TI} {keep:Bool} (h:ops[z]?=some ⟨d,op,ty,pos,af,some (g,want)⟩) (hg:(ops[g]?).bind (·.dst)=some gd) (hz:Its ops zs its) (ht:Tts ops t x):Tts ops (.step z zs keep t) (.step ⟨some (gd,want),z,op,d⟩ its keep x)
theorem Ul {P:Program} {base:Nat} {hp0:Hp} {ops:Array Oper} {K:Fr→Hp→Prop} {t:Tr} {x:TI} (h:Tts ops t x):∀ (fr:Fr) (hp:Hp),uf P ops base hp0 K t fr hp=tI P base hp0 K x fr hp:=by
 induction h with
 | done=>intro fr hp;rfl
 | alt _ _ ih1 ih2=>intro fr hp;simp only [uf,tI,ih1,ih2]
 | plain h hz _ ih =>
  intro fr hp;simp only [uf,tI,h,ih,uI hz]
 | @guard z d op ty pos af g want gd zs its t x keep h hg hz _ ih =>
  intro fr hp;simp only [uf,tI,h,hg,ih,uI hz]
  cases fv gd fr with
  | d v=>cases v <;> rfl
  | tup l=>cases l <;> rfl
  | _=>rfl
theorem Um {P:Program} {n:Nat} {ops:Array Oper} {Q:Exit→St→Prop} {st:St} (zs is za:List Nat) (t:Tr) (st':St) {its:List ZIt} {x:TI} {k:Nat} (h1:sx n ops zs is za t=true) (h2:P.follows .mixedOrders=true) (hk:ops.size=k) (hz:Its ops zs its) (hj:Tts ops t x)
  (h3:∀ F:Fr→Hp→Prop,(∀ fr hp,Wk ⟨fr,hp,st.nx+32*k⟩ st'→F fr hp)→zI P st.nx st.hp (fun fr=>tI P st.nx st.hp F x fr st.hp) its st.fr) (hq:Q .normal st'):Tu P n ops Q st:=by
 subst hk;refine .inr ⟨zs,is,za,t,st',h1,h2,?_,hq⟩;rw [uI hz];have:=h3 (fun fr hp=>Wk ⟨fr,hp,st.nx+32*ops.size⟩ st') (fun fr hp h=>h);refine cast ?_ this;congr 1;funext fr;exact (Ul hj _ _).symm
section
variable (P:Program) (base:Nat) (hp0:Hp) (F:Fr→Hp→Prop) (fr:Fr) (hp:Hp)
def Xx (zs:List ZIt) (keep:Bool) (x:TI) (dst:Option Tmp) (v:AV) (hp':Hp):Prop:=(keep=true→dE hp0 hp')∧zI P base hp0 (fun fr=>tI P base hp0 F x fr hp') zs (bg fr dst v)
def Yy (zs:List ZIt) (keep:Bool) (x:TI) (op:Op) (dst:Option Tmp) (N:Nat) (want:Bool):AV→Prop
 | .d (.bool b)=>(b=want→bF P fr hp N op (Xx P base hp0 F fr zs keep x dst))∧(b=!want→zI P base hp0 (fun fr=>tI P base hp0 F x fr hp) zs (bg fr dst (.tup [])))
 | .tup []=>zI P base hp0 (fun fr=>tI P base hp0 F x fr hp) zs (bg fr dst (.tup []))
 | _=>False
theorem Un:tI P base hp0 F .done fr hp=F fr hp:=rfl
theorem Uo (a b:TI):tI P base hp0 F (.alt a b) fr hp=(tI P base hp0 F a fr hp∧tI P base hp0 F b fr hp):=rfl
theorem Up (z:Nat) (op:Op) (d:Option Tmp) (zs:List ZIt) (keep:Bool) (x:TI):tI P base hp0 F (.step ⟨none,z,op,d⟩ zs keep x) fr hp=bF P fr hp (base+32*z) op (Xx P base hp0 F fr zs keep x d):=rfl
theorem Ur (t:Tmp) (want:Bool) (z:Nat) (op:Op) (d:Option Tmp) (zs:List ZIt) (keep:Bool) (x:TI):tI P base hp0 F (.step ⟨some (t,want),z,op,d⟩ zs keep x) fr hp=Yy P base hp0 F fr hp zs keep x op d (base+32*z) want (fv t fr):=rfl
theorem Us (zs:List ZIt) (keep:Bool) (x:TI) (dst:Option Tmp) (v:AV) (hp':Hp):Xx P base hp0 F fr zs keep x dst v hp'=((keep=true→dE hp0 hp')∧zI P base hp0 (fun fr=>tI P base hp0 F x fr hp') zs (bg fr dst v)):=rfl
theorem LV (zs:List ZIt) (keep:Bool) (x:TI) (op:Op) (dst:Option Tmp) (N:Nat) (want:Bool):Yy P base hp0 F fr hp zs keep x op dst N want (.tup [])=zI P base hp0 (fun fr=>tI P base hp0 F x fr hp) zs (bg fr dst (.tup [])):=rfl
end
attribute [go_sem] Un Uo Up Ur Us LV
attribute [go_sem] Uh Ui Uj QA Uk LO LP LQ HF HG QB QC QD QE LR LS LU HH HI
theorem bf (prs:List (Nat × Nat)) {P:Program} {g:FuncId} {k:Nat} {hp0:Hp} {args args0:List AV} {hp:Hp} {N:Nat} {K:AV→Hp→Prop} {Q:AV→Hp→Prop} (h:cC P g k hp0 args0 Q)
  (hprs:fU prs=true) (hlt:∀ p,p ∈ prs→p.1<k) (hall:∀ p,p ∈ prs→∃ b,lk p.2 hp=some b∧b.e ≠ 0)
  (hin:∀ p,p ∈ hp0→∃ id b,lk p.1 prs=some id∧lk id hp=some b∧p.2=b.ren (bO (fZ prs) k))
  (hargs:args0=AV.renL (bO (fZ prs) k) args)
  (hK:∀ r hp',Q r hp'→∃ news,cK prs news=true∧K (r.ren (bO (bI prs news N) (N+31))) (bQ prs news N hp' hp)):rG P g args hp N K :=
 .inl (nQ prs h hprs hlt hall (fun i b0 hb=>by
  obtain ⟨id,b,h1,h2,h3⟩:=hin _ (bG hb)
  exact ⟨id,b,h1,h2,h3⟩) hargs hK)
theorem HJ {T:Type} {mk:T→St} {inv:T→Prop} {mu:T→Nat} {t:T} {Q:Exit→St→Prop} {st:St} (t':T) (hI:inv t') (hm:mu t'<mu t) (prs:List (Nat × Nat)) (N:Nat) (hprs:fU prs=true) (hlo:∀ p,p ∈ prs→p.1=p.2 ∨ 64≤p.2) (hN:∀ p,p ∈ prs→p.2<N) (h64:64≤N)
  (hw:aA ⟨ER (bO prs N) st.fr,AN prs N st.hp,N+1⟩ (mk t')):o7 mk inv mu t Q .normal st:=HA t' hI hm ((Qx prs N hprs hlo hN h64).trans (cn hw))
theorem ES {P:Program} {g:FuncId} {args:List AV} {Q:AV→Hp→Prop} {Q':AV→Prop} (h:cC P g 0 [] args Q) (hd:∀ v,v ∈ args→v.deep) (hq:∀ r hp',Q r hp'→∃ r',Snap hp' (fun _=>True) r r'∧r'.deep∧Q' r'):av P g args Q':=by
 obtain ⟨h1,hk,h2⟩:=h;refine ⟨h1,fun w S vs hS hl hv=>?_⟩;have hH:Hand w S (fun _=>none) [] 0:=⟨fun b hb=>⟨hS b hb,fun id blk g h=>(by cases h)⟩,fun i j bi bj g h=>(by cases h),fun i b h=>(by cases h),fun i b h=>(by cases h)⟩;refine (h2 w S (fun _=>none) vs hH hl (fun i v x hi hx=>kQ (hd v (cr hi)) (fun b hb=>hb) (hv i v x hi hx))).mono fun e w' he=>?_;obtain ⟨x,r,hp',U',σ',rfl,hQ,hr,hh,hx⟩:=he;obtain ⟨r',hs,hdr,hQ'⟩:=hq r hp' hQ;refine ⟨x,r',rfl,hQ',hdr,⟨hr.os,hr.tape,hr.output,hr.size,fun b hb=>hr.old b hb (fun ⟨id,blk,hc,_⟩=>by cases hc)⟩,mV (fun b hb=>?_) (fun id blk g _ hk hg=>?_) hr hs hx⟩
 ·rcases hb.2 with h | h
  ·rcases h with h | ⟨id,blk,hc,_⟩
   ·exact .inl h
   ·cases hc
  ·exact .inr ⟨h,hb.1.1⟩
 ·rcases hr.mine id blk g hk hg with h | h
  ·obtain ⟨id,blk,hc,_⟩:=h
   cases hc
  ·exact .inr ⟨h,dC (hr.at hk hg)⟩
theorem qS (ids:List Nat) {P:Program} {g:FuncId} {args args':List AV} {hp:Hp} {N:Nat} {K:AV→Hp→Prop} (h:eG P g args' (aD ids hp) N K) (hl':args.length=args'.length)
  (hs:∀ (i:Nat) (v v':AV),args[i]?=some v→args'[i]?=some v'→v'=v ∨ Snap hp (fun id=>id ∈ ids) v v'):eG P g args hp N K:=by
 refine ⟨h.1,fun c U σ w vs hr hN hl hv=>?_⟩;obtain ⟨d1,d2⟩:=yq ids hr;refine (h.2 c U σ w vs d1 hN (hl.trans hl') (fun i v' x hi hx=>?_)).mono fun e w' he=>?_
 ·have hlt:i<args.length:=by have:=(ci.1 hi).1;omega
  rcases hs i _ v' (cm hlt) hi with e | hsn
  ·rw [e];exact (hv i _ x (cm hlt) hx).step d2
  ·refine mV (fun b hb=>d2.sub b hb) (fun id blk g hid hk hg=>⟨⟨dC (hr.at hk hg),fun id' blk' g' hk' hg' e=>?_⟩,?_⟩) hr hsn (hv i _ x (cm hlt) hx)
   ·subst e;rw [oZ] at hk'
    split at hk'
    ·cases hk'
    ·rename_i hn;have:=hr.inj id id' blk blk' g hk hk' hg hg';subst this;exact hn (by simpa using hid)
   ·rcases hr.mine id blk g hk hg with h | h
    ·exact .inl (c.hM g h)
    ·exact .inr h
 ·obtain ⟨x,rfl,v,hp',σ',k1,k2,k3,k4⟩:=he;exact ⟨x,rfl,v,hp',σ',k1,k2,d2.trans k3,k4⟩
theorem jg (ids:List Nat) {P:Program} {g:FuncId} {args args':List AV} {hp:Hp} {N:Nat} {K:AV→Hp→Prop} {Q:AV→Hp→Prop} (h:cC P g 0 [] args' Q) (hl':args.length=args'.length)
  (hs:∀ (i:Nat) (v v':AV),args[i]?=some v→args'[i]?=some v'→Snap hp (fun id=>id ∈ ids) v v') (hd:∀ ρ,args'=AV.renL ρ args')
  (hK:∀ r hp',Q r hp'→∃ news,cK [] news=true∧K (r.ren (bO (bI [] news N) (N+31))) (bQ [] news N hp' (aD ids hp))):rG P g args hp N K :=
 .inl (qS ids (nQ [] h rfl aw aw (by intro i b0 hb;cases hb) (hd _) hK) hl' fun i v v' h1 h2=>.inr (hs i v v' h1 h2))
end Go.Am
namespace Go.Am
def ET (R:TypeId→List DV→Prop) (size:TypeId→Nat):List TypeId→List DV→Prop
 | [],ds=>ds=[]
 | t :: r,ds=>∃ a b,ds=a ++ b∧a.length=size t∧R t a∧ET R size r b
def gZ (P:Program):Nat→TypeId→List DV→Prop
 | 0,_,_=>False
 | n+1,t,ds =>
  match P.underlying t with
  | some .bool=>∃ b,ds=[.bool b]
  | some (.int k)=>∃ x,ds=[.int k x]∧k.has x
  | some .string=>∃ bs:List Int,ds=[.str bs]∧bs.length≤maxLen∧∀ b,b ∈ bs→0≤b∧b<256
  | some (.slice e)=>∃ es,ds=[.ro (P.cellsOf e) es]∧es.length≤maxLen∧∀ r,r ∈ es→gZ P n e r∧r.length=P.cellsOf e
  | some (.pointer e)=>ds=[.nilp] ∨ ∃ cs,ds=[.box cs]∧gZ P n e cs∧cs.length=P.cellsOf e
  | some (.struct fs)=>ET (gZ P n) P.cellsOf (fs.toList.map (·.type)) ds
  | some (.array m e)=>ET (gZ P n) P.cellsOf (List.replicate m e) ds
  | _=>False
def HK (P:Program):Nat→List Field→Option Nat
 | off,[]=>some off
 | off,f :: r=>if f.offset=off then HK P (off+P.cellsOf f.type) r else none
def rA (P:Program):Nat→TypeId→Bool
 | 0,_=>false
 | n+1,t =>
  match P.underlying t with
  | some .bool=>true
  | some (.int _)=>true
  | some .string=>true
  | some (.slice e)=>decide (0<P.cellsOf e) && rA P n e
  | some (.pointer e)=>decide (0<P.cellsOf e) && rA P n e
  | some (.struct fs)=>decide (HK P 0 fs.toList=some (P.cellsOf t)) && fs.toList.all fun f=>rA P n f.type
  | some (.array m e)=>decide (m*P.cellsOf e=P.cellsOf t) && rA P n e
  | _=>false
section
variable {H:Type} {enc:TypeId × Value→H} {P:Program} {w:World} {spare:Nat→Bool}
def wy (w:World) (ds:List DV) (cs:List Value):Prop:=ds.length=cs.length∧∀ (j:Nat) (d:DV) (v:Value),ds[j]?=some d→cs[j]?=some v→DIs w (fun b=>b<w.heap.size) d v
theorem mY {α β:Type} {f:α→Option β}:∀ {l:List α} {r:List β},l.mapM f=some r→∀ x,x ∈ l→∃ y,f x=some y
 | [],_,_,x,hx=>by simp at hx
 | a :: l,r,h,x,hx=>by
  rw [List.mapM_cons] at h
  cases ha:f a with
  | none=>simp [ha] at h
  | some b =>
   cases hl:l.mapM f with
   | none=>simp [ha,hl] at h
   | some bs =>
    rcases e_.1 hx with rfl | hx
    ·exact ⟨b,ha⟩
    ·exact mY hl x hx
theorem HL {a b:List DV} {cs:List Value} {k:Nat} (ha:wy w a (cs.take k)) (hk:k≤cs.length) (hb:wy w b (cs.drop k)):wy w (a ++ b) cs:=by
 have hal:a.length=k:=by rw [ha.1];simp;omega
 have hbl:=hb.1;rw [fk] at hbl;refine ⟨by rw [b_];omega,fun j d v hj hv=>?_⟩;rw [List.getElem?_append] at hj
 split at hj
 ·rename_i h;exact ha.2 j d v hj (by rw [List.getElem?_take,if_pos aq];exact hv)
 ·rename_i h;refine hb.2 (j - a.length) d v hj ?_;rw [List.getElem?_drop,show k+(j - a.length)=j by omega];exact hv
theorem lV {R:TypeId→List DV→Prop} {size:TypeId→Nat}:∀ (ts:List TypeId) (cs:List Value),(ts.map size).sum=cs.length →
   (∀ (jh:List TypeId) (t:TypeId) (post:List TypeId),ts=jh ++ t :: post→∃ ds,R t ds∧wy w ds ((cs.drop (jh.map size).sum).take (size t)))→∃ ds,ET R size ts ds∧wy w ds cs
 | [],cs,hl,_=>by
  simp at hl;have:cs=[]:=List.eq_nil_of_length_eq_zero hl.symm;subst this;exact ⟨[],rfl,rfl,aw⟩
 | t :: r,cs,hl,h=>by
  simp only [List.map_cons,List.sum_cons] at hl;obtain ⟨a,ha1,ha2⟩:=h [] t r rfl;simp only [List.map_nil,List.sum_nil,List.drop_zero] at ha2
  obtain ⟨b,hb1,hb2⟩:=lV (R:=R) (size:=size) r (cs.drop (size t)) (by rw [fk];omega) fun jh u post e=>by
   obtain ⟨ds,h1,h2⟩:=h (t :: jh) u post (by rw [e];rfl);refine ⟨ds,h1,?_⟩;rw [List.drop_drop]
   simpa using h2
  refine ⟨a ++ b,⟨a,b,rfl,?_,ha1,hb1⟩,HL ha2 aq hb2⟩;rw [ha2.1];simp;omega
theorem CP:∀ (fs:List Field) (off tot:Nat),HK P off fs=some tot→off+((fs.map (·.type)).map P.cellsOf).sum=tot∧∀ (jh:List Field) (f:Field) (post:List Field),fs=jh ++ f :: post→f.offset=off+((jh.map (·.type)).map P.cellsOf).sum
 | [],off,tot,h=>by
  simp only [HK] at h;injection h with h;exact ⟨by simpa using h,fun jh f post e=>by simp at e⟩
 | g :: r,off,tot,h=>by
  simp only [HK] at h
  split at h
  ·rename_i ho;obtain ⟨h1,h2⟩:=CP r _ tot h;refine ⟨by simp only [List.map_cons,List.sum_cons];omega,fun jh f post e=>?_⟩
   cases jh with
   | nil=>simp at e;rw [← e.1,ho];simp
   | cons p jh =>
    simp at e;have:=h2 jh f post e.2;rw [this,← e.1];simp only [List.map_cons,List.sum_cons];omega
  ·cases h
theorem wC (f:TypeId→Nat) (e:TypeId):∀ m:Nat,((List.replicate m e).map f).sum=m*f e
 | 0=>by simp
 | m+1=>by simp only [List.replicate_succ,List.map_cons,List.sum_cons,wC f e m,Nat.add_mul,Nat.one_mul];omega
theorem EU {k:IntKind} {x:Int} (h:(Lit.int k x).wf=true):k.has x:=by
 simp only [Lit.wf,Bool.and_eq_true,decide_eq_true_eq] at h;exact h
theorem uJ:∀ (fuel n:Nat) (t:TypeId) (cs:List Value) (x:DataW H × List MemPlace),rA P n t=true→DataW.trod enc P w 0 spare true fuel t cs=some x→∃ ds,gZ P n t ds∧wy w ds cs
 | 0,_,_,_,_,_,h=>by simp [DataW.trod] at h
 | _+1,0,_,_,_,hk,_=>by simp [rA] at hk
 | fuel+1,n+1,t,cs,x,hk,h=>by
  have ih:=fun e cs x hk h=>uJ fuel n e cs x hk h
  have one:∀ d v,DIs w (fun b=>b<w.heap.size) d v→wy w [d] [v]:=by
   intro d v hd;refine ⟨rfl,fun j d' v' h1 h2=>?_⟩
   cases j with
   | zero=>simp at h1 h2;subst h1;subst h2;exact hd
   | succ j=>simp at h1
  simp only [rA] at hk
  cases hu:P.underlying t with
  | none=>simp [hu] at hk
  | some td =>
   rw [hu] at hk
   cases td with
   | bool =>
    rcases cs with _ | ⟨v,_ | ⟨u,r⟩⟩
    ·simp [DataW.trod,hu] at h
    ·cases v <;> simp [DataW.trod,hu] at h
     exact ⟨[.bool _],by simp [gZ,hu],one _ _ (.bool _)⟩
    ·simp [DataW.trod,hu] at h
   | int k =>
    rcases cs with _ | ⟨v,_ | ⟨u,r⟩⟩
    ·simp [DataW.trod,hu] at h
    ·cases v <;> simp [DataW.trod,hu] at h
     rename_i k' x';obtain ⟨⟨rfl,hw⟩,_⟩:=h;exact ⟨[.int _ x'],by simp [gZ,hu];exact EU hw,one _ _ (.int _ _)⟩
    ·simp [DataW.trod,hu] at h
   | string =>
    rcases cs with _ | ⟨v,_ | ⟨u,r⟩⟩
    ·simp [DataW.trod,hu] at h
    ·cases v <;> simp [DataW.trod,hu] at h
     rename_i s;refine ⟨[.str (s.data.toList.map fun c=>(c.toNat:Int))],?_,one _ _ (.str _)⟩;simp only [gZ,hu];refine ⟨_,rfl,by simpa using h.1,fun b hb=>?_⟩;rw [List.mem_map] at hb;obtain ⟨c,_,rfl⟩:=hb;have:=c.toNat_lt;omega
    ·simp [DataW.trod,hu] at h
   | slice e =>
    rw [Bool.and_eq_true,decide_eq_true_eq] at hk;rcases cs with _ | ⟨v,_ | ⟨u,r⟩⟩
    ·simp [DataW.trod,hu] at h
    ·cases v with
     | slice A len cap =>
      cases A with
      | none =>
       have:len=0∧cap=0:=by
        rcases len with _ | len <;> rcases cap with _ | cap <;> simp [DataW.trod,hu] at h ⊢
       obtain ⟨rfl,rfl⟩:=this;refine ⟨[.ro (P.cellsOf e) []],by simp [gZ,hu],one _ _ ?_⟩;exact .ro _ [] none 0 (fun _ _=>default) aw aw aw aw aw
      | some ad =>
       simp only [DataW.trod,hu] at h
       split at h
       ·rename_i hc;obtain ⟨_,hlc,hcm⟩:=hc
        cases he:(List.range len).mapM fun i=>(w.cells? 0 (ad.add (i*P.cellsOf e)) (P.cellsOf e)).bind (DataW.trod enc P w 0 spare true fuel e) with
        | none=>simp [he] at h
        | some elems =>
         have hel:∀ i,i<len→∃ cells ds,w.cells? 0 (ad.add (i*P.cellsOf e)) (P.cellsOf e)=some cells∧gZ P n e ds∧wy w ds cells:=by
          intro i hi;obtain ⟨y,hy⟩:=mY he i (by simp [hi])
          cases hcl:w.cells? 0 (ad.add (i*P.cellsOf e)) (P.cellsOf e) with
          | none=>simp [hcl] at hy
          | some cells =>
           simp only [hcl,Option.bind_some] at hy;obtain ⟨ds,h1,h2⟩:=ih e cells y hk.2 hy;exact ⟨cells,ds,rfl,h1,h2⟩
         let es:List (List DV):=(List.range len).map fun i=>if hi:i<len then (hel i hi).choose_spec.choose else []
         have hes:∀ i r,es[i]?=some r→∃ cells,i<len∧w.cells? 0 (ad.add (i*P.cellsOf e)) (P.cellsOf e)=some cells∧gZ P n e r∧wy w r cells:=by
          intro i r hr
          have hi:i<len:=by
           have:=(ci.1 hr).1
           simpa [es] using this
          simp only [es,c_,List.getElem?_range hi,Option.map_some,Option.some.injEq,dif_pos hi] at hr;subst hr;exact ⟨(hel i hi).choose,hi,(hel i hi).choose_spec.choose_spec⟩
         have hlen:es.length=len:=by simp [es]
         have hrl:∀ r,r ∈ es→gZ P n e r∧r.length=P.cellsOf e:=by
          intro r hr;obtain ⟨i,hi⟩:=List.getElem?_of_mem hr;obtain ⟨cells,_,h1,h2,h3⟩:=hes i r hi;exact ⟨h2,by rw [h3.1,(World.cells?_some h1).2.1]⟩
         refine ⟨[.ro (P.cellsOf e) es],?_,one _ _ ?_⟩
         ·simp only [gZ,hu];exact ⟨es,rfl,aq,hrl⟩
         ·have:=DIs.ro (w:=w) (S:=fun b=>b<w.heap.size) (P.cellsOf e) es (some ad) cap (fun i j=>(w.cell? (ad.add (i*P.cellsOf e+j))).getD undef) aq (fun r hr=>(hrl r hr).2)
           (fun r hr=>⟨ad,rfl,by
            obtain ⟨i,hi⟩:=List.getElem?_of_mem hr;obtain ⟨cells,_,h1,_,_⟩:=hes i r hi;have:=World.cells?_block h1 hk.1
            rwa [dS] at this⟩)
           (fun a' ha i j r y hi hj=>by
            injection ha with ha;subst ha;obtain ⟨cells,_,h1,_,h3⟩:=hes i r hi
            have hj':j<P.cellsOf e:=by
             have:=(ci.1 hj).1;rw [h3.1,(World.cells?_some h1).2.1] at this;exact this
            have h4:=(World.cells?_some h1).2.2 j hj';rw [jW] at h4;have:cells[j]?=some (cells[j]'(by rw [(World.cells?_some h1).2.1];exact hj')):=cm _;rw [h4,this]
            rfl)
           (fun i j r y hi hj=>by
            obtain ⟨cells,_,h1,_,h3⟩:=hes i r hi
            have hj':j<P.cellsOf e:=by
             have:=(ci.1 hj).1;rw [h3.1,(World.cells?_some h1).2.1] at this;exact this
            have h4:=(World.cells?_some h1).2.2 j hj';rw [jW] at h4;have h5:cells[j]?=some (cells[j]'(by rw [(World.cells?_some h1).2.1];exact hj')):=cm _;rw [h4,h5]
            exact h3.2 j y _ hj h5)
          rw [hlen] at this;exact this
       ·cases h
     | _=>simp [DataW.trod,hu] at h
    ·simp [DataW.trod,hu] at h
   | pointer e =>
    rw [Bool.and_eq_true,decide_eq_true_eq] at hk;rcases cs with _ | ⟨v,_ | ⟨u,r⟩⟩
    ·simp [DataW.trod,hu] at h
    ·cases v with
     | pointer A =>
      cases A with
      | none=>exact ⟨[.nilp],by simp [gZ,hu],one _ _ .nilp⟩
      | some ad =>
       simp only [DataW.trod,hu] at h
       cases hcl:w.cells? 0 ad (P.cellsOf e) with
       | none=>simp [hcl] at h
       | some cells =>
        simp only [hcl,Option.bind_some] at h
        cases hy:DataW.trod enc P w 0 spare true fuel e cells with
        | none=>simp [hy] at h
        | some y =>
         obtain ⟨ds,h1,h2⟩:=ih e cells y hk.2 hy;have hc:=World.cells?_some hcl;refine ⟨[.box ds],?_,one _ _ (.box ds ad (fun j=>(w.cell? (ad.add j)).getD undef) (World.cells?_block hcl hk.1) (fun j z hz=>?_) (fun j z hz=>?_))⟩
         ·simp only [gZ,hu];exact .inr ⟨ds,rfl,h1,by rw [h2.1,hc.2.1]⟩
         ·have hj:j<P.cellsOf e:=by
           have:=(ci.1 hz).1;rw [h2.1,hc.2.1] at this;exact this
          have h5:cells[j]?=some (cells[j]'(by rw [hc.2.1];exact hj)):=cm _;rw [hc.2.2 j hj,h5];rfl
         ·have hj:j<P.cellsOf e:=by
           have:=(ci.1 hz).1;rw [h2.1,hc.2.1] at this;exact this
          have h5:cells[j]?=some (cells[j]'(by rw [hc.2.1];exact hj)):=cm _;rw [hc.2.2 j hj,h5];exact h2.2 j z _ hz h5
     | _=>simp [DataW.trod,hu] at h
    ·simp [DataW.trod,hu] at h
   | struct fs =>
    rw [Bool.and_eq_true,decide_eq_true_eq] at hk;obtain ⟨hk1,hk2⟩:=hk;obtain ⟨l1,l2⟩:=CP fs.toList 0 _ hk1
    have hh:cs.length=P.cellsOf t∧∃ xs,(fs.toList.mapM fun f=>DataW.trod enc P w 0 spare true fuel f.type ((cs.drop f.offset).take (P.cellsOf f.type)))=some xs:=by
     simp only [DataW.trod,hu] at h
     split at h
     ·rename_i hc
      cases hm:(fs.toList.mapM fun f=>DataW.trod enc P w 0 spare true fuel f.type ((cs.drop f.offset).take (P.cellsOf f.type))) with
      | none=>simp [hm] at h
      | some xs=>exact ⟨hc,xs,rfl⟩
     ·cases h
    obtain ⟨hc,xs,hxs⟩:=hh
    obtain ⟨ds,d1,d2⟩:=lV (w:=w) (R:=gZ P n) (size:=P.cellsOf) (fs.toList.map (·.type)) cs aq (fun jh u post e=>by
     rw [List.map_eq_append_iff] at e;obtain ⟨fp,fr,e1,e2,e3⟩:=e;rw [List.map_eq_cons_iff] at e3;obtain ⟨f,fr',e4,e5,e6⟩:=e3;subst e2 e5;have hmem:f ∈ fs.toList:=by rw [e1,e4];simp
     obtain ⟨y,hy⟩:=mY hxs f hmem;have ho:=l2 fp f fr' (by rw [e1,e4]);rw [Nat.zero_add] at ho;rw [ho] at hy
     exact ih _ _ y (d_.1 hk2 f hmem) hy)
    exact ⟨ds,by simp only [gZ,hu];exact d1,d2⟩
   | array m e =>
    rw [Bool.and_eq_true,decide_eq_true_eq] at hk;obtain ⟨hk1,hk2⟩:=hk
    have hh:cs.length=P.cellsOf t∧∃ xs,((List.range m).mapM fun i=>DataW.trod enc P w 0 spare true fuel e ((cs.drop (i*P.cellsOf e)).take (P.cellsOf e)))=some xs:=by
     simp only [DataW.trod,hu] at h
     split at h
     ·rename_i hc
      cases hm:((List.range m).mapM fun i=>DataW.trod enc P w 0 spare true fuel e ((cs.drop (i*P.cellsOf e)).take (P.cellsOf e))) with
      | none=>simp [hm] at h
      | some xs=>exact ⟨hc,xs,rfl⟩
     ·cases h
    obtain ⟨hc,xs,hxs⟩:=hh
    obtain ⟨ds,d1,d2⟩:=lV (w:=w) (R:=gZ P n) (size:=P.cellsOf) (List.replicate m e) cs (by rw [wC];omega) (fun jh u post h'=>by
     have hpl:jh.length<m:=by
      have:=congrArg List.length h';simp at this;omega
     have hpe:jh=List.replicate jh.length e:=List.eq_replicate_iff.2 ⟨rfl,fun x hx=>List.eq_of_mem_replicate (n:=m) (by rw [h'];simp [hx])⟩
     have hu':u=e:=by
      have:u ∈ List.replicate m e:=by rw [h'];simp
      exact List.eq_of_mem_replicate this
     subst hu';obtain ⟨y,hy⟩:=mY hxs jh.length (by simp [hpl])
     have hs:(jh.map P.cellsOf).sum=jh.length*P.cellsOf u:=by
      rw [hpe,wC,List.length_replicate]
     rw [hs]
     exact ih _ _ y hk2 hy)
    exact ⟨ds,by simp only [gZ,hu];exact d1,d2⟩
   | _=>simp at hk
end
end Go.Am
namespace Go.Am
open Go.ChangeShapes Go.RowKit
def qT (P:Program) (n:Nat) (t:TypeId) (a:AV):Prop :=
 match P.underlying t with
 | some (.struct _)=>∃ ds,a=.agg (ds.map .d)∧gZ P n t ds
 | some (.array _ _)=>∃ ds,a=.agg (ds.map .d)∧gZ P n t ds
 | _=>∃ d,a=.d d∧gZ P n t [d]
def wE (P:Program) (n:Nat):List TypeId→List AV→Prop
 | [],as=>as=[]
 | t :: ts,as=>∃ a r,as=a :: r∧qT P n t a∧wE P n ts r
section
variable {H:Type} {enc:TypeId × Value→H} {P:Program} {W:World}
theorem QF {n:Nat} {t:TypeId} {v:Value} {d:DataW H} {ps:List MemPlace} {base:Nat} (hk:rA P n t=true) (hv:Value.okWide P W .any base t v) (h:DataW.Trod enc P W 0 (fun _=>true) true t v d ps) :
  ∃ a,qT P n t a∧AIs W (fun b=>b<W.heap.size) (fun _=>none) [] (fun _=>False) a v:=by
 obtain ⟨fuel,h⟩:=h;obtain ⟨ds,h1,h2⟩:=uJ fuel n t _ _ hk h
 have agg:(∃ cs,v=.agg cs∧cs.size=P.cellsOf t∧Row.okWide P W .any base t cs)→∃ a,(∃ ds,a=.agg (ds.map .d)∧gZ P n t ds)∧AIs W (fun b=>b<W.heap.size) (fun _=>none) [] (fun _=>False) a v:=by
  rintro ⟨cs,rfl,_,_⟩;simp only [Value.cells] at h2;have hl:ds.length=cs.size:=by simpa using h2.1
  refine ⟨_,⟨ds,rfl,h1⟩,.agg _ cs (by simp [hl]) (fun i x hx=>?_) (fun i c x hc hx=>?_)⟩
  ·have hi:i<ds.length:=by
    have:=(Array.getElem?_eq_some_iff.1 hx).1;omega
   exact vJ (h2.2 i ds[i] x (cm hi) (by simpa using hx))
  ·simp only [c_,Option.map_eq_some_iff] at hc;obtain ⟨d,hd,rfl⟩:=hc;exact .d (h2.2 i d x hd (by simpa using hx))
 have one:v.cells=#[v]→∃ a,(∃ d,a=.d d∧gZ P n t [d])∧AIs W (fun b=>b<W.heap.size) (fun _=>none) [] (fun _=>False) a v:=by
  intro hc;rw [hc] at h2;simp only at h2;have hl:=h2.1
  match ds,hl,h1,h2 with
  | [d],_,h1,h2=>exact ⟨_,⟨d,rfl,h1⟩,.d (h2.2 0 d v rfl rfl)⟩
 unfold qT;unfold Value.okWide at hv
 cases n with
 | zero=>simp [rA] at hk
 | succ n =>
  simp only [rA] at hk
  cases hu:P.underlying t with
  | none=>simp [hu] at hk
  | some td =>
   rw [hu] at hk hv
   cases td with
   | struct fs=>exact agg hv
   | array m e=>exact agg hv
   | bool =>
    simp only [Cell.okWide,Cell.ok,hu] at hv;refine one ?_
    cases v <;> simp at hv <;> rfl
   | int k =>
    simp only [Cell.okWide,Cell.ok,hu] at hv;refine one ?_
    cases v <;> simp at hv <;> rfl
   | string =>
    simp only [Cell.okWide,Cell.ok,hu] at hv;refine one ?_
    cases v <;> simp at hv <;> rfl
   | slice e =>
    simp only [Cell.okWide,Cell.ok,hu] at hv;refine one ?_
    cases v <;> simp at hv <;> rfl
   | pointer e =>
    simp only [Cell.okWide,Cell.ok,hu] at hv;refine one ?_
    cases v <;> simp at hv <;> rfl
   | _=>simp at hk
theorem CQ {n:Nat} {base:Nat}:∀ (ts:List TypeId) (vs:List Value) (ds:List (DataW H)) (ps:List MemPlace),ts.all (rA P n)=true→(∀ (j:Nat) (t:TypeId) (v:Value),ts[j]?=some t→vs[j]?=some v→Value.okWide P W .any base t v) →
  DataW.TrodAll enc P W 0 (fun _=>true) true ts vs ds ps→vs.length=ts.length∧ds.length=ts.length∧∃ as,wE P n ts as∧as.length=ts.length∧∀ (i:Nat) (a:AV) (x:Value),as[i]?=some a→vs[i]?=some x→AIs W (fun b=>b<W.heap.size) (fun _=>none) [] (fun _=>False) a x
 | [],vs,ds,ps,_,_,h=>by
  cases vs <;> cases ds <;> simp [DataW.TrodAll] at h
  exact ⟨rfl,rfl,[],rfl,rfl,aw⟩
 | t :: ts,vs,ds,ps,hk,hv,h=>by
  obtain ⟨v,vs',d,ds',p,q,rfl,rfl,rfl,h1,h2⟩:=trodAll_cons h;simp only [List.all_cons,Bool.and_eq_true] at hk;obtain ⟨a,ha1,ha2⟩:=QF hk.1 (hv 0 t v rfl rfl) h1;obtain ⟨l1,l2,as,k1,k2,k3⟩:=CQ ts vs' ds' q hk.2 (fun j t v ht hv'=>hv (j+1) t v (by simpa using ht) (by simpa using hv')) h2;refine ⟨by simp [l1],by simp [l2],a :: as,⟨a,as,rfl,ha1,k1⟩,by simp [k2],fun i b x hb hx=>?_⟩
  cases i with
  | zero=>simp at hb hx;subst hb;subst hx;exact ha2
  | succ i=>simp at hb hx;exact k3 i b x hb hx
theorem nG (hl:laidOutB P=true) {W':World} (hb:Below W.heap.size W W'):∀ (ts:List TypeId) (vs:List Value) (ds:List (DataW H)) (ps:List MemPlace),(ts.all fun t=>P.readableRec t && decide (t<P.types.size))=true→(∀ x,x ∈ ps→x.block<W.heap.size) →
  DataW.TrodAll enc P W 0 (fun _=>true) true ts vs ds ps→DataW.TrodAll enc P W' 0 (fun b=>decide (b<W.heap.size)) true ts vs ds ps
 | [],vs,ds,ps,_,_,h=>by
  cases vs <;> cases ds <;> simp [DataW.TrodAll] at h ⊢
  exact h
 | t :: ts,vs,ds,ps,hk,hlt,h=>by
  obtain ⟨v,vs',d,ds',p,q,rfl,rfl,rfl,h1,h2⟩:=trodAll_cons h;simp only [List.all_cons,Bool.and_eq_true,decide_eq_true_eq] at hk;exact ⟨p,q,Below.trod hl hk.1.1 hk.1.2 h1 hb (fun x hx=>hlt x (by simp [hx])),nG hl hb ts vs' ds' q hk.2 (fun x hx=>hlt x (by simp [hx])) h2,rfl⟩
theorem LW {f:Func} {s:ChangeSpec} {g:FuncId} {n base:Nat} {args:Array Value} {ds gs:List (DataW H)} {before:List MemPlace} {tb:TypeId} (hl:laidOutB P=true) (hr:f.resultTypes=#[tb]) (htb:P.underlying tb=some .bool) (hvars:s.vars=[])
  (hrd:(f.params.toList.all fun t=>P.readableRec t && decide (t<P.types.size))=true) (hok:f.params.toList.all (rA P n)=true)
  (hval:∀ (j:Nat) (t:TypeId) (v:Value),f.params[j]?=some t→args[j]?=some v→Value.okWide P W .any base t v) (hW:DataW.Whole enc P f.params.toList s.vars false W args.toList ds gs before)
  (hs:∀ ds:List (DataW H),ds.length=f.params.size→s.fn H ds={ results:=[.lit (.bool true)],args:=ds })
  (hlaw:∀ as,wE P n f.params.toList as→av P g as (fun r=>r=.d (.bool true))) :
  Calls P g args W fun e W'=>∃ v,e=.returned v∧s.post enc P f false true false false W args v W':=by
 have hW':=hW;obtain ⟨p,q,hA,hV,rfl,hfz,hnd⟩:=hW;rw [hvars] at hV;obtain ⟨rfl,rfl⟩:=trodVars_none hV;obtain ⟨l1,l2,as,k1,k2,k3⟩:=CQ f.params.toList args.toList ds p hok (fun j t v ht hv=>hval j t v (by simpa using ht) (by simpa using hv)) hA;have hc:=(hlaw as k1).2 W (fun b=>b<W.heap.size) args.toList (fun b hb=>hb) aq k3;have e:args.toList.toArray=args:=Array.toArray_toList;rw [e] at hc;refine hc.mono fun e W' he=>?_;obtain ⟨x,r,rfl,rfl,hd,hb,hx⟩:=he;have hx':=fe hx;subst hx';have hfn:=hs ds (by simpa using l2);refine ⟨_,rfl,ds,[],p ++ [],[],p,[],hW',?_,?_,?_,hb.frame _,fun h=>by cases h⟩
 ·rw [List.append_nil,hfn,hr];exact trodAll_mk1 (shut_bool htb true)
 ·rw [List.append_nil,hfn];exact nG hl hb _ _ _ _ hrd (fun x hx=>by simpa using hW'.lt x (by simp [hx])) hA
 ·rw [hvars,List.append_nil,hfn];rfl
end
theorem qe {α β:Type} {enc:α→β} {R:α→Prop}:∀ {es:List β},(∀ r,r ∈ es→∃ o,r=enc o∧R o)→∃ os:List α,es=os.map enc∧∀ o,o ∈ os→R o
 | [],_=>⟨[],rfl,aw⟩
 | e :: es,h=>by
  obtain ⟨o,rfl,ho⟩:=h e (d9 ..);obtain ⟨os,rfl,hos⟩:=qe fun r hr=>h r (cU _ hr);exact ⟨o :: os,rfl,fun x hx=>by rcases e_.1 hx with rfl | h;exact ho;exact hos x h⟩
end Go.Am
namespace Go.Am
theorem b7 {P:Program} {n:Nat} {ops:Array Oper} {Q:Exit→St→Prop} {st:St} (zs:List Nat) (ss:jd) (m:Nat) {its:List ZIt} {jts:List (ZIt × List ZIt)} {k:Nat}
  (h3:∀ F:Fr→Hp→Prop,(∀ fr hp,Q .normal ⟨fr,hp,st.nx+32*k⟩→F fr hp)→zI P st.nx st.hp (fun fr=>wo P st.nx st.hp F jts m fr st.hp) its st.fr)
  (h1:AB n ops zs ss m=true:=by kernel_rfl) (h2:P.follows .mixedOrders=true:=by kernel_rfl) (hk:ops.size=k:=by rfl) (hz:Its ops zs its:=by repeat (first | exact Its.nil | apply Its.plain rfl | apply Its.guard rfl rfl))
  (hj:Jts ops ss jts:=by repeat (first | exact Jts.nil | exact Its.nil | apply Its.plain rfl | apply Its.guard rfl rfl | apply Jts.plain rfl | apply Jts.guard rfl rfl)):Tu P n ops Q st:=HB zs ss m h1 h2 hk hz hj h3
theorem d0 {P:Program} {n:Nat} {ops:Array Oper} {Q:Exit→St→Prop} {st:St} (zs is za:List Nat) (t:Tr) (st':St) {its:List ZIt} {x:TI} {k:Nat}
  (h3:∀ F:Fr→Hp→Prop,(∀ fr hp,Wk ⟨fr,hp,st.nx+32*k⟩ st'→F fr hp)→zI P st.nx st.hp (fun fr=>tI P st.nx st.hp F x fr st.hp) its st.fr) (hq:Q .normal st')
  (h1:sx n ops zs is za t=true:=by kernel_rfl) (h2:P.follows .mixedOrders=true:=by kernel_rfl) (hk:ops.size=k:=by rfl) (hz:Its ops zs its:=by repeat (first | exact Its.nil | apply Its.plain rfl | apply Its.guard rfl rfl))
  (hj:Tts ops t x:=by repeat (first | exact Tts.done | exact Its.nil | apply Tts.alt | apply Its.plain rfl | apply Its.guard rfl rfl | apply Tts.plain rfl | apply Tts.guard rfl rfl)):Tu P n ops Q st:=Um zs is za t st' h1 h2 hk hz hj h3 hq
theorem dR {a b:Nat} (h:Nat.ble a b=true):a≤b:=Nat.le_of_ble_eq_true h
theorem bK {P:Program} {g:FuncId} {fn:Func} {code:Code} {args:List AV} {Q:AV→Prop} {n:Nat} {rs:List ResultVar} (hf:P.funcs[g]?=some fn) (hnt:fn.ntmps=n) (hd:∀ v,v ∈ args→v.deep) (h:lG P n code (G2 P rs (dk Q)) ⟨Gl 0 args,[],0⟩)
  (hn : (fn.name == "runtime.NumGoroutine") = false := by kernel_rfl) (hb : fn.body = some code := by exact rfl) (hrs : fn.results.toList = rs := by exact rfl) (hle : args.length ≤ n := by exact (dR rfl)) : av P g args Q := EL hf hn hb hnt hrs hle hd h
theorem rB {st st':St} (h:aA st st':=by
   simp only [aA,ai];refine ⟨?_,?_,aw⟩
   ·repeat (refine List.forall_mem_cons.2 ⟨⟨.inl (Eq.symm (by assumption)),by simp [AV.low,AV.low1]⟩,?_⟩)
    exact List.forall_mem_nil _
   ·repeat (refine List.forall_mem_cons.2 ⟨⟨.inl (by first | rfl | assumption),aw,by first | exact List.forall_mem_cons.2 ⟨by first | exact bT _ _ | exact qJ _ _ _ _ | exact lr _ _ _ _ | exact aK _ _ | exact leafC_low _ _ _ _ (by simp [AV.low1]) (by simp [AV.low1]),List.forall_mem_nil _⟩ | exact bp _ _ | exact rows_low _ _ | exact rows_low2 _ _ _ _⟩,?_⟩)
    exact List.forall_mem_nil _):Wk st st':=cn h
end Go.Am
namespace Go.Proofs.YtmfnimjnneflnaaGreat
open Go.Am
@[go_sem] theorem k2:bM Tryz.prog 2=.scal:=by kernel_rfl
@[go_sem] theorem c2:Tryz.prog.cellsOf 2=1:=by kernel_rfl
@[go_sem] theorem b2:Tryz.prog.bytesOf 2=8:=by kernel_rfl
@[go_sem] theorem z2:eD Tryz.prog 2=some [.d (.int .i64 0)]:=by kernel_rfl
@[go_sem] theorem i2:iI Tryz.prog 2=some .i64:=by kernel_rfl
@[go_sem] theorem u2:(Tryz.prog.underlying 2).isSome=true:=by kernel_rfl
@[go_sem] theorem k3:bM Tryz.prog 3=.scal:=by kernel_rfl
@[go_sem] theorem c3:Tryz.prog.cellsOf 3=1:=by kernel_rfl
@[go_sem] theorem b3:Tryz.prog.bytesOf 3=8:=by kernel_rfl
@[go_sem] theorem z3:eD Tryz.prog 3=some [.d (.int .i64 0)]:=by kernel_rfl
@[go_sem] theorem i3:iI Tryz.prog 3=some .i64:=by kernel_rfl
@[go_sem] theorem u3:(Tryz.prog.underlying 3).isSome=true:=by kernel_rfl
@[go_sem] theorem k4:bM Tryz.prog 4=.scal:=by kernel_rfl
@[go_sem] theorem c4:Tryz.prog.cellsOf 4=1:=by kernel_rfl
@[go_sem] theorem b4:Tryz.prog.bytesOf 4=1:=by kernel_rfl
@[go_sem] theorem z4:eD Tryz.prog 4=some [.d (.bool false)]:=by kernel_rfl
@[go_sem] theorem u4:(Tryz.prog.underlying 4).isSome=true:=by kernel_rfl
@[go_sem] theorem k5:bM Tryz.prog 5=.scal:=by kernel_rfl
@[go_sem] theorem c5:Tryz.prog.cellsOf 5=1:=by kernel_rfl
@[go_sem] theorem b5:Tryz.prog.bytesOf 5=1:=by kernel_rfl
@[go_sem] theorem z5:eD Tryz.prog 5=some [.d (.int .u8 0)]:=by kernel_rfl
@[go_sem] theorem i5:iI Tryz.prog 5=some .u8:=by kernel_rfl
@[go_sem] theorem u5:(Tryz.prog.underlying 5).isSome=true:=by kernel_rfl
@[go_sem] theorem k9:bM Tryz.prog 9=.str:=by kernel_rfl
@[go_sem] theorem c9:Tryz.prog.cellsOf 9=1:=by kernel_rfl
@[go_sem] theorem b9:Tryz.prog.bytesOf 9=16:=by kernel_rfl
@[go_sem] theorem z9:eD Tryz.prog 9=some [.d (.str [])]:=by kernel_rfl
@[go_sem] theorem u9:(Tryz.prog.underlying 9).isSome=true:=by kernel_rfl
@[go_sem] theorem k22:bM Tryz.prog 22=.scal:=by kernel_rfl
@[go_sem] theorem c22:Tryz.prog.cellsOf 22=1:=by kernel_rfl
@[go_sem] theorem b22:Tryz.prog.bytesOf 22=4:=by kernel_rfl
@[go_sem] theorem z22:eD Tryz.prog 22=some [.d (.int .u32 0)]:=by kernel_rfl
@[go_sem] theorem i22:iI Tryz.prog 22=some .u32:=by kernel_rfl
@[go_sem] theorem u22:(Tryz.prog.underlying 22).isSome=true:=by kernel_rfl
@[go_sem] theorem k23:bM Tryz.prog 23=.slice 68:=by kernel_rfl
@[go_sem] theorem c23:Tryz.prog.cellsOf 23=1:=by kernel_rfl
@[go_sem] theorem b23:Tryz.prog.bytesOf 23=24:=by kernel_rfl
@[go_sem] theorem z23:eD Tryz.prog 23=some [.nil]:=by kernel_rfl
@[go_sem] theorem u23:(Tryz.prog.underlying 23).isSome=true:=by kernel_rfl
@[go_sem] theorem k24:bM Tryz.prog 24=.slice 57:=by kernel_rfl
@[go_sem] theorem c24:Tryz.prog.cellsOf 24=1:=by kernel_rfl
@[go_sem] theorem b24:Tryz.prog.bytesOf 24=24:=by kernel_rfl
@[go_sem] theorem z24:eD Tryz.prog 24=some [.nil]:=by kernel_rfl
@[go_sem] theorem u24:(Tryz.prog.underlying 24).isSome=true:=by kernel_rfl
@[go_sem] theorem k26:bM Tryz.prog 26=.struct [(0,22),(1,23),(2,24),(3,22)]:=by kernel_rfl
@[go_sem] theorem c26:Tryz.prog.cellsOf 26=4:=by kernel_rfl
@[go_sem] theorem b26:Tryz.prog.bytesOf 26=64:=by kernel_rfl
@[go_sem] theorem z26:eD Tryz.prog 26=some [.d (.int .u32 0),.nil,.nil,.d (.int .u32 0)]:=by kernel_rfl
@[go_sem] theorem u26:(Tryz.prog.underlying 26).isSome=true:=by kernel_rfl
@[go_sem] theorem k28:bM Tryz.prog 28=.struct [(0,26),(4,3),(5,24)]:=by kernel_rfl
@[go_sem] theorem c28:Tryz.prog.cellsOf 28=6:=by kernel_rfl
@[go_sem] theorem b28:Tryz.prog.bytesOf 28=96:=by kernel_rfl
@[go_sem] theorem z28:eD Tryz.prog 28=some [.d (.int .u32 0),.nil,.nil,.d (.int .u32 0),.d (.int .i64 0),.nil]:=by kernel_rfl
@[go_sem] theorem u28:(Tryz.prog.underlying 28).isSome=true:=by kernel_rfl
@[go_sem] theorem k29:bM Tryz.prog 29=.arr 32 5:=by kernel_rfl
@[go_sem] theorem c29:Tryz.prog.cellsOf 29=32:=by kernel_rfl
@[go_sem] theorem b29:Tryz.prog.bytesOf 29=32:=by kernel_rfl
@[go_sem] theorem u29:(Tryz.prog.underlying 29).isSome=true:=by kernel_rfl
@[go_sem] theorem k30:bM Tryz.prog 30=.slice 29:=by kernel_rfl
@[go_sem] theorem c30:Tryz.prog.cellsOf 30=1:=by kernel_rfl
@[go_sem] theorem b30:Tryz.prog.bytesOf 30=24:=by kernel_rfl
@[go_sem] theorem z30:eD Tryz.prog 30=some [.nil]:=by kernel_rfl
@[go_sem] theorem u30:(Tryz.prog.underlying 30).isSome=true:=by kernel_rfl
@[go_sem] theorem k31:bM Tryz.prog 31=.slice 5:=by kernel_rfl
@[go_sem] theorem c31:Tryz.prog.cellsOf 31=1:=by kernel_rfl
@[go_sem] theorem b31:Tryz.prog.bytesOf 31=24:=by kernel_rfl
@[go_sem] theorem z31:eD Tryz.prog 31=some [.nil]:=by kernel_rfl
@[go_sem] theorem u31:(Tryz.prog.underlying 31).isSome=true:=by kernel_rfl
@[go_sem] theorem YF:bM Tryz.prog 32=.struct [(0,29),(32,30),(33,31)]:=by kernel_rfl
@[go_sem] theorem YG:Tryz.prog.cellsOf 32=34:=by kernel_rfl
@[go_sem] theorem YH:Tryz.prog.bytesOf 32=80:=by kernel_rfl
@[go_sem] theorem YI:(Tryz.prog.underlying 32).isSome=true:=by kernel_rfl
@[go_sem] theorem k33:bM Tryz.prog 33=.struct [(0,29),(32,30),(33,31)]:=by kernel_rfl
@[go_sem] theorem c33:Tryz.prog.cellsOf 33=34:=by kernel_rfl
@[go_sem] theorem b33:Tryz.prog.bytesOf 33=80:=by kernel_rfl
@[go_sem] theorem u33:(Tryz.prog.underlying 33).isSome=true:=by kernel_rfl
@[go_sem] theorem k34:bM Tryz.prog 34=.slice 31:=by kernel_rfl
@[go_sem] theorem c34:Tryz.prog.cellsOf 34=1:=by kernel_rfl
@[go_sem] theorem b34:Tryz.prog.bytesOf 34=24:=by kernel_rfl
@[go_sem] theorem z34:eD Tryz.prog 34=some [.nil]:=by kernel_rfl
@[go_sem] theorem u34:(Tryz.prog.underlying 34).isSome=true:=by kernel_rfl
@[go_sem] theorem k36:bM Tryz.prog 36=.struct [(0,28),(6,33),(40,34),(41,31),(42,3)]:=by kernel_rfl
@[go_sem] theorem c36:Tryz.prog.cellsOf 36=43:=by kernel_rfl
@[go_sem] theorem b36:Tryz.prog.bytesOf 36=232:=by kernel_rfl
@[go_sem] theorem u36:(Tryz.prog.underlying 36).isSome=true:=by kernel_rfl
@[go_sem] theorem k42:bM Tryz.prog 42=.struct [(0,5),(1,31)]:=by kernel_rfl
@[go_sem] theorem c42:Tryz.prog.cellsOf 42=2:=by kernel_rfl
@[go_sem] theorem b42:Tryz.prog.bytesOf 42=32:=by kernel_rfl
@[go_sem] theorem z42:eD Tryz.prog 42=some [.d (.int .u8 0),.nil]:=by kernel_rfl
@[go_sem] theorem u42:(Tryz.prog.underlying 42).isSome=true:=by kernel_rfl
@[go_sem] theorem k44:bM Tryz.prog 44=.slice 42:=by kernel_rfl
@[go_sem] theorem c44:Tryz.prog.cellsOf 44=1:=by kernel_rfl
@[go_sem] theorem b44:Tryz.prog.bytesOf 44=24:=by kernel_rfl
@[go_sem] theorem z44:eD Tryz.prog 44=some [.nil]:=by kernel_rfl
@[go_sem] theorem u44:(Tryz.prog.underlying 44).isSome=true:=by kernel_rfl
@[go_sem] theorem k45:bM Tryz.prog 45=.slice 55:=by kernel_rfl
@[go_sem] theorem c45:Tryz.prog.cellsOf 45=1:=by kernel_rfl
@[go_sem] theorem b45:Tryz.prog.bytesOf 45=24:=by kernel_rfl
@[go_sem] theorem z45:eD Tryz.prog 45=some [.nil]:=by kernel_rfl
@[go_sem] theorem u45:(Tryz.prog.underlying 45).isSome=true:=by kernel_rfl
@[go_sem] theorem k46:bM Tryz.prog 46=.scal:=by kernel_rfl
@[go_sem] theorem c46:Tryz.prog.cellsOf 46=1:=by kernel_rfl
@[go_sem] theorem b46:Tryz.prog.bytesOf 46=8:=by kernel_rfl
@[go_sem] theorem z46:eD Tryz.prog 46=some [.d (.int .i64 0)]:=by kernel_rfl
@[go_sem] theorem i46:iI Tryz.prog 46=some .i64:=by kernel_rfl
@[go_sem] theorem u46:(Tryz.prog.underlying 46).isSome=true:=by kernel_rfl
@[go_sem] theorem k53:bM Tryz.prog 53=.scal:=by kernel_rfl
@[go_sem] theorem c53:Tryz.prog.cellsOf 53=1:=by kernel_rfl
@[go_sem] theorem b53:Tryz.prog.bytesOf 53=8:=by kernel_rfl
@[go_sem] theorem z53:eD Tryz.prog 53=some [.d (.int .u64 0)]:=by kernel_rfl
@[go_sem] theorem i53:iI Tryz.prog 53=some .u64:=by kernel_rfl
@[go_sem] theorem u53:(Tryz.prog.underlying 53).isSome=true:=by kernel_rfl
@[go_sem] theorem k55:bM Tryz.prog 55=.struct [(0,3),(1,53)]:=by kernel_rfl
@[go_sem] theorem c55:Tryz.prog.cellsOf 55=2:=by kernel_rfl
@[go_sem] theorem b55:Tryz.prog.bytesOf 55=16:=by kernel_rfl
@[go_sem] theorem z55:eD Tryz.prog 55=some [.d (.int .i64 0),.d (.int .u64 0)]:=by kernel_rfl
@[go_sem] theorem u55:(Tryz.prog.underlying 55).isSome=true:=by kernel_rfl
@[go_sem] theorem k57:bM Tryz.prog 57=.struct [(0,53),(1,31)]:=by kernel_rfl
@[go_sem] theorem c57:Tryz.prog.cellsOf 57=2:=by kernel_rfl
@[go_sem] theorem b57:Tryz.prog.bytesOf 57=32:=by kernel_rfl
@[go_sem] theorem z57:eD Tryz.prog 57=some [.d (.int .u64 0),.nil]:=by kernel_rfl
@[go_sem] theorem u57:(Tryz.prog.underlying 57).isSome=true:=by kernel_rfl
@[go_sem] theorem k66:bM Tryz.prog 66=.struct [(0,29),(32,22)]:=by kernel_rfl
@[go_sem] theorem c66:Tryz.prog.cellsOf 66=33:=by kernel_rfl
@[go_sem] theorem b66:Tryz.prog.bytesOf 66=36:=by kernel_rfl
@[go_sem] theorem u66:(Tryz.prog.underlying 66).isSome=true:=by kernel_rfl
@[go_sem] theorem k68:bM Tryz.prog 68=.struct [(0,66),(33,22),(34,34)]:=by kernel_rfl
@[go_sem] theorem c68:Tryz.prog.cellsOf 68=35:=by kernel_rfl
@[go_sem] theorem b68:Tryz.prog.bytesOf 68=64:=by kernel_rfl
@[go_sem] theorem u68:(Tryz.prog.underlying 68).isSome=true:=by kernel_rfl
@[go_sem] theorem k73:bM Tryz.prog 73=.arr 2 2:=by kernel_rfl
@[go_sem] theorem c73:Tryz.prog.cellsOf 73=2:=by kernel_rfl
@[go_sem] theorem b73:Tryz.prog.bytesOf 73=16:=by kernel_rfl
@[go_sem] theorem z73:eD Tryz.prog 73=some [.d (.int .i64 0),.d (.int .i64 0)]:=by kernel_rfl
@[go_sem] theorem u73:(Tryz.prog.underlying 73).isSome=true:=by kernel_rfl
@[go_sem] theorem k96:bM Tryz.prog 96=.arr 4 53:=by kernel_rfl
@[go_sem] theorem c96:Tryz.prog.cellsOf 96=4:=by kernel_rfl
@[go_sem] theorem b96:Tryz.prog.bytesOf 96=32:=by kernel_rfl
@[go_sem] theorem z96:eD Tryz.prog 96=some [.d (.int .u64 0),.d (.int .u64 0),.d (.int .u64 0),.d (.int .u64 0)]:=by kernel_rfl
@[go_sem] theorem u96:(Tryz.prog.underlying 96).isSome=true:=by kernel_rfl
@[go_sem] theorem k139:bM Tryz.prog 139=.arr 3 29:=by kernel_rfl
@[go_sem] theorem c139:Tryz.prog.cellsOf 139=96:=by kernel_rfl
@[go_sem] theorem b139:Tryz.prog.bytesOf 139=96:=by kernel_rfl
@[go_sem] theorem u139:(Tryz.prog.underlying 139).isSome=true:=by kernel_rfl
@[go_sem] theorem k143:bM Tryz.prog 143=.arr 5 29:=by kernel_rfl
@[go_sem] theorem c143:Tryz.prog.cellsOf 143=160:=by kernel_rfl
@[go_sem] theorem b143:Tryz.prog.bytesOf 143=160:=by kernel_rfl
@[go_sem] theorem u143:(Tryz.prog.underlying 143).isSome=true:=by kernel_rfl
@[go_sem] theorem k155:bM Tryz.prog 155=.struct [(0,34),(1,34)]:=by kernel_rfl
@[go_sem] theorem c155:Tryz.prog.cellsOf 155=2:=by kernel_rfl
@[go_sem] theorem b155:Tryz.prog.bytesOf 155=48:=by kernel_rfl
@[go_sem] theorem z155:eD Tryz.prog 155=some [.nil,.nil]:=by kernel_rfl
@[go_sem] theorem u155:(Tryz.prog.underlying 155).isSome=true:=by kernel_rfl
@[go_sem] theorem k156:bM Tryz.prog 156=.slice 4:=by kernel_rfl
@[go_sem] theorem c156:Tryz.prog.cellsOf 156=1:=by kernel_rfl
@[go_sem] theorem b156:Tryz.prog.bytesOf 156=24:=by kernel_rfl
@[go_sem] theorem z156:eD Tryz.prog 156=some [.nil]:=by kernel_rfl
@[go_sem] theorem u156:(Tryz.prog.underlying 156).isSome=true:=by kernel_rfl
@[go_sem] theorem k158:bM Tryz.prog 158=.struct [(0,28),(6,33),(40,31),(41,155),(43,156),(44,3),(45,3),(46,45),(47,46)]:=by kernel_rfl
@[go_sem] theorem c158:Tryz.prog.cellsOf 158=48:=by kernel_rfl
@[go_sem] theorem b158:Tryz.prog.bytesOf 158=320:=by kernel_rfl
@[go_sem] theorem u158:(Tryz.prog.underlying 158).isSome=true:=by kernel_rfl
@[go_sem] theorem k164:bM Tryz.prog 164=.arr 8 22:=by kernel_rfl
@[go_sem] theorem c164:Tryz.prog.cellsOf 164=8:=by kernel_rfl
@[go_sem] theorem b164:Tryz.prog.bytesOf 164=32:=by kernel_rfl
@[go_sem] theorem z164:eD Tryz.prog 164=some [.d (.int .u32 0),.d (.int .u32 0),.d (.int .u32 0),.d (.int .u32 0),.d (.int .u32 0),.d (.int .u32 0),.d (.int .u32 0),.d (.int .u32 0)]:=by kernel_rfl
@[go_sem] theorem u164:(Tryz.prog.underlying 164).isSome=true:=by kernel_rfl
@[go_sem] theorem k167:bM Tryz.prog 167=.struct [(0,164),(8,31),(9,53)]:=by kernel_rfl
@[go_sem] theorem c167:Tryz.prog.cellsOf 167=10:=by kernel_rfl
@[go_sem] theorem b167:Tryz.prog.bytesOf 167=64:=by kernel_rfl
@[go_sem] theorem z167:eD Tryz.prog 167=some [.d (.int .u32 0),.d (.int .u32 0),.d (.int .u32 0),.d (.int .u32 0),.d (.int .u32 0),.d (.int .u32 0),.d (.int .u32 0),.d (.int .u32 0),.nil,.d (.int .u64 0)]:=by kernel_rfl
@[go_sem] theorem u167:(Tryz.prog.underlying 167).isSome=true:=by kernel_rfl
@[go_sem] theorem k169:bM Tryz.prog 169=.scal:=by kernel_rfl
@[go_sem] theorem c169:Tryz.prog.cellsOf 169=1:=by kernel_rfl
@[go_sem] theorem b169:Tryz.prog.bytesOf 169=8:=by kernel_rfl
@[go_sem] theorem z169:eD Tryz.prog 169=some [.d (.int .u64 0)]:=by kernel_rfl
@[go_sem] theorem i169:iI Tryz.prog 169=some .u64:=by kernel_rfl
@[go_sem] theorem u169:(Tryz.prog.underlying 169).isSome=true:=by kernel_rfl
@[go_sem] theorem k189:bM Tryz.prog 189=.struct [(0,96),(4,96),(8,4)]:=by kernel_rfl
@[go_sem] theorem c189:Tryz.prog.cellsOf 189=9:=by kernel_rfl
@[go_sem] theorem b189:Tryz.prog.bytesOf 189=72:=by kernel_rfl
@[go_sem] theorem z189:eD Tryz.prog 189=some [.d (.int .u64 0),.d (.int .u64 0),.d (.int .u64 0),.d (.int .u64 0),.d (.int .u64 0),.d (.int .u64 0),.d (.int .u64 0),.d (.int .u64 0),.d (.bool false)]:=by kernel_rfl
@[go_sem] theorem u189:(Tryz.prog.underlying 189).isSome=true:=by kernel_rfl
@[go_sem] theorem k204:bM Tryz.prog 204=.arr 2 34:=by kernel_rfl
@[go_sem] theorem c204:Tryz.prog.cellsOf 204=2:=by kernel_rfl
@[go_sem] theorem b204:Tryz.prog.bytesOf 204=48:=by kernel_rfl
@[go_sem] theorem z204:eD Tryz.prog 204=some [.nil,.nil]:=by kernel_rfl
@[go_sem] theorem u204:(Tryz.prog.underlying 204).isSome=true:=by kernel_rfl
@[go_sem] theorem k211:bM Tryz.prog 211=.arr 64 22:=by kernel_rfl
@[go_sem] theorem c211:Tryz.prog.cellsOf 211=64:=by kernel_rfl
@[go_sem] theorem b211:Tryz.prog.bytesOf 211=256:=by kernel_rfl
@[go_sem] theorem u211:(Tryz.prog.underlying 211).isSome=true:=by kernel_rfl
@[go_sem] theorem k217:bM Tryz.prog 217=.scal:=by kernel_rfl
@[go_sem] theorem c217:Tryz.prog.cellsOf 217=1:=by kernel_rfl
@[go_sem] theorem b217:Tryz.prog.bytesOf 217=2:=by kernel_rfl
@[go_sem] theorem z217:eD Tryz.prog 217=some [.d (.int .u16 0)]:=by kernel_rfl
@[go_sem] theorem i217:iI Tryz.prog 217=some .u16:=by kernel_rfl
@[go_sem] theorem u217:(Tryz.prog.underlying 217).isSome=true:=by kernel_rfl
@[go_sem] theorem k226:bM Tryz.prog 226=.arr 8 53:=by kernel_rfl
@[go_sem] theorem c226:Tryz.prog.cellsOf 226=8:=by kernel_rfl
@[go_sem] theorem b226:Tryz.prog.bytesOf 226=64:=by kernel_rfl
@[go_sem] theorem z226:eD Tryz.prog 226=some [.d (.int .u64 0),.d (.int .u64 0),.d (.int .u64 0),.d (.int .u64 0),.d (.int .u64 0),.d (.int .u64 0),.d (.int .u64 0),.d (.int .u64 0)]:=by kernel_rfl
@[go_sem] theorem u226:(Tryz.prog.underlying 226).isSome=true:=by kernel_rfl
@[go_sem] theorem k243:bM Tryz.prog 243=.struct [(0,96),(4,96),(8,96)]:=by kernel_rfl
@[go_sem] theorem c243:Tryz.prog.cellsOf 243=12:=by kernel_rfl
@[go_sem] theorem b243:Tryz.prog.bytesOf 243=96:=by kernel_rfl
@[go_sem] theorem z243:eD Tryz.prog 243=some [.d (.int .u64 0),.d (.int .u64 0),.d (.int .u64 0),.d (.int .u64 0),.d (.int .u64 0),.d (.int .u64 0),.d (.int .u64 0),.d (.int .u64 0),.d (.int .u64 0),.d (.int .u64 0),.d (.int .u64 0),.d (.int .u64 0)]:=by kernel_rfl
@[go_sem] theorem u243:(Tryz.prog.underlying 243).isSome=true:=by kernel_rfl
@[go_sem] theorem k283:bM Tryz.prog 283=.struct [(0,34),(1,34),(2,46)]:=by kernel_rfl
@[go_sem] theorem c283:Tryz.prog.cellsOf 283=3:=by kernel_rfl
@[go_sem] theorem b283:Tryz.prog.bytesOf 283=56:=by kernel_rfl
@[go_sem] theorem z283:eD Tryz.prog 283=some [.nil,.nil,.d (.int .i64 0)]:=by kernel_rfl
@[go_sem] theorem u283:(Tryz.prog.underlying 283).isSome=true:=by kernel_rfl
@[go_sem] theorem k290:bM Tryz.prog 290=.slice 2:=by kernel_rfl
@[go_sem] theorem c290:Tryz.prog.cellsOf 290=1:=by kernel_rfl
@[go_sem] theorem b290:Tryz.prog.bytesOf 290=24:=by kernel_rfl
@[go_sem] theorem z290:eD Tryz.prog 290=some [.nil]:=by kernel_rfl
@[go_sem] theorem u290:(Tryz.prog.underlying 290).isSome=true:=by kernel_rfl
@[go_sem] theorem k295:bM Tryz.prog 295=.slice 3:=by kernel_rfl
@[go_sem] theorem c295:Tryz.prog.cellsOf 295=1:=by kernel_rfl
@[go_sem] theorem b295:Tryz.prog.bytesOf 295=24:=by kernel_rfl
@[go_sem] theorem z295:eD Tryz.prog 295=some [.nil]:=by kernel_rfl
@[go_sem] theorem u295:(Tryz.prog.underlying 295).isSome=true:=by kernel_rfl
end Go.Proofs.YtmfnimjnneflnaaGreat
namespace Go.Sha
open Go.Am
def M:Nat:=4294967296
def lH (a b:Nat):Nat:=(a+b) % 4294967296
def nR (a b:Nat):Nat:=(a ^^^ b) % 4294967296
def yx (a b:Nat):Nat:=(a &&& b) % 4294967296
def Ut (a b:Nat):Nat:=(a ||| b) % 4294967296
def c32 (a:Nat):Nat:=(4294967295 ^^^ a) % 4294967296
def Uu (n a:Nat):Nat:=a*2 ^ n % 4294967296
def il (n a:Nat):Nat:=a / 2 ^ n
def HM (a:Nat):Nat:=a % 4294967296
def t8 (a:Nat):Nat:=a % 256
def qf (s x:Nat):Nat:=Ut (Uu s x) (il (32 - s) x)
theorem LX (x:Int):IntKind.u32.wrap x=x % 4294967296:=by simp [IntKind.wrap,IntKind.bits,IntKind.signed]
theorem jT (x:Int):IntKind.u64.wrap x=x % 18446744073709551616:=by simp [IntKind.wrap,IntKind.bits,IntKind.signed]
theorem Gm (x:Int):IntKind.u8.wrap x=x % 256:=by simp [IntKind.wrap,IntKind.bits,IntKind.signed]
theorem eB (k:Nat) (a:Nat):(BitVec.ofInt k (a:Int)).toNat=a % 2 ^ k:=by
 rw [BitVec.toNat_ofInt];omega
theorem fE (a b:Nat):IntKind.u32.wrap ((a:Int)+(b:Int))=((lH a b:Nat):Int):=by rw [LX];unfold lH;omega
theorem yA (a:Nat):IntKind.u32.wrap (a:Int)=((HM a:Nat):Int):=by rw [LX];unfold HM;omega
theorem eN (a:Nat):IntKind.u8.wrap (a:Int)=((t8 a:Nat):Int):=by rw [Gm];unfold t8;omega
theorem OE (a b:Nat):IntKind.u32.wrap ((a:Int)*(b:Int))=((a*b % 4294967296:Nat):Int):=by
 rw [LX,← Int.natCast_mul];omega
theorem Uw (a n:Nat):IntKind.u32.wrap ((a:Int)*2 ^ n)=((Uu n a:Nat):Int):=by
 have:=OE a (2 ^ n);rw [Int.natCast_pow] at this;exact this
theorem Xy (a:Nat):IntKind.u32.wrap ((a:Int)*256)=((Uu 8 a:Nat):Int):=OE a 256
theorem gu (a b:Nat):bits .xor .u32 (a:Int) (b:Int)=((nR a b:Nat):Int):=by
 show IntKind.u32.wrap (((BitVec.ofInt 32 (a:Int)) ^^^ (BitVec.ofInt 32 (b:Int))).toNat:Int)=_;rw [BitVec.toNat_xor,eB,eB,← Nat.xor_mod_two_pow,yA];unfold nR HM;congr 1;omega
theorem i7 (a b:Nat):bits .and .u32 (a:Int) (b:Int)=((yx a b:Nat):Int):=by
 show IntKind.u32.wrap (((BitVec.ofInt 32 (a:Int)) &&& (BitVec.ofInt 32 (b:Int))).toNat:Int)=_;rw [BitVec.toNat_and,eB,eB,← Nat.and_mod_two_pow,yA];unfold yx HM;congr 1;omega
theorem Ux (a b:Nat):bits .or .u32 (a:Int) (b:Int)=((Ut a b:Nat):Int):=by
 show IntKind.u32.wrap (((BitVec.ofInt 32 (a:Int)) ||| (BitVec.ofInt 32 (b:Int))).toNat:Int)=_;rw [BitVec.toNat_or,eB,eB,← Nat.or_mod_two_pow,yA];unfold Ut HM;congr 1;omega
theorem OF (a:Nat):bits .xor .u32 4294967295 (a:Int)=((c32 a:Nat):Int):=gu 4294967295 a
theorem eP (a b:Nat):Int.fdiv (a:Int) (b:Int)=((a / b:Nat):Int):=by
 rw [Int.fdiv_eq_ediv_of_nonneg _ aq];exact (Int.natCast_ediv a b).symm
theorem Uy (a n:Nat):Int.fdiv (a:Int) (2 ^ n)=((il n a:Nat):Int):=by
 have:=eP a (2 ^ n);rw [Int.natCast_pow] at this;exact this
theorem Xz (a:Nat):Int.fdiv (a:Int) 8=((il 3 a:Nat):Int):=eP a 8
theorem Uz (a:Nat):Int.fdiv (a:Int) 1024=((il 10 a:Nat):Int):=eP a 1024
def cw (l:List Nat):List AV:=l.map fun (x:Nat)=>AV.d (.int .u32 (x:Int))
theorem wF (l:List Nat):(cw l).length=l.length:=by simp [cw]
theorem kR (l:List Nat) (i:Nat):(cw l)[i]?=(l[i]?).map fun (x:Nat)=>AV.d (.int .u32 (x:Int)):=by simp [cw]
theorem AO (l:List Nat) (i x:Nat):(cw l).set i (.d (.int .u32 (x:Int)))=cw (l.set i x):=by simp [cw,List.map_set]
theorem HN (ρ:Nat→Nat):∀ l:List Nat,AV.renL ρ (cw l)=cw l
 | []=>by simp [cw,AV.renL]
 | x :: r=>by
  have:=HN ρ r;simp only [cw] at this;simp only [cw,List.map_cons,AV.renL,AV.ren,this]
def nb (bs:List Nat):DV:=.ro 1 (bs.map fun (b:Nat)=>[.int .u8 (b:Int)])
structure S8 where
 a:Nat
 b:Nat
 c:Nat
 d:Nat
 e:Nat
 f:Nat
 g:Nat
 h:Nat
def S8.l (s:S8):List Nat:=[s.a,s.b,s.c,s.d,s.e,s.f,s.g,s.h]
def T1 (s:S8) (k w:Nat):Nat:=lH (lH (lH (lH s.h (nR (nR (qf 26 s.e) (qf 21 s.e)) (qf 7 s.e))) (nR (yx s.e s.f) (yx (c32 s.e) s.g))) k) w
def T2 (s:S8):Nat:=lH (nR (nR (qf 30 s.a) (qf 19 s.a)) (qf 10 s.a)) (nR (nR (yx s.a s.b) (yx s.a s.c)) (yx s.b s.c))
def rd (s:S8) (k w:Nat):S8:=⟨lH (T1 s k w) (T2 s),s.a,s.b,s.c,lH s.d (T1 s k w),s.e,s.f,s.g⟩
def EV (s:S8) (p:Nat × Nat):S8:=rd s p.1 p.2
section
variable {α β:Type} (f:β→α→β)
def nH (t:Nat) (l:List α) (s:β):β:=(l.drop t).foldl f s
theorem sD {l:List α} {p:α} {s:β} {t:Nat} (h:l[t]?=some p):nH f t l s=nH f (t+1) l (f s p):=by
 obtain ⟨h1,h2⟩:=ci.1 h;unfold nH;rw [List.drop_eq_getElem_cons h1,List.foldl_cons,h2]
theorem uK {l:List α} {s:β} {t:Nat} (h:l.length≤t):nH f t l s=s:=by
 unfold nH;rw [dg h,List.foldl_nil]
end
def AP (ks ws:List Nat) (s:S8):S8:=nH EV 0 (ks.zip ws) s
def HO (s v:S8):S8:=⟨lH s.a v.a,lH s.b v.b,lH s.c v.c,lH s.d v.d,lH s.e v.e,lH s.f v.f,lH s.g v.g,lH s.h v.h⟩
def o8 (b:List Nat):Nat:=b.foldl (fun x c=>Ut (Uu 8 x) (HM c)) 0
def wx (w:List Nat):Nat :=
 let t:=w.length
 let x:=w.getD (t - 15) 0
 let y:=w.getD (t - 2) 0
 let s0:=nR (nR (qf 25 x) (qf 14 x)) (il 3 x)
 let s1:=nR (nR (qf 15 y) (qf 13 y)) (il 10 y)
 lH (lH (lH (w.getD (t - 16) 0) s0) (w.getD (t - 7) 0)) s1
def im (b:List Nat):Nat→List Nat
 | 0=>[]
 | n+1=>im b n ++ [o8 ((b.take (4*n+4)).drop (4*n))]
def dM (b:List Nat):Nat→List Nat
 | 0=>im b 16
 | n+1=>dM b n ++ [wx (dM b n)]
theorem nS (b:List Nat):∀ n,(im b n).length=n
 | 0=>rfl
 | n+1=>by simp [im,nS b n]
theorem qh (b:List Nat):∀ n,(dM b n).length=n+16
 | 0=>nS b 16
 | n+1=>by
  have:=qh b n;simp only [dM,b_,this,List.length_singleton]
def o9 (b:List Nat):List Nat:=dM b 48
theorem qi (b:List Nat):(o9 b).length=64:=qh b 48
def K:List Nat:=[0x428a2f98,0x71374491,0xb5c0fbcf,0xe9b5dba5,0x3956c25b,0x59f111f1,0x923f82a4,0xab1c5ed5] ++ [0xd807aa98,0x12835b01,0x243185be,0x550c7dc3,0x72be5d74,0x80deb1fe,0x9bdc06a7,0xc19bf174] ++
 [0xe49b69c1,0xefbe4786,0x0fc19dc6,0x240ca1cc,0x2de92c6f,0x4a7484aa,0x5cb0a9dc,0x76f988da] ++ [0x983e5152,0xa831c66d,0xb00327c8,0xbf597fc7,0xc6e00bf3,0xd5a79147,0x06ca6351,0x14292967] ++
 [0x27b70a85,0x2e1b2138,0x4d2c6dfc,0x53380d13,0x650a7354,0x766a0abb,0x81c2c92e,0x92722c85] ++ [0xa2bfe8a1,0xa81a664b,0xc24b8b70,0xc76c51a3,0xd192e819,0xd6990624,0xf40e3585,0x106aa070] ++
 [0x19a4c116,0x1e376c08,0x2748774c,0x34b0bcb5,0x391c0cb3,0x4ed8aa4a,0x5b9cca4f,0x682e6ff3] ++ [0x748f82ee,0x78a5636f,0x84c87814,0x8cc70208,0x90befffa,0xa4506ceb,0xbef9a3f7,0xc67178f2]
def H0:S8:=⟨0x6a09e667,0xbb67ae85,0x3c6ef372,0xa54ff53a,0x510e527f,0x9b05688c,0x1f83d9ab,0x5be0cd19⟩
def take (s:S8) (b:List Nat):S8:=HO s (AP K (o9 b) s)
def qU:Nat→S8→List Nat→S8 × List Nat
 | 0,s,b=>(s,b)
 | n+1,s,b=>if 64≤b.length then qU n (Go.Sha.take s (b.take 64)) (b.drop 64) else (s,b)
def wG (x:Nat):Nat→List Nat
 | 0=>[]
 | k+1=>wG x k ++ [t8 (il (24 - 8*k) x)]
theorem rH (x:Nat):∀ k,(wG x k).length=k
 | 0=>rfl
 | k+1=>by simp [wG,rH x k]
def jh (l:List Nat):Nat→List Nat
 | 0=>[]
 | i+1=>jh l i ++ wG (l.getD i 0) 4
theorem mZ (l:List Nat):∀ i,(jh l i).length=4*i
 | 0=>rfl
 | i+1=>by simp [jh,mZ l i,rH];omega
def Gn (s:S8):List Nat:=jh s.l 8
end Go.Sha
namespace Go.Proofs.YtmfnimjnneflnaaGreat
open Go.Am Go.Sha
def z64:List Nat:=List.replicate 64 0
theorem LY:z64.length=64:=rfl
@[go_sem] theorem YJ:eD Tryz.prog 211=some (cw z64):=by kernel_rfl
attribute [go_sem] LY wF
def cb (l:List Nat):List AV:=l.map fun (x:Nat)=>AV.d (.int .u8 (x:Int))
theorem am (l:List Nat):(cb l).length=l.length:=by simp [cb]
theorem AQ (l:List Nat) (i:Nat):(cb l)[i]?=(l[i]?).map fun (x:Nat)=>AV.d (.int .u8 (x:Int)):=by simp [cb]
theorem AS (l:List Nat) (i x:Nat):(cb l).set i (.d (.int .u8 (x:Int)))=cb (l.set i x):=by simp [cb,List.map_set]
theorem aK (n:Nat) (l:List Nat):∀ v,v ∈ cb l→v.low1 n:=by
 intro c hc;simp only [cb,List.mem_map] at hc;obtain ⟨x,_,rfl⟩:=hc
 trivial
theorem b8 (l:List Nat):∀ c,c ∈ cb l→c.deep1:=by
 intro c hc;simp only [cb,List.mem_map] at hc;obtain ⟨x,_,rfl⟩:=hc
 trivial
def z32:List Nat:=List.replicate 32 0
theorem LZ:z32.length=32:=rfl
@[go_sem] theorem YK:eD Tryz.prog 29=some (cb z32):=by kernel_rfl
attribute [go_sem] LZ am
theorem QG:Cd Tryz.prog 113=true:=by kernel_rfl
attribute [go_sem] QG
theorem fx (x s:Nat) (k:Int) (hs:bits .and .u64 (IntKind.u64.wrap k) 31=(s:Int)) (h1:s≤31) :
  av Tryz.prog 148 [.d (.int .u32 (x:Int)),.d (.int .i64 k)] (fun r=>r=.d (.int .u32 ((qf s x:Nat):Int))):=by
 refine bK Tryz.func148 Tryz.ntmps148 (rs:=[.tmp 4]) a9 ?_;have e1:IntKind.u64.wrap (32 - (s:Int))=((32 - s:Nat):Int):=by rw [jT];omega
 have e2:min s 32=s:=aq;have e3:min (32 - s) 32=32 - s:=aq;simp [go_sem,hs,e1,e2,e3,IntKind.bits,ah];refine aa a9 ?_;rw [Uw,Uy,Ux];rfl
theorem EW:av Tryz.prog 104 [] (fun r=>r=.agg (cw H0.l)):=by
 refine bK Tryz.func104 Tryz.ntmps104 (rs:=[.cell 0 164]) a9 ?_;simp [go_sem,ah,ku];exact aa a9 rfl
theorem L0 (l:List Nat):∀ c,c ∈ cw l→c.deep1:=by
 intro c hc;simp only [cw,List.mem_map] at hc;obtain ⟨x,_,rfl⟩:=hc
 trivial
theorem yB:av Tryz.prog 147 [] (fun r=>r=.agg (cw K)):=by
 refine bK Tryz.func147 Tryz.ntmps147 (rs:=[.cell 0 211]) a9 ?_;have zz:eD Tryz.prog 211=some (List.replicate 64 (.d (.int .u32 0))):=by kernel_rfl
 simp [go_sem,ah,zz];exact aa a9 rfl
theorem bH {α:Type} {l:List α} {k:Nat} (h:k<l.length):∃ c,l[k]?=some c∧l.drop k=c :: l.drop (k+1) :=
 ⟨l[k],cm h,List.drop_eq_getElem_cons h⟩
theorem az {k:Nat} (h:k<4611686018427387904):IntKind.i64.wrap ((k:Int)+1)=((k+1:Nat):Int):=by
 rw [IntWalk.i64_in _ aq];omega
theorem XA {n:Nat} (h:n<4611686018427387904):IntKind.i64.wrap (n:Int)=(n:Int):=IntWalk.i64_in _ aq
theorem cq (n:Nat) (l:List Nat):∀ v,v ∈ cw l→v.low1 n:=by
 intro c hc;simp only [cw,List.mem_map] at hc;obtain ⟨x,_,rfl⟩:=hc
 trivial
def io (w:List Nat):List Nat:=w ++ List.replicate (64 - w.length) 0
theorem yC {w:List Nat} (h:w.length≤64):(io w).length=64:=by simp [io];omega
theorem yD {w:List Nat} {i:Nat} (h:i<w.length):(io w)[i]?=some w[i]:=by
 unfold io;rw [List.getElem?_append_left h,cm h]
theorem sE {w:List Nat} {x:Nat} (h:w.length<64):(io w).set w.length x=io (w ++ [x]):=by
 unfold io;rw [List.set_append_right _ _ (cR _),Nat.sub_self];obtain ⟨k,hk⟩:∃ k,64 - w.length=k+1:=⟨63 - w.length,aq⟩;rw [hk,List.replicate_succ,List.set_cons_zero,cD];simp only [b_,List.length_singleton,List.singleton_append];rw [show 64 - (w.length+1)=k by omega]
theorem EX {w:List Nat} {x y:Nat} (h:w.length<64):(io (w ++ [x])).set w.length y=io (w ++ [y]):=by
 rw [← sE h,← sE h,List.set_set]
theorem HQ {w:List Nat} {x:Nat} (h:w.length<64):(io (w ++ [x]))[w.length]?=some x:=by
 rw [yD aw];simp
theorem EY {w:List Nat} (h:w.length<64):io (w ++ [0])=io w:=by
 unfold io;obtain ⟨k,hk⟩:∃ k,64 - w.length=k+1:=⟨63 - w.length,aq⟩;rw [hk,List.replicate_succ,cD];simp only [b_,List.length_singleton,List.singleton_append];rw [show 64 - (w.length+1)=k by omega]
theorem EZ (q:List Nat) {j c:Nat} (h:q[j]?=some c):o8 (q.take (j+1))=Ut (Uu 8 (o8 (q.take j))) (HM c):=by
 unfold o8;rw [List.take_add_one,h,List.foldl_append];rfl
theorem uL (b:List Nat) (hb:b.length=64):av Tryz.prog 146 [.d (nb b)] (fun r=>r=.agg (cw (o9 b))):=by
 refine bK Tryz.func146 Tryz.ntmps146 (rs:=[.cell 2 211]) a9 ?_;simp only [go_sem,Nat.reduceEqDiff,Nat.reduceAdd,Nat.reduceLT,↓reduceIte,Nat.reduceMul,List.length_replicate]
 refine ax (fun t:Nat=>⟨[(0,.d (nb b)),(2,.ptr 0 0 0 1),(3,.ptr 32 0 0 1),(12,.d (.int .i64 t))],[(32,⟨211,64,[cw (io (im b t))]⟩),(0,⟨211,64,[cw z64]⟩)],96⟩)
  (fun t=>t≤16) (fun t=>16 - t) 0 aq (by
   simp [aA,ai,fv,lk,AV.low,AV.low1]
   refine ⟨⟨rfl,cq _ _⟩,cq _ _⟩) ?_
 intro t ht;have e1:=nS b t;have w1:IntKind.i64.wrap (4*(t:Int))=((4*t:Nat):Int):=by rw [IntWalk.i64_in _ aq];omega
 have w2:IntKind.i64.wrap (((4*t:Nat):Int)+4)=((4*t+4:Nat):Int):=by rw [IntWalk.i64_in _ aq];omega
 simp only [go_sem,Nat.reduceEqDiff,Nat.reduceAdd,Nat.reduceLT,↓reduceIte];refine ⟨fun h=>?_,fun h=>?_⟩
 ·have hl4:((b.take (4*t+4)).drop (4*t)).length=4:=by simp;omega
  have hnb:((b.map fun (b:Nat)=>[DV.int .u8 (b:Int)]).take (4*t+4)).drop (4*t)=((b.take (4*t+4)).drop (4*t)).map fun (b:Nat)=>[DV.int .u8 (b:Int)]:=by simp [List.map_drop,List.map_take]
  simp only [go_sem,Nat.reduceEqDiff,Nat.reduceAdd,Nat.reduceLT,↓reduceIte,w1,w2,nb,Int.toNat_natCast,hnb,List.length_map,hl4];refine ⟨aq,aq,?_⟩
  refine ax (fun j:Nat=>⟨[(0,.d (nb b)),(2,.ptr 0 0 0 1),(3,.ptr 32 0 0 1),(12,.d (.int .i64 t)),(4,.d (.int .i64 t)),(21,.d (nb ((b.take (4*t+4)).drop (4*t)))),(22,.d (.int .i64 (4:Nat))),(23,.d (.int .i64 j))],
    [(32,⟨211,64,[cw (io (im b t ++ [o8 (((b.take (4*t+4)).drop (4*t)).take j)]))]⟩),(0,⟨211,64,[cw z64]⟩)],480⟩)
   (fun j=>j≤4) (fun j=>4 - j) 0 aq (by
    simp [aA,ai,fv,lk,AV.low,AV.low1,nb,List.map_drop,List.map_take]
    exact ⟨⟨by rw [show o8 []=0 from rfl,EY aq],cq _ _⟩,cq _ _⟩) ?_
  intro j hj;simp only [go_sem,Nat.reduceEqDiff,Nat.reduceAdd,Nat.reduceLT,↓reduceIte];refine ⟨fun h2=>?_,fun h2=>?_⟩
  ·obtain ⟨c,hc,_⟩:=bH (l:=(b.take (4*t+4)).drop (4*t)) (k:=j) aq
   have g1:(io (im b t ++ [o8 (((b.take (4*t+4)).drop (4*t)).take j)]))[t]?=some (o8 (((b.take (4*t+4)).drop (4*t)).take j)):=by
    have:=HQ (w:=im b t) (x:=o8 (((b.take (4*t+4)).drop (4*t)).take j)) aq;rw [e1] at this;exact this
   have g2:∀ y,(io (im b t ++ [o8 (((b.take (4*t+4)).drop (4*t)).take j)])).set t y=io (im b t ++ [y]):=by
    intro y;have:=EX (w:=im b t) (x:=o8 (((b.take (4*t+4)).drop (4*t)).take j)) (y:=y) aq;rw [e1] at this;exact this
   have w3:=XA (n:=j+1) aq;have g3:(io (im b t ++ [o8 (((b.take (4*t+4)).drop (4*t)).take j)])).length=64:=yC (by simp;omega);generalize hq:(b.take (4*t+4)).drop (4*t)=q at *;simp [go_sem,nb,hc,kR,g1,IntKind.bits,Xy,yA,Ux,AO,g2,g3,e1];refine ⟨aq,aq,?_⟩;have w3:=az (k:=j) aq;rw [w3];refine ap (j+1) aq aq ?_;simp [aA,ai,fv,lk,AV.low,AV.low1,EZ q hc];exact ⟨cq _ _,cq _ _⟩
  ·have hj4:j=4:=aq;subst hj4;have w3:=az (k:=t) aq;rw [w3];refine ap (t+1) aq aq ?_;have hfull:o8 (((b.take (4*t+4)).drop (4*t)).take 4)=o8 ((b.take (4*t+4)).drop (4*t)):=by rw [cA aq]
   simp [aA,ai,fv,lk,AV.low,AV.low1,im];exact ⟨rfl,⟨by rw [hfull],cq _ _⟩,cq _ _⟩
 ·have ht16:t=16:=aq;subst ht16
  refine ax (fun t:Nat=>⟨[(2,.ptr 0 0 0 1),(3,.ptr 32 0 0 1),(7,.d (.int .i64 ((t+16:Nat):Int)))],[(32,⟨211,64,[cw (io (dM b t))]⟩),(0,⟨211,64,[cw z64]⟩)],128⟩)
   (fun t=>t≤48) (fun t=>48 - t) 0 aq (by
    simp [aA,ai,fv,lk,AV.low,AV.low1,dM]
    exact ⟨cq _ _,cq _ _⟩) ?_
  intro t ht;have e1:=qh b t;simp only [go_sem,Nat.reduceEqDiff,Nat.reduceAdd,Nat.reduceLT,↓reduceIte];refine ⟨fun h=>?_,fun h=>?_⟩
  ·have i1:IntKind.i64.wrap (((t+16:Nat):Int) - 15)=((t+16 - 15:Nat):Int):=by rw [IntWalk.i64_in _ aq];omega
   have i2:IntKind.i64.wrap (((t+16:Nat):Int) - 2)=((t+16 - 2:Nat):Int):=by rw [IntWalk.i64_in _ aq];omega
   have i3:IntKind.i64.wrap (((t+16:Nat):Int) - 16)=((t+16 - 16:Nat):Int):=by rw [IntWalk.i64_in _ aq];omega
   have i4:IntKind.i64.wrap (((t+16:Nat):Int) - 7)=((t+16 - 7:Nat):Int):=by rw [IntWalk.i64_in _ aq];omega
   have gg:∀ i,i<t+16→(io (dM b t))[i]?=some ((dM b t).getD i 0):=by
    intro i hi;rw [yD aq,cS,cm aq];rfl
   have w3:=az (k:=t+16) aq;generalize hT:t+16=T at *;apply HB (0 :: 1 :: 2 :: 3 :: 4 :: 5 :: 6 :: 7 :: 8 :: 9 :: []) ([]) 0 (k:=10) (by kernel_rfl) (by kernel_rfl) rfl
   case hz=>repeat (first | exact Its.nil | apply Its.plain rfl | apply Its.guard rfl rfl)
   case hj=>exact Jts.nil
   intro G hG;have g15:=gg (T - 15) aq;have g2:=gg (T - 2) aq;have g16:=gg (T - 16) aq;have g7:=gg (T - 7) aq
   have hwx:wx (dM b t)=lH (lH (lH ((dM b t).getD (T - 16) 0) (nR (nR (qf 25 ((dM b t).getD (T - 15) 0)) (qf 14 ((dM b t).getD (T - 15) 0))) (il 3 ((dM b t).getD (T - 15) 0)))) ((dM b t).getD (T - 7) 0)) (nR (nR (qf 15 ((dM b t).getD (T - 2) 0)) (qf 13 ((dM b t).getD (T - 2) 0))) (il 10 ((dM b t).getD (T - 2) 0))):=by
    unfold wx;rw [e1]
   generalize (dM b t).getD (T - 15) 0=x at g15 hwx;generalize (dM b t).getD (T - 2) 0=y at g2 hwx;generalize (dM b t).getD (T - 16) 0=u at g16 hwx;generalize (dM b t).getD (T - 7) 0=v at g7 hwx;simp [go_sem,i1,i2,kR,g15,g2];refine ⟨aq,aq,hG _ _ ?_⟩;simp only [go_sem,Nat.reduceEqDiff,Nat.reduceAdd,Nat.reduceLT,↓reduceIte,Nat.reduceMul];refine ag (fx x 25 (-7) (by decide) aq) a9 ?_;simp only [go_sem,Nat.reduceEqDiff,Nat.reduceAdd,Nat.reduceLT,↓reduceIte];refine ag (fx x 14 (-18) (by decide) aq) a9 ?_;simp [go_sem,gu,IntKind.bits,Xz];refine ag (fx y 15 (-17) (by decide) aq) a9 ?_;simp only [go_sem,Nat.reduceEqDiff,Nat.reduceAdd,Nat.reduceLT,↓reduceIte];refine ag (fx y 13 (-19) (by decide) aq) a9 ?_;simp [go_sem,gu,IntKind.bits,Uz];apply HB (0 :: 1 :: 2 :: 3 :: 4 :: 5 :: 6 :: 7 :: 8 :: 9 :: 10 :: 11 :: 12 :: 13 :: 14 :: []) ((15,([])) :: []) 0 (k:=16) (by kernel_rfl) (by kernel_rfl) rfl
   case hz=>repeat (first | exact Its.nil | apply Its.plain rfl | apply Its.guard rfl rfl)
   case hj=>exact Jts.plain rfl Its.nil Jts.nil
   intro G hG
   have hset:(io (dM b t)).set T (wx (dM b t))=io (dM b (t+1)):=by
    have:=sE (w:=dM b t) (x:=wx (dM b t)) aq;rw [e1] at this;exact this
   rw [hwx] at hset;have hlen:(io (dM b t)).length=64:=yC aq;simp [go_sem,i3,i4,kR,g16,g7,fE,AO,hset,hlen];refine ⟨aq,aq,aq,aq,hG _ _ ?_⟩;simp [go_sem,w3];refine ap (t+1) aq aq ?_;subst hT;simp [aA,ai,fv,lk,AV.low,AV.low1];exact ⟨aq,cq _ _,cq _ _⟩
  ·have ht48:t=48:=aq;subst ht48
   have hfull:io (dM b 48)=o9 b:=by
    have h0:∀ w:List Nat,w.length=64→io w=w:=fun w hw=>by unfold io;rw [hw,Nat.sub_self,List.replicate_zero,List.append_nil]
    exact h0 _ e1
   rw [hfull];have hsl:=qi b;generalize o9 b=sb at hsl;have htk:(cw sb).take 64=cw sb:=cA (by rw [wF];omega);simp [go_sem,ah,hsl,htk];exact aa (by simp [AV.deep];exact L0 _) rfl
def c7 (s:S8):List AV:=[.d (.int .u32 (s.a:Int)),.d (.int .u32 (s.b:Int)),.d (.int .u32 (s.c:Int)),.d (.int .u32 (s.d:Int)),.d (.int .u32 (s.e:Int)),.d (.int .u32 (s.f:Int)),.d (.int .u32 (s.g:Int)),.d (.int .u32 (s.h:Int))]
theorem qj (s:S8):c7 s=cw s.l:=rfl
theorem uM:K.length=64:=rfl
def gv (s v:S8) (i:Nat):List Nat:=(List.zipWith lH s.l v.l).take i ++ s.l.drop i
theorem yE (s v:S8) {i:Nat} (h:i≤8):(gv s v i).length=8:=by simp [gv,S8.l];omega
theorem uN (s v:S8):gv s v 0=s.l:=by simp [gv]
theorem yF (s v:S8):gv s v 8=(HO s v).l:=by simp [gv,S8.l,HO]
theorem uO (s v:S8) {i:Nat} (h:i<8):∃ x y,v.l[i]?=some y∧(gv s v i)[i]?=some x∧(gv s v i).set i (lH x y)=gv s v (i+1):=by
 rcases (by omega:i=0 ∨ i=1 ∨ i=2 ∨ i=3 ∨ i=4 ∨ i=5 ∨ i=6 ∨ i=7) with rfl | rfl | rfl | rfl | rfl | rfl | rfl | rfl
 ·exact ⟨s.a,v.a,by simp [S8.l],by simp [gv,S8.l],by simp [gv,S8.l]⟩
 ·exact ⟨s.b,v.b,by simp [S8.l],by simp [gv,S8.l],by simp [gv,S8.l]⟩
 ·exact ⟨s.c,v.c,by simp [S8.l],by simp [gv,S8.l],by simp [gv,S8.l]⟩
 ·exact ⟨s.d,v.d,by simp [S8.l],by simp [gv,S8.l],by simp [gv,S8.l]⟩
 ·exact ⟨s.e,v.e,by simp [S8.l],by simp [gv,S8.l],by simp [gv,S8.l]⟩
 ·exact ⟨s.f,v.f,by simp [S8.l],by simp [gv,S8.l],by simp [gv,S8.l]⟩
 ·exact ⟨s.g,v.g,by simp [S8.l],by simp [gv,S8.l],by simp [gv,S8.l]⟩
 ·exact ⟨s.h,v.h,by simp [S8.l],by simp [gv,S8.l],by simp [gv,S8.l]⟩
theorem CS {l:List Nat} {tail:List AV} {i x:Nat} (h:l[i]?=some x):(cw l ++ tail)[i]?=some (.d (.int .u32 (x:Int))):=by
 have hl:i<(cw l).length:=by rw [wF];exact (ci.1 h).1
 rw [List.getElem?_append_left hl,kR,h];rfl
theorem CU {l:List Nat} {tail:List AV} {i x:Nat} (h:i<l.length):(cw l ++ tail).set i (.d (.int .u32 (x:Int)))=cw (l.set i x) ++ tail:=by
 rw [List.set_append_left _ _ (by rw [wF];exact h),AO]
theorem OG:(if IntKind.u32.signed=true then -1 else IntKind.u32.max)=(4294967295:Int):=by decide
theorem rI (ty:TypeId) (e:Nat) (s:S8) (tail:List AV) (b:List Nat) (hb:b.length=64) (htail:∀ n,∀ v,v ∈ tail→v.low1 n) :
  cC Tryz.prog 105 1 [(0,⟨ty,e,[c7 s ++ tail]⟩)] [.ptr 0 0 0 1,.d (nb b)] (fun r hp'=>r=.tup []∧lk 0 hp'=some ⟨ty,e,[c7 (take s b) ++ tail]⟩):=by
 refine al Tryz.func105 (by kernel_rfl) rfl Tryz.ntmps105 (rs:=[]) rfl (dR rfl) (by decide) ?_;simp only [go_sem,Nat.reduceEqDiff,Nat.reduceAdd,Nat.reduceLT,↓reduceIte,Nat.reduceMul];refine ag (uL b hb) a9 ?_;simp only [go_sem,Nat.reduceEqDiff,Nat.reduceAdd,Nat.reduceLT,↓reduceIte,Nat.reduceMul];refine ag yB a9 ?_;have hsl:=qi b;have hzl:(K.zip (o9 b)).length=64:=by rw [List.length_zip,hsl,uM];rfl
 unfold Go.Sha.take AP;generalize o9 b=ws at *;have hz64:(cw z64).drop 64=[]:=rfl;generalize hR:nH EV 0 (K.zip ws) s=R;simp [go_sem,uM,hsl,c7,hz64]
 refine ax (fun t:Nat × S8=>⟨[(0,.ptr 0 0 0 1),(4,.ptr 98 0 0 1),(5,.ptr 130 0 0 1),(6,.ptr 322 0 0 1),(19,.d (.int .i64 t.1))],
   [(322,⟨164,8,[c7 t.2]⟩),(130,⟨211,64,[cw K]⟩),(98,⟨211,64,[cw ws]⟩),(0,⟨ty,e,[c7 s ++ tail]⟩)],418⟩)
  (fun t=>t.1≤64∧nH EV t.1 (K.zip ws) t.2=R) (fun t=>64 - t.1) (0,s) ⟨aq,hR⟩ (by
   simp [aA,ai,fv,lk,AV.low,AV.low1,c7]
   exact ⟨cq _ _,cq _ _,fun v hv=>htail _ v hv⟩) ?_
 clear hR;rintro ⟨t,v⟩ ⟨ht,hR⟩;simp only at ht hR;simp only [go_sem,Nat.reduceEqDiff,Nat.reduceAdd,Nat.reduceLT,↓reduceIte];refine ⟨fun h=>?_,fun h=>?_⟩
 ·obtain ⟨k,hk,_⟩:=bH (l:=K) (k:=t) (by rw [uM];omega);obtain ⟨w,hw,_⟩:=bH (l:=ws) (k:=t) aq;have hz:(K.zip ws)[t]?=some (k,w):=by rw [List.getElem?_zip_eq_some];exact ⟨hk,hw⟩
  rw [sD EV hz] at hR;simp only [go_sem,Nat.reduceEqDiff,Nat.reduceAdd,Nat.reduceLT,↓reduceIte,c7];simp [go_sem];refine b7 [0,1,2,4,7,11,12,13,14,15,16,17,18,19,20,22,23,24,26,27,28] [(3,[]),(5,[6]),(8,[9,10,21,25,29,30])] 3 (k:=31) ?_;intro G hG;simp [go_sem,kR,hk,hw,gu,i7,OG,OF,fE];refine ⟨aq,?_⟩;refine ag (fx v.e 26 (-6) (by decide) aq) a9 ?_;simp [go_sem,gu,i7,fE];refine ag (fx v.e 21 (-11) (by decide) aq) a9 ?_;simp [go_sem,gu,i7,fE];refine ag (fx v.e 7 (-25) (by decide) aq) a9 ?_;simp [go_sem,gu,i7,fE];have hT1:lH (lH (lH (lH v.h (nR (nR (qf 26 v.e) (qf 21 v.e)) (qf 7 v.e))) (nR (yx v.e v.f) (yx (c32 v.e) v.g))) k) w=T1 v k w:=by unfold T1;with_reducible rfl
  rw [hT1];refine hG _ _ ?_;clear hG G;simp [go_sem];refine b7 [0,2,5,8,9,10,11,12,13,14,15,16,17,18,19,20,21,22] [(1,[]),(3,[4]),(6,[7,23,24])] 3 (k:=25) ?_;intro G hG;simp [go_sem,gu,i7,fE];refine ag (fx v.a 30 (-2) (by decide) aq) a9 ?_;simp [go_sem,gu,i7,fE];refine ag (fx v.a 19 (-13) (by decide) aq) a9 ?_;simp [go_sem,gu,i7,fE];refine ag (fx v.a 10 (-22) (by decide) aq) a9 ?_;simp [go_sem,gu,i7,fE];have hT2:lH (nR (nR (qf 30 v.a) (qf 19 v.a)) (qf 10 v.a)) (nR (nR (yx v.a v.b) (yx v.a v.c)) (yx v.b v.c))=T2 v:=by unfold T2;with_reducible rfl
  rw [hT2];refine hG _ _ ?_;clear hG G;have w3:=az (k:=t) aq;simp [go_sem,fE,ku,w3];refine ap (t+1,EV v (k,w)) ⟨by simp only;omega,hR⟩ (by simp only;omega) ?_;simp [aA,ai,fv,lk,AV.low,AV.low1,c7,EV,rd];exact ⟨cq _ _,cq _ _,fun v hv=>htail _ v hv⟩
 ·have ht64:t=64:=aq;subst ht64;rw [uK EV aq] at hR;subst hR
  refine ax (fun i:Nat=>⟨[(0,.ptr 0 0 0 1),(6,.ptr 322 0 0 1),(101,.d (.int .i64 i))],[(322,⟨164,8,[cw v.l]⟩),(0,⟨ty,e,[cw (gv s v i) ++ tail]⟩)],482⟩)
   (fun i=>i≤8) (fun i=>8 - i) 0 aq (by
    simp [aA,ai,fv,lk,AV.low,AV.low1,uN,qj];refine ⟨cq _ _,fun v hv=>?_⟩;rcases hv with hv | hv
    ·exact cq _ _ v hv
    ·exact htail _ v hv) ?_
  intro i hi;simp only [go_sem,Nat.reduceEqDiff,Nat.reduceAdd,Nat.reduceLT,↓reduceIte];refine ⟨fun h=>?_,fun h=>?_⟩
  ·obtain ⟨x,y,hy,hx,hset⟩:=uO s v (i:=i) aq;have hml:=yE s v hi;refine b7 [0,1,2,3,4,5,6,7,8,9,10] [(11,[])] 0 (k:=12) ?_;intro G hG;have hs2:=CU (l:=gv s v i) (tail:=tail) (i:=i) (x:=lH x y) aq;rw [hset] at hs2;simp [go_sem,CS hx,kR,hy,fE,hs2,hml];refine ⟨aq,aq,hG _ _ ?_⟩;have w3:=az (k:=i) aq;simp [go_sem,w3];refine ap (i+1) aq aq ?_;simp [aA,ai,fv,lk,AV.low,AV.low1];refine ⟨cq _ _,fun v hv=>?_⟩;rcases hv with hv | hv
   ·exact cq _ _ v hv
   ·exact htail _ v hv
  ·have hi8:i=8:=aq;subst hi8;simp [go_sem,ah,yF,qj];simp [cw,S8.l]
def rb (L:List Nat):List (List AV):=L.map fun (x:Nat)=>[.d (.int .u8 (x:Int))]
theorem aH (L:List Nat):(rb L).length=L.length:=by simp [rb]
theorem bp (n:Nat) (L:List Nat):∀ r,r ∈ rb L→∀ v,v ∈ r→v.low1 n:=by
 intro r hr v hv;simp only [rb,List.mem_map] at hr;obtain ⟨x,_,rfl⟩:=hr;simp at hv;subst hv
 trivial
theorem L6 (l:List Nat):∀ c,c ∈ cw l→c.flat1:=by
 intro c hc;simp only [cw,List.mem_map] at hc;obtain ⟨x,_,rfl⟩:=hc
 trivial
theorem CV {hp:Hp} {I:Nat→Prop}:∀ (L:List Nat),RowsR hp I (rb L) (L.map fun (x:Nat)=>[.int .u8 (x:Int)])
 | []=>.nil
 | x :: r=>.cons (.cons (.d _) .nil) (CV r)
theorem pa {hp:Hp} {I:Nat→Prop} {id i0 n:Nat} {L:List Nat} (hb:lk id hp=some ⟨5,1,rb L⟩) (hI:I id) (h:i0+n≤L.length):SnapD hp I (.own id i0 n L.length) (nb ((L.drop i0).take n)):=by
 refine ik hb hI (aH L) (es:=((L.drop i0).take n).map fun (x:Nat)=>[.int .u8 (x:Int)]) ?_ (by simp;omega) (fun r hr=>by
  rw [List.mem_map] at hr;obtain ⟨c,_,rfl⟩:=hr
  rfl)
 have:((rb L).drop i0).take n=rb ((L.drop i0).take n):=by simp [rb,List.map_drop,List.map_take]
 rw [this];exact CV _
theorem qV (ty:TypeId) (e:Nat) (s:S8) (tail:List AV) (L:List Nat) (i0:Nat) (hi0:i0+64≤L.length) (htail:∀ n,∀ v,v ∈ tail→v.low1 n) :
  cC Tryz.prog 105 2 [(0,⟨ty,e,[c7 s ++ tail]⟩),(1,⟨5,1,rb L⟩)] [.ptr 0 0 0 1,.own 1 i0 64 L.length] (fun r hp'=>r=.tup []∧lk 0 hp'=some ⟨ty,e,[c7 (take s ((L.drop i0).take 64)) ++ tail]⟩∧lk 1 hp'=some ⟨5,1,rb L⟩):=by
 refine al Tryz.func105 (by kernel_rfl) rfl Tryz.ntmps105 (rs:=[]) rfl (dR rfl) (by decide) ?_;simp only [go_sem,Nat.reduceEqDiff,Nat.reduceAdd,Nat.reduceLT,↓reduceIte,Nat.reduceMul];have hb:((L.drop i0).take 64).length=64:=by simp;omega
 refine iD (uL ((L.drop i0).take 64) hb) rfl (aj (.one (ak (pa rfl trivial hi0))) aE) (by simp [AV.flat];exact L6 _) ?_;generalize (L.drop i0).take 64=b at *;simp only [go_sem,Nat.reduceEqDiff,Nat.reduceAdd,Nat.reduceLT,↓reduceIte,Nat.reduceMul];refine ag yB a9 ?_;have hsl:=qi b;have hzl:(K.zip (o9 b)).length=64:=by rw [List.length_zip,hsl,uM];rfl
 unfold Go.Sha.take AP;generalize o9 b=ws at *;have hz64:(cw z64).drop 64=[]:=rfl;generalize hR:nH EV 0 (K.zip ws) s=R;simp [go_sem,uM,hsl,c7,hz64]
 refine ax (fun t:Nat × S8=>⟨[(0,.ptr 0 0 0 1),(4,.ptr 99 0 0 1),(5,.ptr 131 0 0 1),(6,.ptr 323 0 0 1),(19,.d (.int .i64 t.1))],
   [(323,⟨164,8,[c7 t.2]⟩),(131,⟨211,64,[cw K]⟩),(99,⟨211,64,[cw ws]⟩),(0,⟨ty,e,[c7 s ++ tail]⟩),(1,⟨5,1,rb L⟩)],419⟩)
  (fun t=>t.1≤64∧nH EV t.1 (K.zip ws) t.2=R) (fun t=>64 - t.1) (0,s) ⟨aq,hR⟩ (by
   simp [aA,ai,fv,lk,AV.low,AV.low1,c7]
   exact ⟨cq _ _,cq _ _,fun v hv=>htail _ v hv,bp _ _⟩) ?_
 clear hR;rintro ⟨t,v⟩ ⟨ht,hR⟩;simp only at ht hR;simp only [go_sem,Nat.reduceEqDiff,Nat.reduceAdd,Nat.reduceLT,↓reduceIte];refine ⟨fun h=>?_,fun h=>?_⟩
 ·obtain ⟨k,hk,_⟩:=bH (l:=K) (k:=t) (by rw [uM];omega);obtain ⟨w,hw,_⟩:=bH (l:=ws) (k:=t) aq;have hz:(K.zip ws)[t]?=some (k,w):=by rw [List.getElem?_zip_eq_some];exact ⟨hk,hw⟩
  rw [sD EV hz] at hR;simp only [go_sem,Nat.reduceEqDiff,Nat.reduceAdd,Nat.reduceLT,↓reduceIte,c7];simp [go_sem];refine b7 [0,1,2,4,7,11,12,13,14,15,16,17,18,19,20,22,23,24,26,27,28] [(3,[]),(5,[6]),(8,[9,10,21,25,29,30])] 3 (k:=31) ?_;intro G hG;simp [go_sem,kR,hk,hw,gu,i7,OG,OF,fE];refine ⟨aq,?_⟩;refine ag (fx v.e 26 (-6) (by decide) aq) a9 ?_;simp [go_sem,gu,i7,fE];refine ag (fx v.e 21 (-11) (by decide) aq) a9 ?_;simp [go_sem,gu,i7,fE];refine ag (fx v.e 7 (-25) (by decide) aq) a9 ?_;simp [go_sem,gu,i7,fE];have hT1:lH (lH (lH (lH v.h (nR (nR (qf 26 v.e) (qf 21 v.e)) (qf 7 v.e))) (nR (yx v.e v.f) (yx (c32 v.e) v.g))) k) w=T1 v k w:=by unfold T1;with_reducible rfl
  rw [hT1];refine hG _ _ ?_;clear hG G;simp [go_sem];refine b7 [0,2,5,8,9,10,11,12,13,14,15,16,17,18,19,20,21,22] [(1,[]),(3,[4]),(6,[7,23,24])] 3 (k:=25) ?_;intro G hG;simp [go_sem,gu,i7,fE];refine ag (fx v.a 30 (-2) (by decide) aq) a9 ?_;simp [go_sem,gu,i7,fE];refine ag (fx v.a 19 (-13) (by decide) aq) a9 ?_;simp [go_sem,gu,i7,fE];refine ag (fx v.a 10 (-22) (by decide) aq) a9 ?_;simp [go_sem,gu,i7,fE];have hT2:lH (nR (nR (qf 30 v.a) (qf 19 v.a)) (qf 10 v.a)) (nR (nR (yx v.a v.b) (yx v.a v.c)) (yx v.b v.c))=T2 v:=by unfold T2;with_reducible rfl
  rw [hT2];refine hG _ _ ?_;clear hG G;have w3:=az (k:=t) aq;simp [go_sem,fE,ku,w3];refine ap (t+1,EV v (k,w)) ⟨by simp only;omega,hR⟩ (by simp only;omega) ?_;simp [aA,ai,fv,lk,AV.low,AV.low1,c7,EV,rd];exact ⟨cq _ _,cq _ _,fun v hv=>htail _ v hv,bp _ _⟩
 ·have ht64:t=64:=aq;subst ht64;rw [uK EV aq] at hR;subst hR
  refine ax (fun i:Nat=>⟨[(0,.ptr 0 0 0 1),(6,.ptr 323 0 0 1),(101,.d (.int .i64 i))],[(323,⟨164,8,[cw v.l]⟩),(0,⟨ty,e,[cw (gv s v i) ++ tail]⟩),(1,⟨5,1,rb L⟩)],483⟩)
   (fun i=>i≤8) (fun i=>8 - i) 0 aq (by
    simp [aA,ai,fv,lk,AV.low,AV.low1,uN,qj];refine ⟨cq _ _,fun v hv=>?_,bp _ _⟩;rcases hv with hv | hv
    ·exact cq _ _ v hv
    ·exact htail _ v hv) ?_
  intro i hi;simp only [go_sem,Nat.reduceEqDiff,Nat.reduceAdd,Nat.reduceLT,↓reduceIte];refine ⟨fun h=>?_,fun h=>?_⟩
  ·obtain ⟨x,y,hy,hx,hset⟩:=uO s v (i:=i) aq;have hml:=yE s v hi;refine b7 [0,1,2,3,4,5,6,7,8,9,10] [(11,[])] 0 (k:=12) ?_;intro G hG;have hs2:=CU (l:=gv s v i) (tail:=tail) (i:=i) (x:=lH x y) aq;rw [hset] at hs2;simp [go_sem,CS hx,kR,hy,fE,hs2,hml];refine ⟨aq,aq,hG _ _ ?_⟩;have w3:=az (k:=i) aq;simp [go_sem,w3];refine ap (i+1) aq aq ?_;simp [aA,ai,fv,lk,AV.low,AV.low1];refine ⟨cq _ _,fun v hv=>?_,bp _ _⟩;rcases hv with hv | hv
   ·exact cq _ _ v hv
   ·exact htail _ v hv
  ·have hi8:i=8:=aq;subst hi8;simp [go_sem,ah,yF,qj];simp [cw,S8.l]
theorem lW:cC Tryz.prog 57 0 [] [] (fun r hp'=>r=.ptr 97 0 0 1∧lk 97 hp'=some ⟨167,10,[c7 H0 ++ [.nil,.d (.int .u64 0)]]⟩):=by
 refine al Tryz.func57 (by kernel_rfl) rfl Tryz.ntmps57 (rs:=[.tmp 0]) rfl (dR rfl) (by decide) ?_;simp only [go_sem,Nat.reduceEqDiff,Nat.reduceAdd,Nat.reduceLT,↓reduceIte,Nat.reduceMul];refine ag EW a9 ?_;simp [go_sem,ah,ku,iJ,← qj,c7]
theorem na {β:Type} (f:β→List DV) (b:List β) {P:Program} {el:TypeId} {e:Nat} {es:List (List DV)} {nx:Nat} {Kk:AV→Hp→Prop} {hp:Hp}:eE P el (.d (.rof e es)) (some (List.map ((fun r=>List.map AV.d r) ∘ f) b)) nx Kk hp=(e=P.cellsOf el∧(eD P el).isSome=true∧P.bytesOf el ≠ 0∧(es.length+b.length)*P.bytesOf el≤140737488355328∧we (Kk (.d (.ro e (es ++ b.map f))) hp) (b.map f ≠ []∧Kk (.own nx 0 (es.length+b.length) (es.length+b.length)) ((nx,⟨el,P.cellsOf el,es.map (fun r=>r.map AV.d) ++ List.map ((fun r=>List.map AV.d r) ∘ f) b⟩) :: hp))):=by
 have:=yw (P:=P) (K:=Kk) (hp:=hp) (nx:=nx) el e es (b.map f);rw [List.map_map,List.length_map] at this;exact this
theorem kn {α β:Type} (f:α→β) (l:List α):(l.map f).take l.length=l.map f:=by
 rw [cA aw]
theorem eat_none (k:Nat) (s:S8) (b:List Nat) (h:b.length<64):qU k s b=(s,b):=by
 cases k with
 | zero=>rfl
 | succ k=>simp [qU];omega
theorem eat_more {k:Nat} {s:S8} {b:List Nat} (h:64≤b.length) (hk:b.length≤k):qU k s b=qU (k - 1) (Go.Sha.take s (b.take 64)) (b.drop 64):=by
 obtain ⟨j,rfl⟩:∃ j,k=j+1:=⟨k - 1,aq⟩;rw [qU,if_pos h];rfl
theorem HT (s:S8) (R:AV) (rest b:List Nat) (n:Int) (hR:R=.d (nb rest) ∨ (R=.nil∧rest=[])) (hl:rest.length+b.length≤1000000000000) :
  cC Tryz.prog 58 1 [(0,⟨167,10,[c7 s ++ [R,.d (.int .u64 n)]]⟩)] [.ptr 0 0 0 1,.d (nb b)]
   (fun r hp'=>r=.tup []∧lk 0 hp'=some ⟨167,10,[c7 (qU ((rest ++ b).length) s (rest ++ b)).1 ++ [.d (nb (qU ((rest ++ b).length) s (rest ++ b)).2),.d (.int .u64 (IntKind.u64.wrap (n+(IntKind.u64.wrap (b.length:Int)))))]]⟩):=by
 refine al Tryz.func58 (by kernel_rfl) rfl Tryz.ntmps58 (rs:=[]) rfl (dR rfl) (by decide) ?_;generalize hn':IntKind.u64.wrap (n+(IntKind.u64.wrap (b.length:Int)))=n';generalize hE0:qU ((rest ++ b).length) s (rest ++ b)=E;rcases hR with rfl | ⟨rfl,rfl⟩
 ·simp [go_sem,nb,c7,hn'];refine b7 [0,1,2,3,4,5,6,7,8,9,10,11,12,13,14,15,16] [(17,[18,19]),(20,[])] 1 (k:=21) ?_;intro G hG;simp [go_sem,kn,na];refine ⟨by have:=hl;simp only [b_,List.length_nil] at *;omega,.inl (hG _ _ ?_)⟩;clear hG G
  refine ax (fun t:S8 × List Nat=>⟨[(0,.ptr 0 0 0 1)],[(0,⟨167,10,[c7 t.1 ++ [.d (nb t.2),.d (.int .u64 n')]]⟩)],1090⟩)
   (fun t=>t.2.length≤1000000000000∧∃ k,t.2.length≤k∧qU k t.1 t.2=E) (fun t=>t.2.length) (s,rest ++ b) ⟨by have:=hl;simp only [b_,List.length_nil] at *;omega,_,cR _,hE0⟩ (by
    simp [aA,ai,fv,lk,AV.low,AV.low1,nb,c7]) ?_
  rintro ⟨s1,q⟩ ⟨hq,k,hk,hE⟩;simp only at hq hk hE;simp only [go_sem,Nat.reduceEqDiff,Nat.reduceAdd,Nat.reduceLT,↓reduceIte,c7,nb,List.length_map];refine ⟨fun h=>?_,fun h=>?_⟩
  ·have h64:64≤q.length:=aq;rw [eat_more h64 hk] at hE;refine b7 [0,1,2,3,4,5,6,7] [(8,[])] 0 (k:=9) ?_;intro G hG;simp [go_sem];refine ⟨aq,?_⟩;refine bf [(0,0)] (rI 167 10 s1 [.d (nb q),.d (.int .u64 n')] (q.take 64) (by simp;omega) (by simp [AV.low1])) rfl aw (by simp [lk]) (by simp [lk,Blk.ren,aR,AV.renL,AV.ren,bO,fZ,c7,nb]) (by simp [AV.renL,AV.ren,bO,fZ,lk,nb,List.map_take]) ?_;rintro r hp' ⟨rfl,h0⟩;refine ⟨[],rfl,?_⟩;simp [go_sem,bQ,bI,h0,Blk.ren,aR,AV.renL,AV.ren,bO,c7];refine hG _ _ ?_;clear hG G;simp [go_sem,nb];refine ⟨aq,?_⟩;refine ap (Go.Sha.take s1 (q.take 64),q.drop 64) ⟨by simp only [fk];omega,k - 1,by simp only [fk];omega,hE⟩ (by simp only [fk];omega) ?_;simp [aA,ai,fv,lk,AV.low,AV.low1,nb,c7,List.map_drop,kn]
  ·rw [eat_none k s1 q aq] at hE;subst hE;rfl
 ·simp [go_sem,nb,c7,hn'];refine b7 [0,1,2,3,4,5,6,7,8,9,10,11,12,13,14,15,16] [(17,[18,19]),(20,[])] 1 (k:=21) ?_;intro G hG;simp [go_sem,kn,na];refine ⟨by have:=hl;simp only [b_,List.length_nil] at *;omega,.inl (hG _ _ ?_)⟩;clear hG G
  refine ax (fun t:S8 × List Nat=>⟨[(0,.ptr 0 0 0 1)],[(0,⟨167,10,[c7 t.1 ++ [.d (nb t.2),.d (.int .u64 n')]]⟩)],1090⟩)
   (fun t=>t.2.length≤1000000000000∧∃ k,t.2.length≤k∧qU k t.1 t.2=E) (fun t=>t.2.length) (s,[] ++ b) ⟨by have:=hl;simp only [b_,List.length_nil] at *;omega,_,cR _,hE0⟩ (by
    simp [aA,ai,fv,lk,AV.low,AV.low1,nb,c7]) ?_
  rintro ⟨s1,q⟩ ⟨hq,k,hk,hE⟩;simp only at hq hk hE;simp only [go_sem,Nat.reduceEqDiff,Nat.reduceAdd,Nat.reduceLT,↓reduceIte,c7,nb,List.length_map];refine ⟨fun h=>?_,fun h=>?_⟩
  ·have h64:64≤q.length:=aq;rw [eat_more h64 hk] at hE;refine b7 [0,1,2,3,4,5,6,7] [(8,[])] 0 (k:=9) ?_;intro G hG;simp [go_sem];refine ⟨aq,?_⟩;refine bf [(0,0)] (rI 167 10 s1 [.d (nb q),.d (.int .u64 n')] (q.take 64) (by simp;omega) (by simp [AV.low1])) rfl aw (by simp [lk]) (by simp [lk,Blk.ren,aR,AV.renL,AV.ren,bO,fZ,c7,nb]) (by simp [AV.renL,AV.ren,bO,fZ,lk,nb,List.map_take]) ?_;rintro r hp' ⟨rfl,h0⟩;refine ⟨[],rfl,?_⟩;simp [go_sem,bQ,bI,h0,Blk.ren,aR,AV.renL,AV.ren,bO,c7];refine hG _ _ ?_;clear hG G;simp [go_sem,nb];refine ⟨aq,?_⟩;refine ap (Go.Sha.take s1 (q.take 64),q.drop 64) ⟨by simp only [fk];omega,k - 1,by simp only [fk];omega,hE⟩ (by simp only [fk];omega) ?_;simp [aA,ai,fv,lk,AV.low,AV.low1,nb,c7,List.map_drop,kn]
  ·rw [eat_none k s1 q aq] at hE;subst hE;rfl
def lX:Nat→List Nat→List Nat
 | 0,l=>l
 | n+1,l=>if l.length % 64=56 then l else lX n (l ++ [0])
theorem sF {k:Nat} {l:List Nat} (h:l.length % 64 ≠ 56) (hk:0<k):lX k l=lX (k - 1) (l ++ [0]):=by
 obtain ⟨j,rfl⟩:∃ j,k=j+1:=⟨k - 1,aq⟩;rw [lX,if_neg h];rfl
theorem uP {k:Nat} {l:List Nat} (h:l.length % 64=56):lX k l=l:=by
 cases k with
 | zero=>rfl
 | succ k=>rw [lX,if_pos h]
theorem jD (a b:List Nat):rb a ++ rb b=rb (a ++ b):=by simp [rb]
theorem gw (a:List Nat) (x:Nat):rb a ++ [[AV.d (.int .u8 (x:Int))]]=rb (a ++ [x]):=by simp [rb]
theorem sG (a:List Nat):rb a ++ [[AV.d (.int .u8 128)]]=rb (a ++ [128]):=by simp [rb]
theorem yG (a:List Nat):rb a ++ [[AV.d (.int .u8 0)]]=rb (a ++ [0]):=by simp [rb]
theorem cE (a:List Nat):List.map ((fun r=>List.map AV.d r) ∘ fun (x:Nat)=>[DV.int .u8 (x:Int)]) a=rb a:=by simp [rb]
def iP (m:Nat):Nat→List Nat
 | 0=>[]
 | j+1=>iP m j ++ [t8 (il (56 - 8*j) m)]
theorem dU (m:Nat):∀ j,(iP m j).length=j
 | 0=>rfl
 | j+1=>by simp [iP,dU m j]
def lastOf (rest:List Nat) (n:Nat):List Nat:=lX 64 (rest ++ [128]) ++ iP (n*8 % 18446744073709551616) 8
theorem HU (n:Nat):IntKind.u64.wrap ((n:Int)*8)=((n*8 % 18446744073709551616:Nat):Int):=by rw [jT];omega
theorem HV (n:Nat):Int.tmod (n:Int) 64=((n % 64:Nat):Int):=by
 have:=Int.ofNat_tmod n 64
 simpa using this.symm
theorem HW (s:S8) (a b:AV) (ha:∀ n,a.low1 n) (hb:∀ n,b.low1 n) (n:Nat):∀ v,v ∈ c7 s ++ [a,b]→v.low1 n:=by
 intro v hv;rcases cL.1 hv with h | h
 ·exact cq n s.l v h
 ·simp only [e_,List.mem_nil_iff,or_false] at h;rcases h with rfl | rfl
  ·exact ha n
  ·exact hb n
theorem ig (s:S8) (a b:AV) (ha:∀ n,a.low1 n) (hb:∀ n,b.low1 n) (n:Nat):∀ v,v ∈ c7 s ∨ v=a ∨ v=b→v.low1 n:=by
 intro v hv;refine HW s a b ha hb n v ?_
 simpa using hv
theorem fP (s:S8) (n:Nat):∀ v,v ∈ c7 s→v.low1 n:=cq n s.l
theorem CW (ρ:Nat→Nat) (s:S8):AV.renL ρ (c7 s)=c7 s:=HN ρ s.l
theorem dQ (ρ:Nat→Nat) (L:List Nat):List.map (AV.renL ρ) (rb L)=rb L:=by
 simp [rb,AV.renL,AV.ren]
def gx (w:List Nat):List Nat:=w ++ List.replicate (32 - w.length) 0
theorem uQ {w:List Nat} (h:w.length≤32):(gx w).length=32:=by simp [gx];omega
theorem uR {w:List Nat} {x:Nat} (h:w.length<32):(gx w).set w.length x=gx (w ++ [x]):=by
 unfold gx;rw [List.set_append_right _ _ (cR _),Nat.sub_self];obtain ⟨k,hk⟩:∃ k,32 - w.length=k+1:=⟨31 - w.length,aq⟩;rw [hk,List.replicate_succ,List.set_cons_zero,cD];simp only [b_,List.length_singleton,List.singleton_append];rw [show 32 - (w.length+1)=k by omega]
theorem sH {w:List Nat} (h:w.length=32):gx w=w:=by unfold gx;rw [h];simp
theorem UA (s:S8):List.take 8 (c7 s)=c7 s:=rfl
theorem CX (s:S8) {i:Nat} (h:i<8):(c7 s)[i]?=some (.d (.int .u32 ((s.l.getD i 0:Nat):Int))):=by
 rw [qj,kR,cS];have:i<s.l.length:=h;rw [cm this];rfl
theorem Yz (s:S8) (a b:AV):(List.drop 9 (c7 s ++ [a,b])).head?=some b:=rfl
theorem YA (s:S8) (a b:AV):List.take 8 (c7 s ++ [a,b])=c7 s:=rfl
theorem rJ (s:S8):(c7 s).length=8:=rfl
theorem AU (s:S8) (R:AV) (rest:List Nat) (n:Nat) (hR:R=.d (nb rest) ∨ (R=.nil∧rest=[])) (hl:rest.length≤1000000000000) :
  cC Tryz.prog 60 1 [(0,⟨167,10,[c7 s ++ [R,.d (.int .u64 (n:Int))]]⟩)] [.ptr 0 0 0 1]
   (fun r hp'=>r=.agg (cb (Gn (qU (lastOf rest n).length s (lastOf rest n)).1))∧lk 0 hp'=some ⟨167,10,[c7 s ++ [R,.d (.int .u64 (n:Int))]]⟩):=by
 refine al Tryz.func60 (by kernel_rfl) rfl Tryz.ntmps60 (rs:=[.cell 2 29]) rfl (dR rfl) (by decide) ?_;rcases hR with rfl | ⟨rfl,rfl⟩
 ·simp [go_sem,nb,c7,cE,sG,aH];refine ⟨aq,aq,?_⟩
  refine ax (fun l:List Nat=>⟨[(0,.ptr 0 0 0 1),(2,.ptr 2 0 0 1),(3,.own 98 0 l.length l.length)],[(98,⟨5,1,rb l⟩),(2,⟨29,32,[cb z32]⟩),(0,⟨167,10,[c7 s ++ [.d (nb rest),.d (.int .u64 (n:Int))]]⟩)],450⟩)
   (fun l=>l.length≤1000000000000+65∧∃ k,(120 - l.length % 64) % 64≤k∧(k+l.length≤1000000000000+65)∧lX k l=lX 64 (rest ++ [128])) (fun l=>(120 - l.length % 64) % 64) (rest ++ [128]) ⟨by have:=hl;simp only [b_,List.length_nil,List.length_singleton] at *;omega,64,aq,by have:=hl;simp only [b_,List.length_nil,List.length_singleton] at *;omega,rfl⟩ (by
    simp [aA,ai,fv,lk,AV.low,AV.low1,nb,c7]
    exact ⟨bp _ _,aK _ _⟩) ?_
  rintro l ⟨hl1,k,hk,hk2,hP⟩;have em:Int.tmod (l.length:Int) 64=((l.length % 64:Nat):Int):=HV _;simp only [go_sem,Nat.reduceEqDiff,Nat.reduceAdd,Nat.reduceLT,↓reduceIte,em];refine ⟨by decide,fun h=>?_,fun h=>?_⟩
  ·have h56:l.length % 64 ≠ 56:=aq;rw [sF h56 aq] at hP;refine ⟨by decide,aH l,aq,?_⟩;rw [yG];refine ap (l ++ [0]) ⟨by simp only [b_,List.length_singleton];omega,k - 1,by simp only [b_,List.length_singleton];omega,by simp only [b_,List.length_singleton];omega,hP⟩ (by simp only [b_,List.length_singleton];omega) ?_;simp [aA,ai,fv,lk,AV.low,AV.low1];exact ⟨bp _ _,aK _ _,ig s (.d (nb rest)) (.d (.int .u64 n)) (fun _=>trivial) (fun _=>trivial) _⟩
  ·have h56:l.length % 64=56:=aq;rw [uP h56] at hP;simp only [go_sem,Nat.reduceEqDiff,Nat.reduceAdd,Nat.reduceLT,↓reduceIte,Yz,HU];have hm:lastOf rest n=l ++ iP (n*8 % 18446744073709551616) 8:=by unfold lastOf;rw [← hP]
   generalize n*8 % 18446744073709551616=m at hm;generalize lastOf rest n=L at hm;clear hP hk hk2 hl
   refine ax (fun j:Nat=>⟨[(0,.ptr 0 0 0 1),(2,.ptr 2 0 0 1),(3,.own 98 0 (l ++ iP m j).length (l ++ iP m j).length),(4,.d (.int .u64 (m:Int))),(5,.d (.int .i64 (56 - 8*(j:Int))))],[(98,⟨5,1,rb (l ++ iP m j)⟩),(2,⟨29,32,[cb z32]⟩),(0,⟨167,10,[c7 s ++ [.d (nb rest),.d (.int .u64 (n:Int))]]⟩)],642⟩)
    (fun j=>j≤8) (fun j=>8 - j) 0 aq (by
     simp [aA,ai,fv,lk,AV.low,AV.low1,iP]
     exact ⟨bp _ _,aK _ _,ig s (.d (nb rest)) (.d (.int .u64 n)) (fun _=>trivial) (fun _=>trivial) _⟩) ?_
   intro j hj;have hll:(l ++ iP m j).length=l.length+j:=by rw [b_,dU]
   have e8:(56:Int) - 8*(j:Int) - 8=56 - 8*((j+1:Nat):Int):=aq;have w8:IntKind.i64.wrap (56 - 8*(j:Int) - 8)=56 - 8*((j+1:Nat):Int):=by rw [IntWalk.i64_in _ aq];omega
   simp only [go_sem,Nat.reduceEqDiff,Nat.reduceAdd,Nat.reduceLT,↓reduceIte];refine ⟨fun h=>?_,fun h=>?_⟩
   ·have hj7:j≤7:=aq
    have eb:IntKind.u8.wrap (Int.fdiv (m:Int) (2 ^ (min (56 - 8*(j:Int)).toNat 64)))=((t8 (il (56 - 8*j) m):Nat):Int):=by
     rw [show min (56 - 8*(j:Int)).toNat 64=56 - 8*j by omega,Uy,eN]
    have es:rb (l ++ iP m j) ++ [[AV.d (.int .u8 ((t8 (il (56 - 8*j) m):Nat):Int))]]=rb (l ++ iP m (j+1)):=by rw [gw,cD];rfl
    simp only [go_sem,Nat.reduceEqDiff,Nat.reduceAdd,Nat.reduceLT,↓reduceIte,IntKind.bits,eb,aH,es,w8];refine ⟨aq,by decide,by have:=dU m j;omega,?_⟩;refine ap (j+1) aq aq ?_;have hl8:(iP m (j+1)).length=(iP m j).length+1:=by rw [dU,dU]
    simp [aA,ai,fv,lk,AV.low,AV.low1,hl8];exact ⟨aq,bp _ _,aK _ _,ig s (.d (nb rest)) (.d (.int .u64 n)) (fun _=>trivial) (fun _=>trivial) _⟩
   ·have hj8:j=8:=aq;subst hj8;rw [← hm];have hL64:L.length % 64=0:=by rw [hm,b_,dU];omega
    have hLl:L.length≤2000000000000:=by rw [hm,b_,dU];omega
    have hLen:l.length+(iP m 8).length=L.length:=by rw [hm,b_]
    clear hm hll e8 w8 h56 h em;simp [go_sem,YA,rJ,hLen];generalize hE0:qU L.length s L=E
    refine ax (fun t:Nat × S8=>⟨[(0,.ptr 0 0 0 1),(2,.ptr 2 0 0 1),(3,.own 98 (64*t.1) (L.length - 64*t.1) L.length),(6,.ptr 834 0 0 1)],[(834,⟨164,8,[c7 t.2]⟩),(98,⟨5,1,rb L⟩),(2,⟨29,32,[cb z32]⟩),(0,⟨167,10,[c7 s ++ [.d (nb rest),.d (.int .u64 (n:Int))]]⟩)],898⟩)
     (fun t=>64*t.1≤L.length∧∃ k,L.length - 64*t.1≤k∧qU k t.2 (L.drop (64*t.1))=E) (fun t=>L.length - 64*t.1) (0,s) ⟨aq,L.length,aq,hE0⟩ (by
      simp [aA,ai,fv,lk,AV.low,AV.low1]
      exact ⟨fP _ _,bp _ _,aK _ _,ig s (.d (nb rest)) (.d (.int .u64 n)) (fun _=>trivial) (fun _=>trivial) _⟩) ?_
    rintro ⟨j,s1⟩ ⟨hj64,k,hk,hE⟩;simp only at hj64 hk hE;have hdl:(L.drop (64*j)).length=L.length - 64*j:=fk;simp only [go_sem,Nat.reduceEqDiff,Nat.reduceAdd,Nat.reduceLT,↓reduceIte];refine ⟨fun h=>?_,fun h=>?_⟩
    ·have h64:64≤L.length - 64*j:=aq;rw [eat_more aq aq] at hE;simp [go_sem];refine ⟨aq,?_⟩;refine bf [(0,834),(1,98)] (qV 164 8 s1 [] L (64*j) aq aw) rfl aw (by simp [lk]) (by simp [lk,Blk.ren,aR,AV.renL,AV.ren,bO,fZ,c7,rb]) (by simp [AV.renL,AV.ren,bO,fZ,lk]) ?_;rintro r hp' ⟨rfl,h0,h1⟩;refine ⟨[],rfl,?_⟩;simp [go_sem,bQ,bI,h0,h1,Blk.ren,aR,CW,dQ,AV.renL,AV.ren,bO];refine ⟨aq,?_⟩;refine ap (j+1,Go.Sha.take s1 ((L.drop (64*j)).take 64)) ⟨by simp only;omega,k - 1,by simp only;omega,?_⟩ (by simp only;omega) ?_
     ·rw [List.drop_drop] at hE;exact hE
     ·simp [aA,ai,fv,lk,AV.low,AV.low1];exact ⟨⟨aq,aq⟩,fP _ _,bp _ _,aK _ _,ig s (.d (nb rest)) (.d (.int .u64 n)) (fun _=>trivial) (fun _=>trivial) _⟩
    ·have hnil:L.drop (64*j)=[]:=dg aq;rw [hnil,eat_none k s1 [] aw] at hE;have hs1:s1=E.1:=by rw [← hE]
     clear hE hE0 hdl hnil;simp [go_sem,rJ]
     refine ax (fun i:Nat=>⟨[(0,.ptr 0 0 0 1),(2,.ptr 2 0 0 1),(7,.ptr 994 0 0 1),(59,.agg (c7 s1)),(60,.d (.int .i64 i))],[(994,⟨29,32,[cb (gx (jh s1.l i))]⟩),(2,⟨29,32,[cb z32]⟩),(0,⟨167,10,[c7 s ++ [.d (nb rest),.d (.int .u64 (n:Int))]]⟩)],1090⟩)
      (fun i=>i≤8) (fun i=>8 - i) 0 aq (by
       simp [aA,ai,fv,lk,AV.low,AV.low1,UA]
       exact ⟨fP _ _,⟨rfl,aK _ _⟩,aK _ _,ig s (.d (nb rest)) (.d (.int .u64 n)) (fun _=>trivial) (fun _=>trivial) _⟩) ?_
     intro i hi;have hpl:=mZ s1.l i;simp only [go_sem,Nat.reduceEqDiff,Nat.reduceAdd,Nat.reduceLT,↓reduceIte];refine ⟨fun h2=>?_,fun h2=>?_⟩
     ·have hg:=CX s1 (i:=i) aq;have hpre:jh s1.l (i+1)=jh s1.l i ++ wG (s1.l.getD i 0) 4:=rfl;generalize s1.l.getD i 0=x at hg hpre;simp [go_sem,hg];refine ⟨aq,?_⟩
      refine ax (fun k:Nat=>⟨[(0,.ptr 0 0 0 1),(2,.ptr 2 0 0 1),(7,.ptr 994 0 0 1),(59,.agg (c7 s1)),(60,.d (.int .i64 i)),(8,.d (.int .i64 i)),(9,.d (.int .u32 (x:Int))),(64,.d (.int .i64 k))],[(994,⟨29,32,[cb (gx (jh s1.l i ++ wG x k))]⟩),(2,⟨29,32,[cb z32]⟩),(0,⟨167,10,[c7 s ++ [.d (nb rest),.d (.int .u64 (n:Int))]]⟩)],1300⟩)
       (fun k=>k≤4) (fun k=>4 - k) 0 aq (by
        simp [aA,ai,fv,lk,AV.low,AV.low1,wG]
        exact ⟨fP _ _,aK _ _,aK _ _,ig s (.d (nb rest)) (.d (.int .u64 n)) (fun _=>trivial) (fun _=>trivial) _⟩) ?_
      intro k hk4;have hkl:=rH x k;simp only [go_sem,Nat.reduceEqDiff,Nat.reduceAdd,Nat.reduceLT,↓reduceIte];refine ⟨fun h3=>?_,fun h3=>?_⟩
      ·have w1:IntKind.i64.wrap (4*(i:Int))=((4*i:Nat):Int):=by rw [IntWalk.i64_in _ aq];omega
       have w2:IntKind.i64.wrap (((4*i:Nat):Int)+(k:Int))=((4*i+k:Nat):Int):=by rw [IntWalk.i64_in _ aq];omega
       have w3:IntKind.i64.wrap (8*(k:Int))=((8*k:Nat):Int):=by rw [IntWalk.i64_in _ aq];omega
       have w4:IntKind.i64.wrap (24 - ((8*k:Nat):Int))=((24 - 8*k:Nat):Int):=by rw [IntWalk.i64_in _ aq];omega
       have w5:=az (k:=k) aq
       have eb:IntKind.u8.wrap (Int.fdiv (x:Int) (2 ^ (min (24 - 8*k) 32)))=((t8 (il (24 - 8*k) x):Nat):Int):=by
        rw [show min (24 - 8*k) 32=24 - 8*k by omega,Uy,eN]
       have hset:(gx (jh s1.l i ++ wG x k)).set (4*i+k) (t8 (il (24 - 8*k) x))=gx (jh s1.l i ++ wG x (k+1)):=by
        have h:=uR (w:=jh s1.l i ++ wG x k) (x:=t8 (il (24 - 8*k) x)) (by rw [b_];omega);rw [b_,hpl,hkl,cD] at h;exact h
       have hrl:(gx (jh s1.l i ++ wG x k)).length=32:=uQ (by rw [b_];omega);simp only [go_sem,Nat.reduceEqDiff,Nat.reduceAdd,Nat.reduceLT,↓reduceIte,w1,w2,w3,w4,IntKind.bits,Int.toNat_natCast,eb,Nat.mul_one,AS,hset,hrl,w5];refine ⟨aq,aq,?_⟩;refine ap (k+1) aq aq ?_;simp [aA,ai,fv,lk,AV.low,AV.low1];exact ⟨fP _ _,aK _ _,aK _ _,ig s (.d (nb rest)) (.d (.int .u64 n)) (fun _=>trivial) (fun _=>trivial) _⟩
      ·have hk4':k=4:=aq;subst hk4';rw [← hpre];have w5:=az (k:=i) aq;simp only [go_sem,Nat.reduceEqDiff,Nat.reduceAdd,Nat.reduceLT,↓reduceIte,w5];refine ap (i+1) aq aq ?_;simp [aA,ai,fv,lk,AV.low,AV.low1];exact ⟨fP _ _,aK _ _,aK _ _,ig s (.d (nb rest)) (.d (.int .u64 n)) (fun _=>trivial) (fun _=>trivial) _⟩
     ·have hi8:i=8:=aq;subst hi8;have hfull:gx (jh s1.l 8)=Gn s1:=sH hpl;rw [hfull,hs1];have hdl2:(Gn E.1).length=32:=mZ _ 8;have htk:List.take 32 (cb (Gn E.1))=cb (Gn E.1):=cA (by rw [am];omega);simp [go_sem,ah,hdl2,htk];rfl
 ·simp [go_sem,nb,c7,cE,sG,aH]
  refine ax (fun l:List Nat=>⟨[(0,.ptr 0 0 0 1),(2,.ptr 2 0 0 1),(3,.own 98 0 l.length l.length)],[(98,⟨5,1,rb l⟩),(2,⟨29,32,[cb z32]⟩),(0,⟨167,10,[c7 s ++ [.nil,.d (.int .u64 (n:Int))]]⟩)],450⟩)
   (fun l=>l.length≤1000000000000+65∧∃ k,(120 - l.length % 64) % 64≤k∧(k+l.length≤1000000000000+65)∧lX k l=lX 64 ([] ++ [128])) (fun l=>(120 - l.length % 64) % 64) ([] ++ [128]) ⟨by have:=hl;simp only [b_,List.length_nil,List.length_singleton] at *;omega,64,aq,by have:=hl;simp only [b_,List.length_nil,List.length_singleton] at *;omega,rfl⟩ (by
    simp [aA,ai,fv,lk,AV.low,AV.low1,nb,c7]
    exact ⟨⟨rfl,bp _ _⟩,aK _ _⟩) ?_
  rintro l ⟨hl1,k,hk,hk2,hP⟩;have em:Int.tmod (l.length:Int) 64=((l.length % 64:Nat):Int):=HV _;simp only [go_sem,Nat.reduceEqDiff,Nat.reduceAdd,Nat.reduceLT,↓reduceIte,em];refine ⟨by decide,fun h=>?_,fun h=>?_⟩
  ·have h56:l.length % 64 ≠ 56:=aq;rw [sF h56 aq] at hP;refine ⟨by decide,aH l,aq,?_⟩;rw [yG];refine ap (l ++ [0]) ⟨by simp only [b_,List.length_singleton];omega,k - 1,by simp only [b_,List.length_singleton];omega,by simp only [b_,List.length_singleton];omega,hP⟩ (by simp only [b_,List.length_singleton];omega) ?_;simp [aA,ai,fv,lk,AV.low,AV.low1];exact ⟨bp _ _,aK _ _,ig s (.nil) (.d (.int .u64 n)) (fun _=>trivial) (fun _=>trivial) _⟩
  ·have h56:l.length % 64=56:=aq;rw [uP h56] at hP;simp only [go_sem,Nat.reduceEqDiff,Nat.reduceAdd,Nat.reduceLT,↓reduceIte,Yz,HU];have hm:lastOf [] n=l ++ iP (n*8 % 18446744073709551616) 8:=by unfold lastOf;rw [← hP]
   generalize n*8 % 18446744073709551616=m at hm;generalize lastOf [] n=L at hm;clear hP hk hk2 hl
   refine ax (fun j:Nat=>⟨[(0,.ptr 0 0 0 1),(2,.ptr 2 0 0 1),(3,.own 98 0 (l ++ iP m j).length (l ++ iP m j).length),(4,.d (.int .u64 (m:Int))),(5,.d (.int .i64 (56 - 8*(j:Int))))],[(98,⟨5,1,rb (l ++ iP m j)⟩),(2,⟨29,32,[cb z32]⟩),(0,⟨167,10,[c7 s ++ [.nil,.d (.int .u64 (n:Int))]]⟩)],642⟩)
    (fun j=>j≤8) (fun j=>8 - j) 0 aq (by
     simp [aA,ai,fv,lk,AV.low,AV.low1,iP]
     exact ⟨bp _ _,aK _ _,ig s (.nil) (.d (.int .u64 n)) (fun _=>trivial) (fun _=>trivial) _⟩) ?_
   intro j hj;have hll:(l ++ iP m j).length=l.length+j:=by rw [b_,dU]
   have e8:(56:Int) - 8*(j:Int) - 8=56 - 8*((j+1:Nat):Int):=aq;have w8:IntKind.i64.wrap (56 - 8*(j:Int) - 8)=56 - 8*((j+1:Nat):Int):=by rw [IntWalk.i64_in _ aq];omega
   simp only [go_sem,Nat.reduceEqDiff,Nat.reduceAdd,Nat.reduceLT,↓reduceIte];refine ⟨fun h=>?_,fun h=>?_⟩
   ·have hj7:j≤7:=aq
    have eb:IntKind.u8.wrap (Int.fdiv (m:Int) (2 ^ (min (56 - 8*(j:Int)).toNat 64)))=((t8 (il (56 - 8*j) m):Nat):Int):=by
     rw [show min (56 - 8*(j:Int)).toNat 64=56 - 8*j by omega,Uy,eN]
    have es:rb (l ++ iP m j) ++ [[AV.d (.int .u8 ((t8 (il (56 - 8*j) m):Nat):Int))]]=rb (l ++ iP m (j+1)):=by rw [gw,cD];rfl
    simp only [go_sem,Nat.reduceEqDiff,Nat.reduceAdd,Nat.reduceLT,↓reduceIte,IntKind.bits,eb,aH,es,w8];refine ⟨aq,by decide,by have:=dU m j;omega,?_⟩;refine ap (j+1) aq aq ?_;have hl8:(iP m (j+1)).length=(iP m j).length+1:=by rw [dU,dU]
    simp [aA,ai,fv,lk,AV.low,AV.low1,hl8];exact ⟨aq,bp _ _,aK _ _,ig s (.nil) (.d (.int .u64 n)) (fun _=>trivial) (fun _=>trivial) _⟩
   ·have hj8:j=8:=aq;subst hj8;rw [← hm];have hL64:L.length % 64=0:=by rw [hm,b_,dU];omega
    have hLl:L.length≤2000000000000:=by rw [hm,b_,dU];omega
    have hLen:l.length+(iP m 8).length=L.length:=by rw [hm,b_]
    clear hm hll e8 w8 h56 h em;simp [go_sem,YA,rJ,hLen];generalize hE0:qU L.length s L=E
    refine ax (fun t:Nat × S8=>⟨[(0,.ptr 0 0 0 1),(2,.ptr 2 0 0 1),(3,.own 98 (64*t.1) (L.length - 64*t.1) L.length),(6,.ptr 834 0 0 1)],[(834,⟨164,8,[c7 t.2]⟩),(98,⟨5,1,rb L⟩),(2,⟨29,32,[cb z32]⟩),(0,⟨167,10,[c7 s ++ [.nil,.d (.int .u64 (n:Int))]]⟩)],898⟩)
     (fun t=>64*t.1≤L.length∧∃ k,L.length - 64*t.1≤k∧qU k t.2 (L.drop (64*t.1))=E) (fun t=>L.length - 64*t.1) (0,s) ⟨aq,L.length,aq,hE0⟩ (by
      simp [aA,ai,fv,lk,AV.low,AV.low1]
      exact ⟨fP _ _,bp _ _,aK _ _,ig s (.nil) (.d (.int .u64 n)) (fun _=>trivial) (fun _=>trivial) _⟩) ?_
    rintro ⟨j,s1⟩ ⟨hj64,k,hk,hE⟩;simp only at hj64 hk hE;have hdl:(L.drop (64*j)).length=L.length - 64*j:=fk;simp only [go_sem,Nat.reduceEqDiff,Nat.reduceAdd,Nat.reduceLT,↓reduceIte];refine ⟨fun h=>?_,fun h=>?_⟩
    ·have h64:64≤L.length - 64*j:=aq;rw [eat_more aq aq] at hE;simp [go_sem];refine ⟨aq,?_⟩;refine bf [(0,834),(1,98)] (qV 164 8 s1 [] L (64*j) aq aw) rfl aw (by simp [lk]) (by simp [lk,Blk.ren,aR,AV.renL,AV.ren,bO,fZ,c7,rb]) (by simp [AV.renL,AV.ren,bO,fZ,lk]) ?_;rintro r hp' ⟨rfl,h0,h1⟩;refine ⟨[],rfl,?_⟩;simp [go_sem,bQ,bI,h0,h1,Blk.ren,aR,CW,dQ,AV.renL,AV.ren,bO];refine ⟨aq,?_⟩;refine ap (j+1,Go.Sha.take s1 ((L.drop (64*j)).take 64)) ⟨by simp only;omega,k - 1,by simp only;omega,?_⟩ (by simp only;omega) ?_
     ·rw [List.drop_drop] at hE;exact hE
     ·simp [aA,ai,fv,lk,AV.low,AV.low1];exact ⟨⟨aq,aq⟩,fP _ _,bp _ _,aK _ _,ig s (.nil) (.d (.int .u64 n)) (fun _=>trivial) (fun _=>trivial) _⟩
    ·have hnil:L.drop (64*j)=[]:=dg aq;rw [hnil,eat_none k s1 [] aw] at hE;have hs1:s1=E.1:=by rw [← hE]
     clear hE hE0 hdl hnil;simp [go_sem,rJ]
     refine ax (fun i:Nat=>⟨[(0,.ptr 0 0 0 1),(2,.ptr 2 0 0 1),(7,.ptr 994 0 0 1),(59,.agg (c7 s1)),(60,.d (.int .i64 i))],[(994,⟨29,32,[cb (gx (jh s1.l i))]⟩),(2,⟨29,32,[cb z32]⟩),(0,⟨167,10,[c7 s ++ [.nil,.d (.int .u64 (n:Int))]]⟩)],1090⟩)
      (fun i=>i≤8) (fun i=>8 - i) 0 aq (by
       simp [aA,ai,fv,lk,AV.low,AV.low1,UA]
       exact ⟨fP _ _,⟨rfl,aK _ _⟩,aK _ _,ig s (.nil) (.d (.int .u64 n)) (fun _=>trivial) (fun _=>trivial) _⟩) ?_
     intro i hi;have hpl:=mZ s1.l i;simp only [go_sem,Nat.reduceEqDiff,Nat.reduceAdd,Nat.reduceLT,↓reduceIte];refine ⟨fun h2=>?_,fun h2=>?_⟩
     ·have hg:=CX s1 (i:=i) aq;have hpre:jh s1.l (i+1)=jh s1.l i ++ wG (s1.l.getD i 0) 4:=rfl;generalize s1.l.getD i 0=x at hg hpre;simp [go_sem,hg];refine ⟨aq,?_⟩
      refine ax (fun k:Nat=>⟨[(0,.ptr 0 0 0 1),(2,.ptr 2 0 0 1),(7,.ptr 994 0 0 1),(59,.agg (c7 s1)),(60,.d (.int .i64 i)),(8,.d (.int .i64 i)),(9,.d (.int .u32 (x:Int))),(64,.d (.int .i64 k))],[(994,⟨29,32,[cb (gx (jh s1.l i ++ wG x k))]⟩),(2,⟨29,32,[cb z32]⟩),(0,⟨167,10,[c7 s ++ [.nil,.d (.int .u64 (n:Int))]]⟩)],1300⟩)
       (fun k=>k≤4) (fun k=>4 - k) 0 aq (by
        simp [aA,ai,fv,lk,AV.low,AV.low1,wG]
        exact ⟨fP _ _,aK _ _,aK _ _,ig s (.nil) (.d (.int .u64 n)) (fun _=>trivial) (fun _=>trivial) _⟩) ?_
      intro k hk4;have hkl:=rH x k;simp only [go_sem,Nat.reduceEqDiff,Nat.reduceAdd,Nat.reduceLT,↓reduceIte];refine ⟨fun h3=>?_,fun h3=>?_⟩
      ·have w1:IntKind.i64.wrap (4*(i:Int))=((4*i:Nat):Int):=by rw [IntWalk.i64_in _ aq];omega
       have w2:IntKind.i64.wrap (((4*i:Nat):Int)+(k:Int))=((4*i+k:Nat):Int):=by rw [IntWalk.i64_in _ aq];omega
       have w3:IntKind.i64.wrap (8*(k:Int))=((8*k:Nat):Int):=by rw [IntWalk.i64_in _ aq];omega
       have w4:IntKind.i64.wrap (24 - ((8*k:Nat):Int))=((24 - 8*k:Nat):Int):=by rw [IntWalk.i64_in _ aq];omega
       have w5:=az (k:=k) aq
       have eb:IntKind.u8.wrap (Int.fdiv (x:Int) (2 ^ (min (24 - 8*k) 32)))=((t8 (il (24 - 8*k) x):Nat):Int):=by
        rw [show min (24 - 8*k) 32=24 - 8*k by omega,Uy,eN]
       have hset:(gx (jh s1.l i ++ wG x k)).set (4*i+k) (t8 (il (24 - 8*k) x))=gx (jh s1.l i ++ wG x (k+1)):=by
        have h:=uR (w:=jh s1.l i ++ wG x k) (x:=t8 (il (24 - 8*k) x)) (by rw [b_];omega);rw [b_,hpl,hkl,cD] at h;exact h
       have hrl:(gx (jh s1.l i ++ wG x k)).length=32:=uQ (by rw [b_];omega);simp only [go_sem,Nat.reduceEqDiff,Nat.reduceAdd,Nat.reduceLT,↓reduceIte,w1,w2,w3,w4,IntKind.bits,Int.toNat_natCast,eb,Nat.mul_one,AS,hset,hrl,w5];refine ⟨aq,aq,?_⟩;refine ap (k+1) aq aq ?_;simp [aA,ai,fv,lk,AV.low,AV.low1];exact ⟨fP _ _,aK _ _,aK _ _,ig s (.nil) (.d (.int .u64 n)) (fun _=>trivial) (fun _=>trivial) _⟩
      ·have hk4':k=4:=aq;subst hk4';rw [← hpre];have w5:=az (k:=i) aq;simp only [go_sem,Nat.reduceEqDiff,Nat.reduceAdd,Nat.reduceLT,↓reduceIte,w5];refine ap (i+1) aq aq ?_;simp [aA,ai,fv,lk,AV.low,AV.low1];exact ⟨fP _ _,aK _ _,aK _ _,ig s (.nil) (.d (.int .u64 n)) (fun _=>trivial) (fun _=>trivial) _⟩
     ·have hi8:i=8:=aq;subst hi8;have hfull:gx (jh s1.l 8)=Gn s1:=sH hpl;rw [hfull,hs1];have hdl2:(Gn E.1).length=32:=mZ _ 8;have htk:List.take 32 (cb (Gn E.1))=cb (Gn E.1):=cA (by rw [am];omega);simp [go_sem,ah,hdl2,htk];rfl
end Go.Proofs.YtmfnimjnneflnaaGreat
namespace Go.Sha
theorem yH:∀ (k j:Nat) (s:S8) (b:List Nat),b.length≤k→b.length≤j→qU k s b=qU j s b
 | 0,j,s,b,h,_=>by
  have hb:b.length<64:=aq;rw [Go.Proofs.YtmfnimjnneflnaaGreat.eat_none 0 s b hb,Go.Proofs.YtmfnimjnneflnaaGreat.eat_none j s b hb]
 | k+1,j,s,b,h,h2=>by
  by_cases h64:64≤b.length
  ·rw [Go.Proofs.YtmfnimjnneflnaaGreat.eat_more h64 h,Go.Proofs.YtmfnimjnneflnaaGreat.eat_more h64 h2];exact yH k (j - 1) _ _ (by rw [fk];omega) (by rw [fk];omega)
  ·rw [Go.Proofs.YtmfnimjnneflnaaGreat.eat_none _ s b aq,Go.Proofs.YtmfnimjnneflnaaGreat.eat_none _ s b aq]
def E (s:S8) (b:List Nat):S8 × List Nat:=qU b.length s b
theorem wH {s:S8} {b:List Nat} (h:b.length<64):E s b=(s,b):=Go.Proofs.YtmfnimjnneflnaaGreat.eat_none _ s b h
theorem AW {s:S8} {b:List Nat} (h:64≤b.length):E s b=E (Go.Sha.take s (b.take 64)) (b.drop 64):=by
 unfold E;rw [Go.Proofs.YtmfnimjnneflnaaGreat.eat_more h (cR _)];exact yH _ _ _ _ (by rw [fk];omega) (cR _)
theorem yI (b:List Nat):∀ (n:Nat) (s:S8) (a:List Nat),a.length≤n→E s (a ++ b)=E (E s a).1 ((E s a).2 ++ b)
 | 0,s,a,h=>by rw [wH (b:=a) aq]
 | n+1,s,a,h=>by
  by_cases h64:64≤a.length
  ·rw [AW (b:=a) h64,AW (b:=a ++ b) (by rw [b_];omega)];rw [List.take_append_of_le_length h64,List.drop_append_of_le_length h64];exact yI b n _ _ (by rw [fk];omega)
  ·rw [wH (b:=a) aq]
theorem yJ:∀ (n:Nat) (s:S8) (a:List Nat),a.length≤n→(E s a).2.length≤a.length
 | 0,s,a,h=>by rw [wH aq];exact cR _
 | n+1,s,a,h=>by
  by_cases h64:64≤a.length
  ·rw [AW h64];have:=yJ n (Go.Sha.take s (a.take 64)) (a.drop 64) (by rw [fk];omega);rw [fk] at this;omega
  ·rw [wH aq];exact cR _
def qW (p:S8 × List Nat) (n:Nat):List Nat:=Gn (E p.1 (Go.Proofs.YtmfnimjnneflnaaGreat.lastOf p.2 n)).1
def bo (b:List Nat):List Nat:=qW (E H0 b) b.length
def eQ (t b:List Nat):List Nat:=bo (bo t ++ (bo t ++ b))
theorem aS (b:List Nat):(bo b).length=32:=mZ _ 8
end Go.Sha
namespace Go.Proofs.YtmfnimjnneflnaaGreat
open Go.Am Go.Sha
theorem wn (a b:Nat) (h:a+b<18446744073709551616):IntKind.u64.wrap ((a:Int)+IntKind.u64.wrap (b:Int))=((a+b:Nat):Int):=by rw [jT,jT];omega
theorem ee (ρ:Nat→Nat) (b:List Nat):(AV.d (nb b)).ren ρ=.d (nb b):=rfl
theorem da (ρ:Nat→Nat):∀ l:List Nat,AV.renL ρ (cb l)=cb l
 | []=>by simp [cb,AV.renL]
 | x :: r=>by
  have:=da ρ r;simp only [cb] at this;simp only [cb,List.map_cons,AV.renL,AV.ren,this]
theorem ar {l:List Nat} (h:l.length=32):List.take 32 (cb l)=cb l:=cA (by rw [am];omega)
theorem ca:List.drop 32 (cb z32)=[]:=rfl
theorem fF (ρ:Nat→Nat) (s:S8) (a b:AV):AV.renL ρ (c7 s ++ [a,b])=c7 s ++ [a.ren ρ,b.ren ρ]:=by simp [c7,AV.renL,AV.ren]
theorem L8 (s:S8) (R:AV) (rest b:List Nat) (n:Nat) (hR:R=.d (nb rest) ∨ (R=.nil∧rest=[])) (hl:rest.length+b.length≤1000000000000) (hn:n+b.length<18446744073709551616) :
  cC Tryz.prog 58 1 [(0,⟨167,10,[c7 s ++ [R,.d (.int .u64 (n:Int))]]⟩)] [.ptr 0 0 0 1,.d (nb b)]
   (fun r hp'=>r=.tup []∧lk 0 hp'=some ⟨167,10,[c7 (E s (rest ++ b)).1 ++ [.d (nb (E s (rest ++ b)).2),.d (.int .u64 ((n+b.length:Nat):Int))]]⟩):=by
 have:=HT s R rest b n hR hl;rw [wn n b.length hn] at this;exact this
theorem kB (b:List Nat) (hb:b.length≤100000000000):av Tryz.prog 84 [.d (nb b)] (fun r=>r=.agg (cb (bo b))):=by
 refine bK Tryz.func84 Tryz.ntmps84 (rs:=[.cell 2 29]) a9 ?_;simp only [go_sem,Nat.reduceEqDiff,Nat.reduceAdd,Nat.reduceLT,↓reduceIte,Nat.reduceMul];refine bf [] lW rfl aw aw aw (by simp [AV.renL]) ?_;rintro r hp' ⟨rfl,h0⟩;refine ⟨[(97,0)],rfl,?_⟩;simp [go_sem,bQ,bI,h0,Blk.ren,aR,fF,AV.ren,bO];refine bf [(0,32)] (L8 H0 .nil [] b 0 (.inr ⟨rfl,rfl⟩) (by simp;omega) aq) rfl aw (by simp [lk]) (by simp [lk,Blk.ren,aR,fF,AV.ren,bO,fZ]) (by simp [AV.renL,AV.ren,bO,fZ,lk]) ?_;rintro r hp' ⟨rfl,h0⟩;refine ⟨[],rfl,?_⟩;simp [go_sem,bQ,bI,h0,Blk.ren,aR,fF,ee,AV.renL,AV.ren,bO];refine bf [(0,32)] (AU (E H0 b).1 (.d (nb (E H0 b).2)) (E H0 b).2 b.length (.inl rfl) (by have:=yJ _ H0 b (cR _);omega)) rfl aw (by simp [lk]) (by simp [lk,Blk.ren,aR,fF,ee,AV.ren,bO,fZ]) (by simp [AV.renL,AV.ren,bO,fZ,lk]) ?_;rintro r hp' ⟨rfl,h0⟩;refine ⟨[],rfl,?_⟩;have hf:Gn (qU (lastOf (E H0 b).2 b.length).length (E H0 b).1 (lastOf (E H0 b).2 b.length)).1=bo b:=rfl;rw [hf] at *;simp [go_sem,bQ,bI,h0,Blk.ren,aR,fF,ee,da,AV.ren,bO,ah,aS,ar (aS b),ca];exact aa (by simp [AV.deep];exact b8 _) rfl
theorem dV {hp:Hp} {I:Nat→Prop} {id:Nat} {ty:TypeId} {l:List Nat} (hb:lk id hp=some ⟨ty,32,[cb l]⟩) (hI:I id) (hl:l.length=32):SnapD hp I (.sub id 0 0 1 32 32 1) (nb l):=by
 refine .sub (es:=l.map fun (x:Nat)=>[.int .u8 (x:Int)]) hI hb rfl rfl aq (by simp [hl]) (fun r hr=>by
  rw [List.mem_map] at hr;obtain ⟨c,_,rfl⟩:=hr
  rfl) fun k j c r y hc hr hy=>?_
 simp only [Nat.zero_add,Nat.mul_one,c_,Option.map_eq_some_iff] at hc hr;obtain ⟨x,hx,rfl⟩:=hr
 cases j with
 | succ j=>simp at hy
 | zero =>
  simp at hy;subst hy;rw [Nat.add_zero,AQ,hx] at hc;simp at hc;subst hc;exact .d _
theorem fG {b:List Nat} (hb:b.length=32):(List.range 32).map (fun k=>((cb b).drop k).take 1)=List.map ((fun r=>List.map AV.d r) ∘ fun (x:Nat)=>[DV.int .u8 (x:Int)]) b:=by
 apply List.ext_getElem?;intro i;by_cases hi:i<32
 ·rw [c_,c_,List.getElem?_range hi,cm (by omega:i<b.length)];have h:i<(cb b).length:=by rw [am];omega
  have h1:(cb b)[i]?=some (.d (.int .u8 ((b[i]:Nat):Int))):=by rw [AQ,cm (by omega:i<b.length)];rfl
  have h2:(cb b)[i]=.d (.int .u8 ((b[i]:Nat):Int)):=by
   rw [cm h] at h1;exact Option.some.inj h1
  rw [Option.map_some,Option.map_some,List.drop_eq_getElem_cons h,h2];rfl
 ·rw [List.getElem?_eq_none (by simp;omega),List.getElem?_eq_none (by simp;omega)]
theorem pe (ty:TypeId) (e:Nat) (row:List AV) (s:S8) (R:AV) (rest b:List Nat) (n:Int) (hx0:(List.range 32).map (fun k=>(row.drop k).take 1)=List.map ((fun r=>List.map AV.d r) ∘ fun (x:Nat)=>[DV.int .u8 (x:Int)]) b) (hlow:∀ n v,v ∈ row→v.low1 n) (hR:R=.d (nb rest) ∨ (R=.nil∧rest=[])) (hl:rest.length+b.length≤1000000000000) (hb32:b.length=32) :
  cC Tryz.prog 58 2 [(0,⟨167,10,[c7 s ++ [R,.d (.int .u64 n)]]⟩),(1,⟨ty,e,[row]⟩)] [.ptr 0 0 0 1,.sub 1 0 0 1 32 32 1]
   (fun r hp'=>r=.tup []∧lk 0 hp'=some ⟨167,10,[c7 (qU ((rest ++ b).length) s (rest ++ b)).1 ++ [.d (nb (qU ((rest ++ b).length) s (rest ++ b)).2),.d (.int .u64 (IntKind.u64.wrap (n+(IntKind.u64.wrap (b.length:Int)))))]]⟩∧lk 1 hp'=some ⟨ty,e,[row]⟩):=by
 refine al Tryz.func58 (by kernel_rfl) rfl Tryz.ntmps58 (rs:=[]) rfl (dR rfl) (by decide) ?_;rw [hb32];generalize hn':IntKind.u64.wrap (n+(IntKind.u64.wrap ((32:Nat):Int)))=n';generalize hE0:qU ((rest ++ b).length) s (rest ++ b)=E;have hx:=hx0;generalize hX:List.map ((fun r=>List.map AV.d r) ∘ fun (x:Nat)=>[DV.int .u8 (x:Int)]) b=X at hx;simp [go_sem] at hx;have hn2:IntKind.u64.wrap (n+IntKind.u64.wrap 32)=n':=hn';rcases hR with rfl | ⟨rfl,rfl⟩
 ·simp [go_sem,nb,c7,hn2];refine b7 [0,1,2,3,4,5,6,7,8,9,10,11,12,13,14,15,16] [(17,[18,19]),(20,[])] 1 (k:=21) ?_;intro G hG;simp [go_sem,kn,hx];rw [← hX,na];simp [go_sem,kn];refine ⟨by have:=hl;simp only [b_,List.length_nil] at *;omega,.inl (hG _ _ ?_)⟩;clear hG G
  refine ax (fun t:S8 × List Nat=>⟨[(0,.ptr 0 0 0 1)],[(0,⟨167,10,[c7 t.1 ++ [.d (nb t.2),.d (.int .u64 n')]]⟩),(1,⟨ty,e,[row]⟩)],1091⟩)
   (fun t=>t.2.length≤1000000000000∧∃ k,t.2.length≤k∧qU k t.1 t.2=E) (fun t=>t.2.length) (s,rest ++ b) ⟨by have:=hl;simp only [b_,List.length_nil] at *;omega,_,cR _,hE0⟩ (by
    simp [aA,ai,fv,lk,AV.low,AV.low1,nb,c7]
    exact hlow _) ?_
  rintro ⟨s1,q⟩ ⟨hq,k,hk,hE⟩;simp only at hq hk hE;simp only [go_sem,Nat.reduceEqDiff,Nat.reduceAdd,Nat.reduceLT,↓reduceIte,c7,nb,List.length_map];refine ⟨fun h=>?_,fun h=>?_⟩
  ·have h64:64≤q.length:=aq;rw [eat_more h64 hk] at hE;refine b7 [0,1,2,3,4,5,6,7] [(8,[])] 0 (k:=9) ?_;intro G hG;simp [go_sem];refine ⟨aq,?_⟩;refine bf [(0,0)] (rI 167 10 s1 [.d (nb q),.d (.int .u64 n')] (q.take 64) (by simp;omega) (by simp [AV.low1])) rfl aw (by simp [lk]) (by simp [lk,Blk.ren,aR,AV.renL,AV.ren,bO,fZ,c7,nb]) (by simp [AV.renL,AV.ren,bO,fZ,lk,nb,List.map_take]) ?_;rintro r hp' ⟨rfl,h0⟩;refine ⟨[],rfl,?_⟩;simp [go_sem,bQ,bI,h0,Blk.ren,aR,AV.renL,AV.ren,bO,c7];refine hG _ _ ?_;clear hG G;simp [go_sem,nb];refine ⟨aq,?_⟩;refine ap (Go.Sha.take s1 (q.take 64),q.drop 64) ⟨by simp only [fk];omega,k - 1,by simp only [fk];omega,hE⟩ (by simp only [fk];omega) ?_;simp [aA,ai,fv,lk,AV.low,AV.low1,nb,c7,List.map_drop,kn];exact hlow _
  ·rw [eat_none k s1 q aq] at hE;subst hE;rfl
 ·simp [go_sem,nb,c7,hn2];refine b7 [0,1,2,3,4,5,6,7,8,9,10,11,12,13,14,15,16] [(17,[18,19]),(20,[])] 1 (k:=21) ?_;intro G hG;simp [go_sem,kn,hx];rw [← hX,na];simp [go_sem,kn];refine ⟨by have:=hl;simp only [b_,List.length_nil] at *;omega,.inl (hG _ _ ?_)⟩;clear hG G
  refine ax (fun t:S8 × List Nat=>⟨[(0,.ptr 0 0 0 1)],[(0,⟨167,10,[c7 t.1 ++ [.d (nb t.2),.d (.int .u64 n')]]⟩),(1,⟨ty,e,[row]⟩)],1091⟩)
   (fun t=>t.2.length≤1000000000000∧∃ k,t.2.length≤k∧qU k t.1 t.2=E) (fun t=>t.2.length) (s,[] ++ b) ⟨by have:=hl;simp only [b_,List.length_nil] at *;omega,_,cR _,hE0⟩ (by
    simp [aA,ai,fv,lk,AV.low,AV.low1,nb,c7]
    exact hlow _) ?_
  rintro ⟨s1,q⟩ ⟨hq,k,hk,hE⟩;simp only at hq hk hE;simp only [go_sem,Nat.reduceEqDiff,Nat.reduceAdd,Nat.reduceLT,↓reduceIte,c7,nb,List.length_map];refine ⟨fun h=>?_,fun h=>?_⟩
  ·have h64:64≤q.length:=aq;rw [eat_more h64 hk] at hE;refine b7 [0,1,2,3,4,5,6,7] [(8,[])] 0 (k:=9) ?_;intro G hG;simp [go_sem];refine ⟨aq,?_⟩;refine bf [(0,0)] (rI 167 10 s1 [.d (nb q),.d (.int .u64 n')] (q.take 64) (by simp;omega) (by simp [AV.low1])) rfl aw (by simp [lk]) (by simp [lk,Blk.ren,aR,AV.renL,AV.ren,bO,fZ,c7,nb]) (by simp [AV.renL,AV.ren,bO,fZ,lk,nb,List.map_take]) ?_;rintro r hp' ⟨rfl,h0⟩;refine ⟨[],rfl,?_⟩;simp [go_sem,bQ,bI,h0,Blk.ren,aR,AV.renL,AV.ren,bO,c7];refine hG _ _ ?_;clear hG G;simp [go_sem,nb];refine ⟨aq,?_⟩;refine ap (Go.Sha.take s1 (q.take 64),q.drop 64) ⟨by simp only [fk];omega,k - 1,by simp only [fk];omega,hE⟩ (by simp only [fk];omega) ?_;simp [aA,ai,fv,lk,AV.low,AV.low1,nb,c7,List.map_drop,kn];exact hlow _
  ·rw [eat_none k s1 q aq] at hE;subst hE;rfl
theorem CY (s:S8) (R:AV) (rest b:List Nat) (n:Nat) (hR:R=.d (nb rest) ∨ (R=.nil∧rest=[])) (hl:rest.length+b.length≤1000000000000) (hb32:b.length=32) (hn:n+b.length<18446744073709551616) :
  cC Tryz.prog 58 2 [(0,⟨167,10,[c7 s ++ [R,.d (.int .u64 (n:Int))]]⟩),(1,⟨29,32,[cb b]⟩)] [.ptr 0 0 0 1,.sub 1 0 0 1 32 32 1]
   (fun r hp'=>r=.tup []∧lk 0 hp'=some ⟨167,10,[c7 (E s (rest ++ b)).1 ++ [.d (nb (E s (rest ++ b)).2),.d (.int .u64 ((n+b.length:Nat):Int))]]⟩∧lk 1 hp'=some ⟨29,32,[cb b]⟩):=by
 have:=pe 29 32 (cb b) s R rest b n (fG hb32) (fun n=>aK n _) hR hl hb32;rw [wn n b.length hn] at this;exact this
theorem HY (ty:TypeId) (e:Nat) (row:List AV) (s:S8) (R:AV) (rest b:List Nat) (n:Nat) (hx0:(List.range 32).map (fun k=>(row.drop k).take 1)=List.map ((fun r=>List.map AV.d r) ∘ fun (x:Nat)=>[DV.int .u8 (x:Int)]) b) (hlow:∀ n v,v ∈ row→v.low1 n) (hR:R=.d (nb rest) ∨ (R=.nil∧rest=[])) (hl:rest.length+b.length≤1000000000000) (hb32:b.length=32) (hn:n+b.length<18446744073709551616) :
  cC Tryz.prog 58 2 [(0,⟨167,10,[c7 s ++ [R,.d (.int .u64 (n:Int))]]⟩),(1,⟨ty,e,[row]⟩)] [.ptr 0 0 0 1,.sub 1 0 0 1 32 32 1]
   (fun r hp'=>r=.tup []∧lk 0 hp'=some ⟨167,10,[c7 (E s (rest ++ b)).1 ++ [.d (nb (E s (rest ++ b)).2),.d (.int .u64 ((n+b.length:Nat):Int))]]⟩∧lk 1 hp'=some ⟨ty,e,[row]⟩):=by
 have:=pe ty e row s R rest b n hx0 hlow hR hl hb32;rw [wn n b.length hn] at this;exact this
theorem ga (tag:List Nat) (ts:DV) (hts:ts=.str (tag.map fun (x:Nat)=>(x:Int))) (b:List Nat) (ht:tag.length≤1000) (hb:b.length≤10000000000):av Tryz.prog 62 [.d ts,.d (nb b)] (fun r=>r=.agg (cb (eQ tag b))):=by
 subst hts;refine bK Tryz.func62 Tryz.ntmps62 (rs:=[.cell 4 29]) a9 ?_;simp [go_sem,Tryz.underlying5];refine ag (kB tag aq) a9 ?_;have hD:=aS tag;have hg:eQ tag b=bo (bo tag ++ (bo tag ++ b)):=rfl;rw [hg];generalize bo tag=D at hD;simp [go_sem,hD,ca];refine bf [] lW rfl aw aw aw (by simp [AV.renL]) ?_;rintro r hp' ⟨rfl,h0⟩;refine ⟨[(97,0)],rfl,?_⟩;simp [go_sem,bQ,bI,h0,Blk.ren,aR,fF,AV.ren,bO]
 have hp1:E H0 (D ++ (D ++ b))=E (E (E H0 D).1 ((E H0 D).2 ++ D)).1 ((E (E H0 D).1 ((E H0 D).2 ++ D)).2 ++ b):=by
  rw [yI _ _ _ D (cR _),← cD,yI _ _ _ ((E H0 D).2 ++ D) (cR _)]
 have hfin:qW (E (E (E H0 D).1 ((E H0 D).2 ++ D)).1 ((E (E H0 D).1 ((E H0 D).2 ++ D)).2 ++ b)) (0+D.length+D.length+b.length)=bo (D ++ (D ++ b)):=by
  unfold bo;rw [hp1];congr 1;simp only [b_];omega
 have l1:=yJ _ H0 D (cR _);refine bf [(0,192),(1,128)] (CY H0 .nil [] D 0 (.inr ⟨rfl,rfl⟩) (by simp;omega) hD aq) rfl aw (by simp [lk]) (by simp [lk,Blk.ren,aR,fF,da,AV.renL,AV.ren,bO,fZ]) (by simp [AV.renL,AV.ren,bO,fZ,lk]) ?_;rintro r hp' ⟨rfl,h0,h1⟩;refine ⟨[],rfl,?_⟩;rw [List.nil_append] at h0;generalize E H0 D=p1 at *;have l2:=yJ _ p1.1 (p1.2 ++ D) (cR _);rw [b_] at l2;simp [go_sem,bQ,bI,h0,h1,Blk.ren,aR,fF,da,ee,AV.renL,AV.ren,bO];refine bf [(0,192),(1,128)] (CY p1.1 (.d (nb p1.2)) p1.2 D (0+D.length) (.inl rfl) aq hD aq) rfl aw (by simp [lk]) (by simp [lk,Blk.ren,aR,fF,da,ee,AV.renL,AV.ren,bO,fZ]) (by simp [AV.renL,AV.ren,bO,fZ,lk]) ?_;rintro r hp' ⟨rfl,h0,h1⟩;refine ⟨[],rfl,?_⟩;generalize E p1.1 (p1.2 ++ D)=p2 at *;have l3:=yJ _ p2.1 (p2.2 ++ b) (cR _);rw [b_] at l3;simp [go_sem,bQ,bI,h0,h1,Blk.ren,aR,fF,da,ee,AV.renL,AV.ren,bO];refine bf [(0,192)] (L8 p2.1 (.d (nb p2.2)) p2.2 b (0+D.length+D.length) (.inl rfl) aq aq) rfl aw (by simp [lk]) (by simp [lk,Blk.ren,aR,fF,da,ee,AV.renL,AV.ren,bO,fZ]) (by simp [AV.renL,AV.ren,bO,fZ,lk]) ?_;rintro r hp' ⟨rfl,h0⟩;refine ⟨[],rfl,?_⟩;generalize E p2.1 (p2.2 ++ b)=p3 at *;simp [go_sem,bQ,bI,h0,h1,Blk.ren,aR,fF,da,ee,AV.renL,AV.ren,bO];refine bf [(0,192)] (AU p3.1 (.d (nb p3.2)) p3.2 (0+D.length+D.length+b.length) (.inl rfl) aq) rfl aw (by simp [lk]) (by simp [lk,Blk.ren,aR,fF,ee,AV.ren,bO,fZ]) (by simp [AV.renL,AV.ren,bO,fZ,lk]) ?_;rintro r hp' ⟨rfl,h0⟩;refine ⟨[],rfl,?_⟩;have hf:Gn (qU (lastOf p3.2 (0+D.length+D.length+b.length)).length p3.1 (lastOf p3.2 (0+D.length+D.length+b.length))).1=bo (D ++ (D ++ b)):=hfin;rw [hf];have hL:=aS (D ++ (D ++ b));generalize bo (D ++ (D ++ b))=R at *;simp [go_sem,bQ,bI,h0,Blk.ren,aR,fF,ee,da,AV.ren,bO,ah,hL,ar hL,ca];exact aa (by simp [AV.deep];exact b8 _) rfl
end Go.Proofs.YtmfnimjnneflnaaGreat
