/-
 Part 13 of what the claim rests on.
-/
import Derived.Test.YtmfnimjnneflnaaGreatY7
import Derived.Test.YtmfnimjnneflnaaGreatY11
set_option linter.unusedVariables false
set_option linter.unusedSimpArgs false
set_option maxRecDepth 100000
set_option maxHeartbeats 16000000
namespace Go.Proofs.YtmfnimjnneflnaaGreat
open Go.Am Go.Sha
def IU(coins:List (Nat×List Nat)):Prop:=coins.length≤8∧∀o,o∈coins→o.1<18446744073709551616∧o.2.length≤1100
theorem lh(t:Tn)(n:Int)(coins:List (Nat×List Nat)):∀v,v∈[AV.agg (eS t n coins)]→v.deep:=by simp[AV.deep,AV.deep1,eS]
theorem LC{a b c d e:List Nat}(k:Nat)(hk:k<5)(ha:a.length=32)(hb:b.length=32)(hc:c.length=32)(hd:d.length=32)(he:e.length=32) :
  List.take 32 (List.drop (k*32) (cb a++cb b++cb c++cb d++cb e))=cb ([a,b,c,d,e].getD k []):=by
 have ha':(cb a).length=32:=by rw[ap,ha]
 have hb':(cb b).length=32:=by rw[ap,hb]
 have hc':(cb c).length=32:=by rw[ap,hc]
 have hd':(cb d).length=32:=by rw[ap,hd]
 have he':(cb e).length=32:=by rw[ap,he]
 have mid:∀(A B C:List AV)(m:Nat),A.length=m→B.length=32→List.take 32 (List.drop m (A++(B++C)))=B:=by
  intro A B C m hA hB;subst hA;rw[List.drop_left,←hB,List.take_left]
 match k,hk with
 |0,_=>simpa using mid [] (cb a) (cb b++cb c++cb d++cb e) 0 rfl ha'
 |1,_=>simpa using mid (cb a) (cb b) (cb c++cb d++cb e) 32 aq hb'
 |2,_=>simpa using mid (cb a++cb b) (cb c) (cb d++cb e) 64 (by simp[ha',hb']) hc'
 |3,_=>simpa using mid (cb a++cb b++cb c) (cb d) (cb e) 96 (by simp[ha',hb',hc']) hd'
 |4,_=>simpa using mid (cb a++cb b++cb c++cb d) (cb e) [] 128 (by simp[ha',hb',hc',hd']) he'
def EH(ann:List Nat):List Nat:=if ann=[]then[]else bO (a8 ann)
theorem Iq(t:Tn)(n:Int)(coins:List (Nat×List Nat))(h ann:List Nat):∀v,v∈[AV.agg (eS t n coins),.d (nb h),.d (nb ann)]→v.deep:=by simp[AV.deep,AV.deep1,eS]
theorem EI{P:Program}{K:AV→Hp→Prop}{hp:Hp}(t:TypeId)(a b:Bool):bN P .eql t (.d (.bool a)) (.d (.bool b)) K hp=(P.underlying t=some .bool∧K (.d (.bool (a==b))) hp):=rfl
theorem EJ{P:Program}{K:AV→Hp→Prop}{hp:Hp}(t:TypeId)(a b:Bool):bN P .neq t (.d (.bool a)) (.d (.bool b)) K hp=(P.underlying t=some .bool∧K (.d (.bool (a != b))) hp):=rfl
theorem BB:Tryz.prog.underlying 4=some .bool:=by kernel_rfl
attribute [go_sem] EI EJ BB
end Go.Proofs.YtmfnimjnneflnaaGreat
namespace Go.Am
end Go.Am
namespace Go.Proofs.YtmfnimjnneflnaaGreat
open Go.Am Go.Sha Go.Ec
structure RnS0(F:RnF):Prop where
 t:Sm F.t
 c:IU F.coins
 cb:∀o,o∈F.coins→bytes o.2∧o.1<18446744073709551616
 ob:∀o,o∈F.t.outs→bytes o.2
 i:F.inner.length=32
 ib:bytes F.inner
 s:F.script.length≤100000
 p:∀p,p∈F.path→p.length=32
 pl:F.path.length≤1000
 a:F.annex.length≤1000
end Go.Proofs.YtmfnimjnneflnaaGreat
