/-
 Part 15 of what the claim rests on.
-/
import Derived.Test.YtmfnimjnneflnaaGreatY5
import Derived.Test.YtmfnimjnneflnaaGreatY6
import Derived.Test.YtmfnimjnneflnaaGreatY10
import Derived.Test.YtmfnimjnneflnaaGreatY11
import Derived.Test.YtmfnimjnneflnaaGreatY13
set_option linter.unusedVariables false
set_option linter.unusedSimpArgs false
set_option maxRecDepth 100000
set_option maxHeartbeats 16000000
namespace Go.Proofs.YtmfnimjnneflnaaGreat
open Go.Am Go.Sha Go.Ec
abbrev nZ:Int:=115792089237316195423570985008687907852837564279074904382605163141518161494337
theorem IA:V yi=nZ:=by simp[V,yi]
theorem iT(a:List Int)(ha:Wn 4 a):∃r:List Int,Wn 4 r∧V r=V a%nZ∧au Tryz.prog 124 [.agg (cI a)] (fun v=>v=.agg (cI r)):=by
 obtain⟨s,c,hs,hc,vc,f1⟩:=jN a yi ha wy;have hal:=ha.1;have hsl:=hs.1;have hz:List.drop 4 (cI zI)=[]:=ay rfl;rw[IA]at vc;have la:=cJ ha;have ls:=cJ hs;refine⟨if c=0 then s else a,by split<;>assumption,?_,?_⟩
 ·obtain⟨c1,c2⟩:=hc;unfold nZ at *
  split
  ·rename_i h;subst h;omega
  ·omega
 refine bu Tryz.func124 Tryz.ntmps124 (rs:=[.cell 2 96]) (av a) ?_;simp[go_sem,hal,aa hal];refine c7 [0] [1,2,6,7] [0,3,4,5,8] (.alt (bt 1 (.alt (.step 2 [3,4,5] true (bt 6 (.step 7 [8] true .done))) (bt 6 (.step 2 [3,4,5] true (.step 7 [8] true .done))))) (bt 6 (bt 1 (.step 2 [3,4,5] true (.step 7 [8] true .done))))) ⟨[(1,.ptr 0 0 0 1),(2,.ptr 32 0 0 1),(3,.ptr 256 0 0 1),(4,.d (.int .u64 c))],[(256,⟨96,4,[cI s]⟩),(32,⟨96,4,[cI zI]⟩),(0,⟨96,4,[cI a]⟩)],9000⟩ (k:=9) ?h3 ?hq
 case h3 =>
  intro G hG
  have hW:∀(fr:Fr)(hp:Hp),(fv 1 fr=.ptr 0 0 0 1∧fv 2 fr=.ptr 32 0 0 1∧fv 3 fr=.ptr 256 0 0 1∧fv 4 fr=.d (.int .u64 c)∧lk 256 hp=some ⟨96,4,[cI s]⟩∧lk 32 hp=some ⟨96,4,[cI zI]⟩∧lk 0 hp=some ⟨96,4,[cI a]⟩)→G fr hp:=by
   rintro fr hp⟨q0,q1,q2,q3,q4,q5,q6⟩;refine hG _ _ (bf ?_);simp only[ak,ah];refine⟨fun p hp=>?_,fun p hp=>?_,aw⟩
   ·simp only[d_,List.mem_nil_iff,or_false]at hp;rcases hp with rfl|rfl|rfl|rfl<;>exact⟨.inl (Eq.symm (by assumption)),by simp[AV.low,AV.low1]⟩
   ·simp only[d_,List.mem_nil_iff,or_false]at hp;rcases hp with rfl|rfl|rfl<;>exact⟨.inl (by assumption),aw,by intro r hr;simp only[d_,List.mem_nil_iff,or_false]at hr;subst hr;first|exact aD _ _|exact aC _ _|exact dB _ _ _ _⟩
  simp[go_sem,hal,hsl,aa hal,aa hsl,hz,b7]
  repeat' first|exact hW _ _ ⟨rfl,rfl,rfl,rfl,rfl,rfl,rfl⟩|(refine hW _ _ ?_;simp[fv,lk];done)|refine ae jy aw ?_|refine ae f1 (ax _ _) ?_|apply And.intro|simp[go_sem,hal,hsl,aa hal,aa hsl,hz,b7]
 case hq =>
  by_cases h0:c=0
  ·rw[if_pos h0];simp[go_sem,h0,hsl,aa hsl,hz,ar];exact bI rfl
  ·rw[if_neg h0];simp[go_sem,h0,hal,aa hal,hz,ar];exact bI rfl
theorem BN(a:List Int)(ha:Wn 4 a):∃r:List Int,Wn 4 r∧V r=(nZ-V a%nZ)%nZ∧au Tryz.prog 128 [.agg (cI a)] (fun v=>v=.agg (cI r)):=by
 obtain⟨b,hb,vb,f1⟩:=iT a ha;obtain⟨s,c,hs,hc,vc,f2⟩:=jN yi b wy hb;obtain⟨r,hr,vr,f3⟩:=iT s hs;have hal:=ha.1;have hbl:=hb.1;have hsl:=hs.1;have hrl:=hr.1;have hz:List.drop 4 (cI zI)=[]:=ay rfl;refine⟨r,hr,?_,?_⟩
 ·rw[IA]at vc;have ls:=cJ hs;obtain⟨c1,c2⟩:=hc;rw[vr];unfold nZ at *;omega
 refine bu Tryz.func128 Tryz.ntmps128 (rs:=[.cell 2 96]) (av a) ?_;simp[go_sem,hal,aa hal];refine c7 [1] [0,2,3,7,8] [1,4,5,6,9] (.alt (bt 0 (.alt (bt 2 (.alt (.step 3 [4,5,6] true (bt 7 (.step 8 [9] true .done))) (bt 7 (.step 3 [4,5,6] true (.step 8 [9] true .done))))) (bt 7 (bt 2 (.step 3 [4,5,6] true (.step 8 [9] true .done)))))) (bt 7 (bt 0 (bt 2 (.step 3 [4,5,6] true (.step 8 [9] true .done)))))) ⟨[(2,.ptr 32 0 0 1),(3,.ptr 288 0 0 1)],[(288,⟨96,4,[cI s]⟩),(32,⟨96,4,[cI zI]⟩)],9000⟩ (k:=10) ?h3 ?hq
 case h3 =>
  intro G hG
  have hW:∀(fr:Fr)(hp:Hp),(fv 2 fr=.ptr 32 0 0 1∧fv 3 fr=.ptr 288 0 0 1∧lk 288 hp=some ⟨96,4,[cI s]⟩∧lk 32 hp=some ⟨96,4,[cI zI]⟩)→G fr hp:=by
   rintro fr hp⟨q0,q1,q2,q3⟩;refine hG _ _ (bf ?_);simp only[ak,ah];refine⟨fun p hp=>?_,fun p hp=>?_,aw⟩
   ·simp only[d_,List.mem_nil_iff,or_false]at hp;rcases hp with rfl|rfl<;>exact⟨.inl (Eq.symm (by assumption)),by simp[AV.low,AV.low1]⟩
   ·simp only[d_,List.mem_nil_iff,or_false]at hp;rcases hp with rfl|rfl<;>exact⟨.inl (by assumption),aw,by intro r hr;simp only[d_,List.mem_nil_iff,or_false]at hr;subst hr;first|exact aD _ _|exact aC _ _|exact dB _ _ _ _⟩
  simp[go_sem,hal,hsl,aa hal,aa hsl,hz,b7]
  repeat' first|exact hW _ _ ⟨rfl,rfl,rfl,rfl⟩|(refine hW _ _ ?_;simp[fv,lk];done)|refine ae jy aw ?_|refine ae f1 (av _) ?_|refine ae f2 (ax _ _) ?_|apply And.intro|simp[go_sem,hal,hsl,aa hal,aa hsl,hz,b7]
 case hq =>
  simp[go_sem,hsl,aa hsl];refine ae f3 (av _) ?_;simp[go_sem,hrl,aa hrl,hz,ar];exact bI rfl
theorem EX(b:List Nat)(hb:b.length=32)(hby:bytes b):∃r:List Int,Wn 4 r∧V r=(dY b:Int)%nZ∧au Tryz.prog 135 [.agg (cb b)] (fun v=>v=.agg (cI r)):=by
 obtain⟨a,ha,va,f1⟩:=nO b hb hby;obtain⟨r,hr,vr,f2⟩:=iT a ha;have hal:=ha.1;have hrl:=hr.1;have hz:List.drop 4 (cI zI)=[]:=ay rfl;have zd:List.drop 32 (cb b)=[]:=iK hb;refine⟨r,hr,by rw[vr,va],?_⟩;refine bu Tryz.func135 Tryz.ntmps135 (rs:=[.cell 2 96]) (cG b) ?_;simp[go_sem,ap,hb,aA hb,zd];refine ae f1 (cG _) ?_;simp[go_sem];refine ae f2 (av _) ?_;simp[go_sem,hrl,aa hrl,hz,ar];exact bI rfl
theorem wR:∃r:List Int,Wn 4 r∧V r=115792089237316195423570985008687907853269984665640564039457584007913129639936-nZ∧au Tryz.prog 132 [] (fun v=>v=.agg (cI r)):=by
 obtain⟨s,c,hs,hc,vc,f2⟩:=jN zI yi d6 wy;have hsl:=hs.1;have hz:List.drop 4 (cI zI)=[]:=ay rfl;refine⟨s,hs,?_,?_⟩
 ·have vz:V zI=0:=by simp[V,zI]
  rw[IA,vz]at vc;have ls:=cJ hs;obtain⟨c1,c2⟩:=hc;unfold nZ at *;omega
 refine bu Tryz.func132 Tryz.ntmps132 (rs:=[.cell 0 96]) aw ?_;simp[go_sem];refine ae jy aw ?_;simp[go_sem];refine ae f2 (ax zI yi) ?_;simp[go_sem,hsl,aa hsl,hz,ar];exact bI rfl
theorem IB(a b:List Int)(ha:Wn 4 a)(hb:Wn 4 b):∃r:List Int,Wn 4 r∧V r=(V a+V b)%nZ∧au Tryz.prog 86 [.agg (cI a),.agg (cI b)] (fun v=>v=.agg (cI r)):=by
 obtain⟨a1,ha1,va1,f1⟩:=iT a ha;obtain⟨b1,hb1,vb1,f2⟩:=iT b hb;obtain⟨s,c,hs,hc,vc,f3⟩:=fj a1 b1 ha1 hb1;obtain⟨v,hv,vv,f4⟩:=wR;obtain⟨s2,c2,hs2,hc2,vc2,f5⟩:=fj s v hs hv;obtain⟨r,hr,vr,f6⟩:=iT s hs;obtain⟨r2,hr2,vr2,f7⟩:=iT s2 hs2;have hal:=ha.1;have hbl:=hb.1;have ha1l:=ha1.1;have hb1l:=hb1.1;have hsl:=hs.1;have hs2l:=hs2.1;have hrl:=hr.1;have hr2l:=hr2.1;have hvl:=hv.1;have hz:List.drop 4 (cI zI)=[]:=ay rfl;have ls:=cJ hs;have ls2:=cJ hs2;obtain⟨c1,c1'⟩:=hc;obtain⟨c3,c3'⟩:=hc2;refine⟨if c=0 then r else r2,by split<;>assumption,?_,?_⟩
 ·unfold nZ at *
  split
  ·rename_i h;subst h;rw[vr];omega
  ·rw[vr2];omega
 refine bu Tryz.func86 Tryz.ntmps86 (rs:=[.cell 4 96]) (ax a b) ?_;simp[go_sem,hal,hbl,aa hal,aa hbl];refine c7 [0,2] [1,3,4,8,9] [0,2,5,6,7,10] (.alt (bt 1 (.alt (bt 3 (.alt (.step 4 [5,6,7] true (bt 8 (.step 9 [10] true .done))) (bt 8 (.step 4 [5,6,7] true (.step 9 [10] true .done))))) (bt 8 (bt 3 (.step 4 [5,6,7] true (.step 9 [10] true .done)))))) (bt 8 (bt 1 (bt 3 (.step 4 [5,6,7] true (.step 9 [10] true .done)))))) ⟨[(4,.ptr 64 0 0 1),(5,.ptr 352 0 0 1),(6,.d (.int .u64 c))],[(352,⟨96,4,[cI s]⟩),(64,⟨96,4,[cI zI]⟩)],9000⟩ (k:=11) ?h3 ?hq
 case h3 =>
  intro G hG
  have hW:∀(fr:Fr)(hp:Hp),(fv 4 fr=.ptr 64 0 0 1∧fv 5 fr=.ptr 352 0 0 1∧fv 6 fr=.d (.int .u64 c)∧lk 352 hp=some ⟨96,4,[cI s]⟩∧lk 64 hp=some ⟨96,4,[cI zI]⟩)→G fr hp:=by
   rintro fr hp⟨q0,q1,q2,q3,q4⟩;refine hG _ _ (bf ?_);simp only[ak,ah];refine⟨fun p hp=>?_,fun p hp=>?_,aw⟩
   ·simp only[d_,List.mem_nil_iff,or_false]at hp;rcases hp with rfl|rfl|rfl<;>exact⟨.inl (Eq.symm (by assumption)),by simp[AV.low,AV.low1]⟩
   ·simp only[d_,List.mem_nil_iff,or_false]at hp;rcases hp with rfl|rfl<;>exact⟨.inl (by assumption),aw,by intro r hr;simp only[d_,List.mem_nil_iff,or_false]at hr;subst hr;first|exact aD _ _|exact aC _ _|exact dB _ _ _ _⟩
  simp[go_sem,hal,hbl,hsl,aa hal,aa hbl,aa hsl,hz,b7]
  repeat' first|exact hW _ _ ⟨rfl,rfl,rfl,rfl,rfl⟩|(refine hW _ _ ?_;simp[fv,lk];done)|refine ae f1 (av _) ?_|refine ae f2 (av _) ?_|refine ae f3 (ax _ _) ?_|apply And.intro|simp[go_sem,hal,hbl,hsl,aa hal,aa hbl,aa hsl,hz,b7]
 case hq =>
  by_cases h0:c=0
  ·rw[if_pos h0];simp[go_sem,h0,hsl,aa hsl];refine ae f6 (av _) ?_;simp[go_sem,hrl,aa hrl,hz,ar];exact bI rfl
  ·rw[if_neg h0];simp[go_sem,h0];refine c7 [0] [1,2,5,6] [0,3,4] (bt 1 (.step 2 [3,4] true (.alt (bt 5 (a_ [6])) (a_ [6,5])))) ⟨[(4,.ptr 64 0 0 1),(5,.ptr 352 0 0 1)],[(352,⟨96,4,[cI s2]⟩),(64,⟨96,4,[cI zI]⟩)],9000⟩ (k:=7) ?h3 ?hq
   case h3 =>
    intro G hG
    have hW:∀(fr:Fr)(hp:Hp),(fv 4 fr=.ptr 64 0 0 1∧fv 5 fr=.ptr 352 0 0 1∧lk 352 hp=some ⟨96,4,[cI s2]⟩∧lk 64 hp=some ⟨96,4,[cI zI]⟩)→G fr hp:=by
     rintro fr hp⟨q0,q1,q2,q3⟩;refine hG _ _ (bf ?_);simp only[ak,ah];refine⟨fun p hp=>?_,fun p hp=>?_,aw⟩
     ·simp only[d_,List.mem_nil_iff,or_false]at hp;rcases hp with rfl|rfl<;>exact⟨.inl (Eq.symm (by assumption)),by simp[AV.low,AV.low1]⟩
     ·simp only[d_,List.mem_nil_iff,or_false]at hp;rcases hp with rfl|rfl<;>exact⟨.inl (by assumption),aw,by intro r hr;simp only[d_,List.mem_nil_iff,or_false]at hr;subst hr;first|exact aD _ _|exact aC _ _|exact dB _ _ _ _⟩
    simp[go_sem,hsl,hs2l,hvl,aa hsl,aa hs2l,hz,ay hsl,b7]
    repeat' first|exact hW _ _ ⟨rfl,rfl,rfl,rfl⟩|(refine hW _ _ ?_;simp[fv,lk];done)|refine ae f4 aw ?_|refine ae f5 (ax _ _) ?_|apply And.intro|simp[go_sem,hsl,hs2l,hvl,aa hsl,aa hs2l,hz,ay hsl,b7]
   case hq =>
    simp[go_sem,hs2l,aa hs2l];refine ae f7 (av _) ?_;simp[go_sem,hr2l,aa hr2l,hz,ar];exact bI rfl
def sY(x:Int):List Int:=[x%18446744073709551616,x/18446744073709551616%18446744073709551616,x/340282366920938463463374607431768211456%18446744073709551616,x/6277101735386680763835789423207666416102355444464034512896]
theorem IC{x:Int}(h:0≤x)(h2:x<115792089237316195423570985008687907853269984665640564039457584007913129639936):V (sY x)=x:=by
 unfold sY;rw[V4];omega
theorem ID(x:Int):Wn 4 (sY (x%nZ)):=⟨rfl,by
 have h1:=Int.emod_nonneg x (show nZ≠0 by unfold nZ;omega);have h2:=Int.emod_lt_of_pos x (show(0:Int)<nZ by unfold nZ;omega);unfold nZ at *;intro y hy;simp only[sY,d_,List.mem_nil_iff,or_false]at hy
 rcases hy with rfl|rfl|rfl|rfl<;>exact⟨aq,aq⟩⟩
theorem IE{lo hi fo to su hh ca c2:Int}(hlo:0≤lo∧lo<115792089237316195423570985008687907853269984665640564039457584007913129639936)(hhi:0≤hi∧hi<115792089237316195423570985008687907853269984665640564039457584007913129639936)(hfo:0≤fo∧fo<115792089237316195423570985008687907853269984665640564039457584007913129639936)(hto:0≤to∧to<115792089237316195423570985008687907853269984665640564039457584007913129639936)(hsu:0≤su∧su<115792089237316195423570985008687907853269984665640564039457584007913129639936)(hhh:0≤hh∧hh<115792089237316195423570985008687907853269984665640564039457584007913129639936)(h1:0≤ca)(h2:ca≤1)(h3:0≤c2)(h4:c2≤1)
  (e1:fo+115792089237316195423570985008687907853269984665640564039457584007913129639936*to=hi*(115792089237316195423570985008687907853269984665640564039457584007913129639936-nZ)) (e2:su+115792089237316195423570985008687907853269984665640564039457584007913129639936*ca=lo+fo) (e3:hh+115792089237316195423570985008687907853269984665640564039457584007913129639936*c2=to+ca):su+115792089237316195423570985008687907853269984665640564039457584007913129639936*hh=lo+115792089237316195423570985008687907853269984665640564039457584007913129639936*hi-nZ*hi:=by
 unfold nZ at *;have:hi*(115792089237316195423570985008687907853269984665640564039457584007913129639936-115792089237316195423570985008687907852837564279074904382605163141518161494337)=hi*432420386565659656852420866394968145599:=by congr 1
 rw[this]at e1;have hc:c2=0:=aq;subst hc;omega
theorem IF(a b:List Int)(ha:Wn 4 a)(hb:Wn 4 b):∃r:List Int,Wn 4 r∧V r=(V a*V b)%nZ∧au Tryz.prog 87 [.agg (cI a),.agg (cI b)] (fun v=>v=.agg (cI r)):=by
 obtain⟨l0,h0,hl0,hh0,v0,f1⟩:=qp a b ha hb;obtain⟨ov,hov,vov,f2⟩:=wR;have hrw:Wn 4 (sY ((V a*V b)%nZ)):=ID _;have hrv:V (sY ((V a*V b)%nZ))=(V a*V b)%nZ:=IC (Int.emod_nonneg _ (by unfold nZ;omega)) (by have:=Int.emod_lt_of_pos (V a*V b) (show(0:Int)<nZ by unfold nZ;omega);unfold nZ at *;omega);refine⟨sY ((V a*V b)%nZ),hrw,hrv,?_⟩;have hal:=ha.1;have hbl:=hb.1;have hl0l:=hl0.1;have hh0l:=hh0.1;have hovl:=hov.1;have hz:List.drop 4 (cI zI)=[]:=ay rfl;have zl:zI.length=4:=rfl;refine bu Tryz.func87 Tryz.ntmps87 (rs:=[.cell 4 96]) (ax a b) ?_;simp[go_sem,hal,hbl,aa hal,aa hbl];refine ae f1 (ax _ _) ?_;simp[go_sem,hl0l,hh0l,aa hl0l,aa hh0l,hz]
 refine am (fun u:List Int×List Int=>⟨[(4,.ptr 64 0 0 1),(5,.ptr 288 0 0 1),(6,.ptr 320 0 0 1)],[(288,⟨96,4,[cI u.1]⟩),(320,⟨96,4,[cI u.2]⟩),(64,⟨96,4,[cI zI]⟩)],1000⟩)
  (fun u=>Wn 4 u.1∧Wn 4 u.2∧(V u.1+115792089237316195423570985008687907853269984665640564039457584007913129639936*V u.2)%nZ=(V a*V b)%nZ) (fun u=>(V u.1+115792089237316195423570985008687907853269984665640564039457584007913129639936*V u.2).toNat) (l0,h0) ⟨hl0,hh0,by rw[v0]⟩ (by
   simp[ak,ah,fv,lk,AV.low,AV.low1]
   first|exact⟨aD _ _,rfl,aD _ _⟩|exact⟨aD _ _,aD _ _,rfl,aD _ _⟩) ?_
 rintro⟨lo,hi⟩⟨hlo,hhi,hT⟩;simp only at hlo hhi hT;have hlol:=hlo.1;have hhil:=hhi.1;obtain⟨fo,to,hfo,hto,vfo,f3⟩:=qp hi ov hhi hov;obtain⟨su,ca,hsu,hca,vsu,f4⟩:=fj lo fo hlo hfo;obtain⟨hh,c2,hhh,hc2,vhh,f5⟩:=fj to [ca,0,0,0] hto (fW (NB hca));have f6:=dA ca;have hfol:=hfo.1;have htol:=hto.1;have hsul:=hsu.1;have hhhl:=hhh.1;obtain⟨r,hr,vr,f7⟩:=iT lo hlo;have vca:V [ca,0,0,0]=ca:=by simp[V]
 rw[vov]at vfo;rw[vca]at vhh;have hstep:=IE (cJ hlo) (cJ hhi) (cJ hfo) (cJ hto) (cJ hsu) (cJ hhh) hca.1 hca.2 hc2.1 hc2.2 vfo vsu vhh;simp[go_sem,hhil,aa hhil,dm];refine⟨hhil,rfl,fun hne=>?_,fun heq=>?_⟩
 ·have hpos:0<V hi:=by
   have h1:=(cJ hhi).1;have h2:V hi≠0:=fun q=>hne (sy hhi d6 (by rw[q];simp[V,zI]));omega
  refine c7 [0] [1,2,6,7,8,9] [0,3,4,5] (.alt (bt 1 (.alt (.step 2 [3,4,5] true (.alt (bt 6 (bt 7 (bt 8 (a_ [9])))) (bt 7 (bt 6 (bt 8 (a_ [9])))))) (.alt (bt 6 (.alt (.step 2 [3,4,5] true (bt 7 (bt 8 (a_ [9])))) (bt 7 (.step 2 [3,4,5] true (bt 8 (a_ [9])))))) (bt 7 (.alt (.step 2 [3,4,5] true (bt 6 (bt 8 (a_ [9])))) (bt 6 (.step 2 [3,4,5] true (bt 8 (a_ [9]))))))))) (.alt (bt 6 (.alt (bt 1 (.alt (.step 2 [3,4,5] true (bt 7 (bt 8 (a_ [9])))) (bt 7 (.step 2 [3,4,5] true (bt 8 (a_ [9])))))) (bt 7 (bt 1 (.step 2 [3,4,5] true (bt 8 (a_ [9]))))))) (bt 7 (.alt (bt 1 (.alt (.step 2 [3,4,5] true (bt 6 (bt 8 (a_ [9])))) (bt 6 (.step 2 [3,4,5] true (bt 8 (a_ [9])))))) (bt 6 (bt 1 (.step 2 [3,4,5] true (bt 8 (a_ [9]))))))))) ⟨[(4,.ptr 64 0 0 1),(5,.ptr 288 0 0 1),(6,.ptr 320 0 0 1),(7,.ptr 1288 0 0 1),(8,.ptr 1320 0 0 1)],[(1288,⟨96,4,[cI fo]⟩),(1320,⟨96,4,[cI to]⟩),(288,⟨96,4,[cI lo]⟩),(320,⟨96,4,[cI hi]⟩),(64,⟨96,4,[cI zI]⟩)],9000⟩ (k:=10) ?h3 ?hq
  case h3 =>
   intro G hG
   have hW:∀(fr:Fr)(hp:Hp),(fv 4 fr=.ptr 64 0 0 1∧fv 5 fr=.ptr 288 0 0 1∧fv 6 fr=.ptr 320 0 0 1∧fv 7 fr=.ptr 1288 0 0 1∧fv 8 fr=.ptr 1320 0 0 1∧lk 1288 hp=some ⟨96,4,[cI fo]⟩∧lk 1320 hp=some ⟨96,4,[cI to]⟩∧lk 288 hp=some ⟨96,4,[cI lo]⟩∧lk 320 hp=some ⟨96,4,[cI hi]⟩∧lk 64 hp=some ⟨96,4,[cI zI]⟩)→G fr hp:=by
    rintro fr hp⟨q0,q1,q2,q3,q4,q5,q6,q7,q8,q9⟩;refine hG _ _ (bf ?_);simp only[ak,ah];refine⟨fun p hp=>?_,fun p hp=>?_,aw⟩
    ·simp only[d_,List.mem_nil_iff,or_false]at hp;rcases hp with rfl|rfl|rfl|rfl|rfl<;>exact⟨.inl (Eq.symm (by assumption)),by simp[AV.low,AV.low1]⟩
    ·simp only[d_,List.mem_nil_iff,or_false]at hp;rcases hp with rfl|rfl|rfl|rfl|rfl<;>exact⟨.inl (by assumption),aw,by intro r hr;simp only[d_,List.mem_nil_iff,or_false]at hr;subst hr;first|exact aD _ _|exact aC _ _|exact dB _ _ _ _⟩
   simp[go_sem,hhil,hovl,hfol,htol,aa hhil,aa hovl,aa hfol,aa htol,hz,b7]
   repeat' first|exact hW _ _ ⟨rfl,rfl,rfl,rfl,rfl,rfl,rfl,rfl,rfl,rfl⟩|(refine hW _ _ ?_;simp[fv,lk];done)|refine ae f2 aw ?_|refine ae f3 (ax _ _) ?_|apply And.intro|simp[go_sem,hhil,hovl,hfol,htol,aa hhil,aa hovl,aa hfol,aa htol,hz,b7]
  case hq =>
   simp[go_sem,hlol,hfol,aa hlol,aa hfol];refine ae f4 (ax _ _) ?_;simp[go_sem,hsul,aa hsul,hz,ay hlol];refine⟨aq,?_⟩;refine c7 [0,1] [2,3,6,7] [0,1,4,5] (bt 2 (.step 3 [4,5] true (.alt (bt 6 (a_ [7])) (a_ [7,6])))) ⟨[(4,.ptr 64 0 0 1),(5,.ptr 288 0 0 1),(6,.ptr 320 0 0 1)],[(288,⟨96,4,[cI su]⟩),(320,⟨96,4,[cI hh]⟩),(64,⟨96,4,[cI zI]⟩)],9000⟩ (k:=8) ?h3 ?hq
   case h3 =>
    intro G hG
    have hW:∀(fr:Fr)(hp:Hp),(fv 4 fr=.ptr 64 0 0 1∧fv 5 fr=.ptr 288 0 0 1∧fv 6 fr=.ptr 320 0 0 1∧lk 288 hp=some ⟨96,4,[cI su]⟩∧lk 320 hp=some ⟨96,4,[cI hh]⟩∧lk 64 hp=some ⟨96,4,[cI zI]⟩)→G fr hp:=by
     rintro fr hp⟨q0,q1,q2,q3,q4,q5⟩;refine hG _ _ (bf ?_);simp only[ak,ah];refine⟨fun p hp=>?_,fun p hp=>?_,aw⟩
     ·simp only[d_,List.mem_nil_iff,or_false]at hp;rcases hp with rfl|rfl|rfl<;>exact⟨.inl (Eq.symm (by assumption)),by simp[AV.low,AV.low1]⟩
     ·simp only[d_,List.mem_nil_iff,or_false]at hp;rcases hp with rfl|rfl|rfl<;>exact⟨.inl (by assumption),aw,by intro r hr;simp only[d_,List.mem_nil_iff,or_false]at hr;subst hr;first|exact aD _ _|exact aC _ _|exact dB _ _ _ _⟩
    simp[go_sem,htol,hhhl,hsul,aa htol,aa hhhl,aa hsul,hz,ay hhil,ay hlol,b7]
    repeat' first|exact hW _ _ ⟨rfl,rfl,rfl,rfl,rfl,rfl⟩|(refine hW _ _ ?_;simp[fv,lk];done)|omega|refine ae f6 a9 ?_|refine ae f5 (ax _ _) ?_|apply And.intro|simp[go_sem,htol,hhhl,hsul,aa htol,aa hhhl,aa hsul,hz,ay hhil,ay hlol,b7]
   case hq =>
    simp[go_sem];refine aj (su,hh) ⟨hsu,hhh,?_⟩ ?_ ?_
    ·rw[hstep,Int.sub_mul_emod_self_left];exact hT
    ·have h1:=(cJ hlo).1;have h2:=(cJ hsu).1;have h3:=(cJ hhh).1;simp only;rw[hstep];unfold nZ;omega
    ·simp[ak,ah,fv,lk,AV.low,AV.low1]
     first|exact⟨aD _ _,aD _ _,aD _ _⟩|exact⟨aD _ _,aD _ _,rfl,aD _ _⟩
 ·have hz0:V hi=0:=by rw[heq];simp[V,zI]
  rw[hz0,Int.mul_zero,Int.add_zero]at hT;have hrr:r=sY ((V a*V b)%nZ):=sy hr hrw (by rw[vr,hT,hrv]);have hrl:=hr.1;simp[go_sem,hlol,aa hlol];refine ae f7 (av _) ?_;simp[go_sem,hrl,aa hrl,hz,ar];exact bI (by rw[hrr])
theorem IG:V zI=0:=by simp[V,zI]
theorem IH(k x y:List Int)(c:Bool)(hk:Wn 4 k)(hx:Wn 4 x)(hy:Wn 4 y)(hp:fa x y c):∃(u v:List Int)(q:Bool),Wn 4 u∧Wn 4 v∧fa u v q∧PV u v q=mp fd (V k).toNat (PV x y c)∧au Tryz.prog 125 [.agg (cI k),.agg (cP x y c)] (fun r=>r=.agg (cP u v q)):=by
 obtain⟨u,v,q,hu,hv,h1,f1⟩:=wE k zI x y zI zI c true hk d6 hx hy d6 d6;obtain⟨h2,h3⟩:=h1 hp lM;refine⟨u,v,q,hu,hv,h2,?_,?_⟩
 ·rw[h3,IG,yg,mD,dT fd (fQ fd (jP hp) _)]
 refine bu Tryz.func125 Tryz.ntmps125 (rs:=[.cell 4 189]) (by intro w hw;simp at hw;rcases hw with rfl|rfl;exact bB _;exact cN _ _ _) ?_;have hkl:=hk.1;have hpl:(cP x y c).length=9:=bc hx.1 hy.1 c;have hpt:List.take 9 (cP x y c)=cP x y c:=cx (by rw[hpl];omega);have hql:(cP u v q).length=9:=bc hu.1 hv.1 q;have hqt:List.take 9 (cP u v q)=cP u v q:=cx (by rw[hql];omega);have hzl:(cP zI zI false).length=9:=rfl;have hzd:List.drop 9 (cP zI zI false)=[]:=rfl;simp[go_sem,hkl,aa hkl,hpl,hpt];refine cQ [0,1,2] [(3,[]),(4,[]),(5,[])] 1 (k:=6) ?_;intro G hG;simp[go_sem,hkl,aa hkl,hpl,hpt];refine ae fl aw ?_;simp[go_sem,hkl,aa hkl,hpl,hpt];refine ae f1 (by intro w hw;simp at hw;rcases hw with rfl|rfl|rfl|rfl;exact bB _;exact cN _ _ _;exact bB zI;exact cN zI zI true) ?_;simp[go_sem,hql,hqt,hzl,hzd];refine hG _ _ ?_;clear hG G;simp[go_sem,hql,hqt,hzl,hzd,ar];exact ag (cN _ _ _) rfl
theorem nX(r:List Int)(k:List Nat)(e:Int):(AV.tup [.agg (cI r),.agg (cb k),.d (.int .i64 e)]).deep:=by
 intro c hc;simp at hc;rcases hc with rfl|rfl|rfl
 ·exact .inr ⟨_,rfl,eF _⟩
 ·exact .inr ⟨_,rfl,cj _⟩
 ·exact .inl trivial
def II(r:List Int)(k:List Nat):Prop:=0<V r∧V r<nZ∧∃x y:F,mp fd (V r).toNat gP=some (x,y)∧y.val%2=0∧dY k=x.val
theorem EY{y:F}(h:0<y.val):(-y).val=pP-y.val:=by
 have:(-y).val=(pP-y.val)%pP:=rfl;rw[this,Nat.mod_eq_of_lt aq]
theorem nY(a:List Int)(ha:Wn 4 a):∃(r:List Int)(k:List Nat)(e:Int),Wn 4 r∧k.length=32∧bytes k∧((e=1∧V a%nZ=0)∨(e=0∧II r k))∧au Tryz.prog 81 [.agg (cI a)] (fun v=>v=.tup [.agg (cI r),.agg (cb k),.d (.int .i64 e)]):=by
 obtain⟨d,hd,vd,f1⟩:=iT a ha;have hal:=ha.1;have hdl:=hd.1;have hz:List.drop 4 (cI zI)=[]:=ay rfl;have zd:List.drop 32 (cb z32)=[]:=rfl;have b1:=(cJ hd).1;have b2:V d<nZ:=by rw[vd];unfold nZ;omega
 by_cases hd0:d=zI
 ·refine⟨zI,z32,1,d6,rfl,fun y hy=>by simp[z32]at hy;omega,.inl ⟨rfl,by rw[←vd,hd0,IG]⟩,?_⟩;refine bu Tryz.func81 Tryz.ntmps81 (rs:=[.cell 2 96,.cell 3 29,.tmp 4]) (av a) ?_;simp[go_sem,hal,aa hal];refine ae f1 (av _) ?_;simp[go_sem,hdl,aa hdl,hz,dm,zd,ar];refine⟨hdl,rfl,fun heq=>?_,fun hne=>absurd hd0 hne⟩;rw[hd0];exact ag (nX zI z32 1) rfl
 have hpos:0<V d:=by
  have h2:V d≠0:=fun q=>hd0 (sy hd d6 (by rw[q,IG]));omega
 have hdn:(V d).toNat<nN:=by rw[qP];unfold nZ at b2;omega
 have hd0n:0<(V d).toNat:=aq;obtain⟨u,v,q,hu,hv,pt,pv,f2⟩:=IH d gX gY false hd Lp Lq qI;obtain⟨o,ho,f3⟩:=wo u v q hu hv;obtain⟨k,hkl,hkb,kv,f4⟩:=pB u v q hu hv;obtain⟨m,hm,vm,f5⟩:=BN d hd;have ho2:=ho pt;have kv2:=kv pt
 have hq:q=false:=by
  cases q with
  |false=>rfl
  |true=>exact absurd (pv.symm.trans rfl) (EM hd0n hdn)
 subst hq
 have pt':V u<pZ∧V v<pZ:=by
  rcases pt with ⟨q,_⟩|⟨_,q1,q2,_⟩
  ·cases q
  ·exact⟨q1,q2⟩
 have hP:mp fd (V d).toNat gP=some (FV u,FV v):=pv.symm;have hon:dL (some (FV u,FV v)):=jP pt;have e1:=wF hu pt'.1;have e2:=wF hv pt'.2;have hml:=hm.1;have hvp:=(cJ hv).1;have hup:=(cJ hu).1;have hpl:(cP u v false).length=9:=bc hu.1 hv.1 false;have hpt:List.take 9 (cP u v false)=cP u v false:=cx (by rw[hpl];omega);have hzl:(cP zI zI false).length=9:=rfl;have hzd:List.drop 9 (cP zI zI false)=[]:=rfl;refine⟨if o then d else m,k,0,by split<;>assumption,hkl,hkb,.inr ⟨rfl,?_⟩,?_⟩
 ·cases o with
  |true =>
   have:=(ho2.1 rfl).2;exact⟨hpos,b2,FV u,FV v,hP,aq,by rw[kv2,e1]⟩
  | false =>
   have hodd:V v%2≠0:=fun h=>by
    have:=ho2.2 ⟨rfl,h⟩
    cases this
   have hvn:0<(FV v).val:=aq;have h2:=BF;have hl:=(FV v).isLt;have hdm:V d%nZ=V d:=Int.emod_eq_of_lt b1 b2;have vm':V m=nZ-V d:=by rw[vm,hdm];exact Int.emod_eq_of_lt aq aq
   have hmn:(V m).toNat=nN-(V d).toNat:=by rw[vm',qP];unfold nZ;omega
   refine⟨by simp only[Bool.false_eq_true,↓reduceIte];omega,by simp only[Bool.false_eq_true,↓reduceIte];omega,FV u,-FV v,?_,?_,by rw[kv2,e1]⟩
   ·simp only[Bool.false_eq_true,↓reduceIte];rw[hmn,Iu aq,hP];rfl
   ·rw[EY hvn];omega
 clear pt kv kv2 ho ho2 hP hon e1 e2 pv;refine bu Tryz.func81 Tryz.ntmps81 (rs:=[.cell 2 96,.cell 3 29,.tmp 4]) (av a) ?_;simp[go_sem,hal,aa hal];refine ae f1 (av _) ?_;simp[go_sem,hdl,aa hdl,hz,dm,zd];refine⟨hdl,rfl,fun heq=>absurd heq hd0,fun hne=>?_⟩;refine c7 [0] [1,2,3,4] [0] (.alt (bt 1 (.alt (a_ [2,3,4]) (bt 3 (a_ [2,4])))) (bt 3 (bt 1 (a_ [2,4])))) ⟨[(2,.ptr 32 0 0 1),(3,.ptr 64 0 0 1),(5,.ptr 192 0 0 1),(6,.ptr 448 0 0 1)],[(448,⟨189,9,[cP u v false]⟩),(192,⟨96,4,[cI d]⟩),(64,⟨29,32,[cb z32]⟩),(32,⟨96,4,[cI zI]⟩)],9000⟩ (k:=5) ?h3 ?hq
 case h3 =>
  intro G hG
  have hW:∀(fr:Fr)(hp:Hp),(fv 2 fr=.ptr 32 0 0 1∧fv 3 fr=.ptr 64 0 0 1∧fv 5 fr=.ptr 192 0 0 1∧fv 6 fr=.ptr 448 0 0 1∧lk 448 hp=some ⟨189,9,[cP u v false]⟩∧lk 192 hp=some ⟨96,4,[cI d]⟩∧lk 64 hp=some ⟨29,32,[cb z32]⟩∧lk 32 hp=some ⟨96,4,[cI zI]⟩)→G fr hp:=by
   rintro fr hp⟨q0,q1,q2,q3,q4,q5,q6,q7⟩;refine hG _ _ (bf ?_);simp only[ak,ah];refine⟨fun p hp=>?_,fun p hp=>?_,aw⟩
   ·simp only[d_,List.mem_nil_iff,or_false]at hp;rcases hp with rfl|rfl|rfl|rfl<;>exact⟨.inl (Eq.symm (by assumption)),by simp[AV.low,AV.low1]⟩
   ·simp only[d_,List.mem_nil_iff,or_false]at hp;rcases hp with rfl|rfl|rfl|rfl<;>exact⟨.inl (by assumption),aw,by intro r hr;simp only[d_,List.mem_nil_iff,or_false]at hr;subst hr;first|exact aD _ _|exact aC _ _|exact dB _ _ _ _⟩
  simp[go_sem,hdl,aa hdl,hpl,hpt,hz,zd,hzl,hzd,b7]
  repeat' first|exact hW _ _ ⟨rfl,rfl,rfl,rfl,rfl,rfl,rfl,rfl⟩|(refine hW _ _ ?_;simp[fv,lk];done)|refine ae wA aw ?_|refine ae f2 (by intro w hw;simp at hw;rcases hw with rfl|rfl<;>first|exact bB _|exact cN _ _ _) ?_|apply And.intro|simp[go_sem,hdl,aa hdl,hpl,hpt,hz,zd,hzl,hzd,b7]
 case hq =>
  simp[go_sem,hpl,hpt];refine ae f3 (by intro w hw;simp at hw;subst hw;exact cN _ _ _) ?_
  cases o with
  | true =>
   simp[go_sem];refine c7 [0,1] [2,3,4] [0,1,5] (bt 2 (bx 3 (.step 4 [5] false .done))) ⟨[(2,.ptr 32 0 0 1),(3,.ptr 64 0 0 1),(4,.d (.int .i64 0))],[(64,⟨29,32,[cb k]⟩),(32,⟨96,4,[cI d]⟩)],9000⟩ (k:=6) ?h3 ?hq
   case h3 =>
    intro G hG
    have hW:∀(fr:Fr)(hp:Hp),(fv 2 fr=.ptr 32 0 0 1∧fv 3 fr=.ptr 64 0 0 1∧fv 4 fr=.d (.int .i64 0)∧lk 64 hp=some ⟨29,32,[cb k]⟩∧lk 32 hp=some ⟨96,4,[cI d]⟩)→G fr hp:=by
     rintro fr hp⟨q0,q1,q2,q3,q4⟩;refine hG _ _ (bf ?_);simp only[ak,ah];refine⟨fun p hp=>?_,fun p hp=>?_,aw⟩
     ·simp only[d_,List.mem_nil_iff,or_false]at hp;rcases hp with rfl|rfl|rfl<;>exact⟨.inl (Eq.symm (by assumption)),by simp[AV.low,AV.low1]⟩
     ·simp only[d_,List.mem_nil_iff,or_false]at hp;rcases hp with rfl|rfl<;>exact⟨.inl (by assumption),aw,by intro r hr;simp only[d_,List.mem_nil_iff,or_false]at hr;subst hr;first|exact aD _ _|exact aC _ _|exact dB _ _ _ _⟩
    simp[go_sem,hdl,aa hdl,hpl,hpt,hz,zd,ap,hkl,aA hkl,b7]
    repeat' first|exact hW _ _ ⟨rfl,rfl,rfl,rfl,rfl⟩|(refine hW _ _ ?_;simp[fv,lk];done)|refine ae f4 (by intro w hw;simp at hw;subst hw;exact cN _ _ _) ?_|apply And.intro|simp[go_sem,hdl,aa hdl,hpl,hpt,hz,zd,ap,hkl,aA hkl,b7]
   case hq =>
    simp[go_sem,hdl,aa hdl,ap,hkl,aA hkl,ar];exact ag (nX _ _ _) rfl
  | false =>
   simp[go_sem,hdl,aa hdl];refine ae f5 (av _) ?_;simp[go_sem,hml,aa hml,hz,ay hdl];refine⟨aq,?_⟩;refine c7 [0,1] [2,3,4] [0,1,5] (bt 2 (bx 3 (.step 4 [5] false .done))) ⟨[(2,.ptr 32 0 0 1),(3,.ptr 64 0 0 1),(4,.d (.int .i64 0))],[(64,⟨29,32,[cb k]⟩),(32,⟨96,4,[cI m]⟩)],9000⟩ (k:=6) ?h3 ?hq
   case h3 =>
    intro G hG
    have hW:∀(fr:Fr)(hp:Hp),(fv 2 fr=.ptr 32 0 0 1∧fv 3 fr=.ptr 64 0 0 1∧fv 4 fr=.d (.int .i64 0)∧lk 64 hp=some ⟨29,32,[cb k]⟩∧lk 32 hp=some ⟨96,4,[cI m]⟩)→G fr hp:=by
     rintro fr hp⟨q0,q1,q2,q3,q4⟩;refine hG _ _ (bf ?_);simp only[ak,ah];refine⟨fun p hp=>?_,fun p hp=>?_,aw⟩
     ·simp only[d_,List.mem_nil_iff,or_false]at hp;rcases hp with rfl|rfl|rfl<;>exact⟨.inl (Eq.symm (by assumption)),by simp[AV.low,AV.low1]⟩
     ·simp only[d_,List.mem_nil_iff,or_false]at hp;rcases hp with rfl|rfl<;>exact⟨.inl (by assumption),aw,by intro r hr;simp only[d_,List.mem_nil_iff,or_false]at hr;subst hr;first|exact aD _ _|exact aC _ _|exact dB _ _ _ _⟩
    simp[go_sem,hml,aa hml,hpl,hpt,hz,zd,ap,hkl,aA hkl,b7]
    repeat' first|exact hW _ _ ⟨rfl,rfl,rfl,rfl,rfl⟩|(refine hW _ _ ?_;simp[fv,lk];done)|refine ae f4 (by intro w hw;simp at hw;subst hw;exact cN _ _ _) ?_|apply And.intro|simp[go_sem,hml,aa hml,hpl,hpt,hz,zd,ap,hkl,aA hkl,b7]
   case hq =>
    simp[go_sem,hml,aa hml,ap,hkl,aA hkl,ar];exact ag (nX _ _ _) rfl
theorem LH(a r:List Int)(k:List Nat)(e:Int)(ha:Wn 4 a)(hr:Wn 4 r)(hk:k.length=32)(f:au Tryz.prog 81 [.agg (cI a)] (fun v=>v=.tup [.agg (cI r),.agg (cb k),.d (.int .i64 e)])) :
  au Tryz.prog 42 [.agg (cI a)] (fun v=>v=.tup [.agg (cb k),.d (.int .i64 e)]):=by
 have hal:=ha.1;have hrl:=hr.1;have hz:List.drop 4 (cI zI)=[]:=ay rfl;have zd:List.drop 32 (cb z32)=[]:=rfl;refine bu Tryz.func42 Tryz.ntmps42 (rs:=[.cell 2 29,.tmp 3]) (av a) ?_;simp[go_sem,hal,aa hal];refine ae f (av _) ?_;simp[go_sem,hrl,aa hrl,hz,zd,ap,hk,aA hk,ar]
 exact ag (by
  intro c hc;simp at hc;rcases hc with rfl|rfl
  ·exact .inr ⟨_,rfl,cj _⟩
  ·exact .inl trivial) rfl
theorem wS:∀{a b:List Nat},a.length=b.length→bytes a→bytes b→dY a=dY b→a=b
 |[],[],_,_,_,_=>rfl
 |[],y::s,h,_,_,_=>by simp at h
 |x::r,[],h,_,_,_=>by simp at h
 | x :: r,y :: s,h,ha,hb,he=>by
  have hl:r.length=s.length:=by simpa using h
  rw[nP,nP,hl]at he
  have l1:dY r<256 ^ s.length:=by
   have:=mF r (fun z hz=>ha z (cS _ hz)) 0;rw[Nat.zero_add,Nat.one_mul,hl]at this;exact this
  have l2:dY s<256 ^ s.length:=by
   have:=mF s (fun z hz=>hb z (cS _ hz)) 0;rw[Nat.zero_add,Nat.one_mul]at this;exact this
  generalize 256 ^ s.length=P at *
  have hxy:x=y:=by
   have h1:=congrArg (·/P) he
   have h2:∀u v:Nat,v<P→(u*P+v)/P=u:=fun u v hv=>by
    rw[Nat.mul_comm,Nat.mul_add_div aq,Nat.div_eq_of_lt hv,Nat.add_zero]
   simp only[h2 _ _ l1,h2 _ _ l2]at h1;exact h1
  subst hxy;rw[wS hl (fun z hz=>ha z (cS _ hz)) (fun z hz=>hb z (cS _ hz)) aq]
theorem IJ(a b c:List Nat)(ha:a.length=32)(hb:b.length=32)(hc:c.length≤1000):∃r:List Int,Wn 4 r∧V r=(dY (hJ lc (a++b++c)):Int)%nZ∧au Tryz.prog 88 [.agg (cb a),.agg (cb b),.d (nb c)] (fun v=>v=.agg (cI r)):=by
 obtain⟨r,hr,vr,f1⟩:=EX (hJ lc (a++b++c)) (Br _ _).1 (Br _ _).2;have hrl:=hr.1;have hz:List.drop 4 (cI zI)=[]:=ay rfl;refine⟨r,hr,vr,?_⟩;refine bu Tryz.func88 Tryz.ntmps88 (rs:=[.cell 6 96]) (by intro v hv;simp at hv;rcases hv with rfl|rfl|rfl;exact eD _;exact eD _;trivial) ?_;have hl3:(a++b++c).length≤2000:=by simp;omega
 simp[go_sem,ap,ha,hb,aA ha,aA hb];refine cQ [0,1,2] [(3,[]),(4,[]),(5,[]),(6,[]),(7,[])] 0 (k:=8) ?_;intro G hG;simp[go_sem,ap,ha,hb];refine cE [0,32,192] (uI a b c _ rfl ha hb aq) rfl (ai (.one (az (gj (rows:=[[.sub 0 0 0 1 32 32 1],[.sub 32 0 0 1 32 32 1],[.d (nb c)]]) rfl aw rfl (RowsR.cons (.cons (im rfl aw ha) .nil) (RowsR.cons (.cons (im rfl aw hb) .nil) (RowsR.cons (.cons (.d _) .nil) .nil))) rfl (by intro r hr;simp at hr;rcases hr with rfl|rfl|rfl<;>rfl)))) aG) ?_;generalize a++b++c=d at *;simp[go_sem,aO];refine ae (lH lc (.str [66,73,80,48,51,52,48,47,99,104,97,108,108,101,110,103,101]) rfl d (by simp[lc]) aq) a9 ?_;simp[go_sem];refine ae f1 (cG _) ?_;simp[go_sem,hrl];refine hG _ _ ?_;clear hG G;simp[go_sem,hrl,aa hrl,ar];exact bI rfl
theorem BO(a b:List Int)(m:List Nat):∀v,v∈[AV.agg (cI a),.agg (cI b),.d (nb m)]→v.deep:=by
 intro v hv;simp at hv;rcases hv with rfl|rfl|rfl
 ·exact bB _
 ·exact bB _
 ·trivial
theorem sZ(a b c:List Nat):∀v,v∈[AV.agg (cb a),.agg (cb b),.d (nb c)]→v.deep:=by
 intro v hv;simp at hv;rcases hv with rfl|rfl|rfl
 ·exact eD _
 ·exact eD _
 ·trivial
theorem IK(a n r q:List Int)(k R msg:List Nat)(ha:Wn 4 a)(hn:Wn 4 n)(hr:Wn 4 r)(hq:Wn 4 q)(hk:k.length=32)(hR:R.length=32)(hm:msg.length≤1000)(f1:au Tryz.prog 81 [.agg (cI a)] (fun v=>v=.tup [.agg (cI r),.agg (cb k),.d (.int .i64 0)]))(f2:au Tryz.prog 81 [.agg (cI n)] (fun v=>v=.tup [.agg (cI q),.agg (cb R),.d (.int .i64 0)])) :
  ∃(S:List Nat)(ch:List Int),S.length=32∧bytes S∧Wn 4 ch∧V ch=(dY (hJ lc (R++k++msg)):Int)%nZ∧(dY S:Int)=(V q+V ch*V r)%nZ∧au Tryz.prog 88 [.agg (cb R),.agg (cb k),.d (nb msg)] (fun v=>v=.agg (cI ch)) ∧
   au Tryz.prog 44 [.agg (cI a),.agg (cI n),.d (nb msg)] (fun v=>v=.tup [.d (nb (R++S)),.d (.int .i64 0)]):=by
 obtain⟨ch,hch,vch,f3⟩:=IJ R k msg hR hk hm;obtain⟨p,hp,vp,f4⟩:=IF ch r hch hr;obtain⟨s,hs,vs,f5⟩:=IB q p hq hp;obtain⟨S,hS,hSb,vS,f6⟩:=pA s hs;have hsn:=(cJ hs).1;refine⟨S,ch,hS,hSb,hch,vch,?_,f3,?_⟩
 ·rw[vS,Int.toNat_of_nonneg hsn,vs,vp,Int.add_emod,Int.emod_emod_of_dvd _ (Int.dvd_refl _),←Int.add_emod]
 have hal:=ha.1;have hnl:=hn.1;have hrl:=hr.1;have hql:=hq.1;have hchl:=hch.1;have hpl:=hp.1;have hsl:=hs.1;have hz:List.drop 4 (cI zI)=[]:=ay rfl;have zd:List.drop 32 (cb z32)=[]:=rfl;refine bu Tryz.func44 Tryz.ntmps44 (rs:=[.tmp 6,.tmp 7]) (BO _ _ _) ?_;simp[go_sem,hal,hnl,aa hal,aa hnl];refine ae f1 (av _) ?_;simp[go_sem,hrl,aa hrl,hz,zd,ap,hk,aA hk,hnl,aa hnl];refine ae f2 (av _) ?_;simp[go_sem,hql,aa hql,hz,zd,ap,hR,aA hR];refine c7 [0,1,2,3,5] [4,6,7,8,9,10] [0,1,2,3,5] (.alt (bt 4 (.alt (bt 6 (.alt (bx 7 (.alt (a_ [8,9,10]) (a_ [9,8,10]))) (bt 9 (a_ [7,8,10])))) (bt 9 (bt 6 (a_ [7,8,10]))))) (bt 9 (bt 4 (bt 6 (a_ [7,8,10]))))) ⟨[(12,.ptr 768 0 0 1),(13,.ptr 1248 0 0 1)],[(1248,⟨29,32,[cb S]⟩),(768,⟨29,32,[cb R]⟩)],9000⟩ (k:=11) ?h3 ?hq
 case h3 =>
  intro G hG
  have hW:∀(fr:Fr)(hp:Hp),(fv 12 fr=.ptr 768 0 0 1∧fv 13 fr=.ptr 1248 0 0 1∧lk 1248 hp=some ⟨29,32,[cb S]⟩∧lk 768 hp=some ⟨29,32,[cb R]⟩)→G fr hp:=by
   rintro fr hp⟨q0,q1,q2,q3⟩;refine hG _ _ (bf ?_);simp only[ak,ah];refine⟨fun p hp=>?_,fun p hp=>?_,aw⟩
   ·simp only[d_,List.mem_nil_iff,or_false]at hp;rcases hp with rfl|rfl<;>exact⟨.inl (Eq.symm (by assumption)),by simp[AV.low,AV.low1]⟩
   ·simp only[d_,List.mem_nil_iff,or_false]at hp;rcases hp with rfl|rfl<;>exact⟨.inl (by assumption),aw,by intro r hr;simp only[d_,List.mem_nil_iff,or_false]at hr;subst hr;first|exact aD _ _|exact aC _ _|exact dB _ _ _ _⟩
  simp[go_sem,hrl,hql,hchl,hpl,hsl,aa hrl,aa hql,aa hchl,aa hpl,aa hsl,ap,hR,hk,hS,aA hR,aA hk,aA hS,zd,b7]
  repeat' first|exact hW _ _ ⟨rfl,rfl,rfl,rfl⟩|(refine hW _ _ ?_;simp[fv,lk];done)|refine ae f3 (sZ _ _ _) ?_|refine ae f4 (ax _ _) ?_|refine ae f5 (ax _ _) ?_|refine ae f6 (av _) ?_|apply And.intro|simp[go_sem,hrl,hql,hchl,hpl,hsl,aa hrl,aa hql,aa hchl,aa hpl,aa hsl,ap,hR,hk,hS,aA hR,aA hk,aA hS,zd,b7]
 case hq =>
  refine c7 [0,1] [2,3] [0,1,4,5] (bx 2 (.step 3 [4,5] false .done)) ⟨[(6,.d (nb (R++S))),(7,.d (.int .i64 0))],[],20000⟩ (k:=6) ?h3 ?hq
  case h3 =>
   intro G hG;simp[go_sem,ap,hR,hS];refine cE [768,1248,9064] (yj R S hR aq) rfl (ai (.one (az (gj (rows:=[[.sub 768 0 0 1 32 32 1],[.sub 1248 0 0 1 32 32 1]]) rfl aw rfl (RowsR.cons (.cons (im rfl aw hR) .nil) (RowsR.cons (.cons (im rfl aw hS) .nil) .nil)) rfl (by intro r hr;simp at hr;rcases hr with rfl|rfl<;>rfl)))) aG) ?_;simp[go_sem,aO];refine hG _ _ (bf ⟨by simp[ah,fv,lk,AV.low,AV.low1,nb],aw,aw⟩)
  case hq =>
   simp only[gl];simp[go_sem,ar];exact ag a9 rfl
theorem BP(key msg R S:List Nat)(hk:key.length=32)(hkb:bytes key)(hR:R.length=32)(hRb:bytes R)(hS:S.length=32)(hSb:bytes S)(hm:msg.length≤1000)(hl:km (dY key))(hs:dY S<115792089237316195423570985008687907852837564279074904382605163141518161494337)(ch:List Int)(hch:Wn 4 ch)
  (f3:au Tryz.prog 88 [.agg (cb R),.agg (cb key),.d (nb msg)] (fun v=>v=.agg (cI ch))) (x y:F)
  (hQ:sum fd (mp fd (dY S) gP) (mp fd ((nZ-V ch%nZ)%nZ).toNat (liftPt (dY key)))=some (x,y)) (hy2:y.val%2=0) (hxR:dY R=x.val) :
  au Tryz.prog 156 [.agg (cb key),.d (nb msg),.d (nb (R++S))] (fun v=>v=.d (.bool true)):=by
 obtain⟨x1,y1,c,ok,hx,hy,hlf,f1⟩:=sM key hk hkb
 cases ok with
 |false=>exact absurd hl (EB hlf)
 |true =>
 obtain⟨_,_,hpt1,hpv⟩:=EA hlf;obtain⟨s,ok2,hsw,hsv,f2⟩:=Bm S hS hSb;obtain⟨ok2t,vs⟩:=hsv.1 hs;subst ok2t;obtain⟨ng,hng,vng,f4⟩:=BN ch hch;obtain⟨u,v,q,hu,hv,hbo,f5⟩:=wE s ng gX gY x1 y1 false c hsw hng Lp Lq hx hy;obtain⟨hpu,hpq⟩:=hbo qI hpt1;obtain⟨o,ho,f6⟩:=wo u v q hu hv;obtain⟨B,hB,hBb,vB,f7⟩:=pB u v q hu hv
 have hPQ:PV u v q=some (x,y):=by
  rw[hpq,vs,vng,hpv];exact hQ
 have hq:q=false:=by
  cases q with
  |false=>rfl
  |true=>cases hPQ
 subst hq
 have hxy:FV u=x∧FV v=y:=by
  have h:some (FV u,FV v)=some (x,y):=hPQ
  simpa using h
 have hul:V u<pZ∧V v<pZ:=by
  rcases hpu with ⟨q,_⟩|⟨_,q1,q2,_⟩
  ·cases q
  ·exact⟨q1,q2⟩
 have e1:=wF hu hul.1;have e2:=wF hv hul.2;have hv0:=(cJ hv).1;have hot:o=true:=(ho hpu).2 ⟨rfl,by rw[hxy.2]at e2;omega⟩;have hBR:B=R:=wS aq hBb hRb (by rw[vB hpu,e1,hxy.1,hxR]);subst hot hBR;clear hPQ hpq hbo hpt1 hpv hlf vB ho hsv hQ hpu hxy e1 e2 hxR;have zd:List.drop 32 (cb key)=[]:=iK hk;have hz32:z32.length=32:=rfl;have hzd:List.drop 32 (cb z32)=[]:=rfl;have hz:List.drop 4 (cI zI)=[]:=ay rfl;have hxl:=hx.1;have hyl:=hy.1;have hpl:(cP x1 y1 c).length=9:=bc hxl hyl c;have hpt:List.take 9 (cP x1 y1 c)=cP x1 y1 c:=cx (by rw[hpl];omega);have hswl:=hsw.1;have hngl:=hng.1;have hql:(cP u v false).length=9:=bc hu.1 hv.1 false;have hqt:List.take 9 (cP u v false)=cP u v false:=cx (by rw[hql];omega);have h64:(B++S).length=64:=by simp[hR,hS]
 have h64i:((B++S).length:Int)=64:=aq;have e1:List.take 32 ((B++S).map fun(b:Nat)=>[DV.int .u8 (b:Int)])=B.map fun(b:Nat)=>[DV.int .u8 (b:Int)]:=by rw[←List.map_take,List.take_append_of_le_length aq,cx aq]
 have e2:List.drop 32 ((B++S).map fun(b:Nat)=>[DV.int .u8 (b:Int)])=S.map fun(b:Nat)=>[DV.int .u8 (b:Int)]:=by rw[←List.map_drop,List.drop_append_of_le_length aq,c_ aq,List.nil_append]
 have e3:List.take 64 ((B++S).map fun(b:Nat)=>[DV.int .u8 (b:Int)])=(B++S).map fun(b:Nat)=>[DV.int .u8 (b:Int)]:=cx (by simp[hR,hS]);generalize B++S=sig at *;refine bu Tryz.func156 Tryz.ntmps156 (rs:=[.tmp 6]) (sQ _ _ _) ?_;simp[go_sem,ap,hk,aA hk,zd];refine ae f1 (cG _) ?_;simp[go_sem,hpl,hpt,nb,h64,h64i,e1,e2,e3,Bt,tZ,aA hR,aA hS,ap,hR,hS,hz32,hzd];refine ae f2 (cG _) ?_;simp[go_sem,hswl,aa hswl,hz,ap,hk,hR,aA hk,aA hR];refine ae f3 (sZ _ _ _) ?_;simp[go_sem];refine ae f4 (av _) ?_;simp[go_sem,hngl,aa hngl,hz];refine c7 [0,2,3] [1,4,5,6] [0,2,3] (.alt (bt 1 (.alt (a_ [4,5,6]) (bt 5 (a_ [4,6])))) (bt 5 (bt 1 (a_ [4,6])))) ⟨[(9,.ptr 672 0 0 1),(12,.ptr 1536 0 0 1)],[(1536,⟨189,9,[cP u v false]⟩),(672,⟨29,32,[cb B]⟩)],9000⟩ (k:=7) ?h3 ?hq
 case h3 =>
  intro G hG
  have hW:∀(fr:Fr)(hp:Hp),(fv 9 fr=.ptr 672 0 0 1∧fv 12 fr=.ptr 1536 0 0 1∧lk 1536 hp=some ⟨189,9,[cP u v false]⟩∧lk 672 hp=some ⟨29,32,[cb B]⟩)→G fr hp:=by
   rintro fr hp⟨q0,q1,q2,q3⟩;refine hG _ _ (bf ?_);simp only[ak,ah];refine⟨fun p hp=>?_,fun p hp=>?_,aw⟩
   ·simp only[d_,List.mem_nil_iff,or_false]at hp;rcases hp with rfl|rfl<;>exact⟨.inl (Eq.symm (by assumption)),by simp[AV.low,AV.low1]⟩
   ·simp only[d_,List.mem_nil_iff,or_false]at hp;rcases hp with rfl|rfl<;>exact⟨.inl (by assumption),aw,by intro r hr;simp only[d_,List.mem_nil_iff,or_false]at hr;subst hr;first|exact aD _ _|exact aC _ _|exact dB _ _ _ _⟩
  simp[go_sem,hswl,hngl,aa hswl,aa hngl,hpl,hpt,hql,hqt,b7]
  repeat' first|exact hW _ _ ⟨rfl,rfl,rfl,rfl⟩|(refine hW _ _ ?_;simp[fv,lk];done)|refine ae wA aw ?_|refine ae f5 (by intro v hv;simp at hv;rcases hv with rfl|rfl|rfl|rfl<;>first|exact bB _|exact cN _ _ _) ?_|apply And.intro|simp[go_sem,hswl,hngl,aa hswl,aa hngl,hpl,hpt,hql,hqt,b7]
 case hq =>
  simp[go_sem];refine cQ [0] [(1,[2,3,5]),(4,[6,7,8])] 2 (k:=9) ?_;intro G hG;simp[go_sem,hql,hqt];refine ae f6 (by intro v hv;simp at hv;subst hv;exact cN _ _ _) ?_;simp[go_sem,hql,hqt,ap,hR,aA hR];refine ae f7 (by intro v hv;simp at hv;subst hv;exact cN _ _ _) ?_;simp[go_sem,ap,hR,aA hR,hB,sP];refine hG _ _ ?_;clear hG G;simp[go_sem,ar];exact ag trivial rfl
theorem yp(key msg sig:List Nat)(hk:key.length=32)(hkb:bytes key)(h64:sig.length≠64):au Tryz.prog 156 [.agg (cb key),.d (nb msg),.d (nb sig)] (fun v=>v=.d (.bool false)):=by
 obtain⟨x,y,c,ok,hx,hy,_,f1⟩:=sM key hk hkb;have zd:List.drop 32 (cb key)=[]:=iK hk;have hpl:(cP x y c).length=9:=bc hx.1 hy.1 c;have hpt:List.take 9 (cP x y c)=cP x y c:=cx (by rw[hpl];omega);have h64i:¬(sig.length:Int)=64:=aq;refine bu Tryz.func156 Tryz.ntmps156 (rs:=[.tmp 6]) (sQ _ _ _) ?_
 cases ok with
 |false =>
  simp[go_sem,ap,hk,aA hk,zd];refine ae f1 (cG _) ?_;simp[go_sem,hpl,hpt,ar];exact ag trivial rfl
 |true =>
  simp[go_sem,ap,hk,aA hk,zd];refine ae f1 (cG _) ?_;simp[go_sem,hpl,hpt,nb,h64,h64i,ar];exact ag trivial rfl
theorem IL{r q ch:List Int}{k R S:List Nat}(h1:II r k)(h2:II q R)(hch:0≤V ch∧V ch<nZ)(hS:(dY S:Int)=(V q+V ch*V r)%nZ) :
  km (dY k)∧dY S<115792089237316195423570985008687907852837564279074904382605163141518161494337∧∃x y:F,sum fd (mp fd (dY S) gP) (mp fd ((nZ-V ch%nZ)%nZ).toNat (liftPt (dY k)))=some (x,y)∧y.val%2=0∧dY R=x.val:=by
 obtain⟨a1,a2,x,y,a3,a4,a5⟩:=h1;obtain⟨b1,b2,u,v,b3,b4,b5⟩:=h2;have hon:dL (some (x,y)):=by rw[←a3];exact fQ fd fR _
 obtain⟨l1,l2⟩:=uM hon a4;have nn:(nN:Int)=nZ:=by rw[qP];rfl
 refine⟨by rw[a5];exact l1,?_,u,v,?_,b4,b5⟩
 ·have:=Int.emod_lt_of_pos (V q+V ch*V r) (show(0:Int)<nZ by unfold nZ;omega);rw[←hS]at this;unfold nZ at this;omega
 ·have c1:V ch%nZ=V ch:=Int.emod_eq_of_lt hch.1 hch.2
  have e1:dY S=((V q).toNat+(V ch).toNat*(V r).toNat)%nN:=by
   apply Int.ofNat_inj.1;rw[hS,Int.natCast_emod,Int.natCast_add,Int.natCast_mul,nn,Int.toNat_of_nonneg aq,Int.toNat_of_nonneg hch.1,Int.toNat_of_nonneg aq]
  have e2:((nZ-V ch%nZ)%nZ).toNat=(nN-(V ch).toNat)%nN:=by
   apply Int.ofNat_inj.1;rw[c1,Int.toNat_of_nonneg (Int.emod_nonneg _ (by unfold nZ;omega)),Int.natCast_emod,Int.ofNat_sub (by have:=hch.2;rw[←nn]at this;omega),nn,Int.toNat_of_nonneg hch.1]
  rw[e1,e2,a5,l2,←a3,EO _ _ _ (by have:=hch.2;rw[←nn]at this;omega),b3]
end Go.Proofs.YtmfnimjnneflnaaGreat
namespace Go.Am
theorem yq{P:Program}{w:World}{S S':Nat→Prop}{σ σ':Nat→Option Nat}{hp hp':Hp}{U U':Nat→Prop}{e:Nat}{k:IntKind}{n:Int}{x:Value}(h:AIs w S σ hp U (.tup [.d (.ro e []),.d (.int k n)]) x):AIs w S' σ' hp' U' (.tup [.d (.ro e []),.d (.int k n)]) x:=by
 cases h with
 | tup _ xs hl h =>
  refine .tup _ xs hl fun i c y h1 h2=>?_;have h3:=h i c y h1 h2
  match i,h1 with
  | 0,h1 =>
   simp at h1;subst h1
   cases h3 with
   |d h4 =>
    cases h4 with
    |ro _ _ A c vs hc he hA hv hd=>exact .d (.ro e [] A c vs hc he (fun x hx=>(by cases hx)) (fun ad _ i j x y hx=>(by simp at hx)) (fun i j x y hx=>(by simp at hx)))
  |1,h1 =>
   simp at h1;subst h1;exact jf (v:=.d (.int k n)) trivial h3
  |i+2,h1=>simp at h1
theorem wT{P:Program}{g:FuncId}{args args':List AV}{hp:Hp}{N:Nat}{K:AV→Hp→Prop}{e:Nat}{k:IntKind}{n:Int}(h:au P g args' (fun x=>x=.tup [.d (.ro e []),.d (.int k n)]))(hl':args.length=args'.length)
  (hs:∀(i:Nat)(v v':AV),args[i]?=some v→args'[i]?=some v'→Snap hp (fun _=>True) v v') (hK:K (.tup [.d (.ro e []),.d (.int k n)]) hp):xo P g args hp N K:=.inl (by
 refine⟨h.1,fun c U σ w vs hr hN hl hv=>?_⟩;refine(h.2 w (fun b=>b<w.heap.size) vs (fun b hb=>hb) (hl.trans hl') (fun i v' x hi hx=>?_)).mono fun e w' he=>?_
 ·have hlt:i<args.length:=by have:=(ci.1 hi).1;omega
  exact gG (fun b hb=>hb.1.1) (fun id blk g _ hk hg=>bQ (hr.at hk hg)) hr (hs i _ v' (cm hlt) hi) (hv i _ x (cm hlt) hx)
 ·obtain⟨x,r,rfl,hQ,hdr,hb,hx⟩:=he;subst hQ;obtain⟨r1,r2⟩:=ig (N:=N) hr hb
  exact⟨x,rfl,_,hp,σ,hK,r1,r2,yq (P:=P) hx⟩)
end Go.Am
namespace Go.Sha
open Go.Proofs.YtmfnimjnneflnaaGreat Go.Am
def bM(t:Tn)(m:Nat)(i:Ip)(w:List (List Nat)):Tn:=⟨t.ver,t.ins.set m ⟨i.hash,i.idx,i.seq,w⟩,t.outs,t.lock⟩
theorem oa{α:Type}{f:Ip→α}{l:List Ip}{m:Nat}{i i':Ip}(h:l[m]?=some i)(e:f i'=f i):(l.set m i').map f=l.map f:=by
 rw[List.map_set,e];refine List.ext_getElem? fun j=>?_;rw[List.getElem?_set]
 split
 ·rename_i hj;subst hj;have hm:=(ci.1 h).1;rw[if_pos (by rw[List.length_map];exact hm),cU,h];rfl
 ·rfl
theorem yr{t:Tn}{m n:Nat}{i:Ip}{w:List (List Nat)}{coins:List (Nat×List Nat)}{ann:List Nat}(h:t.ins[m]?=some i):li (bM t m i w) n coins ann=li t n coins ann:=by
 unfold li bM;simp only;rw[oa (f:=ko) (i':=⟨i.hash,i.idx,i.seq,w⟩) h rfl,oa (f:=nR) (i':=⟨i.hash,i.idx,i.seq,w⟩) h rfl]
theorem oc{t:Tn}{m:Nat}{i:Ip}{w:List (List Nat)}(h:t.ins[m]?=some i):(bM t m i w).ins[m]?=some ⟨i.hash,i.idx,i.seq,w⟩:=by
 show(t.ins.set m _)[m]?=_;rw[List.getElem?_set_self (ci.1 h).1]
theorem od{t:Tn}{m:Nat}{i:Ip}{w:List (List Nat)}(h:t.ins[m]?=some i)(ht:Sm t)(hw:Fo w):Sm (bM t m i w):=by
 obtain⟨⟨a1,a2,a3,a4⟩,b1,b2,b3,b4⟩:=ht;have hi:=cr h;refine⟨⟨a1,a2,fun j hj=>?_,a4⟩,by simp only[bM,List.length_set];exact b1,b2,b3,fun j hj=>?_⟩
 ·rcases List.mem_or_eq_of_mem_set hj with q|rfl
  ·exact a3 j q
  ·exact a3 i hi
 ·rcases List.mem_or_eq_of_mem_set hj with q|rfl
  ·exact b4 j q
  ·exact hw
theorem wU{w w':List (List Nat)}(e:(eg w').length≤(eg w).length):∀(l:List Ip)(m:Nat)(i i':Ip),i.wit=w→i'.wit=w'→l[m]?=some i→(sk (l.set m i')).length≤(sk l).length
 |[],m,i,i',_,_,h=>by simp at h
 |a::l,0,i,i',h1,h2,h=>by
  simp at h;subst h;unfold sk;simp only[List.set_cons_zero,List.map_cons,List.flatten_cons,b_,h1,h2];omega
 |a::l,m+1,i,i',h1,h2,h=>by
  have:=wU e l m i i' h1 h2 (by simpa using h);unfold sk at this⊢;simp only[List.set_cons_succ,List.map_cons,List.flatten_cons,b_];omega
theorem uR{t:Tn}{m:Nat}{i:Ip}{w w':List (List Nat)}{n:Int}{coins:List (Nat×List Nat)}(h:t.ins[m]?=some i)(e:(eg w').length≤(eg w).length)(c:aU (bM t m i w) n coins=0):aU (bM t m i w') n coins=0:=by
 have hs:bM t m i w'=bM (bM t m i w) m ⟨i.hash,i.idx,i.seq,w⟩ w':=by
  unfold bM;simp only[List.set_set]
 have hat:=oc (w:=w) h;generalize bM t m i w=T at *;rw[hs];have hl:=wU e T.ins m ⟨i.hash,i.idx,i.seq,w⟩ ⟨i.hash,i.idx,i.seq,w'⟩ rfl rfl hat
 have hb:(fP (bM T m ⟨i.hash,i.idx,i.seq,w⟩ w')).length=(fP T).length:=by
  unfold fP bM mo;simp only[b_,List.length_set];rw[oa (f:=ug) (i':=⟨i.hash,i.idx,i.seq,w'⟩) hat rfl]
 have hw:(dh (bM T m ⟨i.hash,i.idx,i.seq,w⟩ w')).length≤(dh T).length:=by
  unfold dh;rw[b_,b_,hb];exact Nat.add_le_add_left hl _
 unfold aU at c⊢
 split at c
 ·cases c
 ·rename_i hq;rw[if_neg];intro q;refine hq ?_;rcases q with a|a|a
  ·refine .inl fun hT=>a ?_;unfold iM at hT⊢
   split at hT
   ·cases hT
   ·rw[if_neg aq]
  ·exact .inr (.inl (by simpa[bM]using a))
  ·exact .inr (.inr a)
end Go.Sha
namespace Go.Proofs.YtmfnimjnneflnaaGreat
open Go.Am Go.Sha
theorem LI{k:List Nat}(hk:k.length=32):gr (81::32::k)=(k,true)∧gu (81::32::k)=2:=by
 have h1:gr (81::32::k)=(k,true):=by
  unfold gr;rw[if_pos ⟨by simp[hk],rfl,rfl⟩];rfl
 refine⟨h1,?_⟩;unfold gu;rw[if_neg (fun h=>by have:=congrArg List.length h;simp[hk]at this),h1];rfl
theorem IM{t:Tn}{n:Nat}{coins:List (Nat×List Nat)}{k x X:List Nat}{v:Nat}{i:Ip}{o:Bool}(h:SpOk t coins)(c0:aU t (n:Int) coins=0)(hk:k.length=32)(hc:coins[n]?=some (v,81::32::k))(hi:t.ins[n]?=some i)(hW:lR i.wit=[x])(hX:lS i.wit=X)(hXl:X.length≤1000)
  (hv:au Tryz.prog 156 [.agg (cb k),.d (nb (hJ cK (li t n coins X))),.d (nb x)] (fun r=>r=.d (.bool o))) :
  au Tryz.prog 41 [.agg (eS t (n:Int) coins)] (fun r=>r=dG ([],if o then 0 else 20)):=by
 have hm:=wJ t (n:Int) coins X h.sm h.cc hXl c0;rw[Int.toNat_natCast]at hm;have he:=BI t (n:Int) coins k x X (hJ cK (li t n coins X)) o hk (bk _) hm hv;have hn:n<t.ins.length:=(ci.1 hi).1;have hu:=uO t n coins k h hk hn x X _ i hi hW hX he
 obtain⟨p',_,_,q3,q4⟩:=wQ t n coins h ([],if o then 0 else 20) (fun o' _ ho' _=>by
  rw[hc]at ho'
  cases ho'
  rw[(LI hk).1]
  exact hu)
 rw[q3 _ c0 hc (LI hk).2]at q4;exact q4
theorem BQ{hp:Hp}{I:Nat→Prop}{es:List (List DV)}{m:Nat}{x:List AV}{y:List DV}(h:CellsR hp I x y):RowsR hp I ((es.map fun r=>r.map AV.d).set m x) (es.set m y):=by
 refine mf _ _ aw fun i a b ha hb=>?_;rw[List.getElem?_set]at ha hb;by_cases hi:m=i
 ·subst hi;by_cases hm:m<es.length
  ·simp[hm]at ha hb;subst ha hb;exact h
  ·simp[hm]at ha
 ·simp only[hi,↓reduceIte]at ha hb;rw[cU,hb]at ha;simp at ha;subst ha;exact lw _
theorem BR{hp:Hp}{I:Nat→Prop}{id id2 n m v:Nat}{k:List Nat}{l:List (Nat×List Nat)}(hb:lk id hp=some ⟨57,2,(l.map fun o=>(eO o).map AV.d).set m [.d (.int .u64 (v:Int)),.own id2 0 34 34]⟩)(hI:I id)(h2:lk id2 hp=some ⟨5,1,rb (81::32::k)⟩)(hI2:I id2)(hk:k.length=32)(hn:l.length=n) :
  SnapD hp I (.own id 0 n n) (.ro 2 ((l.set m (v,81::32::k)).map eO)):=by
 have hR:=BQ (hp:=hp) (I:=I) (es:=l.map eO) (m:=m) (x:=[.d (.int .u64 (v:Int)),.own id2 0 34 34]) (y:=eO (v,81::32::k)) (.cons (.d _) (.cons (bo (by simp[hk]) h2 hI2) .nil));rw[List.map_map]at hR
 refine gj (rows:=(l.map fun o=>(eO o).map AV.d).set m [.d (.int .u64 (v:Int)),.own id2 0 34 34]) hb hI (by simp[hn]) ?_ (by simp[hn]) (fun r hr=>by
  rw[List.mem_map]at hr;obtain⟨w,_,rfl⟩:=hr
  rfl)
 rw[List.drop_zero,cx (by simp[hn]),List.map_set];exact hR
theorem s5(N:Nat)(l:List DV):∀v,v∈l.map AV.d→v.low1 N:=by
 intro v hv;obtain⟨x,_,rfl⟩:=List.mem_map.1 hv
 trivial
theorem yt(l:List (Nat×List Nat))(m:Nat)(v:Int)(N:Nat):∀r,r∈(l.map fun o=>(eO o).map AV.d).set m [.d (.int .u64 v),.own 1184 0 34 34]→∀c,c∈r→c.low1 (N+1185):=by
 intro r hr c hc;rcases List.mem_or_eq_of_mem_set hr with q|rfl
 ·obtain⟨x,_,rfl⟩:=List.mem_map.1 q;exact s5 _ _ c hc
 ·simp at hc;rcases hc with rfl|rfl
  ·trivial
  ·show 1184<N+1185;omega
def cX(l:List Ip):List (List AV):=l.map fun j=>(eI j).map AV.d
theorem fb(l:List Ip)(N:Nat):∀r,r∈cX l→∀c,c∈r→c.low1 N:=by
 intro r hr c hc;obtain⟨x,_,rfl⟩:=List.mem_map.1 hr;exact s5 _ _ c hc
theorem wV{i:Ip}(h:i.hash.length=32):(eI i).length=35:=by simp[eI,da,h]
theorem wW{i:Ip}(h:i.hash.length=32):(eI i).length=35:=wV h
theorem lU{t:Tn}{m:Nat}{i:Ip}{w:List (List Nat)}(hi:t.ins[m]?=some i)(h:i.hash.length=32):(cX t.ins).set m (((eI i).map AV.d).set 34 (.d (.ro 1 (w.map bp))))=cX (bM t m i w).ins:=by
 have e:((eI i).map AV.d).set 34 (.d (.ro 1 (w.map bp)))=(eI ⟨i.hash,i.idx,i.seq,w⟩).map AV.d:=by
  unfold eI;simp only[List.map_append];rw[List.set_append_right _ _ (by rw[List.length_map,da,h];omega),List.length_map,da,h];rfl
 rw[e];unfold cX;show _=(t.ins.set m _).map _;rw[List.map_set]
theorem LJ{i:Ip}{w:List (List Nat)}(h:i.hash.length=32):((eI i).map AV.d).set 34 (.d (.ro 1 (w.map bp)))=(eI ⟨i.hash,i.idx,i.seq,w⟩).map AV.d:=by
 unfold eI;simp only[List.map_append];rw[List.set_append_right _ _ (by rw[List.length_map,da,h];omega),List.length_map,da,h];rfl
theorem uS{t:Tn}{m:Nat}{i:Ip}{w:List (List Nat)}{v:AV}(hi:t.ins[m]?=some i)(h:i.hash.length=32):(cX (bM t m i w).ins).set m (((eI ⟨i.hash,i.idx,i.seq,w⟩).map AV.d).set 34 v)=(cX t.ins).set m (((eI i).map AV.d).set 34 v):=by
 rw[←lU hi h,List.set_set,←LJ h,List.set_set]
theorem BS{hp:Hp}{ids:List Nat}{base:List (List AV)}{m:Nat}{Y:List AV}{v:AV}{d:DV}(hs:SnapD hp (fun id=>id∈ids) v d) :
  ∀(a:Nat)(x x':List AV),(base.set m (Y.set 34 v))[a]?=some x→(base.set m (Y.set 34 (.d d)))[a]?=some x'→x'.length=x.length∧∀(j:Nat)(u u':AV),x[j]?=some u→x'[j]?=some u'→ub hp ids u u':=by
 intro a x x' h1 h2;rw[List.getElem?_set]at h1 h2;by_cases hm:m=a
 ·subst hm;by_cases hl:m<base.length
  ·simp[hl]at h1 h2;subst h1 h2;refine⟨aw,fun j u u' g1 g2=>?_⟩;rw[List.getElem?_set]at g1 g2;by_cases hj:34=j
   ·subst hj;by_cases hy:34<Y.length
    ·simp[hy]at g1 g2;subst g1 g2;exact .inr ⟨d,rfl,hs⟩
    ·simp[hy]at g1
   ·simp only[hj,↓reduceIte]at g1 g2;rw[g1]at g2;exact .inl (Option.some.inj g2).symm
  ·simp[hl]at h1
 ·simp only[hm,↓reduceIte]at h1 h2;rw[h1]at h2
  cases h2
  refine⟨rfl,fun j u u' g1 g2=>?_⟩;rw[g1]at g2;exact .inl (Option.some.inj g2).symm
theorem oe{hp:Hp}{I:Nat→Prop}{id n:Nat}{l:List Ip}(hb:lk id hp=some ⟨68,35,cX l⟩)(hI:I id)(hn:l.length=n)(hl:∀j,j∈l→j.hash.length=32):SnapD hp I (.own id 0 n n) (.ro 35 (l.map eI)) :=
 fA (es:=l.map eI) (by rw[hb,cX,List.map_map];rfl) hI (by simp[hn]) (fun r hr=>by
  rw[List.mem_map]at hr;obtain⟨w,hw,rfl⟩:=hr
  exact wV (hl w hw))
theorem og{hp:Hp}{I:Nat→Prop}(t:Tn)(n:Int)(coins:List (Nat×List Nat)){a:AV}(ha:ij hp I a (.d (.ro 35 (t.ins.map eI)))) :
  Snap hp I (.agg [.d (.int .u32 (t.ver:Int)),a,.d (.ro 2 (t.outs.map eO)),.d (.int .u32 (t.lock:Int)),.d (.int .i64 n),.d (.ro 2 (coins.map eO))]) (.agg (eS t n coins)) :=
 .agg ⟨rfl,aI (bR trivial) (aI ha (aI (bR trivial) (aI (bR trivial) (aI (bR trivial) (aI (bR trivial) dE)))))⟩
theorem Pi(t:Tn)(n:Int)(coins:List (Nat×List Nat))(s:List Int)(b:Bool):∀v,v∈[AV.agg (eS t n coins),.agg (cI s),.d (.bool b)]→v.deep:=by
 intro v hv;simp only[d_,List.mem_nil_iff,or_false]at hv;rcases hv with rfl|rfl|rfl
 ·exact lh t n coins _ aw
 ·exact bB _
 ·trivial
theorem EZ{t:Tn}{m v:Nat}{coins:List (Nat×List Nat)}{s:List Nat}(h:aU t (m:Int) coins=0)(hs:s.length≤1000):aU t (m:Int) (coins.set m (v,s))=0:=by
 unfold aU at h⊢
 split at h
 ·cases h
 ·rename_i hq;rw[if_neg];intro hq2;refine hq ?_;rcases hq2 with a|a|a|a|a
  ·exact .inl a
  ·rw[List.length_set]at a;exact .inr (.inl a)
  ·exact .inr (.inr (.inl a))
  ·rw[List.length_set]at a;exact .inr (.inr (.inr (.inl a)))
  ·refine .inr (.inr (.inr (.inr ?_)))
   cases hc:bq 1000 coins with
   |false=>rfl
   |true =>
    rw[←a];unfold bq at hc⊢;rw[d7]at hc;refine(d7.2 fun o ho=>?_).symm;rcases List.mem_or_eq_of_mem_set ho with q|rfl
    ·exact hc o q
    ·exact decide_eq_true hs
theorem wX:Wn 4 [3,0,0,0]:=⟨rfl,by intro y hy;simp at hy;rcases hy with rfl|rfl<;>exact⟨aq,aq⟩⟩
def oh(b:Bool):List Nat:=if b then[80,7]else[]
def lV(b:Bool)(s:List Nat):List (List Nat):=if b then[s,[80,7]]else[s]
theorem wY(b:Bool)(s:List Nat):lR (lV b s)=[s]∧lS (lV b s)=oh b:=by
 cases b
 ·exact⟨rfl,rfl⟩
 ·exact⟨rfl,rfl⟩
theorem BU(b:Bool)(s:List Nat)(h:s.length=64):(eg (lV b (s.take 63))).length≤(eg (lV b s)).length:=by
 have e:∀x:List Nat,x.length<253→(a8 x).length=1+x.length:=fun x hx=>by
  unfold a8 ao;rw[if_pos hx];simp[aE]
 have e1:=e s aq;have e2:=e (s.take 63) (by rw[List.length_take];omega);have hl:(s.take 63).length=63:=by rw[List.length_take];omega
 cases b
 ·simp only[lV,eg,jm,Bool.false_eq_true,↓reduceIte,List.map_cons,List.map_nil,List.flatten_cons,List.flatten_nil,b_,List.length_cons,List.length_nil,e1,e2,hl,h];omega
 ·simp only[lV,eg,jm,↓reduceIte,List.map_cons,List.map_nil,List.flatten_cons,List.flatten_nil,b_,List.length_cons,List.length_nil,e1,e2,hl,h];omega
theorem E0 (t:Tn) (n:Int) (coins:List (Nat × List Nat)) (sec:List Int) (an:Bool) (hok:t.ok) (hwb:∀ i,i ∈ t.ins→∀ x,x ∈ i.wit→bytes x) (hob:∀ o,o ∈ t.outs→bytes o.2) (hcb:∀ o,o ∈ coins→o.1<18446744073709551616∧bytes o.2) (hsec:Wn 4 sec) :
    au Tryz.prog 11 [.agg (eS t n coins),.agg (cI sec),.d (.bool an)] (fun r=>r=.d (.bool true)):=by
  refine xO Tryz.func11 (by kernel_rfl) rfl Tryz.ntmps11 (rs:=[.tmp 6]) rfl (qb rfl) (Pi t n coins sec an) ?_;obtain⟨r,key,e,hr,hkl,hkb,hcase,fst⟩:=nY sec hsec;have fkey:=LH sec r key e hsec hr hkl fst;have hsl:(eS t n coins).length=6:=rfl;have htk:List.take 6 (eS t n coins)=eS t n coins:=rfl;have hcl:=hsec.1;have hct:=aa hcl;have hkt:=aA hkl;have hSm:=x9 t n coins hok;have hSd:=lh t n coins
  cases hs:nE t coins with
  | false =>
    rw[hs]at hSm;generalize eS t n coins=S at *;refine aM ?_;simp[go_sem,hsl,htk,hcl,hct];refine ae fkey (av _) ?_;simp[go_sem,ap,hkl,hkt,aV,hsl,htk];refine ae hSm hSd ?_;simp[go_sem];refine ae gv aw ?_;simp[go_sem,ar];exact ag (v:=.d (.bool true)) trivial rfl
  |true =>
  rw[hs]at hSm
  have hS:Sm t∧IU coins:=by
    simp only[nE,Bool.and_eq_true,decide_eq_true_eq,bq,d7]at hs;exact⟨Ko hok hs.1,⟨hs.2.1,fun o ho=>⟨(hcb o ho).1,hs.2.2 o ho⟩⟩⟩
  obtain⟨hk,hcc⟩:=hS;have hCk:=uj t n coins hk (by have:=hcc.1;omega);by_cases c0:aU t n coins=0
  case neg =>
    generalize aU t n coins=ck at *;generalize eS t n coins=S at *;refine aM ?_;simp[go_sem,hsl,htk,hcl,hct];refine ae fkey (av _) ?_;simp[go_sem,ap,hkl,hkt,aV,hsl,htk];refine ae hSm hSd ?_;simp[go_sem,hsl,htk];refine ae hCk hSd ?_;simp[go_sem,c0];refine ae gv aw ?_;simp[go_sem,ar];exact ag (v:=.d (.bool true)) trivial rfl
  rw[c0]at hCk;rcases hcase with ⟨rfl,_⟩|⟨rfl,hst⟩
  · generalize eS t n coins=S at *
    refine aM ?_;simp[go_sem,hsl,htk,hcl,hct];refine ae fkey (av _) ?_;simp[go_sem,ap,hkl,hkt,aV,hsl,htk];refine ae hSm hSd ?_;simp[go_sem,hsl,htk];refine ae hCk hSd ?_;simp[go_sem];refine ae gv aw ?_;simp[go_sem,ar];exact ag (v:=.d (.bool true)) trivial rfl
  have hcx:iM t=0∧coins.length=t.ins.length∧0≤n∧n<(coins.length:Int):=by
    unfold aU at c0
    split at c0
    · cases c0
    · rename_i hq
      simp only[not_or,Int.not_lt,Int.not_le,ne_eq,Classical.not_not]at hq;exact⟨hq.1,hq.2.1,hq.2.2.1,hq.2.2.2.1⟩
  obtain⟨m,rfl⟩:∃m:Nat,n=(m:Int):=⟨n.toNat,aq⟩;have hml:m<coins.length:=aq;have hmi:m<t.ins.length:=aq;obtain⟨i,hii⟩:∃i,t.ins[m]?=some i:=⟨_,cm hmi⟩;obtain⟨o,hoo⟩:∃o,coins[m]?=some o:=⟨_,cm hml⟩;have hih:=(hk.1.2.2.1 i (cr hii)).1;have hil:=hk.2.1;have hic:=hcc.1;obtain⟨q,R,e2,hq,hR,hRb,hcase2,fst2⟩:=nY [3,0,0,0] wX;rcases hcase2 with ⟨_,h0⟩|⟨rfl,hst2⟩
  · simp [V] at h0
    unfold nZ at h0;omega
  have kb:bytes (81::32::key):=by
    intro y hy;simp only[d_]at hy;rcases hy with rfl|rfl|hy
    · omega
    · omega
    · exact hkb y hy
  have hC0:aU t (m:Int) (coins.set m (o.1,81::32::key))=0:=EZ c0 (by simp[hkl])
  have hCC:IU (coins.set m (o.1,81::32::key)):=⟨by rw[List.length_set];exact hcc.1,fun x hx=>by
    rcases List.mem_or_eq_of_mem_set hx with q|rfl
    · exact hcc.2 x q
    · exact⟨(hcc.2 o (cr hoo)).1,by simp[hkl]⟩⟩
  have hCb:∀x,x∈coins.set m (o.1,81::32::key)→bytes x.2:=fun x hx=>by
    rcases List.mem_or_eq_of_mem_set hx with q|rfl
    · exact(hcb x q).2
    · exact kb
  have hCm:(coins.set m (o.1,81::32::key))[m]?=some (o.1,81::32::key):=by rw[List.getElem?_set_self hml]
  have fmsg:=wJ t (m:Int) (coins.set m (o.1,81::32::key)) (oh an) hk hCC (by cases an<;>simp[oh]) hC0;rw[Int.toNat_natCast]at fmsg;have hMl:(hJ cK (li t m (coins.set m (o.1,81::32::key)) (oh an))).length=32:=bk _;obtain⟨Sg,ch,hSl,hSb,hch,vch,vS,f3,fsign⟩:=IK sec [3,0,0,0] r q key R (hJ cK (li t m (coins.set m (o.1,81::32::key)) (oh an))) hsec wX hr hq hkl hR aq fst fst2
  have hchb:0≤V ch∧V ch<nZ:=by
    rw[vch];exact⟨Int.emod_nonneg _ (by unfold nZ;omega),Int.emod_lt_of_pos _ (by unfold nZ;omega)⟩
  obtain⟨lo,hsn,x,y,hQ,hy2,hxR⟩:=IL hst hst2 hchb vS;have fver:=BP key (hJ cK (li t m (coins.set m (o.1,81::32::key)) (oh an))) R Sg hkl hkb hR hRb hSl hSb aq lo hsn ch hch f3 x y hQ hy2 hxR;have hsig:(R++Sg).length=64:=by simp[hR,hSl]
  have hsigb:bytes (R++Sg):=fun z hz=>(cD.1 hz).elim (hRb z) (hSb z);generalize R++Sg=sig at *;have fno:=yp key (hJ cK (li t m (coins.set m (o.1,81::32::key)) (oh an))) (sig.take 63) hkl hkb (by rw[List.length_take];omega)
  have hth:∀s:List Nat,s.length≤64→bytes s→Fo (lV an s)∧∀x,x∈lV an s→bytes x:=by
    intro s hs hsb
    cases an
    · refine ⟨⟨by simp [lV],fun x hx=>?_⟩,fun x hx=>?_⟩
      · have:x=s:=by simpa [lV] using hx
        subst this;omega
      · have:x=s:=by simpa [lV] using hx
        subst this;exact hsb
    · refine ⟨⟨by simp [lV],fun x hx=>?_⟩,fun x hx=>?_⟩
      · simp [lV] at hx
        rcases hx with rfl|rfl
        · omega
        · simp
      · simp [lV] at hx
        rcases hx with rfl|rfl
        · exact hsb
        · intro y hy;simp at hy;omega
  have hSp:∀s:List Nat,s.length≤64→bytes s→SpOk (bM t m i (lV an s)) (coins.set m (o.1,81::32::key)):=fun s hs hsb =>
    ⟨od hii hk (hth s hs hsb).1,hCC,hCb,hob,fun j hj x hx=>by
      rcases List.mem_or_eq_of_mem_set hj with q|rfl
      · exact hwb j q x hx
      · exact(hth s hs hsb).2 x hx⟩
  have hone:∀(s:List Nat)(b:Bool),s.length≤64→bytes s→aU (bM t m i (lV an s)) (m:Int) (coins.set m (o.1,81::32::key))=0→au Tryz.prog 156 [.agg (cb key),.d (nb (hJ cK (li t m (coins.set m (o.1,81::32::key)) (oh an)))),.d (nb s)] (fun v=>v=.d (.bool b)) →
      au Tryz.prog 41 [.agg (eS (bM t m i (lV an s)) (m:Int) (coins.set m (o.1,81::32::key)))] (fun r=>r=.tup [.d (.ro 2 []),.d (.int .i64 (if b then 0 else 20))]):=by
    intro s b hs hsb hc hv;rw[←yr (w:=lV an s) hii]at hv;exact IM (hSp s hs hsb) hc hkl hCm (oc hii) (wY an s).1 (wY an s).2 (by cases an<;>simp[oh]) hv
  have hck1:=jL (bM t m i (lV an sig)) (m:Int) (coins.set m (o.1,81::32::key)) (hSp sig aq hsigb).sm (by rw[List.length_set];omega);have hless:=fun c=>uR (w:=lV an sig) (w':=lV an (sig.take 63)) (n:=(m:Int)) (coins:=coins.set m (o.1,81::32::key)) hii (BU an sig hsig) c;have on1:=fun c=>hone sig true aq hsigb c fver;have on2:=fun c=>hone (sig.take 63) false (by rw[List.length_take];omega) (fun z hz=>hsigb z (List.mem_of_mem_take hz)) (hless c) fno;have hM32:=aA hMl;have rowI:(cX t.ins)[m]?=some ((eI i).map AV.d):=by unfold cX;rw[cU,hii];rfl
  have rowL:(cX t.ins).length=t.ins.length:=by simp[cX]
  have hoog:∀h:m<coins.length,coins[m]'h=o:=fun h=>(List.getElem_of_getElem? hoo).2;have hh:∀(l:List Ip),(∀j,j∈l→Ip.ok j)→∀j,j∈l→j.hash.length=32:=fun l h j hj=>(h j hj).1;have hht:=hh t.ins hk.1.2.2.1;generalize hC:coins.set m (o.1,81::32::key)=C at *;generalize hJ cK (li t m C (oh an))=M at *;generalize hA:oh an=A at *;generalize hT0:lV an sig=W0 at *;generalize hT1:lV an (sig.take 63)=W1 at *;have hh1:=hh _ (od hii hk (w:=W0) (by rw[←hT0];exact(hth sig aq hsigb).1)).1.2.2.1;simp only[eS]at hSm hCk hSd;have hx2:=EC hkl;simp[go_sem]at hx2;refine bW (aM ?_);simp[go_sem,eS,hcl,hct];simp only[gl];refine bW (aM ?_);simp[go_sem,hcl,hct];refine ae fkey (av _) ?_;simp[go_sem,ap,hkl,hkt,aV];simp only[gl];refine bW (aM ?_);simp[go_sem];refine ae hSm hSd ?_;simp[go_sem];refine ae hCk hSd ?_;simp[go_sem];simp only[gl];refine bW (aM ?_);simp[go_sem];refine⟨aq,?_⟩;simp only[gl];refine bW (aM ?_);simp[go_sem];refine⟨aq,?_⟩;simp only[gl];refine bW (aM ?_);refine c7 [0,1,2,4] [3,5,8] [0,1,2,4,6,7] (bt 3 (.step 5 [6,7] true (a_ [8]))) ⟨[(2,.d (.bool an)),(3,.ptr 0 0 0 1),(4,.ptr 32 0 0 1),(9,.own 736 0 t.ins.length t.ins.length),(10,.own 928 0 coins.length coins.length)],[(736,⟨68,35,cX t.ins⟩),(928,⟨57,2,(coins.map fun o=>(eO o).map AV.d).set m [.d (.int .u64 (o.1:Int)),.own 1184 0 34 34]⟩),(1184,⟨5,1,rb (81::32::key)⟩),(32,⟨96,4,[cI sec]⟩),(0,⟨28,6,[eS t (m:Int) coins]⟩)],9000⟩ (k:=9) ?h3 ?hq
  case h3 =>
    intro G hG;simp[go_sem,ap,hkl,hoo,hoog,eO];refine⟨hml,?_⟩;refine hG _ _ (bf ⟨by simp[ah,fv,lk,AV.low,AV.low1],?_,aw⟩);intro p hp;simp only[d_,List.mem_nil_iff,or_false]at hp;rcases hp with rfl|rfl|rfl|rfl|rfl
    · exact⟨.inl (by simp[lk,cX]),by show 736<9000;omega,fb _ _⟩
    · exact⟨.inl (by simp[lk];rfl),by show 928<9000;omega,yt _ _ _ _⟩
    · exact⟨.inl (by simp[lk];exact congrArg (fun z=>[AV.d (.int .u8 81)]::[AV.d (.int .u8 32)]::z) hx2),by show 1184<9000;omega,aK _ _⟩
    · exact⟨.inl (by simp[lk]),by show 32<9000;omega,fun r hr v hv=>by
        have:r=cI sec:=by simpa using hr
        subst this
        exact aD _ _ v hv⟩
    · exact⟨.inl (by simp[lk,eS]),by show 0<9000;omega,fun r hr v hv=>by
        have:r=eS t (m:Int) coins:=by simpa using hr
        subst this
        exact ET t m coins _ v hv⟩
  case hq =>
    simp only[gl];refine bW (aM ?_);simp[go_sem,eS];simp only[gl];refine bW (aM ?_);simp[go_sem];simp only[gl]
    have hcell:∀(hp:Hp),lk 928 hp=some ⟨57,2,(coins.map fun o=>(eO o).map AV.d).set m [.d (.int .u64 (o.1:Int)),.own 1184 0 34 34]⟩→lk 1184 hp=some ⟨5,1,rb (81::32::key)⟩ →
        ∀(a:Nat)(x x':List AV),[[AV.d (.int .u32 (t.ver:Int)),AV.own 736 0 t.ins.length t.ins.length,.d (.ro 2 (t.outs.map eO)),.d (.int .u32 (t.lock:Int)),.d (.int .i64 (m:Int)),.own 928 0 coins.length coins.length]][a]?=some x→[[AV.d (.int .u32 (t.ver:Int)),AV.own 736 0 t.ins.length t.ins.length,.d (.ro 2 (t.outs.map eO)),.d (.int .u32 (t.lock:Int)),.d (.int .i64 (m:Int)),.d (.ro 2 (C.map eO))]][a]?=some x'→x'.length=x.length∧∀(j:Nat)(v v':AV),x[j]?=some v→x'[j]?=some v'→ub hp [928,1184] v v':=by
      intro hp hb hb2 a x x' hx hx'
      cases a with
      |succ a=>simp at hx
      | zero =>
        simp at hx hx';subst hx hx';refine⟨rfl,fun j v v' h1 h2=>?_⟩
        match j,h1,h2 with
        |0,h1,h2=>simp at h1 h2;subst h1 h2;exact .inl rfl
        |1,h1,h2=>simp at h1 h2;subst h1 h2;exact .inl rfl
        |2,h1,h2=>simp at h1 h2;subst h1 h2;exact .inl rfl
        |3,h1,h2=>simp at h1 h2;subst h1 h2;exact .inl rfl
        |4,h1,h2=>simp at h1 h2;subst h1 h2;exact .inl rfl
        | 5,h1,h2 =>
          simp at h1 h2;subst h1 h2;refine .inr ⟨_,rfl,?_⟩;rw[←hC];exact BR hb aw hb2 aw hkl rfl
        |j+6,h1,_=>simp at h1
    refine ua (st':=⟨[(2,.d (.bool an)),(3,.ptr 0 0 0 1),(4,.ptr 32 0 0 1),(9,.own 736 0 t.ins.length t.ins.length)],[(0,⟨28,6,[[AV.d (.int .u32 (t.ver:Int)),AV.own 736 0 t.ins.length t.ins.length,.d (.ro 2 (t.outs.map eO)),.d (.int .u32 (t.lock:Int)),.d (.int .i64 (m:Int)),.d (.ro 2 (C.map eO))]]⟩),(736,⟨68,35,cX t.ins⟩),(32,⟨96,4,[cI sec]⟩)],12000⟩) (Wk.trans (nt (L:=0) (es':=[[AV.d (.int .u32 (t.ver:Int)),AV.own 736 0 t.ins.length t.ins.length,.d (.ro 2 (t.outs.map eO)),.d (.int .u32 (t.lock:Int)),.d (.int .i64 (m:Int)),.d (.ro 2 (C.map eO))]]) [928,1184] aw rfl aw rfl (hcell _ rfl rfl)) (bf ?_)) ?_
    · simp [ak,ah,fv,lk,AV.low,AV.low1,aO,aW]
      exact⟨fb _ _,aD _ _⟩
    refine bW (aM ?_);simp[go_sem];simp only[gl];have hA0:=hA;obtain⟨b,hb⟩:∃b,b=an:=⟨_,rfl⟩;refine bW (aM ?_)
    cases an
    all_goals
      simp[go_sem];simp only[gl]
      refine ua (st':=⟨[(3,.ptr 0 0 0 1),(4,.ptr 32 0 0 1),(9,.own 736 0 t.ins.length t.ins.length),(11,.d (nb A)),(2,.d (.bool b))],[(0,⟨28,6,[[AV.d (.int .u32 (t.ver:Int)),AV.own 736 0 t.ins.length t.ins.length,.d (.ro 2 (t.outs.map eO)),.d (.int .u32 (t.lock:Int)),.d (.int .i64 (m:Int)),.d (.ro 2 (C.map eO))]]⟩),(736,⟨68,35,cX t.ins⟩),(32,⟨96,4,[cI sec]⟩)],13000⟩) (by
        first
        | (refine mX [] [(11,.d (nb A))] (fun p hp=>?_) ?_
           · simp only [d_,List.mem_nil_iff,or_false] at hp
             subst hp;rw[←hA0];exact .one (az (.nil 1))
           · simp [ak,ah,fv,lk,AV.low,AV.low1,aO,hb]
             exact⟨fb _ _,aD _ _⟩)
        | (refine mX [12064] [(11,.d (nb A))] (fun p hp=>?_) ?_
           · simp only [d_,List.mem_nil_iff,or_false] at hp
             subst hp;rw[←hA0];exact .one (az (bo (L:=[80,7]) rfl rfl aw))
           · simp [ak,ah,fv,lk,AV.low,AV.low1,aO,hb]
             exact⟨fb _ _,aD _ _⟩)) ?_
      refine bW (aM ?_);simp[go_sem];refine fg fmsg rfl (ai (og t (m:Int) C (az (oe rfl trivial rfl hht))) (ai (.one (az (.nil 1))) (ai (.deep trivial) aG))) (wO M 0) ?_;simp[go_sem,ap,hMl,hM32,aV];simp only[gl];refine bW (aM ?_);refine c7 [0,1,2] [3,5,6] [0,1,2,4,7,8] (.step 3 [4] false (.alt (.step 5 [7] false (.step 6 [8] false .done)) (bx 6 (.step 5 [7,8] false .done)))) ⟨[(2,.d (.bool b)),(3,.ptr 0 0 0 1),(9,.own 736 0 t.ins.length t.ins.length),(11,.d (nb A)),(13,.d (.int .i64 0)),(14,.d (nb sig)),(15,.d (.int .i64 0))],[(0,⟨28,6,[[AV.d (.int .u32 (t.ver:Int)),AV.own 736 0 t.ins.length t.ins.length,.d (.ro 2 (t.outs.map eO)),.d (.int .u32 (t.lock:Int)),.d (.int .i64 (m:Int)),.d (.ro 2 (C.map eO))]]⟩),(736,⟨68,35,cX t.ins⟩)],15000⟩ (k:=9) ?h3 ?hq
      case h3 =>
        intro G hG;simp[go_sem,hcl,hct,ap,hMl]
        repeat' first
          |apply And.intro
          | (refine cE [13192] fsign rfl (ai (.deep (bB _)) (ai (.deep (bB [3,0,0,0])) (ai (.one (az (im rfl aw hMl))) aG))) ?_
             simp[go_sem,aO])
          | (refine hG _ _ (bf ⟨by simp [ah,fv,lk,AV.low,AV.low1],?_,aw⟩)
             intro p hp;simp only[d_,List.mem_nil_iff,or_false]at hp;rcases hp with rfl|rfl
             · refine ⟨.inl (by simp [lk]),by show 0<15000;omega,?_⟩
               intro r hr v hv;simp only[d_,List.mem_nil_iff,or_false]at hr;subst hr;simp only[d_,List.mem_nil_iff,or_false]at hv;rcases hv with rfl|rfl|rfl|rfl|rfl|rfl
               · trivial
               · show 736<15000;omega
               · trivial
               · trivial
               · trivial
               · trivial
             · exact⟨.inl (by simp[lk]),by show 736<15000;omega,fb _ _⟩)
      case hq =>
        simp only[gl];refine bW (aM ?_);have h64i:((sig.length:Nat):Int)=64:=aq;simp[go_sem,nb,hsig,h64i];simp only[gl];refine bW (aM ?_);simp[go_sem];simp only[gl];refine bW (aM ?_);simp[go_sem,hb];simp only[gl]
        refine ua (st':=⟨[(3,.ptr 0 0 0 1),(9,.own 736 0 t.ins.length t.ins.length),(14,.d (nb sig)),(16,.d (.ro 1 (W0.map bp)))],[(0,⟨28,6,[[AV.d (.int .u32 (t.ver:Int)),AV.own 736 0 t.ins.length t.ins.length,.d (.ro 2 (t.outs.map eO)),.d (.int .u32 (t.lock:Int)),.d (.int .i64 (m:Int)),.d (.ro 2 (C.map eO))]]⟩),(736,⟨68,35,cX t.ins⟩)],16000⟩) (by
          refine mX [15384] [(16,.d (.ro 1 (W0.map bp)))] (fun p hp=>?_) ?_
          · simp only [d_,List.mem_nil_iff,or_false] at hp
            subst hp;rw[←hT0];refine .one (az (fA (ty:=31) (e:=1) ?_ aw (by simp[lV]) (by simp[lV,bp])))
            first
            |rfl
            |(rw[←hA0];rfl)
          · simp [ak,ah,fv,lk,AV.low,AV.low1,aO]
            exact⟨rfl,fb _ _⟩) ?_
        refine bW (aM ?_);simp[go_sem,rowI,wW hih];refine⟨hmi,rowL,?_⟩;simp only[gl];rw[lU hii hih]
        have s1:∀hp:Hp,lk 736 hp=some ⟨68,35,cX (bM t m i W0).ins⟩→Snap hp (fun _=>True) (.agg [AV.d (.int .u32 (t.ver:Int)),AV.own 736 0 t.ins.length t.ins.length,.d (.ro 2 (t.outs.map eO)),.d (.int .u32 (t.lock:Int)),.d (.int .i64 (m:Int)),.d (.ro 2 (C.map eO))]) (.agg (eS (bM t m i W0) (m:Int) C)):=fun hp hb =>
          og (bM t m i W0) (m:Int) C (az (oe hb trivial (by simp[bM]) hh1))
        by_cases hc1:aU (bM t m i W0) (m:Int) C=0
        case neg =>
          refine aM ?_;simp[go_sem];refine fg hck1 rfl (ai (s1 _ rfl) aG) trivial ?_;simp[go_sem,hc1];refine ae gv aw ?_;simp[go_sem,ar];exact ag (v:=.d (.bool true)) trivial rfl
        rw[hc1]at hck1;have o1:=on1 hc1;have o2:=on2 hc1;have hh2:=hh _ (od hii hk (w:=W1) (by rw[←hT1];exact(hth _ (by rw[List.length_take];omega) (fun z hz=>hsigb z (List.mem_of_mem_take hz))).1)).1.2.2.1;have rowT:(cX (bM t m i W0).ins)[m]?=some ((eI ⟨i.hash,i.idx,i.seq,W0⟩).map AV.d):=by unfold cX;rw[cU,oc hii];rfl
        have rowT2:(cX (bM t m i W0).ins).length=t.ins.length:=by simp[cX,bM]
        have hW0l:1≤W0.length∧W0.length≤2∧W1.length=W0.length:=by rw[←hT0,←hT1];simp[lV]
        obtain⟨hWa,hWb,hWc⟩:=hW0l
        have hrowW:[AV.d (.ro 1 (List.take 63 (List.map (fun(b:Nat)=>[DV.int .u8 (b:Int)]) sig)))]::(List.take W0.length (List.map ((fun r=>List.map AV.d r)∘bp) W0)).tail=(W1.map bp).map (fun r=>r.map AV.d):=by
          rw[←hT0,←hT1];simp[lV,bp,nb]
        refine bW (aM ?_);simp[go_sem];refine fg hck1 rfl (ai (s1 _ rfl) aG) trivial ?_;simp[go_sem];simp only[gl];refine bW (aM ?_);simp[go_sem];refine wT o1 rfl (ai (s1 _ rfl) aG) ?_;simp[go_sem];simp only[gl];refine bW (aM ?_);refine c7 [0,1,2,3,4,6,7] [5,8,11] [0,1,2,3,4,6,7,9,10] (bt 5 (.step 8 [9,10] true (a_ [11]))) ⟨[(3,.ptr 0 0 0 1),(17,.d (.ro 2 [])),(18,.d (.int .i64 0))],[(0,⟨28,6,[[AV.d (.int .u32 (t.ver:Int)),AV.own 736 0 t.ins.length t.ins.length,.d (.ro 2 (t.outs.map eO)),.d (.int .u32 (t.lock:Int)),.d (.int .i64 (m:Int)),.d (.ro 2 (C.map eO))]]⟩),(736,⟨68,35,cX (bM t m i W1).ins⟩)],18000⟩ (k:=12) ?h3 ?hq
        case h3 =>
          intro G hG;simp[go_sem,rowT,rowT2,nb,hsig];refine⟨aq,aq,hmi,by have:=wW (i:=⟨i.hash,i.idx,i.seq,W0⟩) hih;omega,?_⟩;rw[hrowW,uS hii hih]
          refine hG _ _ (Wk.trans (nt (L:=736) (es':=cX (bM t m i W1).ins) [16704] aw rfl aw (by simp[cX,bM]) (by
            rw[←lU hii hih]
            exact BS (fA (ty:=31) (e:=1) (es:=W1.map bp) rfl aw (by simp;omega) (by simp[bp])))) (bf ⟨by simp[ah,fv,lk,AV.low,AV.low1],?_,aw⟩))
          intro p hp;simp only[d_,List.mem_nil_iff,or_false]at hp;rcases hp with rfl|rfl
          · refine ⟨.inl (by simp [lk,aO,aW]),by show 0<18000;omega,?_⟩
            intro r hr v hv;simp only[d_,List.mem_nil_iff,or_false]at hr;subst hr;simp only[d_,List.mem_nil_iff,or_false]at hv;rcases hv with rfl|rfl|rfl|rfl|rfl|rfl
            · trivial
            · show 736<18000;omega
            · trivial
            · trivial
            · trivial
            · trivial
          · exact⟨.inl (by simp[lk,aO,aW]),by show 736<18000;omega,fb _ _⟩
        case hq =>
          simp only[gl];refine aM ?_;simp[go_sem];refine wT o2 rfl (ai (og (bM t m i W1) (m:Int) C (az (oe rfl trivial (by simp[bM]) hh2))) aG) ?_;simp[go_sem];refine ae gv aw ?_;simp[go_sem,ar];exact ag (v:=.d (.bool true)) trivial rfl
end Go.Proofs.YtmfnimjnneflnaaGreat
