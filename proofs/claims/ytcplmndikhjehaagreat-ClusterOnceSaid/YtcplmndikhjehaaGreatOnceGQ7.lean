/-
  Texts of a proof as one.
-/
import Derived.Test.YtcplmndikhjehaaGreatOnceGQ6
import Derived.Test.YtcplmndikhjehaaGreatOnceGQ2
import Derived.Test.YtcplmndikhjehaaGreatOnceGQ5
import Derived.Test.YtcplmndikhjehaaGreatOnceGQ3
import Derived.Test.YtcplmndikhjehaaGreatOnceGQ1
import Derived.Test.YtcplmndikhjehaaGreatOnceGQ4
import Derived.Test.YtcplmndikhjehaaGreatRows
set_option linter.unusedVariables false
set_option linter.unusedSimpArgs false
namespace Go.Proofs.YtcplmndikhjehaaGreat
open Go.Proofs.Tryz
open Go Go.Sl Go.Sl.eM Go.Sl.gW Go.Sl.kM Go.Sl.pe Go.Sl.pM Go.Sl.mG Go.Sl.pO Go.Sl.rH Go.Sl.pN Go.Sl.gU
open Go.Sl.oB (wr)
set_option maxHeartbeats 0
set_option maxRecDepth 8000
variable{B:List UInt8}{L':List aC}{a0:Option Addr}{c0:Nat}
variable{W0 w:World}{L F:List aC}
theorem QS{m:Cj}{k:Int×Int}(h:∀x∈m.1,x.2.1=.bool true):∀x∈(K0 m k (.bool true)).1,x.2.1=.bool true:=fun x hx=>by
 unfold K0 wo at hx;simp only at hx;split at hx
 · obtain⟨y,hy,rfl⟩:=List.mem_map.1 hx
   split
   · rfl
   exact h y hy
 rcases List.mem_append.1 hx with hx|hx
 · exact h x hx
 rw[List.mem_singleton.1 hx]
theorem yL{u:Un}(h:quiet u=true)(i:Nat):(u.cA i).dN=[]:=by
 unfold quiet at h;rw[Bool.and_eq_true] at h;unfold Un.cA;by_cases hi:i<u.g.length
 · have hm:u.g.getD i ⟨[],0,[]⟩∈u.g:=by rw[List.getD_eq_getElem?_getD,List.getElem?_eq_getElem hi];exact List.getElem_mem hi
   have:=List.all_eq_true.1 h.2 _ hm;simp only[Bool.and_eq_true,List.isEmpty_iff] at this;exact this.1
 rw[List.getD_eq_getElem?_getD,List.getElem?_eq_none (by omega)];rfl
variable{b bd bs bu ba self blocks bQ aW re rp rm count cZ dO dV oc cc ol cl:Nat}{oa ca:Option Addr}{vr vw v1 v2:Value}{now heard seen kept:Int}{known aH both:Bool}{s:kJ}{L0 L1:List aC}
theorem Ns{b bd:Nat}{p0:aE}{vr:Value}{n n':Nd}[g:jY L b bd p0 vr n' L'](k:dF n){host tK uX uY ke:Int}{id floor jo jq:Nat}{jZ:Bool}{dU:List UInt8}(hB:B=zi ⟨host,id,floor,⟨tK,uX,uY,dU,(jo:Int),(jq:Int),ke,jZ⟩⟩)(Co:Cb ⟨host,id,floor,⟨tK,uX,uY,dU,(jo:Int),(jq:Int),ke,jZ⟩⟩=true)(NW:0≤host)(hh7:¬7<host)(oA:dU.length≤1000)(C:aB L' (Bytes (.slice a0 B.length c0) B)){n2:Nd}(hp:n.aH=false)(hm:G5 n host id V4 false (if wr (n.now - n.heard)<10∧n.dO≠0 then 1 - (n.self:Int) else -1)=some n2)(h:On W0 L w)(e:n'=n:=by rfl):Cs 204 [b,.int .i64 host,.slice a0 B.length c0] w fun v w'=>On W0 (dZ b bd p0 vr n2::L') w':=by
 refine qO ?_;have Tz:B.length=78+dU.length:=by rw[hB];exact(Dt.nG (.JB ⟨host,id,floor,⟨tK,uX,uY,dU,(jo:Int),(jq:Int),ke,jZ⟩⟩)).trans rfl
 have aA:∃Q,Q=GB ⟨host,id,floor,⟨tK,uX,uY,dU,(jo:Int),(jq:Int),ke,jZ⟩⟩:=⟨_,rfl⟩;obtain⟨Q,hQ⟩:=aA;have aA:∃Xq,Xq=[1]++Q:=⟨_,rfl⟩;obtain⟨Xq,hX⟩:=aA;have Nt:gp B=Xq:=by rw[hB,hX,hQ];exact kf _
 have Yz:(eX B).2=0:=by rw[hB];exact jr _
 have ZS:Xq.length=1+Q.length:=by rw[hX,List.length_append];rfl
 have vu:Xq[0]? =some 1:=by rw[hX];rfl
 have hXd:Xq.drop 1=Q:=by rw[hX];rfl
 have M3:Q.length≤2000:=by have e:=sI B;rw[Nt] at e;omega
 have hqo:xC Q=true:=by rw[hQ,Hx Co];simp only[decide_eq_true NW,Bool.true_and,decide_eq_true_eq];omega
 have Ce:(EJ Q).1=⟨host,id,floor,⟨tK,uX,uY,dU,(jo:Int),(jq:Int),ke,jZ⟩⟩:=by rw[hQ,Fh Co]
 have cD:=wK Co;obtain⟨zI,_,_⟩:=cD;have hBL:B.length≤1000000:=by omega
 have hQL:Q.length≤1000000:=by omega
 have hX1:1≤Xq.length:=by omega
 clear Co hX hQ;have aA:∃m:Nd,n={m with aH:=false}:=⟨n,by rw[←hp]⟩;obtain⟨m,rfl⟩:=aA;clear hp;unfold G5 at hm;have dI:=iZ hm;clear hm;obtain⟨hg,hm⟩:=dI;have hm:uo {m with aH:=false} (wr (16+host)) (.JC ⟨host,id,V4,false,(if wr (m.now - m.heard)<10∧m.dO≠0 then 1 - (m.self:Int) else -1)⟩)=some n2:=hm;have h:=bF (p0:=p0) (b:=b) e k h;have aA:=gJ h;obtain⟨oa,oc,ca,cc,bs,bu,ba,vw,v1,v2,aa,k,sb,h⟩:=aA;refine qC ?_ (C:=lU h (aB.to C) hBL);rintro v18 w ⟨Mj,C4,hv,h⟩;rw[Nt,Yz] at hv;rw[Nt] at h;subst hv;have yg:=Cells.bounds (h.aR (v:=.slice Mj Xq.length C4));have aA:=Cells.addr (h.aR (v:=.slice Mj Xq.length C4)) (by omega);obtain⟨xb,xo,YA⟩:=aA;subst YA;have CX:aB [bC (.slice (some ⟨xb,xo,none⟩) Xq.length C4) Xq] (Bytes (.slice (some ⟨xb,xo,none⟩) Xq.length C4) Xq):=aB.cF;have aA:=lR CX (by omega) yg.1;obtain⟨a1,c1,eY,C1⟩:=aA;rw[hXd] at eY C1;refine qE ?_;refine WL.l isAgg5 rfl ((h.aR (v:=.slice (some ⟨xb,xo,none⟩) Xq.length C4)).elem (i:=0) (vs:=[.int .u8 (((1:UInt8).toNat:Nat):Int)]) (by omega) (dJ vu) 0 _ rfl) ?_;refine WL.v (bY rfl rfl rfl) ?_;refine qD ?_;refine WL.v (iP (n:=Xq.length) (l:=1) underlying28 sizeOf5 rfl rfl (by omega) eY) ?_;refine WL.e (ag call274 (sJ (by omega) h C1)) ?_;rintro v37 w ⟨o9,ac,vj,hv,ho,r7,h⟩;have e9:o9=⟨host,id,floor,⟨tK,uX,uY,dU,(jo:Int),(jq:Int),ke,jZ⟩⟩:=(ho hqo).trans Ce;subst e9;rw[hqo] at hv;simp only[Od.cells,Cm.cells,List.cons_append,List.nil_append] at hv;subst hv;refine gb fun b8 w h=> ?_;refine gs fun w h _=> ?_;refine qN ?_;refine WL.v (bY rfl rfl rfl) ?_;refine WL.pf ?_;refine go ?_;refine W.cf ?_;refine go ?_;refine WL.v (cQ rfl) ?_;refine go ?_;refine W.ct ?_;refine W.sr ?_;refine gw ?_;refine W.cut (fun env w=>∃(j:Env) (b8:Nat) (ac:Option Addr) (vj:Nat),env=eu j [(0,b),(1,.int .i64 host),(8,b8),(10,.int .i64 (if wr (m.now - m.heard)<10∧m.dO≠0 then 1 - (m.self:Int) else -1))]∧On W0 (aX b8 [.int .i64 host,.int .u64 (id:Int),.int .u64 (floor:Int),.int .i64 tK,.int .i64 uX,.int .i64 uY,.slice ac dU.length vj,.int .u64 (jo:Int),.int .u64 (jq:Int),.int .i64 ke,.bool jZ] 388::dZ b bd p0 vr {m with aH:=false}::L') w) ?_ ?_
 ·
  refine W.cut (fun env w=>∃(j:Env) (b8:Nat) (ac:Option Addr) (vj:Nat),env=eu j [(0,b),(1,.int .i64 host),(8,b8),(10,.int .i64 (-1)),(70,.bool (decide (wr (m.now - m.heard)<10∧m.dO≠0)))]∧On W0 (aX b8 [.int .i64 host,.int .u64 (id:Int),.int .u64 (floor:Int),.int .i64 tK,.int .i64 uX,.int .i64 uY,.slice ac dU.length vj,.int .u64 (jo:Int),.int .u64 (jq:Int),.int .i64 ke,.bool jZ] 388::dZ b bd p0 vr {m with aH:=false}::L') w) ?_ ?_
  ·
   refine qG fun w h=> ?_;refine X.v (fun _=>(iC rfl rfl)) ?_;refine X.q (fun _=>(cH rfl rfl)) (fun c62=> ?_) (fun c62=> ?_)
   · refine qD ?_;exact⟨_,b8,ac,vj,aD ⟨rfl,rfl,rfl,rfl,congrArg Value.bool (decide_eq_decide.2 ⟨fun q=>by have q:=q.2;show((m.dO:Nat):Int)≠0;omega,fun q=>⟨c62,by have q:((m.dO:Nat):Int)≠0:=q;omega⟩⟩).symm,trivial⟩,(bF (p0:=p0) (b:=b) rfl k h).to⟩
   refine qD ?_;exact⟨_,b8,ac,vj,aD ⟨rfl,rfl,rfl,rfl,congrArg Value.bool (decide_eq_false fun q=>c62 q.1).symm,trivial⟩,(bF (p0:=p0) (b:=b) rfl k h).to⟩
  clear h k sb;rintro env w ⟨j,b8,ac,vj,rfl,h⟩;have aA:=gJ (h.aj (dZ b bd p0 (vr) ({m with aH:=false})));obtain⟨oa,oc,ca,cc,bs,bu,ba,vw,v1,v2,aa,k,sb,h⟩:=aA;refine qI (fun pW=> ?_) (fun pW=> ?_)
  · refine go ?_;refine WL.v (iD (m:=1) (n:=m.self) rfl rfl k.1 (by decide)) ?_;refine gw ?_;exact⟨_,b8,ac,vj,aD ⟨rfl,rfl,rfl,congrArg (Value.int .i64) ((if_pos pW).trans (by have:m.self≤1:=k.1;omega)).symm,trivial⟩,(bF (p0:=p0) (b:=b) rfl k h).to⟩
  refine qD ?_;exact⟨_,b8,ac,vj,aD ⟨rfl,rfl,rfl,congrArg (Value.int .i64) (if_neg pW).symm,trivial⟩,(bF (p0:=p0) (b:=b) rfl k h).to⟩
 clear h k sb;rintro env w ⟨j,b8,ac,vj,rfl,h⟩;have aA:=gJ (h.aj (dZ b bd p0 (vr) ({m with aH:=false})));obtain⟨oa,oc,ca,cc,bs,bu,ba,vw,v1,v2,aa,k,sb,h⟩:=aA;have aA:∃x,x=(if wr (m.now - m.heard)<10∧m.dO≠0 then 1 - (m.self:Int) else -1):=⟨_,rfl⟩;obtain⟨hint,Z5⟩:=aA;have wV: -1≤hint:=by have:m.self≤1:=k.1;rw[Z5];split<;>omega
 have Ga:hint≤1:=by rw[Z5];split<;>omega
 rw[←Z5] at hm;rw[←Z5];refine go ?_;refine WL.v (eU (k:=.i64) rfl rfl) ?_;refine go ?_;refine WL.v (aP (pl:=[(0,1),(1,1),(2,1),(3,1),(4,1)]) (out:=[.int .i64 0,.int .i64 0,.int .i64 0,.slice none 0 0,.int .i64 0]) underlying38 zeroValue38 (fun w=>by kernel_rfl) rfl trivial rfl) ?_;refine qC ?_ (C:=q5 zI wV Ga (by decide) h aB.rL);rintro _ w ⟨a84,rfl,h⟩;refine qC ?_ (C:=Bt (p0:=p0) (by exact k) hm h);rintro _ w h;refine qR ?_;exact h.to
theorem Nu{b bd:Nat}{p0:aE}{vr:Value}{n n':Nd}[g:jY L b bd p0 vr n' L'](k:dF n){i:Nat}{tK uX uY ke:Int}{id floor jo jq:Nat}{jZ:Bool}{dU:List UInt8}(hB:B=zi ⟨(i:Int),id,floor,⟨tK,uX,uY,dU,(jo:Int),(jq:Int),ke,jZ⟩⟩)(Co:Cb ⟨(i:Int),id,floor,⟨tK,uX,uY,dU,(jo:Int),(jq:Int),ke,jZ⟩⟩=true)(oA:dU.length≤1000)(C:aB L' (Bytes (.slice a0 B.length c0) B)){n2:Nd}{wt lg:Cj}{u2:Un}{r:Rp}{fresh:Bool}(V1:i<8)(hp:n.aH=true)(hw:n.wait=some wt)(hl:n.log=some lg)(hqu:quiet n.unit=true)(xF:tK=2∨tK=3∨tK=6)(JO:qc n.unit i (id:Int) (floor:Int) ⟨tK,uX,uY,dU,(jo:Int),(jq:Int),ke,jZ⟩=(u2,r,fresh))(hm:wC n wt lg (i:Int) ⟨(i:Int),id,floor,⟨tK,uX,uY,dU,(jo:Int),(jq:Int),ke,jZ⟩⟩ r fresh=some n2)(h:On W0 L w)(e:n'=n:=by rfl):Cs 204 [b,.int .i64 (i:Int),.slice a0 B.length c0] w fun v w'=>On W0 (dZ b bd p0 vr n2::L') w':=by
 refine qO ?_;have NW:0≤(i:Int):=by omega
 have hh7:¬7<(i:Int):=by omega
 have amu:=Co;have Tz:B.length=78+dU.length:=by rw[hB];exact(Dt.nG (.JB ⟨(i:Int),id,floor,⟨tK,uX,uY,dU,(jo:Int),(jq:Int),ke,jZ⟩⟩)).trans rfl
 have aA:∃Q,Q=GB ⟨(i:Int),id,floor,⟨tK,uX,uY,dU,(jo:Int),(jq:Int),ke,jZ⟩⟩:=⟨_,rfl⟩;obtain⟨Q,hQ⟩:=aA;have aA:∃Xq,Xq=[1]++Q:=⟨_,rfl⟩;obtain⟨Xq,hX⟩:=aA;have Nt:gp B=Xq:=by rw[hB,hX,hQ];exact kf _
 have Yz:(eX B).2=0:=by rw[hB];exact jr _
 have ZS:Xq.length=1+Q.length:=by rw[hX,List.length_append];rfl
 have vu:Xq[0]? =some 1:=by rw[hX];rfl
 have hXd:Xq.drop 1=Q:=by rw[hX];rfl
 have M3:Q.length≤2000:=by have e:=sI B;rw[Nt] at e;omega
 have hqo:xC Q=true:=by rw[hQ,Hx Co];simp only[decide_eq_true NW,Bool.true_and,decide_eq_true_eq];omega
 have Ce:(EJ Q).1=⟨(i:Int),id,floor,⟨tK,uX,uY,dU,(jo:Int),(jq:Int),ke,jZ⟩⟩:=by rw[hQ,Fh Co]
 have cD:=wK Co;obtain⟨zI,_,_⟩:=cD;have hBL:B.length≤1000000:=by omega
 have hQL:Q.length≤1000000:=by omega
 have hX1:1≤Xq.length:=by omega
 clear Co hX hQ;have hq_:=yK hqu;obtain⟨Nn,m7,QI⟩:=hq_;have aA:∃m:Nd,n={m with aH:=true,wait:=some wt,log:=some lg}:=⟨n,by rw[←hp,←hw,←hl]⟩;obtain⟨m,rfl⟩:=aA;clear hp hw hl;have JO:qc m.unit i (id:Int) (floor:Int) ⟨tK,uX,uY,dU,(jo:Int),(jq:Int),ke,jZ⟩=(u2,r,fresh):=JO;have h:=bF (p0:=p0) (b:=b) e k h;have aA:=gJ h;obtain⟨oa,oc,ca,cc,bs,bu,ba,vw,v1,v2,aa,k,sb,h⟩:=aA;refine qC ?_ (C:=lU h (aB.to C) hBL);rintro v18 w ⟨Mj,C4,hv,h⟩;rw[Nt,Yz] at hv;rw[Nt] at h;subst hv;have yg:=Cells.bounds (h.aR (v:=.slice Mj Xq.length C4));have aA:=Cells.addr (h.aR (v:=.slice Mj Xq.length C4)) (by omega);obtain⟨xb,xo,YA⟩:=aA;subst YA;have CX:aB [bC (.slice (some ⟨xb,xo,none⟩) Xq.length C4) Xq] (Bytes (.slice (some ⟨xb,xo,none⟩) Xq.length C4) Xq):=aB.cF;have aA:=lR CX (by omega) yg.1;obtain⟨a1,c1,eY,C1⟩:=aA;rw[hXd] at eY C1;refine qE ?_;refine WL.l isAgg5 rfl ((h.aR (v:=.slice (some ⟨xb,xo,none⟩) Xq.length C4)).elem (i:=0) (vs:=[.int .u8 (((1:UInt8).toNat:Nat):Int)]) (by omega) (dJ vu) 0 _ rfl) ?_;refine WL.v (bY rfl rfl rfl) ?_;refine qD ?_;refine WL.v (iP (n:=Xq.length) (l:=1) underlying28 sizeOf5 rfl rfl (by omega) eY) ?_;refine WL.e (ag call274 (sJ (by omega) h C1)) ?_;rintro v37 w ⟨o9,ac,vj,hv,ho,r7,h⟩;have e9:o9=⟨(i:Int),id,floor,⟨tK,uX,uY,dU,(jo:Int),(jq:Int),ke,jZ⟩⟩:=(ho hqo).trans Ce;subst e9;rw[hqo] at hv;simp only[Od.cells,Cm.cells,List.cons_append,List.nil_append] at hv;subst hv;refine gb fun b8 w h=> ?_;refine gs fun w h _=> ?_;refine qE ?_;refine gb fun YB w h=> ?_;refine gs fun w h _=> ?_;refine gw ?_;refine W.cut (fun env w=>∃(j:Env) (b8 YB Gq:Nat) (ac ad:Option Addr) (vj cd:Nat),env=eu j [(0,b),(1,.int .i64 (i:Int)),(8,b8),(11,YB),(12,Gq),(13,.bool fresh)]∧On W0 (aX b8 [.int .i64 (i:Int),.int .u64 (id:Int),.int .u64 (floor:Int),.int .i64 tK,.int .i64 uX,.int .i64 uY,.slice ac dU.length vj,.int .u64 (jo:Int),.int .u64 (jq:Int),.int .i64 ke,.bool jZ] 388::aX YB [.int .i64 (i:Int),.int .u64 (id:Int)] 393::aX Gq [.int .i64 r.st,.int .i64 r.key,.int .i64 r.code,.slice ad r.data.length cd,.int .i64 r.info] 38::bC (.slice ad r.data.length cd) r.data::bC (.slice ac dU.length vj) dU::dZ b bd p0 vr {m with aH:=true,wait:=some wt,log:=some lg}::L') w) ?_ ?_
 ·
  have aA:=unO (iW (k:=Ih aa) (v:=.pointer (some ⟨bu,0,none⟩)) h);obtain⟨ms,h⟩:=aA;refine W.draw Tryz.follows h (fun w h=> ?_);refine WT.m 0 rfl ?_;refine WT.n 1 rfl rfl ?_;refine WT.f 2 9 rfl underlying182 rfl sizeOf167 rfl rfl ?_;refine WT.l 3 rfl isAgg167 rfl (h.aS rfl) ?_;refine WT.m 5 rfl ?_;refine WT.f 6 1 rfl underlying388 rfl sizeOf30 rfl rfl ?_;refine WT.l 7 rfl isAgg30 rfl (h.aS rfl) ?_;refine WT.f 8 2 rfl underlying388 rfl sizeOf30 rfl rfl ?_;refine WT.l 9 rfl isAgg30 rfl (h.aS rfl) ?_;refine WT.f 10 3 rfl underlying388 rfl sizeOf32 rfl rfl ?_;refine WT.gF (vs:=[.int .i64 _,.int .i64 _,.int .i64 _,.slice _ _ _,.int .u64 _,.int .u64 _,.int .i64 _,.bool _]) 11 rfl (by kernel_rfl) isAgg32 sizeOf32 rfl rfl (h.fR (n:=8) rfl) rfl rfl ?_;refine WT.two 4 16 (by kernel_rfl) ?_ ?_
  ·
   refine WT.ju 4 [true,true,true,false] rfl (by kernel_rfl) (ag call276 (Ht (fun q hq=>Nat.le_trans (Nat.le_of_eq (congrArg List.length (yL hqu q))) (by decide)) h.g)) rfl rfl ?_;rintro _ w ⟨BU,Wa,rfl,h⟩;have h:=unC (h.aj (qb 236 321 323 bu aa ms m.unit));refine⟨⟨(h.fR (n:=8) rfl),h.aS rfl,h.aS rfl,trivial⟩, ?_⟩;refine WT.two 12 16 (by kernel_rfl) ?_ ?_
   · refine WT.ju 12 [false,false,false] rfl (by kernel_rfl) (ag call277 (sP (key:=(jo:Int)) (new:=(jq:Int)) V1 xF Nn m7 (QI i) ((h.aj (aY aa)).aj (qb 236 321 323 BU aa Wa m.unit)) (aB.cF) (by omega))) rfl rfl ?_;rintro _ w ⟨u9,r9,Bz,dv,ms3,cg,QT,rfl,N1,h⟩;have Wc:(u9,r9,Bz)=(u2,r,fresh):=QT.symm.trans JO;simp only[Prod.mk.injEq] at Wc;obtain⟨rfl,rfl,rfl⟩:=Wc;have ET:=Own.form h;obtain⟨ad,cd,oC,_⟩:=ET;subst oC;have lF:cI aa cg:=⟨N1⟩;have sb:=sb.trans lF;have h:=nZ lF h;refine⟨trivial, ?_⟩;refine WT.m 13 rfl ?_;refine WT.p 14 rfl (fun w'=>(bZ rfl rfl)) ?_;refine WT.p 15 rfl (fun w'=>(bZ rfl rfl)) ?_;refine WT.e 16 [] rfl (bR h zeroValue38 rfl) ?_;rintro _ w ⟨Gq,rfl,h⟩;refine⟨trivial, ?_⟩;refine WT.e 17 [] rfl (bA h sizeOf38 rfl rfl rfl rfl rfl) ?_;rintro _ w h;refine⟨trivial, ?_⟩;refine WT.a 18 rfl ?_;refine WT.dn ?_;exact⟨_,b8,YB,Gq,ac,ad,vj,cd,aD ⟨rfl,rfl,rfl,rfl,rfl,rfl,trivial⟩,(bF (p0:=p0) (b:=b) rfl k h).to⟩
   refine WT.ju 16 [true,true,true] rfl (by kernel_rfl) (bR h zeroValue38 rfl) rfl rfl ?_;rintro _ w ⟨Gq,rfl,h⟩;refine⟨⟨(h.fR (n:=8) rfl),h.aS rfl,h.aS rfl,trivial⟩, ?_⟩;refine WT.e 12 [false,false,false] rfl (ag call277 (sP (key:=(jo:Int)) (new:=(jq:Int)) V1 xF Nn m7 (QI i) ((h.aj (aY aa)).aj (qb 236 321 323 BU aa Wa m.unit)) (aB.cF) (by omega))) ?_;rintro _ w ⟨u9,r9,Bz,dv,ms3,cg,QT,rfl,N1,h⟩;have Wc:(u9,r9,Bz)=(u2,r,fresh):=QT.symm.trans JO;simp only[Prod.mk.injEq] at Wc;obtain⟨rfl,rfl,rfl⟩:=Wc;have ET:=Own.form h;obtain⟨ad,cd,oC,_⟩:=ET;subst oC;have lF:cI aa cg:=⟨N1⟩;have sb:=sb.trans lF;have h:=nZ lF h;refine⟨trivial, ?_⟩;refine WT.m 13 rfl ?_;refine WT.p 14 rfl (fun w'=>(bZ rfl rfl)) ?_;refine WT.p 15 rfl (fun w'=>(bZ rfl rfl)) ?_;refine WT.e 17 [] rfl (bA h sizeOf38 rfl rfl rfl rfl rfl) ?_;rintro _ w h;refine⟨trivial, ?_⟩;refine WT.a 18 rfl ?_;refine WT.dn ?_;exact⟨_,b8,YB,Gq,ac,ad,vj,cd,aD ⟨rfl,rfl,rfl,rfl,rfl,rfl,trivial⟩,(bF (p0:=p0) (b:=b) rfl k h).to⟩
  refine WT.ju 16 [true,true,true,true] rfl (by kernel_rfl) (bR h zeroValue38 rfl) rfl rfl ?_;rintro _ w ⟨Gq,rfl,h⟩;refine⟨⟨(h.fR (n:=8) rfl),h.aS rfl,h.aS rfl,h.aS rfl,trivial⟩, ?_⟩;refine WT.e 4 [true,true,true,false] rfl (ag call276 (Ht (fun q hq=>Nat.le_trans (Nat.le_of_eq (congrArg List.length (yL hqu q))) (by decide)) (h.aj (qb 236 321 323 bu aa ms m.unit)))) ?_;rintro _ w ⟨BU,Wa,rfl,h⟩;have h:=unC (h.aj (qb 236 321 323 bu aa ms m.unit));refine⟨⟨(h.fR (n:=8) rfl),h.aS rfl,h.aS rfl,trivial⟩, ?_⟩;refine WT.e 12 [false,false,false] rfl (ag call277 (sP (key:=(jo:Int)) (new:=(jq:Int)) V1 xF Nn m7 (QI i) ((h.aj (aY aa)).aj (qb 236 321 323 BU aa Wa m.unit)) (aB.cF) (by omega))) ?_;rintro _ w ⟨u9,r9,Bz,dv,ms3,cg,QT,rfl,N1,h⟩;have Wc:(u9,r9,Bz)=(u2,r,fresh):=QT.symm.trans JO;simp only[Prod.mk.injEq] at Wc;obtain⟨rfl,rfl,rfl⟩:=Wc;have ET:=Own.form h;obtain⟨ad,cd,oC,_⟩:=ET;subst oC;have lF:cI aa cg:=⟨N1⟩;have sb:=sb.trans lF;have h:=nZ lF h;refine⟨trivial, ?_⟩;refine WT.m 13 rfl ?_;refine WT.p 14 rfl (fun w'=>(bZ rfl rfl)) ?_;refine WT.p 15 rfl (fun w'=>(bZ rfl rfl)) ?_;refine WT.e 17 [] rfl (bA h sizeOf38 rfl rfl rfl rfl rfl) ?_;rintro _ w h;refine⟨trivial, ?_⟩;refine WT.a 18 rfl ?_;refine WT.dn ?_;exact⟨_,b8,YB,Gq,ac,ad,vj,cd,aD ⟨rfl,rfl,rfl,rfl,rfl,rfl,trivial⟩,(bF (p0:=p0) (b:=b) rfl k h).to⟩
 clear h k sb;rintro env w ⟨j,b8,YB,Gq,ac,ad,vj,cd,rfl,h⟩;have aA:=gJ (h.aj (dZ b bd p0 (vr) ({m with aH:=true,wait:=some wt,log:=some lg})));obtain⟨oa,oc,ca,cc,bs,bu,ba,vw,v1,v2,aa,k,sb,h⟩:=aA;have aA:=Hi rfl (iW (v:=v1) h);obtain⟨b1,⟨rfl,ht⟩,h⟩:=aA;have aA:=Hh rfl (iW (v:=v2) h);obtain⟨b2,rfl,h⟩:=aA;refine go ?_;refine W.ez Tryz.follows h (by kernel_rfl) fun w h=> ?_;refine go ?_;refine X.e (G4 (p:=(dS (i:Int) id)) JN h.g underlying175 zeroValue30 rfl rfl) ?_;rintro amw w ⟨hv,h⟩;have iG:=Bool.eq_false_or_eq_true (kD lg.1 (dS (i:Int) id)).isSome;rcases iG with hq|hq<;>(rw[hq] at hv;subst hv)
 · refine qD ?_;refine W.ez Tryz.follows h (by kernel_rfl) fun w h=> ?_;refine go ?_;refine X.e (Bn (p:=(dS (i:Int) id)) (v:=.bool true) JN (h.aj (eS b1 .i64 .u64 wt.1 wt.2)) underlying174 rfl rfl rfl) ?_;rintro _ w h;refine qR ?_;unfold wC at hm;rw[if_pos hq] at hm;have aA:=Option.some.inj hm;obtain rfl:=aA;have h:=qu (m:=(wo wt.1 (dS (i:Int) id) (.bool true) wt.2,pI wt.1 (dS (i:Int) id) wt.2)) (QS ht) h.g;have h:=qq (h.aj (eS b2 .i64 .u64 lg.1 lg.2));exact(bF (p0:=p0) (b:=b) (n:={m with aH:=true,wait:=some (K0 wt (dS (i:Int) id) (.bool true)),log:=some lg}) rfl k h).to
 refine qD ?_;unfold wC at hm;rw[if_neg (by rw[hq];exact Bool.noConfusion)] at hm;have h:=qu ht (h.aj (eS b1 .i64 .u64 wt.1 wt.2));have h:=qq (h.aj (eS b2 .i64 .u64 lg.1 lg.2));refine qI (fun Ie=> ?_) (fun Ie=> ?_)
 · refine qC ?_ (C:=UK (p0:=p0) (n:={m with aH:=true,wait:=some wt,log:=some lg}) (ax:=ac) (cx:=vj) (dU:=dU) k (by rw[if_pos Ie] at hm;exact hm) (aB.cF (v:=.slice ac dU.length vj)) h);rintro _ w h;refine qR ?_;exact h.to
 refine W.seq ?_;rw[if_neg (fun q=>Bool.noConfusion (q.symm.trans Ie))] at hm;have dI:=iZ hm;clear hm;obtain⟨ki,hm⟩:=dI;unfold G5 at hm;have dI:=iZ hm;clear hm;obtain⟨hg,hm⟩:=dI;obtain⟨hgl,_⟩:=hg;refine go ?_;refine WL.v (z6 rfl rfl (ki)) ?_;refine qN ?_;refine WL.v (eU (k:=.i64) rfl rfl) ?_;refine qC ?_ (C:=q5 (id:=id) (hint:=0) zI (by decide) (by decide) (by omega) h (aB.cF (v:=.slice ad r.data.length cd)));rintro _ w ⟨amx,rfl,h⟩;refine qC ?_ (C:=Bt (p0:=p0) (n:={m with aH:=true,wait:=some wt,log:=some lg}) (d:=.JC ⟨(i:Int),id,r,true,0⟩) k hm h);rintro _ w h;refine qR ?_;exact h.to
theorem QU{b bd:Nat}{p0:aE}{vr:Value}{n n':Nd}[g:jY L b bd p0 vr n' L'](k:dF n){host:Int}{o:Od}{n2:Nd}(hB:B=zi o)(Co:Cb o=true)(hm:wD n host o=some n2)(C:aB L' (Bytes (.slice a0 B.length c0) B))(h:On W0 L w)(e:n'=n:=by rfl):Cs 204 [b,.int .i64 host,.slice a0 B.length c0] w fun v w'=>On W0 (dZ b bd p0 vr n2::L') w':=by
 unfold wD at hm;obtain⟨hg,hm⟩:=Ck hm;obtain⟨oh,id,floor,⟨tK,uX,uY,dU,ZJ,on1,ke,jZ⟩⟩:=o;simp only[not_or,Decidable.not_not] at hg;obtain⟨h1,h2,h3,h4⟩:=hg;subst h1;obtain⟨_,_,jo,jq,Cc,zA,_,_⟩:=wK Co;simp only at Cc zA;subst Cc zA;cases hp:n.aH with
 | false=>
   rw[if_pos hp] at hm;exact Ns k hB Co (by omega) (by omega) (by omega) C hp hm h e
 | true=>
   rw[if_neg (by rw[hp];exact Bool.noConfusion)] at hm;obtain⟨wt,hw,hm⟩:=cG hm;obtain⟨lg,hl,hm⟩:=cG hm;obtain⟨⟨u2,r,fresh⟩,ho,hm⟩:=cG hm;unfold K1 at ho;obtain⟨⟨hq,NW,hh8,xF,_⟩,ho⟩:=iZ ho;obtain⟨i,rfl⟩:=Int.eq_ofNat_of_zero_le NW;simp only[Int.toNat_natCast] at ho;have hh8:(i:Int)<8:=hh8;exact Nu k hB Co (by omega) C (by omega) hp hw hl hq xF (Option.some.inj ho) hm h e
end Go.Proofs.YtcplmndikhjehaaGreat
namespace Go.Proofs.YtcplmndikhjehaaGreat
open Go.Proofs.Tryz
open Go Go.Sl Go.Sl.eM Go.Sl.gW Go.Sl.kM Go.Sl.pe Go.Sl.pM Go.Sl.mG Go.Sl.pO Go.Sl.rH Go.Sl.pN Go.Sl.gU
open Go.Sl.oB (wr)
set_option maxHeartbeats 0
set_option maxRecDepth 8000
variable{B:List UInt8}{L':List aC}{a0:Option Addr}{c0:Nat}
variable{W0 w:World}{L F:List aC}
variable{b bd bs bu ba self blocks bQ aW re rp rm count cZ dO dV oc cc ol cl:Nat}{oa ca:Option Addr}{vr vw v1 v2:Value}{now heard seen kept:Int}{known aH both:Bool}{s:kJ}{L0 L1:List aC}
theorem acG{b bd:Nat}{p0:aE}{vr:Value}{n n':Nd}[g:jY L b bd p0 vr n' L'](k:dF n){mk rJ gv pJ eT ee gX:Nat}{mdata:List UInt8}{ax:Option Addr}{cx:Nat}{n2:Nd}(hm:Qv n ⟨mk,rJ,gv,pJ,eT,ee,gX,mdata⟩=some n2)(C:aB L' (Bytes (.slice ax mdata.length cx) mdata))(h:On W0 L w)(e:n'=n:=by rfl):Cs 203 [b,.agg #[.int .i64 (mk:Int),.int .u64 (rJ:Int),.int .u64 (gv:Int),.int .u64 (pJ:Int),.int .u64 (eT:Int),.int .u64 (ee:Int),.int .u64 (gX:Int),.slice ax mdata.length cx]] w fun v w'=>∃By,On W0 (dZ b bd p0 By n2::L') w':=by
 refine qO ?_;have hm:(if mk=6 then xL n ⟨mk,rJ,gv,pJ,eT,ee,gX,mdata⟩ else if mk=10 then Ng n ⟨mk,rJ,gv,pJ,eT,ee,gX,mdata⟩ else if mk=7∨mk=9∨mk=11 then UC n ⟨mk,rJ,gv,pJ,eT,ee,gX,mdata⟩ else none)=some n2:=hm;have h:=bF (p0:=p0) (b:=b) e k h;have aA:=gJ h;obtain⟨oa,oc,ca,cc,bs,bu,ba,vw,v1,v2,aa,k,sb,h⟩:=aA;refine gb fun b3 w h=> ?_;refine qI (fun c4=> ?_) (fun c4=> ?_)
 · refine qC ?_ (C:=Yu (p0:=p0) k (by rw[if_pos (by omega)] at hm;exact hm) h);rintro _ w ⟨Ld,h⟩;refine qR ?_;exact⟨Ld,h.to⟩
 refine qI (fun c7=> ?_) (fun c7=> ?_)
 · refine qC ?_ (C:=ahs (p0:=p0) k (by rw[if_neg (by omega),if_pos (by omega)] at hm;exact hm) h);rintro _ w h;refine qR ?_;exact⟨vr,h.to⟩
 rw[if_neg (by omega),if_neg (by omega)] at hm;have dI:=iZ hm;clear hm;obtain⟨hk,hm⟩:=dI;refine W.cut (fun env w=>∃(j:Env) (b3:Nat),env=eu j [(0,b),(3,b3),(16,.bool true)]∧On W0 (aX b3 [.int .i64 (mk:Int),.int .u64 (rJ:Int),.int .u64 (gv:Int),.int .u64 (pJ:Int),.int .u64 (eT:Int),.int .u64 (ee:Int),.int .u64 (gX:Int),.slice ax mdata.length cx] 341::dZ b bd p0 vr n::L') w) ?_ ?_
 ·
  refine qI (fun mP=> ?_) (fun mP=> ?_)
  · refine qD ?_;exact⟨_,b3,aD ⟨rfl,rfl,congrArg Value.bool (decide_eq_true mP),trivial⟩,(bF (p0:=p0) (b:=b) rfl k h).to⟩
  refine qE ?_;refine W.lN rfl (fun oM=> ?_) (fun oM=> ?_)
  · refine qD ?_;exact⟨_,b3,aD ⟨rfl,rfl,congrArg Value.bool (decide_eq_true oM),trivial⟩,(bF (p0:=p0) (b:=b) rfl k h).to⟩
  refine qE ?_;exact⟨_,b3,aD ⟨rfl,rfl,rfl,trivial⟩,(bF (p0:=p0) (b:=b) rfl k h).to⟩
 clear h k sb;rintro env w ⟨j,b3,rfl,h⟩;have aA:=gJ (h.aj (dZ b bd p0 (vr) (n)));obtain⟨oa,oc,ca,cc,bs,bu,ba,vw,v1,v2,aa,k,sb,h⟩:=aA;refine qC ?_ (C:=ahr (p0:=p0) k hm (aB.to C) h);rintro _ w h;refine qR ?_;exact⟨vr,h.to⟩
theorem YC{b bd:Nat}{p0:aE}{vr:Value}{n n':Nd}[g:jY L b bd p0 vr n' L'](k:dF n){e3 p3 m3:Nat}{n2:Nd}(hB:B=Dt.bytes (.iB e3 p3 m3))(hd:Dt.ok (.iB e3 p3 m3)=true)(nj:B.length≤1000000)(hm:uV n ⟨e3,p3,m3⟩=some n2)(C:aB L' (Bytes (.slice a0 B.length c0) B))(h:On W0 L w)(e:n'=n:=by rfl):Cs 130 [b,.int .i64 2,.slice a0 B.length c0] w fun v w'=>∃By,On W0 (dZ b bd p0 By n2::L') w':=by
 refine qO ?_;have hd:GN e3 p3 m3=true:=hd;have hR:oQ B=some (e3,p3,m3):=by rw[hB];exact JS hd
 have hb:p3≤255∧m3≤255:=by
   simp only[GN,Bool.and_eq_true,Bool.or_eq_true,decide_eq_true_eq] at hd;omega
 have h:=bF (p0:=p0) (b:=b) e k h;have aA:=gJ h;obtain⟨oa,oc,ca,cc,bs,bu,ba,vw,v1,v2,aa,k,sb,h⟩:=aA;refine qE ?_;refine WL.e (ag call200 (Cg nj h (aB.to C))) ?_;rintro v19 w ⟨e4,p4,m4,ok,hv,Db,h⟩;rw[hR] at Db
 have cD:ok=true:=by
   cases ok
   · cases Db
   rfl
 subst cD;have Db:some (e3,p3,m3)=some (e4,p4,m4):=Db;simp only[Option.some.injEq,Prod.mk.injEq] at Db;obtain⟨rfl,rfl,rfl⟩:=Db;subst hv;refine gb fun b6 w h=> ?_;refine gs fun w h _=> ?_;refine qC ?_ (C:=Yy (p0:=p0) k hb.1 hb.2 hm h);rintro _ w ⟨Ld,h⟩;refine qR ?_;exact⟨Ld,h.to⟩
theorem acH{b bd:Nat}{p0:aE}{vr:Value}{n n':Nd}[g:jY L b bd p0 vr n' L'](k:dF n){m0:Ms}{n2:Nd}(hB:B=Dt.bytes (.ms m0))(hd:Dt.ok (.ms m0)=true)(nj:B.length≤1000000)(hm:Qv n m0=some n2)(C:aB L' (Bytes (.slice a0 B.length c0) B))(h:On W0 L w)(e:n'=n:=by rfl):Cs 130 [b,.int .i64 1,.slice a0 B.length c0] w fun v w'=>∃By,On W0 (dZ b bd p0 By n2::L') w':=by
 refine qO ?_;have hR:xD B=some m0:=by rw[hB];exact QN hd
 have h:=bF (p0:=p0) (b:=b) e k h;have aA:=gJ h;obtain⟨oa,oc,ca,cc,bs,bu,ba,vw,v1,v2,aa,k,sb,h⟩:=aA;refine qE ?_;refine WL.e (ag call202 (GG nj h (aB.to C))) ?_;rintro v31 w ⟨m4,a4,c4,hv,YD,yd,h⟩;have aA:=YD _ hR;obtain rfl:=aA;rw[hR] at hv;subst hv;refine gb fun b8 w h=> ?_;refine gs fun w h _=> ?_;refine qC ?_ (C:=acG (p0:=p0) (mdata:=m0.data) (ax:=a4) (cx:=c4) k hm (aB.cF (v:=.slice a4 m0.data.length c4)) h);rintro _ w ⟨Ld,h⟩;refine qR ?_;exact⟨Ld,h.to⟩
theorem YE{b bd:Nat}{p0:aE}{vr:Value}{n n':Nd}[g:jY L b bd p0 vr n' L'](k:dF n){fr:Int}{o:Od}(hfr:16≤fr){n2:Nd}(hB:B=Dt.bytes (.JB o))(hd:Dt.ok (.JB o)=true)(nj:B.length≤1000000)(hm:wD n (wr (fr - 16)) o=some n2)(C:aB L' (Bytes (.slice a0 B.length c0) B))(h:On W0 L w)(e:n'=n:=by rfl):Cs 130 [b,.int .i64 fr,.slice a0 B.length c0] w fun v w'=>On W0 (dZ b bd p0 vr n2::L') w':=by
 refine qO ?_;have h:=bF (p0:=p0) (b:=b) e k h;have aA:=gJ h;obtain⟨oa,oc,ca,cc,bs,bu,ba,vw,v1,v2,aa,k,sb,h⟩:=aA;refine qE ?_;refine WL.v (iC (k:=.i64) rfl rfl) ?_;refine qC ?_ (C:=QU (p0:=p0) (host:=wr (fr - 16)) k hB hd hm (aB.to C) h);rintro _ w h;refine qR ?_;exact h.to
theorem nIn{b bd:Nat}{p0:aE}{vr:Value}{n n':Nd}[g:jY L b bd p0 vr n' L'](k:dF n){fr:Int}{d:Dt}{n2:Nd}(hB:B=d.bytes)(nj:B.length≤1000000)(hm:Ya n fr d=some n2)(C:aB L' (Bytes (.slice a0 B.length c0) B))(h:On W0 L w)(e:n'=n:=by rfl):Cs 130 [b,.int .i64 fr,.slice a0 B.length c0] w fun v w'=>∃By,On W0 (dZ b bd p0 By n2::L') w':=by
 unfold Ya at hm;obtain⟨hd,hm⟩:=iZ hm;cases d with
 |ms m=>obtain⟨hf,hm⟩:=iZ hm;subst hf;exact acH k hB hd nj hm C h e
 |iB a b c=>obtain⟨hf,hm⟩:=iZ hm;subst hf;exact YC k hB hd nj hm C h e
 | JB o=>
   obtain⟨hf,hm⟩:=iZ hm
   exact(YE k hf hB hd nj hm C h e).mono fun x w' he=>by
     obtain⟨v,he,hv⟩:=he;exact⟨v,he,vr,hv⟩
 |get=>cases hm
 |Uj a b c d=>cases hm
 |JC a=>cases hm
end Go.Proofs.YtcplmndikhjehaaGreat
namespace Go.Proofs.YtcplmndikhjehaaGreat
open Go.Proofs.Tryz
open Go Go.Sl Go.Sl.eM Go.Sl.gW Go.Sl.kM Go.Sl.pe Go.Sl.pM Go.Sl.mG Go.Sl.pO Go.Sl.rH Go.Sl.pN Go.Sl.gU
open Go.Sl.oB (wr)
set_option maxHeartbeats 0
set_option maxRecDepth 8000
variable{L':List aC}
variable{W0 w:World}{L F:List aC}
variable{b bd bs bu ba self blocks bQ aW re rp rm count cZ dO dV oc cc ol cl:Nat}{oa ca:Option Addr}{vr vw v1 v2:Value}{now heard seen kept:Int}{known aH both:Bool}{s:kJ}{L0 L1:List aC}
section
variable{P:Program}{ρ:Operand→Value}{d:Option Nat}{ty:TypeId}{pos:String}{af:Array Edge}{g:Option (Nat×Bool)}
end
theorem QV{b bd:Nat}{p0:aE}{vr:Value}{n n':Nd}[g:jY L b bd p0 vr n' L'](k:dF n){n2:Nd}(hm:wE n=some n2)(h:On W0 L w)(e:n'=n:=by rfl):Cs 146 [b] w fun v w'=>On W0 (dZ b bd p0 vr n2::L') w':=by
 refine qO ?_;unfold wE at hm;have h:=bF (p0:=p0) (b:=b) e k h;have aA:=gJ h;obtain⟨oa,oc,ca,cc,bs,bu,ba,vw,v1,v2,aa,k,sb,h⟩:=aA;refine W.cut (fun env w=>∃(m:Nd) (j:Env),(if m.dO=0∧m.now.tmod 2=0 then Bp m else some m)=some n2∧env=eu j [(0,b)]∧On W0 (dZ b bd p0 vr m::L') w) ?_ ?_
 ·
  refine W.cut (fun env w=>∃(j:Env),env=eu j [(0,b),(20,.bool (decide (n.dO≠0∧10≤wr (n.now - n.kept))))]∧On W0 (dZ b bd p0 vr n::L') w) ?_ ?_
  ·
   refine W.ez Tryz.follows h (by kernel_rfl) fun w h=> ?_;refine go ?_;refine X.q (fun _=>(e7 rfl rfl)) (fun c7=> ?_) (fun c7=> ?_)
   · refine go ?_;refine X.v (fun _=>(iC (k:=.i64) rfl rfl)) ?_;refine qD ?_;exact⟨_,aD ⟨rfl,congrArg Value.bool (decide_eq_decide.2 ⟨fun q=>q.2,fun q=>⟨by have q:((n.dO:Nat):Int)≠0:=c7;omega,q⟩⟩).symm,trivial⟩,(bF (p0:=p0) (b:=b) rfl k h).to⟩
   refine qD ?_;exact⟨_,aD ⟨rfl,congrArg Value.bool (decide_eq_false fun q=>c7 (by have:=q.1;show((n.dO:Nat):Int)≠0;omega)).symm,trivial⟩,(bF (p0:=p0) (b:=b) rfl k h).to⟩
  clear h k sb;rintro env w ⟨j,rfl,h⟩;have aA:=gJ h.g;obtain⟨oa,oc,ca,cc,bs,bu,ba,vw,v1,v2,aa,k,sb,h⟩:=aA;refine qI (fun c1=> ?_) (fun c1=> ?_)
  · refine qC ?_ (C:=E5 (p0:=p0) k h);clear k;rintro _ w h;refine gw ?_;rw[if_pos c1] at hm;exact⟨mZ n,_,hm,aD ⟨rfl,trivial⟩,h.to⟩
  refine qD ?_;rw[if_neg c1] at hm;exact⟨n,_,hm,aD ⟨rfl,trivial⟩,(bF (p0:=p0) (b:=b) rfl k h).to⟩
 clear h k sb hm;rintro env w ⟨m,j,hm,rfl,h⟩;have aA:=BV (b:=b) (bd:=bd) (p0:=p0) (vr:=vr) (n:=m) h;obtain⟨k,h⟩:=aA;have aA:=gJ h.g;obtain⟨oa,oc,ca,cc,bs,bu,ba,vw,v1,v2,aa,k,sb,h⟩:=aA;refine go ?_;refine WL.q (cL rfl rfl) (fun Ie=> ?_) (fun Ie=> ?_)
 ·
  refine go ?_;refine WL.v (rV rfl rfl (by decide)) ?_;refine qI (fun c5=> ?_) (fun c5=> ?_)
  · refine qC ?_ (C:=Qz (p0:=p0) k (by rw[if_pos ⟨by have q:((m.dO:Nat):Int)=0:=Ie;omega,c5⟩] at hm;exact hm) h);rintro _ w h;refine qR ?_;exact h.to
  refine qR ?_;rw[if_neg (fun q=>c5 q.2)] at hm;have aA:=Option.some.inj hm;obtain rfl:=aA;exact(bF (p0:=p0) (b:=b) rfl k h).to
 refine qD ?_;refine qR ?_;rw[if_neg (fun q=>Ie (by have:=q.1;show((m.dO:Nat):Int)=0;omega))] at hm;have aA:=Option.some.inj hm;obtain rfl:=aA;exact(bF (p0:=p0) (b:=b) rfl k h).to
theorem YF{b bd:Nat}{p0:aE}{vr:Value}{n n':Nd}[g:jY L b bd p0 vr n' L'](k:dF n){n2:Nd}(hm:E0 n=some n2)(h:On W0 L w)(e:n'=n:=by rfl):Cs 143 [b] w fun v w'=>On W0 (dZ b bd p0 vr n2::L') w':=by
 refine qO ?_;unfold E0 at hm;have dI:=iZ hm;clear hm;obtain⟨fe,hm⟩:=dI;have dI:=cG hm;clear hm;obtain⟨n3,h3,hm⟩:=dI;have dI:=cG hm;clear hm;obtain⟨n4,h4,hm⟩:=dI;have dI:=cG hm;clear hm;obtain⟨n5,h5,hm⟩:=dI;have h:=bF (p0:=p0) (b:=b) e k h;have aA:=gJ h;obtain⟨oa,oc,ca,cc,bs,bu,ba,vw,v1,v2,aa,k,sb,h⟩:=aA;refine W.cut (fun env w=>∃(j:Env),env=eu j [(0,b)]∧On W0 (dZ b bd p0 vr n::L') w) ?_ ?_
 ·
  refine qD ?_;have iG:=(DM (iW (v:=vr) h)).symm;rcases iG with⟨r,br,hw,rfl,h⟩|⟨hw,rfl,h⟩
  ·
   refine WL.v (fq underlying172 rfl rfl) ?_;refine go ?_;refine WL.pt ?_;refine go ?_;refine W.ct ?_;refine W.seq ?_;obtain⟨rr,rb,ra,oS⟩:=r;simp only at h;rw[hw] at fe;simp only at fe;refine qC ?_ (C:=E7 (bd:=bd) h);rintro _ w ⟨a24,rfl,h⟩;refine qD ?_;have iG:=Bool.eq_false_or_eq_true ra;rcases iG with rfl|rfl
   · refine go ?_;refine WL.v (dB rfl rfl (by have q:=of_decide_eq_true ((if_pos rfl).symm.trans fe);omega)) ?_;refine WL.pt ?_;refine go ?_;refine WL.v (cQ rfl) ?_;refine go ?_;refine WL.pf ?_;refine go ?_;refine WL.pf ?_;refine WL.pf ?_;refine go ?_;refine W.cs ?_;exact⟨_,aD ⟨rfl,trivial⟩,(bF (p0:=p0) (b:=b) (SN hw rfl) k h).to⟩
   refine qN ?_;refine WL.v (dB rfl rfl (by have q:=of_decide_eq_true ((if_neg Bool.false_ne_true).symm.trans fe);omega)) ?_;refine WL.pt ?_;refine go ?_;refine WL.pf ?_;refine WL.pf ?_;refine go ?_;refine W.cs ?_;exact⟨_,aD ⟨rfl,trivial⟩,(bF (p0:=p0) (b:=b) (SN hw rfl) k h).to⟩
  refine WL.v (fq underlying172 rfl rfl) ?_;refine go ?_;refine WL.pf ?_;refine go ?_;refine W.cs ?_;exact⟨_,aD ⟨rfl,trivial⟩,(bF (p0:=p0) (b:=b) (by rw[←hw]) k h).to⟩
 clear h k sb;rintro env w ⟨j,rfl,h⟩;have aA:=BV (b:=b) (bd:=bd) (p0:=p0) (vr:=vr) (n:=n) h;obtain⟨k,h⟩:=aA;have aA:=gJ h.g;obtain⟨oa,oc,ca,cc,bs,bu,ba,vw,v1,v2,aa,k,sb,h⟩:=aA;refine W.cut (fun env w=>∃(j:Env),env=eu j [(0,b)]∧On W0 (dZ b bd p0 vr n3::L') w) ?_ ?_
 ·
  refine go ?_;refine WL.v (rV rfl rfl (by decide)) ?_;refine qI (fun mP=> ?_) (fun mP=> ?_)
  ·
   refine W.seq ?_;rw[if_pos mP] at h3;have h3_:=cG h3;clear h3;obtain⟨n6,hbt,h3⟩:=h3_;refine qC ?_ (C:=V8 (p0:=p0) k hbt h);clear k;rintro _ w h;have aA:=BV (b:=b) (bd:=bd) (p0:=p0) (vr:=vr) (n:=n6) h;obtain⟨k,h⟩:=aA;have aA:=gJ h.g;obtain⟨oa,oc,ca,cc,bs,bu,ba,vw,v1,v2,aa,k,sb,h⟩:=aA;refine qD ?_;have iG:=DM (iW (v:=vr) h);rcases iG with⟨hw,rfl,h⟩|⟨r,br,hw,rfl,h⟩
   all_goals rw[hw] at h3
   · refine qD ?_;have aA:=Option.some.inj h3;obtain rfl:=aA;exact⟨_,aD ⟨rfl,trivial⟩,(bF (p0:=p0) (b:=b) (by rw[←hw]) k h).to⟩
   refine WL.v (gz underlying172 rfl rfl) ?_;refine go ?_;refine WL.v (cQ rfl) ?_;refine WL.pf ?_;refine go ?_;refine W.cf ?_;refine W.seq ?_;obtain⟨rr,rb,ra,oS⟩:=r;simp only at h h3;have h3_:=h3;clear h3
   have aA:ra=true∧qj n6 0=some n3:=by
     cases ra
     · cases h3_
     exact⟨rfl,h3_⟩
   obtain⟨hra,h3⟩:=aA;subst hra;refine qC ?_ (C:=Hw (p0:=p0) k h3 h (SN hw rfl));rintro _ w h;refine gw ?_;exact⟨_,aD ⟨rfl,trivial⟩,h.to⟩
  refine qD ?_;rw[if_neg mP] at h3;have aA:=Option.some.inj h3;obtain rfl:=aA;exact⟨_,aD ⟨rfl,trivial⟩,(bF (p0:=p0) (b:=b) rfl k h).to⟩
 clear h k sb;rintro env w ⟨j,rfl,h⟩;have aA:=BV (b:=b) (bd:=bd) (p0:=p0) (vr:=vr) (n:=n3) h;obtain⟨k,h⟩:=aA;have aA:=gJ h.g;obtain⟨oa,oc,ca,cc,bs,bu,ba,vw,v1,v2,aa,k,sb,h⟩:=aA;refine W.cut (fun env w=>∃(j:Env),env=eu j [(0,b)]∧On W0 (dZ b bd p0 vr n4::L') w) ?_ ?_
 ·
  refine W.cut (fun env w=>∃(j:Env),env=eu j [(0,b),(111,.bool (decide (tJ n3=true∧10≤wr (n3.now - n3.seen))))]∧On W0 (dZ b bd p0 vr n3::L') w) ?_ ?_
  ·
   refine W.ez Tryz.follows h (by kernel_rfl) fun w h=> ?_;refine qC ?_ (C:=E3 k.1 k.2.2.2 h);rintro v98 w ⟨hv,h⟩;have iG:=Bool.eq_false_or_eq_true (tJ n3);rcases iG with hq|hq<;>(rw[show(zo n3.iB.m (1 - n3.self)||n3.both)=_ from hq] at hv;subst hv)
   · refine go ?_;refine X.v (fun _=>(iC (k:=.i64) rfl rfl)) ?_;refine qD ?_;exact⟨_,aD ⟨rfl,congrArg Value.bool (decide_eq_decide.2 ⟨fun q=>q.2,fun q=>⟨hq,q⟩⟩).symm,trivial⟩,(bF (p0:=p0) (b:=b) rfl k h).to⟩
   refine qD ?_;exact⟨_,aD ⟨rfl,congrArg Value.bool (decide_eq_false fun q=>Bool.noConfusion (hq.symm.trans q.1)).symm,trivial⟩,(bF (p0:=p0) (b:=b) rfl k h).to⟩
  clear h k sb;rintro env w ⟨j,rfl,h⟩;have aA:=BV (b:=b) (bd:=bd) (p0:=p0) (vr:=vr) (n:=n3) h;obtain⟨k,h⟩:=aA;have aA:=gJ h.g;obtain⟨oa,oc,ca,cc,bs,bu,ba,vw,v1,v2,aa,k,sb,h⟩:=aA;refine qI (fun wX=> ?_) (fun wX=> ?_)
  · refine qC ?_ (C:=acr (p0:=p0) k (by rw[if_pos wX] at h4;exact h4) h);rintro _ w h;refine gw ?_;exact⟨_,aD ⟨rfl,trivial⟩,h.to⟩
  refine qD ?_;rw[if_neg wX] at h4;have aA:=Option.some.inj h4;obtain rfl:=aA;exact⟨_,aD ⟨rfl,trivial⟩,(bF (p0:=p0) (b:=b) rfl k h).to⟩
 clear h k sb;rintro env w ⟨j,rfl,h⟩;have aA:=BV (b:=b) (bd:=bd) (p0:=p0) (vr:=vr) (n:=n4) h;obtain⟨k,h⟩:=aA;have aA:=gJ h.g;obtain⟨oa,oc,ca,cc,bs,bu,ba,vw,v1,v2,aa,k,sb,h⟩:=aA;refine qC ?_ (C:=DN (p0:=p0) k h);rintro _ w h;refine qC ?_ (C:=QL (p0:=p0) k h5 h);clear k;rintro _ w h;have aA:=BV (b:=b) (bd:=bd) (p0:=p0) (vr:=vr) (n:=n5) h;obtain⟨k,h⟩:=aA;have aA:=gJ h.g;obtain⟨oa,oc,ca,cc,bs,bu,ba,vw,v1,v2,aa,k,sb,h⟩:=aA;refine go ?_;refine WL.v (rV rfl rfl (by decide)) ?_;refine qI (fun w9=> ?_) (fun w9=> ?_)
 · refine qR ?_;rw[if_pos (by exact w9)] at hm;have aA:=Option.some.inj hm;obtain rfl:=aA;exact(bF (p0:=p0) (b:=b) rfl k h).to
 refine W.skip ?_;rw[if_neg (by exact w9)] at hm;refine qD ?_;have iG:=(QE (iW (v:=vw) h)).symm;rcases iG with⟨⟨qe,qp,qm⟩,bw,hw,rfl,h⟩|⟨hw,rfl,h⟩
 all_goals rw[hw] at hm
 · refine qD ?_;have dI:=iZ hm;clear hm;obtain⟨⟨IA,Jh,NQ,Gu⟩,hm⟩:=dI;have IA:1≤qe:=IA;have Jh:qe<18446744073709551616:=Jh;simp only at h;refine qG fun w h=> ?_;refine X.v (fun _=>(vA (k:=.u64) (m:=qe) (n:=1) rfl rfl IA (by show _≤(18446744073709551615:Int);omega))) ?_;refine go ?_;refine X.e (ag call222 (Yl (p0:=p0) k NQ Gu hm h (by rw[←hw]))) ?_;rintro _ w h;refine qR ?_;exact h.to
 refine qD ?_;have dI:=Ck hm;clear hm;obtain⟨l5,hm⟩:=dI;have l5:n5.iB.e=n5.s.hd.bl:=Decidable.not_not.1 l5;have aA:=Option.some.inj hm;obtain rfl:=aA;refine qT fun w h=> ?_;refine WT.e 6 [true] rfl (ag call223 (m6 h)) ?_;rintro _ w ⟨rfl,h⟩;refine qW ?_;refine WT.p 7 rfl (fun w'=>bY rfl rfl (by rw[l5])) ?_;refine qU ?_;refine qR ?_;exact(bF (p0:=p0) (b:=b) (by rw[←hw]) k h).to
theorem YG{b bd:Nat}{p0:aE}{vr:Value}{n n':Nd}[g:jY L b bd p0 vr n' L'](k:dF n){n2:Nd}(hp:n.aH=true)(hm:K4 n=some n2)(h:On W0 L w)(e:n'=n:=by rfl):Cs 91 [b] w fun v w'=>On W0 (dZ b bd p0 vr n2::L') w':=by
 refine qO ?_;have aA:∃m:Nd,n={m with aH:=true}:=⟨n,by rw[←hp]⟩;obtain⟨m,rfl⟩:=aA;clear hp;have hm:E0 {m with aH:=true,now:=wr (m.now+1)}=some n2:=hm;have h:=bF (p0:=p0) (b:=b) e k h;have aA:=gJ h;obtain⟨oa,oc,ca,cc,bs,bu,ba,vw,v1,v2,aa,k,sb,h⟩:=aA;refine qD ?_;refine WL.v (eU (k:=.i64) rfl rfl) ?_;refine gs fun w h _=> ?_;refine qC ?_ (C:=YF (p0:=p0) (n:={m with aH:=true,now:=wr (m.now+1)}) k hm h);rintro _ w h;refine qR ?_;exact h.to
theorem YH{b bd:Nat}{p0:aE}{vr:Value}{n n':Nd}[g:jY L b bd p0 vr n' L'](k:dF n){n2:Nd}(hp:n.aH=false)(hm:K4 n=some n2)(h:On W0 L w)(e:n'=n:=by rfl):Cs 91 [b] w fun v w'=>On W0 (dZ b bd p0 vr n2::L') w':=by
 refine qO ?_;have aA:∃m:Nd,n={m with aH:=false}:=⟨n,by rw[←hp]⟩;obtain⟨m,rfl⟩:=aA;clear hp;have hm:((if((wr (m.now+1)).tmod 3=0∧(m.known=false∨m.iB.p=m.self∨10≤wr (wr (m.now+1) - m.heard))) then uo {m with aH:=false,now:=wr (m.now+1)} 2 .get else some {m with aH:=false,now:=wr (m.now+1)}).bind wE)=some n2:=hm;have dI:=cG hm;clear hm;obtain⟨n3,h3,hm⟩:=dI;have h:=bF (p0:=p0) (b:=b) e k h;have aA:=gJ h;obtain⟨oa,oc,ca,cc,bs,bu,ba,vw,v1,v2,aa,k,sb,h⟩:=aA;refine qD ?_;refine WL.v (eU (k:=.i64) rfl rfl) ?_;refine gs fun w h _=> ?_;refine go ?_;refine W.cs ?_;refine W.cut (fun env w=>∃(j:Env),env=eu j [(0,b)]∧On W0 (dZ b bd p0 vr n3::L') w) ?_ ?_
 ·
  refine W.cut (fun env w=>∃(j:Env),env=eu j [(0,b),(55,.bool (decide ((wr (m.now+1)).tmod 3=0∧(m.known=false∨m.iB.p=m.self∨10≤wr (wr (m.now+1) - m.heard)))))]∧On W0 (dZ b bd p0 vr {m with aH:=false,now:=wr (m.now+1)}::L') w) ?_ ?_
  ·
   have aA:∃kn,kn=m.known:=⟨_,rfl⟩;obtain⟨kn,F7⟩:=aA;simp only at h;rw[←F7] at h;refine qG fun w h=> ?_;refine X.v (fun _=>(rV rfl rfl (by decide))) ?_;refine X.q (fun _=>(cL rfl rfl)) (fun Ic=> ?_) (fun Ic=> ?_)
   ·
    refine gw ?_;rcases kn with _|_
    · refine qD ?_;exact⟨_,aD ⟨rfl,congrArg Value.bool (decide_eq_true ⟨Ic,.inl F7.symm⟩).symm,trivial⟩,(bF (p0:=p0) (b:=b) (n:={m with aH:=false,now:=wr (m.now+1)}) (by rw[F7];rfl) k h).to⟩
    refine qN ?_;refine X.q (fun _=>(cL rfl rfl)) (fun YI=> ?_) (fun YI=> ?_)
    · refine qD ?_;exact⟨_,aD ⟨rfl,congrArg Value.bool (decide_eq_true ⟨Ic,.inr (.inl (Int.ofNat.inj YI))⟩).symm,trivial⟩,(bF (p0:=p0) (b:=b) (n:={m with aH:=false,now:=wr (m.now+1)}) (by rw[F7];rfl) k h).to⟩
    refine qD ?_;refine X.v (fun _=>(iC (k:=.i64) rfl rfl)) ?_;refine qD ?_;exact⟨_,aD ⟨rfl,congrArg Value.bool (decide_eq_decide.2 ⟨fun q=>q.2.elim (fun e=>Bool.noConfusion (F7.trans e)) (fun q=>q.elim (fun e=>absurd (congrArg Int.ofNat e) YI) id),fun q=>⟨Ic,.inr (.inr q)⟩⟩).symm,trivial⟩,(bF (p0:=p0) (b:=b) (n:={m with aH:=false,now:=wr (m.now+1)}) (by rw[F7];rfl) k h).to⟩
   refine qD ?_;exact⟨_,aD ⟨rfl,congrArg Value.bool (decide_eq_false fun q=>Ic q.1).symm,trivial⟩,(bF (p0:=p0) (b:=b) (n:={m with aH:=false,now:=wr (m.now+1)}) (by rw[F7];rfl) k h).to⟩
  clear h k sb;rintro env w ⟨j,rfl,h⟩;have aA:=BV (b:=b) (bd:=bd) (p0:=p0) (vr:=vr) (n:={m with aH:=false,now:=wr (m.now+1)}) h;obtain⟨k,h⟩:=aA;have aA:=gJ h.g;obtain⟨oa,oc,ca,cc,bs,bu,ba,vw,v1,v2,aa,k,sb,h⟩:=aA;refine qI (fun ou=> ?_) (fun ou=> ?_)
  · refine qC ?_ (C:=Uy h);rintro _ w ⟨a57,rfl,h⟩;refine qC ?_ (C:=Bt (p0:=p0) (d:=.get) k (by rw[if_pos ou] at h3;exact h3) h);rintro _ w h;refine gw ?_;exact⟨_,aD ⟨rfl,trivial⟩,h.to⟩
  refine qD ?_;rw[if_neg ou] at h3;have aA:=Option.some.inj h3;obtain rfl:=aA;exact⟨_,aD ⟨rfl,trivial⟩,(bF (p0:=p0) (b:=b) rfl k h).to⟩
 clear h k sb;rintro env w ⟨j,rfl,h⟩;have aA:=BV (b:=b) (bd:=bd) (p0:=p0) (vr:=vr) (n:=n3) h;obtain⟨k,h⟩:=aA;refine qC ?_ (C:=QV (p0:=p0) k hm h);rintro _ w h;refine qR ?_;exact h.to
theorem acI{b bd:Nat}{p0:aE}{vr:Value}{n n':Nd}[g:jY L b bd p0 vr n' L'](k:dF n){n2:Nd}(hm:K4 n=some n2)(h:On W0 L w)(e:n'=n:=by rfl):Cs 91 [b] w fun v w'=>On W0 (dZ b bd p0 vr n2::L') w':=by
 cases hp:n.aH with
 |true=>exact YG k hp hm h e
 |false=>exact YH k hp hm h e
end Go.Proofs.YtcplmndikhjehaaGreat
namespace Go.Proofs.YtcplmndikhjehaaGreat
open Go.Proofs.Tryz
open Go Go.Sl Go.Sl.eM Go.Sl.gW Go.Sl.kM Go.Sl.pe Go.Sl.pM Go.Sl.mG Go.Sl.pO Go.Sl.rH Go.Sl.pN Go.Sl.gU
open Go.Sl.oB (wr)
set_option maxHeartbeats 0
set_option maxRecDepth 8000
variable{b bd:Nat}{vr:Value}
variable{W0 w:World}{L F:List aC}
def BW(b bd:Nat)(aa:aE)(vr:Value)(n:Nd):aC:=Ex fun(y:NdV)=>Pack (dF n) [aX b [.int .i64 n.self,.int .i64 n.blocks,.int .u32 n.bQ,.pointer (some ⟨bd,0,none⟩),.pointer (some ⟨y.bs,0,none⟩),.bool false,.int .i64 n.now,.slice y.oa n.out.length y.oc,.slice y.ca n.bD.length y.cc,.pointer (some ⟨y.bu,0,none⟩),.int .u64 n.aW,.int .u64 0,.int .u64 0,.int .u64 n.iB.e,.int .i64 n.iB.p,.int .i64 n.iB.m,.bool n.known,.map (some y.ba),.int .i64 n.heard,.bool n.aH,.int .u32 n.count,vr,.bool n.both,y.vw,.int .i64 n.seen,y.v1,y.v2,.int .u64 n.cZ,.int .u64 n.dO,.int .u32 n.dV,.bool false,.slice none 0 0,.map none,.int .u64 0,.int .i64 n.kept] 182,At (yI aa) (.slice y.oa n.out.length y.oc) n.out,At (G8 aa) (.slice y.ca n.bD.length y.cc) n.bD,At (kK bd) (.pointer (some ⟨y.bs,0,none⟩)) n.s,At (Ih aa) (.pointer (some ⟨y.bu,0,none⟩)) n.unit,At E1 (.map (some y.ba)) n.asked,At xM vr n.run,At rI y.vw n.want,At uq y.v1 n.wait,At Cn y.v2 n.log]
theorem US{aa:aE}{n:Nd}(H:On W0 (BW b bd aa vr n::L) w):∃(oa:Option Addr) (oc:Nat) (ca:Option Addr) (cc bs bu ba:Nat) (vw v1 v2:Value),dF n∧On W0 (aX b [.int .i64 n.self,.int .i64 n.blocks,.int .u32 n.bQ,.pointer (some ⟨bd,0,none⟩),.pointer (some ⟨bs,0,none⟩),.bool false,.int .i64 n.now,.slice oa n.out.length oc,.slice ca n.bD.length cc,.pointer (some ⟨bu,0,none⟩),.int .u64 n.aW,.int .u64 0,.int .u64 0,.int .u64 n.iB.e,.int .i64 n.iB.p,.int .i64 n.iB.m,.bool n.known,.map (some ba),.int .i64 n.heard,.bool n.aH,.int .u32 n.count,vr,.bool n.both,vw,.int .i64 n.seen,v1,v2,.int .u64 n.cZ,.int .u64 n.dO,.int .u32 n.dV,.bool false,.slice none 0 0,.map none,.int .u64 0,.int .i64 n.kept] 182::At (yI aa) (.slice oa n.out.length oc) n.out::At (G8 aa) (.slice ca n.bD.length cc) n.bD::At (kK bd) (.pointer (some ⟨bs,0,none⟩)) n.s::At (Ih aa) (.pointer (some ⟨bu,0,none⟩)) n.unit::At E1 (.map (some ba)) n.asked::At xM vr n.run::At rI vw n.want::At uq v1 n.wait::At Cn v2 n.log::L) w:=by
 obtain⟨⟨oa,oc,ca,cc,bs,bu,ba,vw,v1,v2⟩,H⟩:=H.ex;obtain⟨h1,H⟩:=H.unpack;exact⟨oa,oc,ca,cc,bs,bu,ba,vw,v1,v2,h1,H⟩
theorem YJ{aa:aE}{n:Nd}{oa:Option Addr}{oc:Nat}{ca:Option Addr}{cc bs bu ba:Nat}{vw v1 v2:Value}(k:dF n)(H:On W0 (aX b [.int .i64 n.self,.int .i64 n.blocks,.int .u32 n.bQ,.pointer (some ⟨bd,0,none⟩),.pointer (some ⟨bs,0,none⟩),.bool false,.int .i64 n.now,.slice oa n.out.length oc,.slice ca n.bD.length cc,.pointer (some ⟨bu,0,none⟩),.int .u64 n.aW,.int .u64 0,.int .u64 0,.int .u64 n.iB.e,.int .i64 n.iB.p,.int .i64 n.iB.m,.bool n.known,.map (some ba),.int .i64 n.heard,.bool n.aH,.int .u32 n.count,vr,.bool n.both,vw,.int .i64 n.seen,v1,v2,.int .u64 n.cZ,.int .u64 n.dO,.int .u32 n.dV,.bool false,.slice none 0 0,.map none,.int .u64 0,.int .i64 n.kept] 182::At (yI aa) (.slice oa n.out.length oc) n.out::At (G8 aa) (.slice ca n.bD.length cc) n.bD::At (kK bd) (.pointer (some ⟨bs,0,none⟩)) n.s::At (Ih aa) (.pointer (some ⟨bu,0,none⟩)) n.unit::At E1 (.map (some ba)) n.asked::At xM vr n.run::At rI vw n.want::At uq v1 n.wait::At Cn v2 n.log::L) w):On W0 (BW b bd aa vr n::L) w:=
 On.rT (⟨oa,oc,ca,cc,bs,bu,ba,vw,v1,v2⟩:NdV) (On.pack k H)
theorem acJ{aa:aE}{n:Nd}(H:On W0 (BW b bd aa vr n::aY aa::L) w):On W0 (dZ b bd aa vr n::L) w:=by
 obtain⟨oa,oc,ca,cc,bs,bu,ba,vw,v1,v2,k,h⟩:=US H;exact bF rfl k h
theorem YK{p0:aE}{n:Nd}(H:On W0 (dZ b bd p0 vr n::L) w):∃aa,cI p0 aa∧On W0 (BW b bd aa vr n::aY aa::L) w:=by
 obtain⟨oa,oc,ca,cc,bs,bu,ba,vw,v1,v2,aa,k,sb,h⟩:=gJ H;exact⟨aa,sb,YJ (oa:=oa) (oc:=oc) (ca:=ca) (cc:=cc) (bs:=bs) (bu:=bu) (ba:=ba) (vw:=vw) (v1:=v1) (v2:=v2) k h.to⟩
theorem Hy{b bd:Nat}{p q:aE}{vr:Value}{n:Nd}(k:cI p q)(h:Hp)(H:BW b bd p vr n h):BW b bd q vr n h:=by
 obtain⟨y,h1,s⟩:=H;exact⟨y,h1,s.aI fun _ s=>(s.imp (E4 k)).aI fun _ s=>(s.imp (K8 k)).aI fun _ s=>s.aI fun _ s=>s.imp (K9 k)⟩
instance(priority:=100) aeJ {b bd:Nat} {p q:aE} {vr:Value} {n:Nd} {L':List aC} [s:xN p q L L']:xN p q (BW b bd p vr n::L) (BW b bd q vr n::L'):=⟨fun k _ H=>(H.aI (s.h k)).imp (Hy k)⟩
theorem UT{aa:aE}{v:Value}{l:List Pk}(H:On W0 (At (yI aa) v l::L) w):∃xo:List (Pk×Value),∃a c,v=.slice a xo.length c∧(xo.map (·.1)=l∧cW aa (·.data) xo)∧On W0 (Own 2 (.slice a xo.length c) xo.length (xo.flatMap mW)::L) w:=by
 obtain⟨xo,⟨h1,h2⟩,h⟩:=pkO H;have hl:l.length=xo.length:=by rw[←h1,List.length_map]
 rw[hl] at h;obtain⟨a,c,rfl,_⟩:=Own.form h;exact⟨xo,a,c,rfl,⟨h1,h2⟩,h⟩
theorem UU{a:Option Addr}{n c:Nat}{xs:List Value}(h:On W0 (Own 11 (.slice a n c) n xs::L) w):
   Cs 211 [.slice a n c] w fun v w'=>v=.slice a n n∧On W0 (Own 11 (.slice a n n) n xs::L) w':=by
 refine qO ?_;have aA:=Own.form h;obtain⟨a',c',hv,vg,rz,jK⟩:=aA;simp only[Value.slice.injEq] at hv;obtain⟨rfl,_,rfl⟩:=hv;refine go ?_;refine WL.v (iO underlying171 sizeOf253 rfl rfl rfl (by omega) (by omega)) ?_;refine qR ?_;exact⟨rfl,Own.clip h⟩
theorem ahy{aa:aE}{n:Nd}(h:On W0 (BW b bd aa vr n::L) w):Cs 137 [.pointer (some ⟨b,0,none⟩)] w fun v w'=>∃(xo:List (Pk×Value)) (a:Option Addr),v=.slice a xo.length xo.length∧xo.map (·.1)=n.out∧cW aa (·.data) xo∧On W0 (Own 2 (.slice a xo.length xo.length) xo.length (xo.flatMap mW)::BW b bd aa vr {n with out:=[]}::L) w':=by
 refine qO ?_;have aA:=US h;obtain⟨oa,oc,ca,cc,bs,bu,ba,vw,v1,v2,k,h⟩:=aA;have aA:=UT (iW (k:=yI aa) (v:=.slice oa n.out.length oc) h);obtain⟨xo,oa1,oc1,he,⟨gy,uW⟩,h⟩:=aA;simp only[Value.slice.injEq] at he;obtain⟨rfl,hle,rfl⟩:=he;rw[hle] at h;refine qC ?_ (C:=EO (h.aj (Own 2 (.slice oa xo.length oc) xo.length (xo.flatMap mW))));rintro _ w ⟨rfl,h⟩;refine gs fun w h _=> ?_;refine qR ?_;have h:On W0 (Own 2 (.slice none ([]:List (Pk×Value)).length 0) ([]:List (Pk×Value)).length (([]:List (Pk×Value)).flatMap mW)::_) w:=h.bB 2 none;have h:=JL (aa:=aa) (l:=[]) rfl fG rfl h;have h:=YJ (b:=b) (bd:=bd) (aa:=aa) (vr:=vr) (n:={n with out:=[]}) (oa:=none) (oc:=0) (ca:=ca) (cc:=cc) (bs:=bs) (bu:=bu) (ba:=ba) (vw:=vw) (v1:=v1) (v2:=v2) (L:=Own 2 (.slice oa xo.length xo.length) xo.length (xo.flatMap mW)::L) k h.to;exact⟨xo,oa,rfl,gy,uW,h.to⟩
theorem QW{aa:aE}{n:Nd}(h:On W0 (BW b bd aa vr n::L) w):Cs 138 [.pointer (some ⟨b,0,none⟩)] w fun v w'=>∃(xo:List (xJ×Value)) (a:Option Addr),v=.slice a xo.length xo.length∧xo.map (·.1)=n.bD∧cW aa (·.c.data) xo∧On W0 (Own 11 (.slice a xo.length xo.length) xo.length (xo.flatMap tW)::BW b bd aa vr {n with bD:=[]}::L) w':=by
 refine qO ?_;have aA:=US h;obtain⟨oa,oc,ca,cc,bs,bu,ba,vw,v1,v2,k,h⟩:=aA;have aA:=cmO (iW (k:=G8 aa) (v:=.slice ca n.bD.length cc) h);obtain⟨xo,⟨gy,uW⟩,h⟩:=aA;have hle:n.bD.length=xo.length:=by rw[←gy,List.length_map]
 rw[hle] at h;refine qC ?_ (C:=UU (h.aj (Own 11 (.slice ca xo.length cc) xo.length (xo.flatMap tW))));rintro _ w ⟨rfl,h⟩;refine gs fun w h _=> ?_;refine qR ?_;have h:On W0 (Own 11 (.slice none ([]:List (xJ×Value)).length 0) ([]:List (xJ×Value)).length (([]:List (xJ×Value)).flatMap tW)::_) w:=h.bB 11 none;have h:=Yo (aa:=aa) (l:=[]) rfl fG rfl h;have h:=YJ (b:=b) (bd:=bd) (aa:=aa) (vr:=vr) (n:={n with bD:=[]}) (oa:=oa) (oc:=oc) (ca:=none) (cc:=0) (bs:=bs) (bu:=bu) (ba:=ba) (vw:=vw) (v1:=v1) (v2:=v2) (L:=Own 11 (.slice ca xo.length xo.length) xo.length (xo.flatMap tW)::L) k h.to;exact⟨xo,ca,rfl,gy,uW,h.to⟩
end Go.Proofs.YtcplmndikhjehaaGreat
namespace Go.Sl.mG
open Go Go.Sl Go.Sl.eM Go.Sl.gW Go.Sl.dA Go.Sl.gU Go.Sl.ow
theorem SI.acK{d:Dk}{h:Hd}{tn:Nat}{es:List En}{g:Rg}{d2:Dk}(S:SI d h tn [] es g)(Je:tn+1<256^8)(Pj:h.aJ+1<4294967296)(h2:d2=(ff d 0 tn (cK {h with aJ:=h.aJ+1})).2):
   SI d2 {h with aJ:=h.aJ+1} (tn+1) [] es (rE (tD 98 256 h.first h.place (h.aJ+1)) (es.map mQ))∧d2.calls=d.calls+2:=by
 obtain⟨e3,l3,f3,n3,c3,T3,r3⟩:=vP (v2:=cK {h with aJ:=h.aJ+1}) S.tw Je (by rw[bX];decide);have o:=S.cD;refine⟨⟨by rw[h2];exact l3,by rw[h2,n3,S.n],⟨o.bl,Pj,o.cY,o.base,o.size,o.first,o.place⟩,S.place,by rw[h2];exact T3,S.size,fun i hi=>by simp at hi,uQ.Pr _ _ _ S.place _, ?_,S.ens,by rw[h2];exact f3⟩,by rw[h2,c3]⟩;exact(S.ji.same fun q hq=>by rw[h2,r3 _ (by omega)]).mono (by show h.aJ≤h.aJ+1;omega)
theorem JU{d:Dk}{aV:List Int}(hf:Flat d)(h1:d.off=false)(h2:d.dead=false)(h3:d.cJ=0):iu d aV={d with off:=true}:=by
 rw[CR h1 h2]
 have e:oZ d.m aV=d.m:=by
   unfold oZ
   have:∀l:List (Int×iS),(∀x∈l,x.2.wait=[])→l.map (fun x=>(x.1,dY d.m aV x.1 x.2))=l:=by
     intro l
     induction l with
     |nil=>intro _;rfl
     | cons x l ih=>
       intro hx;rw[List.map_cons,ih fun y hy=>hx y (List.mem_cons_of_mem _ hy),yf (hx x (List.mem_cons_self ..))]
   exact this d.m hf
 rw[e,h3]
end Go.Sl.mG
namespace Go.Proofs.YtcplmndikhjehaaGreat
open Go.Proofs.Tryz
open Go Go.Sl Go.Sl.eM Go.Sl.gW Go.Sl.kM Go.Sl.pe Go.Sl.pM Go.Sl.mG Go.Sl.pO Go.Sl.rH Go.Sl.pN Go.Sl.gU
open Go.Sl.oB (wr)
set_option maxHeartbeats 0
set_option maxRecDepth 8000
variable{W0 w:World}{L F:List aC}
theorem YL{bd:Nat}{s s':kJ}{g:ow.Rg}{d:dA.Dk}(S:SI d s.hd s.tn [] s.es g)(hc:d.calls≤s.cn)(hm:mC s=some s')(h:On W0 (dA.aQ 109 221 bd d::L) w):Cs 39 [bd] w fun v w'=>∃bs,v=.tuple #[.pointer (some ⟨bs,0,none⟩),.int .i64 0]∧On W0 (At (kK bd) bs s'::L) w':=by
 unfold mC at hm;obtain⟨⟨h1,h2,h3,h4,h5⟩,hm⟩:=iZ hm;obtain rfl:=Option.some.inj hm;have hb:=h4.1;have hO:=S.acK (d2:=(gU.ff d 0 s.tn (cK {s.hd with aJ:=s.hd.aJ+1})).2) h2 h1 rfl;refine(Gn S.tw S.cD S.place S.size S.on S.ji (by omega) S.ens S.n h5 (by omega) h1 h2 (by omega) h).mono fun x w' he=> ?_;obtain⟨v,he,bs,bt,br,hv,h⟩:=he;exact⟨v,he,bs,hv,SM (bt:=bt) (br:=br) hO.1 (by rw[hO.2];show _≤((s.cn+2:Nat):Int);omega) h.to⟩
variable{b bd bs bu ba self blocks bQ aW re rp rm count cZ dO dV oc cc ol cl:Nat}{oa ca:Option Addr}{vr vw v1 v2:Value}{now heard seen kept:Int}{known aH both:Bool}{s:kJ}{L0 L1:List aC}
theorem acL[f0:FB L b (yJ self blocks bQ bd bs now oa ol oc ca cl cc bu aW re rp rm known ba heard aH count vr both vw seen v1 v2 cZ dO dV kept) 182 L0][f1:nL (kK bd) L0 (.pointer (some ⟨bs,0,none⟩)) s L1]{aa:aE}(hb:s.hd.base=0)(Wd:1≤blocks)(hN2:blocks≤1024)(h:On W0 L w):Cs 81 [.pointer (some ⟨b,0,none⟩)] w fun v w'=>v=.bool true∧∃bu2,On W0 (At (Ih aa) (.pointer (some ⟨bu2,0,none⟩)) (pE blocks)::aX b (yJ self blocks bQ bd bs now oa ol oc ca cl cc bu2 0 re rp rm known ba heard aH count vr both vw seen v1 v2 cZ dO dV kept) 182::At (kK bd) (.pointer (some ⟨bs,0,none⟩)) s::L1) w':=by
 refine qO ?_;have h:=Qx (b:=b) h;refine qC ?_ (C:=E7 (bd:=bd) h);rintro v13 w ⟨VT,hv,h⟩;rw[hb] at hv;subst hv;refine gs fun w h _=> ?_;refine gs fun w h _=> ?_;refine gs fun w h _=> ?_;refine qE ?_;refine WL.e (ag call80 (KW (aa:=aa) h)) ?_;rintro _ w hu;rcases hu with⟨N,hN,_,_,bu2,ms,rfl,h⟩|⟨dX,_,_⟩;rotate_left
 · exact absurd (show _ by omega) dX
 have aA:blocks=N:=Int.ofNat.inj hN;obtain rfl:=aA;have h:=unC h;refine gs fun w h _=> ?_;refine qR ?_;exact⟨rfl,bu2,h.to⟩
theorem acN{bd self blocks bQ:Nat}{s s2:kJ}{n2:Nd}{g:ow.Rg}{d:dA.Dk}{aa:aE}(acO:self≤1)(acP:bQ<4294967296)(S:SI d s.hd s.tn [] s.es g)(hc:d.calls≤s.cn)(hs:mC s=some s2)(hb:s2.hd.base=0)(Wd:1≤blocks)(hN2:blocks≤1024)(h:On W0 (dA.aQ 109 221 bd d::aY aa::L) w):Cs 45 [.int .i64 (self:Int),.int .i64 (blocks:Int),.pointer (some ⟨bd,0,none⟩),.int .u32 (bQ:Int)] w fun v w'=>∃b,v=.tuple #[.pointer (some ⟨b,0,none⟩),.int .i64 0]∧On W0 (dZ b bd aa (.pointer none) (mZ ⟨self,blocks,bQ,s2,0,[],[],pE blocks,0,⟨0,0,0⟩,false,([],0),0,false,0,none,false,none,0,none,none,0,0,0,0⟩)::L) w':=by
 refine qO ?_;refine qC ?_ (C:=KW (n:=(blocks:Int)) (aa:=aa) h);rintro _ w hu;rcases hu with⟨N,hN,_,_,bu0,XH,rfl,h⟩|⟨dX,_,_⟩;rotate_left
 · exact absurd (show _ by omega) dX
 have aA:blocks=N:=Int.ofNat.inj hN;obtain rfl:=aA;refine qE ?_;refine WL.e (mu (kd:=.u64) h) ?_;rintro _ w ⟨SQ,rfl,h⟩;have h:=iA (m:=([],0)) (fun x hx=>by cases hx) h;refine WL.v (aP (pl:=[(0,1),(1,1),(2,1),(3,1),(4,1),(5,1),(6,1),(7,1),(8,1),(9,1),(10,1),(11,1),(12,1),(13,3),(16,1),(17,1),(18,1),(19,1),(20,1),(21,6),(27,8)]) (out:=[.int .i64 (self:Int),.int .i64 (blocks:Int),.int .u32 (bQ:Int),.pointer (some ⟨bd,0,none⟩),.pointer none,.bool false,.int .i64 0,.slice none 0 0,.slice none 0 0,.pointer (some ⟨bu0,0,none⟩),.int .u64 ((0:Nat):Int),.int .u64 0,.int .u64 0,.int .u64 ((0:Nat):Int),.int .i64 ((0:Nat):Int),.int .i64 ((0:Nat):Int),.bool false,.map (some SQ),.int .i64 0,.bool false,.int .u32 ((0:Nat):Int),.pointer none,.bool false,.pointer none,.int .i64 0,.map none,.map none,.int .u64 ((0:Nat):Int),.int .u64 ((0:Nat):Int),.int .u32 ((0:Nat):Int),.bool false,.slice none 0 0,.map none,.int .u64 0,.int .i64 0]) underlying182 zeroValue182 (fun w=>by kernel_rfl) rfl fz rfl) ?_;refine gb fun Hu w h=> ?_;refine qC ?_ (C:=YL (bd:=bd) (L:=_) S hc hs (h.aj (dA.aQ 109 221 bd d)));rintro _ w ⟨bs,rfl,h⟩;refine gs fun w h _=> ?_;refine qE ?_;refine WL.e (ag call81 (acL (aa:=aa) hb Wd hN2 h)) ?_;rintro _ w ⟨rfl,bu2,h⟩;have h:On W0 (Own 2 (.slice none ([]:List (Pk×Value)).length 0) ([]:List (Pk×Value)).length (([]:List (Pk×Value)).flatMap mW)::_) w:=h.bB 2 none;have h:On W0 (At (yI aa) (.slice none 0 0) []::_) w:=JL rfl fG rfl h;have h:On W0 (Own 11 (.slice none ([]:List (xJ×Value)).length 0) ([]:List (xJ×Value)).length (([]:List (xJ×Value)).flatMap tW)::_) w:=h.bB 11 none;have h:On W0 (At (G8 aa) (.slice none 0 0) []::_) w:=Yo rfl fG rfl h;refine qC ?_ (C:=E5 (p0:=aa) (n:=⟨self,blocks,bQ,s2,0,[],[],pE blocks,0,⟨0,0,0⟩,false,([],0),0,false,0,none,false,none,0,none,none,0,0,0,0⟩) ⟨acO,acP,Nat.zero_le _,Nat.zero_le _⟩ h);rintro _ w h;refine qR ?_;exact⟨Hu,rfl,h.to⟩
end Go.Proofs.YtcplmndikhjehaaGreat
namespace Go.Sl.lD
open Go Go.Sl
variable{a:Option Addr}{c:Nat}{i:Int}{v:Value}
theorem qi{α β:Type}(f:α→β):∀(l:List α) (k:Nat),(l.eraseIdx k).map f=(l.map f).eraseIdx k:=by
 intro l
 induction l with
 |nil=>intro k;simp
 | cons x l ih=>intro k;cases k with
   |zero=>rfl
   |succ k=>simp[ih]
structure Pk where
 f:Int
 t:Int
 bs:List UInt8
structure St where
 H:Int
 l:List Pk
 s:Int
def js(m:St)(f t:Int)(n:Nat):Int:=
 if ¬(0≤f∧f<m.H∧0≤t∧t<m.H) then 1 else if 8192<n then 5 else if 4096≤m.l.length then 7 else 0
def send(m:St)(f t:Int)(bs:List UInt8):St:=if js m f t bs.length=0 then{m with l:=m.l++[⟨f,t,bs⟩],s:=m.s+1} else m
def Lg(m:St)(i:Int):Option Pk:=if 0≤i then m.l[i.toNat]? else none
def out(m:St)(i:Int):St:=if(Lg m i).isSome then{m with l:=m.l.eraseIdx i.toNat} else m
def copy(m:St)(i:Int):St:=match Lg m i with
 |some p=>if m.l.length<4096 then{m with l:=m.l++[p]} else m
 |none=>m
theorem QX{m:St}(h0:0≤i)(h1:i<m.l.length):∃p,Lg m i=some p∧m.l[i.toNat]? =some p:=by
 have dW:i.toNat<m.l.length:=by omega
 refine⟨m.l[i.toNat], ?_,by simp[dW]⟩;simp[Lg,h0,dW]
theorem Hz{m:St}(h:¬(0≤i∧i<m.l.length)):Lg m i=none:=by
 unfold Lg;split
 · rename_i h0;rw[List.getElem?_eq_none];omega
 rfl
theorem JV{m:St}:(Lg m i).isSome=true↔0≤i∧i<m.l.length:=by
 by_cases h:0≤i∧i<m.l.length
 · obtain⟨p,hp,_⟩:=QX h.1 h.2
   simp[hp,h]
 simp[Hz h,h]
structure Q where
 f:Int
 t:Int
 v:Value
 bs:List UInt8
def Q.pk(q:Q):Pk:=⟨q.f,q.t,q.bs⟩
def Q.cells(q:Q):List Value:=[.int .i64 q.f,.int .i64 q.t,q.v]
theorem Q.rf(q:Q):q.cells.length=3:=rfl
def slc:Value→Bool
 | .slice _ _ _=>true
 |_=>false
theorem ahB{qs:List Q}(h:∀q∈qs,slc q.v=true):∀u∈qs.flatMap Q.cells,u.oneCell'=true:=by
 intro u hu;obtain⟨q,hq,hu⟩:=List.mem_flatMap.1 hu;simp only[Q.cells,List.mem_cons,List.not_mem_nil,or_false] at hu;rcases hu with rfl|rfl|rfl
 · rfl
 · rfl
 have:=h q hq;cases hv:q.v<;>rw[hv] at this<;>first|rfl|(simp[slc] at this)
def qw(T b:Nat)(m:St)(aa:List (Value×List UInt8)):aC:=Ex fun(x:List Q×Option Addr×Nat)=>
 Pack (x.1.map Q.pk=m.l∧(∀q∈x.1,(q.v,q.bs)∈aa)∧(∀q∈x.1,slc q.v=true)∧∀q∈x.1,q.bs.length≤8192)
   [aX b [.int .i64 m.H,.slice x.2.1 x.1.length x.2.2,.int .i64 m.s] T,Own 3 (.slice x.2.1 x.1.length x.2.2) x.1.length (x.1.flatMap Q.cells)]
section
variable{W0 w:World}{L:List aC}{T b:Nat}{m:St}{aa aN:List (Value×List UInt8)}
theorem wF(H:On W0 (qw T b m aa::L) w):∃(qs:List Q) (a:Option Addr) (c:Nat),qs.map Q.pk=m.l∧(∀q∈qs,(q.v,q.bs)∈aa)∧(∀q∈qs,slc q.v=true)∧(∀q∈qs,q.bs.length≤8192)∧
   On W0 (aX b [.int .i64 m.H,.slice a qs.length c,.int .i64 m.s] T::Own 3 (.slice a qs.length c) qs.length (qs.flatMap Q.cells)::L) w:=by
 obtain⟨⟨qs,a,c⟩,H⟩:=H.ex;obtain⟨⟨h1,h2,h3,h4⟩,H⟩:=H.unpack;exact⟨qs,a,c,h1,h2,h3,h4,H⟩
theorem rj{qs:List Q}(h1:qs.map Q.pk=m.l)(h2:∀q∈qs,(q.v,q.bs)∈aa)(h3:∀q∈qs,slc q.v=true)(h4:∀q∈qs,q.bs.length≤8192)
   (H:On W0 (aX b [.int .i64 m.H,.slice a qs.length c,.int .i64 m.s] T::Own 3 (.slice a qs.length c) qs.length (qs.flatMap Q.cells)::L) w):On W0 (qw T b m aa::L) w:=
 On.rT (qs,a,c) (On.pack ⟨h1,h2,h3,h4⟩ H)
end
def rK(r:Option Pk)(W0:World)(L:List aC)(v:Value)(w:World):Prop:=match r with
 |some p=>∃a c,v=.tuple #[.agg #[.int .i64 p.f,.int .i64 p.t,.slice a p.bs.length c],.bool true]∧On W0 (bC (.slice a p.bs.length c) p.bs::L) w
 |none=>v=.tuple #[.agg #[.int .i64 0,.int .i64 0,.slice none 0 0],.bool false]∧On W0 L w
theorem rK.elim{r:Option Pk}{W0 w:World}{L:List aC}(H:rK r W0 L v w):
   (∃p a c,r=some p∧v=.tuple #[.agg #[.int .i64 p.f,.int .i64 p.t,.slice a p.bs.length c],.bool true]∧On W0 (bC (.slice a p.bs.length c) p.bs::L) w)∨
   (r=none∧v=.tuple #[.agg #[.int .i64 0,.int .i64 0,.slice none 0 0],.bool false]∧On W0 L w):=by
 cases r with
 |none=>exact .inr ⟨rfl,H⟩
 |some p=>obtain⟨a,c,h1,h2⟩:=H;exact .inl ⟨p,a,c,rfl,h1,h2⟩
theorem rK.some{p:Pk}{r:Option Pk}{W0 w:World}{L:List aC}(hr:r=some p)(hv:v=.tuple #[.agg #[.int .i64 p.f,.int .i64 p.t,.slice a p.bs.length c],.bool true])(H:On W0 (bC (.slice a p.bs.length c) p.bs::L) w):rK r W0 L v w:=by
 subst hr;exact⟨a,c,hv,H⟩
theorem rK.none{r:Option Pk}{W0 w:World}{L:List aC}(hr:r=none)(hv:v=.tuple #[.agg #[.int .i64 0,.int .i64 0,.slice none 0 0],.bool false])(H:On W0 L w):rK r W0 L v w:=by
 subst hr;exact⟨hv,H⟩
def rk(p:Pk):List Value:=[.int .i64 p.f,.int .i64 p.t,.string ⟨p.bs.toArray⟩]
def acR(T b:Nat)(m:St):aC:=Ex fun(x:Option Addr×Nat)=>Pack (m.l.length≤4096) [aX b [.int .i64 m.H,.slice x.1 m.l.length x.2,.int .i64 m.s] T,Own 3 (.slice x.1 m.l.length x.2) m.l.length (m.l.flatMap rk)]
section
variable{W0 w:World}{L:List aC}{T b:Nat}{m:St}
theorem kZ(H:On W0 (acR T b m::L) w):∃(a:Option Addr) (c:Nat),m.l.length≤4096∧On W0 (aX b [.int .i64 m.H,.slice a m.l.length c,.int .i64 m.s] T::Own 3 (.slice a m.l.length c) m.l.length (m.l.flatMap rk)::L) w:=by
 obtain⟨⟨a,c⟩,H⟩:=H.ex;obtain⟨h1,H⟩:=H.unpack;exact⟨a,c,h1,H⟩
theorem eH(h1:m.l.length≤4096)(H:On W0 (aX b [.int .i64 m.H,.slice a m.l.length c,.int .i64 m.s] T::Own 3 (.slice a m.l.length c) m.l.length (m.l.flatMap rk)::L) w):On W0 (acR T b m::L) w:=
 On.rT (a,c) (On.pack h1 H)
end
end Go.Sl.lD
namespace Go.Sl.l9
open Go Go.Sl Go.Sl.eM Go.Sl.gW Go.Sl.kM Go.Sl.pM Go.Sl.mG Go.Sl.pO Go.Sl.rH Go.Sl.pN
open Go.Sl.oB (wr)
structure Iv where
 host:Int
 id:Nat
 c:Cm
 at_:Int
structure Cp where
 host:Int
 id:Nat
 r:Rp
 at_:Int
structure Nk where
 f:Int
 t:Int
 d:Dt
inductive Mc where
 |down (s:kJ)
 |up (n:Nd)
structure Cl where
 aK:Nat
 blocks:Nat
 paths:List gQ
 n0:Mc
 n1:Mc
 jd:Jd
 lY:List Nk
 jG:Nat
 now:Int
 bQ:Nat
 inv:List Iv
 row:Ig
 out:List Cp
def Cl.node(x:Cl)(i:Nat):Mc:=if i=0 then x.n0 else x.n1
def Cl.Fi(x:Cl)(i:Nat)(m:Mc):Cl:=if i=0 then{x with n0:=m} else{x with n1:=m}
def Mc.YM:Mc→Bool| .up _=>true| .down _=>false
def JW(x:Cl)(who:Nat):Bool:=if who=x.aK then x.n0.YM else if who=x.aK+1 then x.n1.YM else decide (who<x.aK+3)
def addr(x:Cl)(who:Nat)(to:Int):Int:=
 if who<x.aK∨who=x.aK+2 then wr (x.aK+to)
 else if to=1 then wr (x.aK+1 - ((who:Int) - x.aK)) else if to=2 then x.aK+2 else wr (to - 16)
def from_(x:Cl)(who:Nat)(other:Int):Int:=
 if who<x.aK∨who=x.aK+2 then wr (other - x.aK)
 else if other<x.aK then wr (16+other) else if other=x.aK+2 then 2 else 1
def js(x:Cl)(t:Int)(d:Dt):Bool:=decide (0≤t)&&decide (t<x.aK+3)&&decide (d.len≤8192)&&decide (x.lY.length<4096)
def wL(who:Nat):List Pk→Cl→Cl
 |[],x=>x
 |p::l,x=>wL who l (if js x (addr x who p.to) p.d then{x with lY:=x.lY++[⟨who,addr x who p.to,p.d⟩],jG:=x.jG+1} else x)
def fR(c:xJ)(now:Int):Value:=.agg #[.int .i64 c.host,.int .u64 (c.id:Int),.int .i64 now]
def lZ(row:Ig)(now:Int)(c:xJ):Ig:=if(dL row.1 c.index).isSome then row else(iR row.1 c.index (fR c now) row.2,fV row.1 c.index row.2)
def after(x:Cl)(who:Nat):Option Cl:=
 if x.jG≤100000000∧who<x.aK+3 then
 if who<x.aK then match x.paths[who]? with
   |none=>none
   |some p=>if x.out.length≤1000∧p.done.length≤1000∧p.out.length≤1000 then some (wL who p.out {x with paths:=x.paths.set who {p with out:=[],done:=[]},out:=x.out++p.done.map fun d=>⟨who,d.id,d.r,x.now⟩}) else none
 else if who=x.aK+2 then if x.jd.out.length≤1000 then some (wL who x.jd.out {x with jd:={x.jd with out:=[]}}) else none
 else match x.node (who - x.aK) with
   | .down _=>none
   | .up n=>if n.out.length≤1000∧n.bD.length≤1000∧(n.bD.all fun c=>decide (c.index<uT))=true then some (wL who n.out ({x with row:=n.bD.foldl (fun r c=>lZ r x.now c) x.row}.Fi (who - x.aK) (.up {n with out:=[],bD:=[]}))) else none
 else none
def okP(p:gQ):Bool:=decide (p.l.length≤1000)&&decide (p.out.length≤100)&&decide (p.done.length≤100)&&decide (p.next<4611686018427387904)&&decide (0≤p.node)&&decide (p.node≤1)&&p.l.all fun a=>decide (a.id<4611686018427387904)&&decide (a.c.data.length≤1000)&&decide (0≤a.c.key)&&decide (a.c.key<18446744073709551616)&&decide (0≤a.c.new)&&decide (a.c.new<18446744073709551616)
def DP(x:Cl)(who:Nat):Option Cl:=
 (if who < x.aK then match x.paths[who]? with
   |none=>none
   |some p=>if okP p then some {x with paths:=x.paths.set who (Bj p)} else none
  else if who<x.aK+2 then match x.node (who - x.aK) with
   | .down _=>none
   | .up n=>(K4 n).map fun n=>x.Fi (who - x.aK) (.up n)
  else some x).bind fun x => after x who
def acT:Dt→Bool| .JC _=>true|_=>false
def hand(x:Cl)(who:Nat)(fr:Int)(b:Dt):Option Cl:=
 (if who < x.aK then match x.paths[who]? with
   |none=>none
   |some p=>if okP p=true∧b.ok=true∧acT b=true then some {x with paths:=x.paths.set who (EN p fr (JD b))} else none
  else if who=x.aK+2 then(inJ x.jd fr b).map fun j=>{x with jd:=j}
  else if who<x.aK+2 then match x.node (who - x.aK) with
   | .down _=>none
   | .up n=>(Ya n fr b).map fun n=>x.Fi (who - x.aK) (.up n)
  else none).bind fun x => after x who
def dy(x:Cl)(i:Nat):Option (Cl×Int):=match x.lY[i]? with
 |none=>some (x,6)
 | some p=>
   if 0≤p.t∧p.t<100∧p.d.len≤100000 then
     if JW x p.t.toNat then(hand {x with lY:=x.lY.eraseIdx i} p.t.toNat (from_ x p.t.toNat p.f) p.d).map fun x=>(x,0) else some ({x with lY:=x.lY.eraseIdx i},0)
   else none
def DQ:Nat→Cl→Nat→Option Cl
 |0,x,_=>some x
 |f+1,x,who=>if JW x who then(DP x who).bind fun x=>DQ f x (who+1) else DQ f x (who+1)
def HA:Nat→Cl→Option Cl
 |0,x=>none
 |f+1,x=>(dy x 0).bind fun r=>if r.2=0 then HA f r.1 else some r.1
def round(x:Cl):Option Cl:=(DQ (x.aK+3) x 0).bind fun x=>HA 2000 x
def ie:Nat→Cl→Option Cl
 |0,x=>some x
 |f+1,x=>(round x).bind fun x=>ie f x
def lu(x:Cl)(who:Nat)(c:Cm):Option (Cl×Int):=match x.paths[who]? with
 |none=>none
 |some p=>if okP p=true∧c.data.length≤1000∧0≤c.key∧c.key<18446744073709551616∧0≤c.new∧c.new<18446744073709551616∧x.inv.length≤1000 then
     if(dh p c).2.2≠0 then some (x,(dh p c).2.2)
     else(after {x with paths:=x.paths.set who (dh p c).1,inv:=x.inv++[⟨who,(dh p c).2.1,c,x.now⟩]} who).map fun x=>(x,0)
   else none
def s0:kJ:=⟨⟨1,2,0,0,0,4294967296,0⟩,3,[],10⟩
def Nv(aK blocks:Nat):Option Cl:=
 (wF 0 blocks s0 1).bind fun a=>(wF 1 blocks s0 2).bind fun b=>
 some ⟨aK,blocks,(List.range aK).map fun(i:Nat)=>⟨(i:Int),0,1,[],[],[],⟨[],0⟩⟩,.up a,.up b,⟨⟨1,0,3⟩,1,[],10⟩,[],0,0,3,[],([],0),[]⟩
def xP(x:Cl)(i:Nat):Option (Cl×Int):=match x.node i with
   | .down _=>none
   | .up n=>if n.s.cn≤900000000 then some (x.Fi i (.down n.s),0) else none
def sX(x:Cl)(i:Nat):Option (Cl×Int):=match x.node i with
   | .up _=>none
   | .down s=>if 4294967295≤x.bQ+1 then none else(wF i x.blocks s (x.bQ+1)).map fun n=>({x with bQ:=x.bQ+1}.Fi i (.up n),0)
def step(x:Cl)(f:Cl→Option (Cl×Int)):Option (Cl×Int):=if x.now<1000000 then(f {x with now:=x.now+1}).bind fun r=>if r.2=0 then some r else if 1≤r.1.now then some ({r.1 with now:=r.1.now - 1},r.2) else none else none
def qy(k:Nat)(x:Cl):Option Cl:=(step x fun x=>(ie k x).map fun x=>(x,0)).map (·.1)
def UW(x:Cl)(i:Nat):Option Cl:=if JW x (x.aK+i) then some x else(step x fun x=>sX x i).bind fun r=>if r.2=0 then some r.1 else none
def Fj(x:Cl):Option Cl:=(UW x 0).bind fun x=>UW x 1
def zP(x:Cl)(k:Nat):Option Cl:=(Fj x).bind (qy k)
def ahC:Cm:=⟨6,0,1,List.replicate 8 0++[99,104,97,110,103,101,100,33],0,0,0,false⟩
def rdC:Cm:=⟨2,0,1,[],0,0,0,false⟩
def acU(x:Cl)(i:Nat):Nat:=match x.paths[i]? with|some p=>p.l.length|none=>99
def known:Option (List Int):=do
 let x←Nv 1 4
 let(x,e)←step x fun x=>lu x 0 ⟨3,0,1,List.replicate 8 0,0,0,0,false⟩
 let n:=acU x 0
 let x←qy 400 x
 some [e,n,acU x 0,x.out.length,x.row.1.length,x.inv.length,x.now]
def dl:Nat→Nat→Cl→Option Cl
 |0,_,x=>some x
 |f+1,N,x=>(step x fun x=>dy x N).bind fun r=>(step r.1 fun x=>dy x 0).bind fun r=>dl f N r.1
def once(cY We:Nat):Option (List Int×List UInt8):=do
 let x←Nv 2 4
 let x←qy 60 x
 let(x,e)←step x fun x=>lu x 0 ahC
 let x←dl (We % 8) (We / 8) x
 let wl:=x.lY.length
 let(x,e2)←step x fun x=>xP x (cY % 2)
 let x←(if cY / 2 % 2=1 then qy 50 x else some x)
 let x←zP x 400
 let r:=x.out.find? fun d=>d.host==0&&d.id==1
 let(x,e3)←step x fun x=>lu x 1 rdC
 let x←qy 400 x
 let s:=x.out.find? fun d=>d.host==1&&d.id==1
 some ([e,e2,e3,wl,match r with|none=> -1|some d=>d.r.st,match s with|none=> -1|some d=>d.r.st,x.row.1.length,x.out.length],match s with|none=>[]|some d=>d.r.data)
end Go.Sl.l9
namespace Go.Proofs.YtcplmndikhjehaaGreat
open Go.Proofs.Tryz
open Go Go.Sl Go.Sl.eM Go.Sl.gW Go.Sl.kM Go.Sl.pe Go.Sl.pM Go.Sl.mG Go.Sl.pO Go.Sl.rH Go.Sl.pN Go.Sl.gU
open Go.Sl.oB (wr)
set_option maxHeartbeats 0
set_option maxRecDepth 8000
variable{W0 w:World}{L F:List aC}
theorem Lh{bd:Nat}{d:dA.Dk}(nj:∀k,dA.bL d k=List.replicate 512 0)(hl:Live d)(hn:d.n=354)(hc:d.calls=0)(h:On W0 (dA.aQ 109 221 bd d::L) w):Cs 20 [bd] w fun v w'=>v=.int .i64 0∧∃(d':dA.Dk) (g:ow.Rg),SI d' Go.Sl.l9.s0.hd Go.Sl.l9.s0.tn [] Go.Sl.l9.s0.es g∧d'.calls≤Go.Sl.l9.s0.cn∧On W0 (dA.aQ 109 221 bd d'::L) w':=by
 refine qO ?_;refine qC ?_ (C:=Jf nj hl hn (by omega) h);rintro _ w ⟨rfl,d1,l1,n1,c1,T1,b1,h⟩;have o1:(⟨0,1,0,0,0,4294967296,0⟩:Hd).ok:=⟨by decide,by decide,by decide,by decide,by decide,by decide,by decide⟩;have J1:JI d1 4294967296 0 1 []:=JI.blank fun q hq=>b1 _ (by omega);have F1:=SI.first (d2:=(gU.ff d1 0 1 (mG.cK {(⟨0,1,0,0,0,4294967296,0⟩:Hd) with aJ:=(⟨0,1,0,0,0,4294967296,0⟩:Hd).aJ+1})).2) l1 n1 o1 (by decide) rfl rfl T1 (by decide) b1 rfl;refine qE ?_;refine WL.e (ag call39 (Gn (snap:=[]) (es:=[]) T1 o1 (by decide) rfl (fun i hi=>by simp at hi) J1 (by decide) (fun j e he=>by simp at he) n1 (by decide) (by decide) (by decide) (by decide) (by omega) h)) ?_;rintro _ w ⟨bs,bt,br,rfl,h⟩;have h:=SM F1.1 (by rw[F1.2,c1,hc];decide) (show On W0 (gA 152 bs bd bt br (⟨⟨0,2,0,0,0,4294967296,0⟩,2,[],5⟩:kJ).hd [] (⟨⟨0,2,0,0,0,4294967296,0⟩,2,[],5⟩:kJ).es::dM 204 bt bd 0 (⟨⟨0,2,0,0,0,4294967296,0⟩,2,[],5⟩:kJ).tn (mG.cK (⟨⟨0,2,0,0,0,4294967296,0⟩,2,[],5⟩:kJ).hd)::ow.dz 311 br bd (ow.tD 98 256 (⟨0,1,0,0,0,4294967296,0⟩:Hd).first (⟨0,1,0,0,0,4294967296,0⟩:Hd).place ((⟨0,1,0,0,0,4294967296,0⟩:Hd).aJ+1))::dA.aQ 109 221 bd (gU.ff d1 0 1 (mG.cK {(⟨0,1,0,0,0,4294967296,0⟩:Hd) with aJ:=(⟨0,1,0,0,0,4294967296,0⟩:Hd).aJ+1})).2::L) w from h);refine qE ?_;refine WL.e (ag call40 (E2 (bd:=bd) (s':=⟨⟨1,2,0,0,0,4294967296,0⟩,3,[],7⟩) rfl (by decide) h)) ?_;rintro _ w ⟨rfl,h⟩;have aA:=SL h;obtain⟨bt,br,g2,d2,⟨hS,H6⟩,h⟩:=aA;have ZI:d2.calls≤((7:Nat):Int):=H6;refine qR ?_;exact⟨rfl,d2,g2,hS,(by show d2.calls≤((10:Nat):Int);omega),h.to⟩
end Go.Proofs.YtcplmndikhjehaaGreat
namespace Go.Proofs.YtcplmndikhjehaaGreat
open Go Go.Sl Go.Sl.eM Go.Sl.dA Go.Sl.gU Go.Sl.pe
set_option maxHeartbeats 0
set_option maxRecDepth 8000
variable{b e m n p:Nat}
variable{W0 w:World}{L F:List aC}
theorem Cv{d:Dk}(hr:bK (p:Int) (m:Int))(he:e<18446744073709551616)(hl:Live d)(hi:zb d 0)(gH:d.rM 3)(hn:0≤d.n)(h:On W0 (aQ 109 221 b d::L) w):Cs 21 [b,.agg #[.int .u64 (e:Int),.int .i64 (p:Int),.int .i64 (m:Int)]] w fun v w'=>v=.int .i64 0∧∃d',vN d' 0 1 (dw e p m)∧d'.n=d.n∧d'.calls=d.calls+3∧On W0 (aQ 109 221 b d'::L) w':=(JJ hr he gH hn h).mono fun e_ w' he=>by
 obtain⟨v,he,hv⟩:=he;refine⟨v,he, ?_⟩;obtain⟨hv,h⟩:=hv;have za:(dw e p m).length≤488:=by rw[eG];decide
 obtain⟨e1,_,e2,e3,_⟩:=sC hl hi za;rw[e1] at hv;exact⟨hv,_,vN.format hl hi za,e2,e3,h⟩
theorem Nw{bw bt:Nat}{x e2 p2 m2:Nat}{d:Dk}(hx:x+1<18446744073709551616)(hm:(e=x∧bK (p2:Int) (m2:Int)∧e2=x+1))(I:vN d 0 n (dw e p m))(gH:d.rM 2)(zD:n+1<256^8)(h:On W0 (aX bw [bt,.int .u64 (e:Int),.int .i64 (p:Int),.int .i64 (m:Int)] 225::dM 204 bt b 0 n (dw e p m)::aQ 109 221 b d::L) w):Cs 197 [bw,.int .u64 (x:Int),.agg #[.int .u64 (e2:Int),.int .i64 (p2:Int),.int .i64 (m2:Int)]] w fun v w'=>v=.tuple #[.agg #[.int .u64 (e2:Int),.int .i64 (p2:Int),.int .i64 (m2:Int)],.bool true,.int .i64 0]∧∃d',vN d' 0 (n+1) (dw e2 p2 m2)∧d'.n=d.n∧d'.calls=d.calls+2∧On W0 (aX bw [bt,.int .u64 (e2:Int),.int .i64 (p2:Int),.int .i64 (m2:Int)] 225::dM 204 bt b 0 (n+1) (dw e2 p2 m2)::aQ 109 221 b d'::L) w':=(X8 hx hm gH zD h).mono fun e_ w' he=>by
 obtain⟨v,he,hv⟩:=he;refine⟨v,he, ?_⟩;have za:(dw e2 p2 m2).length≤488:=by rw[eG];decide
 obtain⟨e1,_,e2,e3,_⟩:=AH (number:=n) I.live I.AJ za;rcases hv with⟨_,hv,h⟩|⟨dX,_,_⟩
 · exact⟨hv,_,I.put zD za,e2,e3,h⟩
 exact absurd e1 dX
theorem HB{d:Dk}(I:vN d 0 n (dw e p m))(hr:bK (p:Int) (m:Int))(he:e<18446744073709551616)(hn:0≤d.n)(h:On W0 (aQ 109 221 b d::L) w):Cs 79 [.pointer (some ⟨b,0,none⟩)] w fun v w'=>∃bw bt,v=.tuple #[.pointer (some ⟨bw,0,none⟩),.int .i64 0]∧On W0 (aX bw [.pointer (some ⟨bt,0,none⟩),.int .u64 (e:Int),.int .i64 (p:Int),.int .i64 (m:Int)] 225::dM 204 bt b 0 n (dw e p m)::aQ 109 221 b d::L) w':=(Qp I.opens hr he hn h).mono fun e_ w' he=>by
 obtain⟨v,he,hv⟩:=he;refine⟨v,he, ?_⟩;exact hv
theorem UX{bw bt:Nat}{x e2 p2 m2:Nat}{d:Dk}(hx:x+1<18446744073709551616)(I:vN d 0 n (dw e p m))(gH:d.rM 2)(zD:n+1<256^8)(h:On W0 (aX bw [bt,.int .u64 (e:Int),.int .i64 (p:Int),.int .i64 (m:Int)] 225::dM 204 bt b 0 n (dw e p m)::aQ 109 221 b d::L) w):Cs 197 [bw,.int .u64 (x:Int),.agg #[.int .u64 (e2:Int),.int .i64 (p2:Int),.int .i64 (m2:Int)]] w fun v w'=>((e=x∧bK (p2:Int) (m2:Int)∧e2=x+1)∧v=.tuple #[.agg #[.int .u64 (e2:Int),.int .i64 (p2:Int),.int .i64 (m2:Int)],.bool true,.int .i64 0]∧∃d',vN d' 0 (n+1) (dw e2 p2 m2)∧d'.n=d.n∧d'.calls=d.calls+2∧On W0 (aX bw [bt,.int .u64 (e2:Int),.int .i64 (p2:Int),.int .i64 (m2:Int)] 225::dM 204 bt b 0 (n+1) (dw e2 p2 m2)::aQ 109 221 b d'::L) w')∨(¬(e=x∧bK (p2:Int) (m2:Int)∧e2=x+1)∧v=.tuple #[.agg #[.int .u64 (e:Int),.int .i64 (p:Int),.int .i64 (m:Int)],.bool false,.int .i64 0]∧On W0 (aX bw [bt,.int .u64 (e:Int),.int .i64 (p:Int),.int .i64 (m:Int)] 225::dM 204 bt b 0 n (dw e p m)::aQ 109 221 b d::L) w'):=by
 by_cases hm:(e=x∧bK (p2:Int) (m2:Int)∧e2=x+1)
 · refine(Nw hx hm I gH zD h).mono fun e_ w' he=> ?_
   obtain⟨v,he,hv⟩:=he;exact⟨v,he,.inl ⟨hm,hv⟩⟩
 refine(X7 hx hm h).mono fun e_ w' he=> ?_;obtain⟨v,he,hv⟩:=he;exact⟨v,he,.inr ⟨hm,hv⟩⟩
end Go.Proofs.YtcplmndikhjehaaGreat
namespace Go.Proofs.YtcplmndikhjehaaGreat
open Go.Proofs.Tryz
open Go Go.Sl Go.Sl.eM Go.Sl.gW Go.Sl.kM Go.Sl.pe Go.Sl.pM Go.Sl.mG Go.Sl.pO Go.Sl.rH Go.Sl.pN Go.Sl.gU
open Go.Sl.oB (wr)
set_option maxHeartbeats 0
set_option maxRecDepth 8000
variable{B:List UInt8}{a0:Option Addr}{b bd bw c0:Nat}{fr:Int}
variable{W0 w:World}{L F:List aC}
structure Z9 where
 r:Ci
 tn:Nat
 cn:Nat
def Nx(x:Z9)(d:dA.Dk):Prop:=vN d 0 x.tn (dw x.r.e x.r.p x.r.m)∧d.calls≤x.cn∧0≤d.n∧x.r.e<18446744073709551616∧bK (x.r.p:Int) (x.r.m:Int)
abbrev N3 (bd : Nat) : Kd := ⟨Z9, fun v x => Ex fun (y : Nat × Nat × dA.Dk) => Pack (v = .pointer (some ⟨y.1, 0, none⟩) ∧ Nx x y.2.2)
 [aX y.1 [y.2.1, .int .u64 (x.r.e : Int), .int .i64 (x.r.p : Int), .int .i64 (x.r.m : Int)] 225, dM 204 y.2.1 bd 0 x.tn (dw x.r.e x.r.p x.r.m), dA.aQ 109 221 bd y.2.2]⟩
def yM(b bd:Nat)(aa:aE)(j:Jd):aC:=Ex fun(y:Option Addr×Nat×Nat)=>Pack True [aX b [y.2.2,.slice y.1 j.out.length y.2.1,.bool false] 166,At (yI aa) (.slice y.1 j.out.length y.2.1) j.out,At (N3 bd) y.2.2 ⟨j.r,j.tn,j.cn⟩]
theorem jdO{aa:aE}{j:Jd}(H:On W0 (yM b bd aa j::L) w):∃(oa:Option Addr) (oc bw:Nat),On W0 (aX b [bw,.slice oa j.out.length oc,.bool false] 166::At (yI aa) (.slice oa j.out.length oc) j.out::At (N3 bd) bw ⟨j.r,j.tn,j.cn⟩::L) w:=by
 obtain⟨⟨oa,oc,bw⟩,H⟩:=H.ex;obtain⟨_,H⟩:=H.unpack;exact⟨oa,oc,bw,H⟩
theorem YN{aa:aE}{j:Jd}{oa:Option Addr}{oc:Nat}(H:On W0 (aX b [bw,.slice oa j.out.length oc,.bool false] 166::At (yI aa) (.slice oa j.out.length oc) j.out::At (N3 bd) bw ⟨j.r,j.tn,j.cn⟩::L) w):On W0 (yM b bd aa j::L) w:=
 On.rT (oa,oc,bw) (On.pack trivial H)
theorem HC{b bd:Nat}{p q:aE}{j:Jd}(k:cI p q)(h:Hp)(H:yM b bd p j h):yM b bd q j h:=by
 obtain⟨y,h1,s⟩:=H;exact⟨y,h1,s.aI fun _ s=>s.imp (E4 k)⟩
instance(priority:=100) aeK {b bd:Nat} {p q:aE} {j:Jd} {L':List aC} [s:xN p q L L']:xN p q (yM b bd p j::L) (yM b bd q j::L'):=⟨fun k _ H=>(H.aI (s.h k)).imp (HC k)⟩
theorem wtO{x:Z9}(H:On W0 (At (N3 bd) bw x::L) w):∃(bt:Nat) (d:dA.Dk),Nx x d∧On W0 (aX bw [bt,.int .u64 (x.r.e:Int),.int .i64 (x.r.p:Int),.int .i64 (x.r.m:Int)] 225::dM 204 bt bd 0 x.tn (dw x.r.e x.r.p x.r.m)::dA.aQ 109 221 bd d::L) w:=by
 obtain⟨⟨bw',bt,d⟩,H⟩:=H.ex;obtain⟨⟨h1,h2⟩,H⟩:=H.unpack;simp only[Value.pointer.injEq,Option.some.injEq,Addr.mk.injEq,and_true] at h1;subst h1;exact⟨bt,d,h2,H⟩
theorem wtC{bt:Nat}{x:Z9}{d:dA.Dk}(h2:Nx x d)(H:On W0 (aX bw [bt,.int .u64 (x.r.e:Int),.int .i64 (x.r.p:Int),.int .i64 (x.r.m:Int)] 225::dM 204 bt bd 0 x.tn (dw x.r.e x.r.p x.r.m)::dA.aQ 109 221 bd d::L) w):On W0 (At (N3 bd) bw x::L) w:=
 On.rT (bw,bt,d) (On.pack ⟨rfl,h2⟩ H)
theorem acX{x:Z9}{d:dA.Dk}{aa:aE}(hx:Nx x d)(h:On W0 (dA.aQ 109 221 bd d::L) w):Cs 44 [bd] w fun v w'=>∃b,v=.tuple #[.pointer (some ⟨b,0,none⟩),.int .i64 0]∧On W0 (yM b bd aa ⟨x.r,x.tn,[],x.cn⟩::L) w':=by
 refine qO ?_;refine qC ?_ (C:=HB hx.1 hx.2.2.2.2 hx.2.2.2.1 hx.2.2.1 h);rintro _ w ⟨bw,bt,rfl,h⟩;have h:=wtC hx h;refine qE ?_;refine gb fun VQ w h=> ?_;refine qR ?_;have h:On W0 (Own 2 (.slice none ([]:List (Pk×Value)).length 0) ([]:List (Pk×Value)).length (([]:List (Pk×Value)).flatMap mW)::_) w:=h.bB 2 none;have h:On W0 (At (yI aa) (.slice none 0 0) []::_) w:=JL rfl fG rfl h;exact⟨VQ,rfl,YN (oa:=none) (oc:=0) (bw:=bw) h.to⟩
theorem ahE{aa:aE}{j:Jd}(h:On W0 (yM b bd aa j::L) w):Cs 136 [b] w fun v w'=>∃(xo:List (Pk×Value)) (a:Option Addr),v=.slice a xo.length xo.length∧xo.map (·.1)=j.out∧cW aa (·.data) xo∧On W0 (Own 2 (.slice a xo.length xo.length) xo.length (xo.flatMap mW)::yM b bd aa {j with out:=[]}::L) w':=by
 refine qO ?_;have aA:=jdO h;obtain⟨oa,oc,bw,h⟩:=aA;have aA:=UT (iW (k:=yI aa) (v:=.slice oa j.out.length oc) h);obtain⟨xo,oa1,oc1,he,⟨gy,uW⟩,h⟩:=aA;simp only[Value.slice.injEq] at he;obtain⟨rfl,hle,rfl⟩:=he;rw[hle] at h;refine qC ?_ (C:=EO h.g);rintro _ w ⟨rfl,h⟩;refine gs fun w h _=> ?_;refine qR ?_;have h:On W0 (Own 2 (.slice none ([]:List (Pk×Value)).length 0) ([]:List (Pk×Value)).length (([]:List (Pk×Value)).flatMap mW)::_) w:=h.bB 2 none;have h:=JL (aa:=aa) (l:=[]) rfl fG rfl h;have h:=YN (b:=b) (bd:=bd) (aa:=aa) (j:={j with out:=[]}) (oa:=none) (oc:=0) (bw:=bw) (L:=Own 2 (.slice oa xo.length xo.length) xo.length (xo.flatMap mW)::L) h.to;exact⟨xo,oa,rfl,gy,uW,h.to⟩
theorem YO{aa:aE}{j j2:Jd}{Xq:List UInt8}(hf0:¬fr<0)(hf1:¬1<fr)(nj:B.length≤1000000)(hm:Br j fr=some j2)(hX:Xq=[3])(hB:B=dR ([3]))(C:aB L (Bytes (.slice a0 B.length c0) B))(h:On W0 (yM b bd aa j::aY aa::L) w):Cs 129 [b,.int .i64 fr,.slice a0 B.length c0] w fun v w'=>∃aN,cI aa aN∧On W0 (yM b bd aN j2::aY aN::L) w':=by
 refine qO ?_;have Nt:gp B=Xq:=by rw[hB,hX];exact kf _
 have Yz:(eX B).2=0:=by rw[hB];exact jr _
 have ZS:Xq.length=1:=by rw[hX];rfl
 have vu:Xq[0]? =some 3:=by rw[hX];rfl
 have aA:=jdO h;obtain⟨oa,oc,bw,h⟩:=aA;refine qC ?_ (C:=lU h (aB.to C) nj);rintro v17 w ⟨I5,tq,hv,h⟩;rw[Nt,Yz] at hv;rw[Nt] at h;subst hv;have yg:=Cells.bounds (h.aR (v:=.slice I5 Xq.length tq));have aA:=Cells.addr (h.aR (v:=.slice I5 Xq.length tq)) (by omega);obtain⟨xb,YP,YA⟩:=aA;subst YA;have CX:aB [bC (.slice (some ⟨xb,YP,none⟩) Xq.length tq) Xq] (Bytes (.slice (some ⟨xb,YP,none⟩) Xq.length tq) Xq):=aB.cF;refine go ?_;refine WL.v (bY rfl rfl rfl) ?_;refine qN ?_;refine WL.v (iE rfl rfl (by omega)) ?_;refine qN ?_;refine WL.v (dB rfl rfl (by omega)) ?_;refine qN ?_;refine WL.v (eV rfl rfl (by omega)) ?_;refine WL.pf ?_;refine go ?_;refine W.cs ?_;refine W.cut (fun env w=>∃(j:Env) (j3:Jd),Br j3 fr=some j2∧env=eu j [(0,b),(1,.int .i64 fr)]∧On W0 (yM b bd aa j3::aY aa::L) w) ?_ ?_
 · refine qD ?_;refine WL.l isAgg5 rfl ((h.aR (v:=.slice (some ⟨xb,YP,none⟩) Xq.length tq)).elem (i:=0) (vs:=[.int .u8 (((3:UInt8).toNat:Nat):Int)]) (by omega) (dJ vu) 0 _ rfl) ?_;refine go ?_;refine WL.v (gL rfl rfl rfl) ?_;refine qN ?_;refine WL.v (bY rfl rfl (by omega)) ?_;refine go ?_;refine W.cs ?_;exact⟨_,j,hm,aD ⟨rfl,rfl,trivial⟩,YN (oa:=oa) (oc:=oc) (bw:=bw) h.to⟩
 clear h hm;rintro env w ⟨jj,j3,hm,rfl,h⟩;have aA:=jdO h.g;obtain⟨oa,oc,bw,h⟩:=aA;have aA:=UT (iW (k:=yI aa) (v:=.slice oa j3.out.length oc) h);obtain⟨xo,oa1,oc1,he,⟨gy,uW⟩,h⟩:=aA;simp only[Value.slice.injEq] at he;obtain⟨rfl,hle,rfl⟩:=he;rw[hle] at h;have aA:=wtO (iW (k:=N3 bd) (v:=.pointer (some ⟨bw,0,none⟩)) h);obtain⟨bt,d3,WC,h⟩:=aA;have YQ:=WC;obtain⟨_,_,_,hwe,OS⟩:=YQ
 have hwp:j3.r.p<256∧j3.r.m<256:=by
   unfold bK at OS;simp only at OS;omega
 have fH:=aG;have dI:=iZ hm;clear hm;obtain⟨r7,hm⟩:=dI;have aA:=Option.some.inj hm;obtain rfl:=aA;clear hm;refine qT fun w h=> ?_;refine WT.l 9 rfl isAgg162 rfl (h.aS rfl) ?_;refine WT.e 10 [false,true] rfl (ag call199 (KX h)) ?_;rintro _ w ⟨rfl,h⟩;refine qW ?_;refine WT.e 11 [true] rfl (ag call198 (wm hwe hwp.1 hwp.2 h)) ?_;rintro v93 w ⟨Fk,hv,h⟩;have aA:∃Q,Q=zj j3.r.e j3.r.p j3.r.m:=⟨_,rfl⟩;obtain⟨Q9,YR⟩:=aA;rw[←YR] at hv h;subst hv;refine qW ?_;refine WT.p 12 rfl (fun w'=>(aP (pl:=[(0,1),(1,1)]) (out:=[.int .i64 _,.slice _ _ _]) underlying256 zeroValue256 (fun w=>by kernel_rfl) rfl fz rfl)) ?_;refine WT.e 13 [true] rfl (aZ (zl:=[.int .i64 0,.slice none 0 0]) (out:=[.int .i64 _,.slice _ _ _]) h underlying100 sizeOf256 zeroValue256 (by decide) (by kernel_rfl) rfl rfl (by simp) fz rfl rfl (by simp[maxLen])) ?_;rintro _ w ⟨b95,rfl,h⟩;refine qW ?_;refine WT.e 14 [false] rfl (bU (bytes:=32) h.g rfl rfl (h.aR) underlying100 rfl rfl rfl rfl rfl (by omega) (by omega) (by simp[Value.oneCell'])) ?_;rintro _ w ⟨a96,c96,rfl,h⟩;refine⟨trivial, ?_⟩;refine qU ?_;refine WT.e 17 [] rfl (bI (v:=.slice _ _ _) h sizeOf100 rfl rfl rfl rfl rfl) ?_;rintro _ w h
 try simp only[Nat.zero_add,Nat.add_zero,List.set_cons_zero,List.set_cons_succ] at h
 refine⟨trivial, ?_⟩;refine WT.dn (bf.yW (bf.r0 results129 ?_));have h:=wtC WC (((h.aj (dA.aQ 109 221 bd d3)).aj (dM 204 bt bd 0 j3.tn (dw j3.r.e j3.r.p j3.r.m))).aj (aX bw [bt,.int .u64 (j3.r.e:Int),.int .i64 (j3.r.p:Int),.int .i64 (j3.r.m:Int)] 225));have h:=grow (h.aj (bC (.slice Fk Q9.length Q9.length) Q9));have h:=h.aj (Own 2 (.slice a96 (xo.length+1) c96) (xo.length+1) (xo.flatMap mW++[.int .i64 fr,.slice Fk Q9.length Q9.length]));rw[show xo.flatMap mW++[.int .i64 fr,.slice Fk Q9.length Q9.length]=(xo++[((⟨fr,.iB j3.r.e j3.r.p j3.r.m⟩:Pk),(.slice Fk Q9.length Q9.length:Value))]).flatMap mW by simp[mW]] at h;rw[show xo.length+1=(j3.out++[(⟨fr,.iB j3.r.e j3.r.p j3.r.m⟩:Pk)]).length by rw[List.length_append,hle];rfl] at h;have h:=JL (aa:=((.slice Fk Q9.length Q9.length:Value),Q9)::aa) (by rw[List.map_append,gy];rfl) ((uW.mono fun _ h=>List.mem_cons_of_mem _ h).snoc ⟨.inl (by show _∈_;rw[YR];exact List.mem_cons_self ..),Fk,Q9.length,by rw[YR];rfl⟩) rfl h;exact⟨((.slice Fk Q9.length Q9.length:Value),Q9)::aa,cI.cons,(YN (b:=b) (bd:=bd) (aa:=((.slice Fk Q9.length Q9.length:Value),Q9)::aa) (j:={j3 with out:=j3.out++[⟨fr,.iB j3.r.e j3.r.p j3.r.m⟩]}) (oa:=a96) (oc:=c96) (bw:=bw) (L:=aY (((.slice Fk Q9.length Q9.length:Value),Q9)::aa)::L) h.to).to⟩
theorem ac1{aa:aE}{j:Jd}{oa:Option Addr}{oc:Nat}{c:Bool}{r2:Ci}(H:On W0 (aX b [bw,.slice oa j.out.length oc,.bool false] 166::At (yI aa) (.slice oa j.out.length oc) j.out::At (N3 bd) bw (if c then⟨r2,j.tn+1,j.cn+2⟩ else⟨j.r,j.tn,j.cn⟩)::L) w):On W0 (yM b bd aa (if c then{j with r:=r2,tn:=j.tn+1,cn:=j.cn+2} else j)::L) w:=by
 cases c
 · exact YN H
 exact YN H
theorem ac2{tn cn x e p m:Nat}{r:Ci}(hx:x+1<18446744073709551616)(Je:tn+1<18446744073709551616)(S6:cn≤900000000)(yX:bK (p:Int) (m:Int))(hee:e<18446744073709551616)(h:On W0 (At (N3 bd) bw ⟨r,tn,cn⟩::L) w):
   Cs 197 [bw,.int .u64 (x:Int),.agg #[.int .u64 (e:Int),.int .i64 (p:Int),.int .i64 (m:Int)]] w fun v w'=>∃(e3 p3 m3:Nat),v=.tuple #[.agg #[.int .u64 (e3:Int),.int .i64 (p3:Int),.int .i64 (m3:Int)],.bool (G7 r x ⟨e,p,m⟩),.int .i64 0]∧On W0 (At (N3 bd) bw (if G7 r x ⟨e,p,m⟩ then⟨⟨e,p,m⟩,tn+1,cn+2⟩ else⟨r,tn,cn⟩)::L) w':=by
 obtain⟨bt,d,⟨I,H8,MC,hje,hjr⟩,h⟩:=wtO h;have H8:d.calls≤(cn:Int):=H8;refine(UX hx I ⟨by omega,by rw[I.live.cJ];decide⟩ Je h).mono fun y w' he=> ?_;obtain⟨v,he,hv⟩:=he;refine⟨v,he, ?_⟩;rcases hv with⟨⟨h1,_,h3⟩,hv,d',I',Qh,WG,h⟩|⟨dX,hv,h⟩
 · have em:G7 r x ⟨e,p,m⟩=true:=by unfold G7;rw[decide_eq_true h1,decide_eq_true h3];rfl
   rw[em];exact⟨e,p,m,hv,wtC ⟨I',by rw[WG];show _≤((cn+2:Nat):Int);omega,by rw[Qh];exact MC,hee,yX⟩ h⟩
 have em:G7 r x ⟨e,p,m⟩=false:=by
   unfold G7;rw[Bool.and_eq_false_iff,decide_eq_false_iff_not,decide_eq_false_iff_not];by_cases h1:r.e=x
   · exact .inr fun h3=>dX ⟨h1,yX,h3⟩
   exact .inl h1
 rw[em];exact⟨r.e,r.p,r.m,hv,wtC ⟨I,H8,MC,hje,hjr⟩ h⟩
theorem YS{aa:aE}{j j2:Jd}{Xq:List UInt8}(hf0:¬fr<0)(hf1:¬1<fr)(nj:B.length≤1000000){x e p m:Nat}(hd:Dt.ok (.Uj x e p m)=true)(KT:x+1<18446744073709551616)(Je:j.tn+1<18446744073709551616)(S6:j.cn≤900000000)(hm:Br (if G7 j.r x ⟨e,p,m⟩ then{j with r:=⟨e,p,m⟩,tn:=j.tn+1,cn:=j.cn+2} else j) fr=some j2)(hX:Xq=[4]++be x 8++dw e p m)(hB:B=dR ([4]++be x 8++dw e p m))(C:aB L (Bytes (.slice a0 B.length c0) B))(h:On W0 (yM b bd aa j::aY aa::L) w):Cs 129 [b,.int .i64 fr,.slice a0 B.length c0] w fun v w'=>∃aN,cI aa aN∧On W0 (yM b bd aN j2::aY aN::L) w':=by
 refine qO ?_;have Nt:gp B=Xq:=by rw[hB,hX];exact kf _
 have Yz:(eX B).2=0:=by rw[hB];exact jr _
 have hd:(decide (x<uT)&&GN e p m)=true:=hd;simp only[GN,Bool.and_eq_true,Bool.or_eq_true,decide_eq_true_eq] at hd;obtain⟨hxm,hem,Sy⟩:=hd;have hee:e<256^8:=hem;have N1:p<256:=by omega
 have H7:m<256:=by omega
 have yX:bK (p:Int) (m:Int):=by unfold bK;omega
 have ZS:Xq.length=19:=by rw[hX];simp[aT,eG]
 have vu:Xq[0]? =some 4:=by rw[hX];rfl
 have ahI:uJ ((Xq.drop (1:Int).toNat).take (8:Int).toNat)=x:=by
   have e1:(Xq.drop 1).take 8=be x 8:=by rw[hX,List.append_assoc];exact List.take_left' (aT x 8)
   show uJ ((Xq.drop 1).take 8)=x;rw[e1,sw hxm]
 have hx9:Xq.drop 9=dw e p m:=by rw[hX];exact List.drop_left' (by rw[List.length_append,aT];rfl)
 have hel:=eG e p m;have aA:=jdO h;obtain⟨oa,oc,bw,h⟩:=aA;refine qC ?_ (C:=lU h (aB.to C) nj);rintro v17 w ⟨I5,tq,hv,h⟩;rw[Nt,Yz] at hv;rw[Nt] at h;subst hv;have yg:=Cells.bounds (h.aR (v:=.slice I5 Xq.length tq));have aA:=Cells.addr (h.aR (v:=.slice I5 Xq.length tq)) (by omega);obtain⟨xb,YP,YA⟩:=aA;subst YA;have CX:aB [bC (.slice (some ⟨xb,YP,none⟩) Xq.length tq) Xq] (Bytes (.slice (some ⟨xb,YP,none⟩) Xq.length tq) Xq):=aB.cF;refine go ?_;refine WL.v (bY rfl rfl rfl) ?_;refine qN ?_;refine WL.v (iE rfl rfl (by omega)) ?_;refine qN ?_;refine WL.v (dB rfl rfl (by omega)) ?_;refine qN ?_;refine WL.v (eV rfl rfl (by omega)) ?_;refine WL.pf ?_;refine go ?_;refine W.cs ?_;refine W.cut (fun env w=>∃(j:Env) (j3:Jd),Br j3 fr=some j2∧env=eu j [(0,b),(1,.int .i64 fr)]∧On W0 (yM b bd aa j3::aY aa::L) w) ?_ ?_
 ·
  refine qD ?_;refine WL.l isAgg5 rfl ((h.aR (v:=.slice (some ⟨xb,YP,none⟩) Xq.length tq)).elem (i:=0) (vs:=[.int .u8 (((4:UInt8).toNat:Nat):Int)]) (by omega) (dJ vu) 0 _ rfl) ?_;refine go ?_;refine WL.v (iE rfl rfl (by decide)) ?_;refine qN ?_;refine WL.v (gL rfl rfl rfl) ?_;refine qC ?_ (C:=jS h CX.to);rintro _ w hg;rcases hg with⟨_,hv,h⟩|⟨dX,_,_⟩;rotate_left
  · exact absurd (show _ by omega) dX
  rw[ahI] at hv;subst hv;refine go ?_;refine WL.v (cQ rfl) ?_;refine go ?_;refine W.cs ?_;refine W.seq ?_;have aA:=lR (k:=9) CX (by omega) yg.1;obtain⟨a1,c1,eY,C1⟩:=aA;rw[hx9] at eY C1;refine go ?_;refine WL.v (iP (n:=Xq.length) (l:=9) underlying28 sizeOf5 rfl rfl (by omega) eY) ?_;refine WL.e (ag call119 (xH h (aB.to C1))) ?_;rintro _ w hg;rcases hg with⟨_,hv,h⟩|⟨dX,_,_⟩;rotate_left
  · exact absurd ⟨hel,by rw[KA N1,KB H7];exact yX⟩ dX
  rw[Es hee,KA N1,KB H7] at hv;subst hv;refine gb fun Ib w h=> ?_;refine gs fun w h _=> ?_;refine go ?_;refine WL.v (bY rfl rfl rfl) ?_;refine go ?_;refine W.cs ?_;refine W.cut (fun env w=>∃(jj:Env) (j3:Jd),Br j3 fr=some j2∧env=eu jj [(0,b),(1,.int .i64 fr),(14,.int .i64 0)]∧On W0 (yM b bd aa j3::aY aa::L) w) ?_ ?_
  ·
   refine qT fun w h=> ?_;refine WT.l 3 rfl isAgg162 rfl (h.aS rfl) ?_;refine WT.m 4 rfl ?_;refine WT.gF (vs:=[.int .u64 _,.int .i64 _,.int .i64 _]) 5 rfl (by kernel_rfl) isAgg71 sizeOf71 rfl rfl (h.fR (n:=3) rfl) rfl rfl ?_;refine WT.two 6 11 (by kernel_rfl) ?_ ?_
   · refine WT.ju 6 [false,false] rfl (by kernel_rfl) (ag call197 (ac2 KT Je S6 yX hem (h.aj (At (N3 bd) bw ⟨j.r,j.tn,j.cn⟩)))) rfl rfl ?_;rintro _ w ⟨e3,p3,m3,rfl,h⟩;refine⟨trivial, ?_⟩;refine qU ?_;refine WT.e 11 [] rfl (bR h zeroValue71 rfl) ?_;rintro _ w ⟨Gq,rfl,h⟩;refine⟨trivial, ?_⟩;refine WT.e 12 [] rfl (bA h sizeOf71 rfl rfl rfl rfl rfl) ?_;rintro _ w h;refine⟨trivial, ?_⟩;refine qU ?_;exact⟨_,_,hm,aD ⟨rfl,rfl,rfl,trivial⟩,ac1 (oa:=oa) (oc:=oc) (bw:=bw) h.to⟩
   refine WT.ju 11 [true,true] rfl (by kernel_rfl) (bR h zeroValue71 rfl) rfl rfl ?_;rintro _ w ⟨Gq,rfl,h⟩;refine⟨⟨(h.fR (n:=3) rfl),h.aS rfl,trivial⟩, ?_⟩;refine WT.e 6 [false,false] rfl (ag call197 (ac2 KT Je S6 yX hem (h.aj (At (N3 bd) bw ⟨j.r,j.tn,j.cn⟩)))) ?_;rintro _ w ⟨e3,p3,m3,rfl,h⟩;refine⟨trivial, ?_⟩;refine qU ?_;refine WT.e 12 [] rfl (bA h sizeOf71 rfl rfl rfl rfl rfl) ?_;rintro _ w h;refine⟨trivial, ?_⟩;refine qU ?_;exact⟨_,_,hm,aD ⟨rfl,rfl,rfl,trivial⟩,ac1 (oa:=oa) (oc:=oc) (bw:=bw) h.to⟩
  clear h hm;rintro env w ⟨jj,j3,hm,rfl,h⟩;refine go ?_;refine WL.v (bY rfl rfl rfl) ?_;refine go ?_;refine W.cs ?_;exact⟨_,j3,hm,aD ⟨rfl,rfl,trivial⟩,h⟩
 clear h hm;rintro env w ⟨jj,j3,hm,rfl,h⟩;have aA:=jdO h.g;obtain⟨oa,oc,bw,h⟩:=aA;have aA:=UT (iW (k:=yI aa) (v:=.slice oa j3.out.length oc) h);obtain⟨xo,oa1,oc1,he,⟨gy,uW⟩,h⟩:=aA;simp only[Value.slice.injEq] at he;obtain⟨rfl,hle,rfl⟩:=he;rw[hle] at h;have aA:=wtO (iW (k:=N3 bd) (v:=.pointer (some ⟨bw,0,none⟩)) h);obtain⟨bt,d3,WC,h⟩:=aA;have YQ:=WC;obtain⟨_,_,_,hwe,OS⟩:=YQ
 have hwp:j3.r.p<256∧j3.r.m<256:=by
   unfold bK at OS;simp only at OS;omega
 have fH:=aG;have dI:=iZ hm;clear hm;obtain⟨r7,hm⟩:=dI;have aA:=Option.some.inj hm;obtain rfl:=aA;clear hm;refine qT fun w h=> ?_;refine WT.l 9 rfl isAgg162 rfl (h.aS rfl) ?_;refine WT.e 10 [false,true] rfl (ag call199 (KX h)) ?_;rintro _ w ⟨rfl,h⟩;refine qW ?_;refine WT.e 11 [true] rfl (ag call198 (wm hwe hwp.1 hwp.2 h)) ?_;rintro v93 w ⟨Fk,hv,h⟩;have aA:∃Q,Q=zj j3.r.e j3.r.p j3.r.m:=⟨_,rfl⟩;obtain⟨Q9,YR⟩:=aA;rw[←YR] at hv h;subst hv;refine qW ?_;refine WT.p 12 rfl (fun w'=>(aP (pl:=[(0,1),(1,1)]) (out:=[.int .i64 _,.slice _ _ _]) underlying256 zeroValue256 (fun w=>by kernel_rfl) rfl fz rfl)) ?_;refine WT.e 13 [true] rfl (aZ (zl:=[.int .i64 0,.slice none 0 0]) (out:=[.int .i64 _,.slice _ _ _]) h underlying100 sizeOf256 zeroValue256 (by decide) (by kernel_rfl) rfl rfl (by simp) fz rfl rfl (by simp[maxLen])) ?_;rintro _ w ⟨b95,rfl,h⟩;refine qW ?_;refine WT.e 14 [false] rfl (bU (bytes:=32) h.g rfl rfl (h.aR) underlying100 rfl rfl rfl rfl rfl (by omega) (by omega) (by simp[Value.oneCell'])) ?_;rintro _ w ⟨a96,c96,rfl,h⟩;refine⟨trivial, ?_⟩;refine qU ?_;refine WT.e 17 [] rfl (bI (v:=.slice _ _ _) h sizeOf100 rfl rfl rfl rfl rfl) ?_;rintro _ w h
 try simp only[Nat.zero_add,Nat.add_zero,List.set_cons_zero,List.set_cons_succ] at h
 refine⟨trivial, ?_⟩;refine WT.dn (bf.yW (bf.r0 results129 ?_));have h:=wtC WC (((h.aj (dA.aQ 109 221 bd d3)).aj (dM 204 bt bd 0 j3.tn (dw j3.r.e j3.r.p j3.r.m))).aj (aX bw [bt,.int .u64 (j3.r.e:Int),.int .i64 (j3.r.p:Int),.int .i64 (j3.r.m:Int)] 225));have h:=grow (h.aj (bC (.slice Fk Q9.length Q9.length) Q9));have h:=h.aj (Own 2 (.slice a96 (xo.length+1) c96) (xo.length+1) (xo.flatMap mW++[.int .i64 fr,.slice Fk Q9.length Q9.length]));rw[show xo.flatMap mW++[.int .i64 fr,.slice Fk Q9.length Q9.length]=(xo++[((⟨fr,.iB j3.r.e j3.r.p j3.r.m⟩:Pk),(.slice Fk Q9.length Q9.length:Value))]).flatMap mW by simp[mW]] at h;rw[show xo.length+1=(j3.out++[(⟨fr,.iB j3.r.e j3.r.p j3.r.m⟩:Pk)]).length by rw[List.length_append,hle];rfl] at h;have h:=JL (aa:=((.slice Fk Q9.length Q9.length:Value),Q9)::aa) (by rw[List.map_append,gy];rfl) ((uW.mono fun _ h=>List.mem_cons_of_mem _ h).snoc ⟨.inl (by show _∈_;rw[YR];exact List.mem_cons_self ..),Fk,Q9.length,by rw[YR];rfl⟩) rfl h;exact⟨((.slice Fk Q9.length Q9.length:Value),Q9)::aa,cI.cons,(YN (b:=b) (bd:=bd) (aa:=((.slice Fk Q9.length Q9.length:Value),Q9)::aa) (j:={j3 with out:=j3.out++[⟨fr,.iB j3.r.e j3.r.p j3.r.m⟩]}) (oa:=a96) (oc:=c96) (bw:=bw) (L:=aY (((.slice Fk Q9.length Q9.length:Value),Q9)::aa)::L) h.to).to⟩
theorem jIn{aa:aE}{j j2:Jd}{d:Dt}(hB:B=d.bytes)(nj:B.length≤1000000)(hm:inJ j fr d=some j2)(C:aB L (Bytes (.slice a0 B.length c0) B))(h:On W0 (yM b bd aa j::aY aa::L) w):Cs 129 [b,.int .i64 fr,.slice a0 B.length c0] w fun v w'=>∃aN,cI aa aN∧On W0 (yM b bd aN j2::aY aN::L) w':=by
 unfold inJ at hm;obtain⟨hg,hm⟩:=Ck hm;have h0:¬fr<0:=fun q=>hg (.inl q);have h1:¬1<fr:=fun q=>hg (.inr (.inl q));have hd:d.ok=true:=eq_true_of_ne_false fun q=>hg (.inr (.inr q));cases d with
 |get=>exact YO h0 h1 nj hm rfl hB C h
 | Uj x e p m=>
   obtain⟨⟨g1,g2,g3⟩,hm⟩:=iZ hm;exact YS h0 h1 nj hd g1 g2 g3 hm rfl hB C h
 |ms m=>cases hm
 |iB a b c=>cases hm
 |JB o=>cases hm
 |JC a=>cases hm
end Go.Proofs.YtcplmndikhjehaaGreat
namespace Go.Proofs.YtcplmndikhjehaaGreat
open Go.Proofs.Tryz
open Go Go.Sl Go.Sl.eM Go.Sl.gW Go.Sl.kM Go.Sl.oB Go.Sl.pO
open Go.Sl.dA (fu fu.eN fu.mono)
set_option maxHeartbeats 0
set_option maxRecDepth 8000
variable{W0 w:World}{L F:List aC}
theorem YT{b next:Nat}{host node:Int}{l:List fk}{out:List Pk}{done:List Dn}{th:List Al}{tn:Int}{aa:aE}{fr:Int}{b0:List UInt8}{a0:Option Addr}{c0:Nat}(nj:b0.length≤1000000)(X0:∀a∈l,a.id<9223372036854775808)(Us:l.length≤1000)(MC:done.length≤1000)(h:On W0 (bS 103 139 b aa ⟨host,node,next,l,out,done,⟨th,tn⟩⟩::aY aa::L) w)(C:aB L (Bytes (.slice a0 b0.length c0) b0)):Cs 128 [b,.int .i64 fr,.slice a0 b0.length c0] w fun v w'=>∃aN,(∀p∈aa,p∈aN)∧On W0 (bS 103 139 b aN (EN ⟨host,node,next,l,out,done,⟨th,tn⟩⟩ fr (iV b0))::aY aN::L) w':=by
 refine qO ?_;have fH:=aG;refine qC ?_ (C:=Jw nj h (aB.to C));rintro v14 w ⟨⟨qz,Wf,⟨st,rk,code,cj,info⟩,yN,hint⟩,ad,cd,ok,hv,lE,hrl,h⟩;simp only at hrl hv;subst hv;have h:=On.mU ((h.aj (aY aa)).p1);have hm:∀p∈aa,p∈(((.slice ad cj.length cd:Value),cj)::aa):=fun p hp=>List.mem_cons_of_mem _ hp;have h:=JE hm (h.aj (bS 103 139 b aa ⟨host,node,next,l,out,done,⟨th,tn⟩⟩));have aA:=q6 h;obtain⟨xl,la,lc,xo,oa,oc,xd,da,dc,bt,⟨⟨eC,gy,l8⟩,pl,po,pd⟩,h⟩:=aA;simp only at eC gy l8;have zE:l.length=xl.length:=by rw[←eC,List.length_map]
 simp only at h;refine gb fun b8 w h=> ?_;refine gs fun w h _=> ?_;refine WL.a ?_;refine WL.a ?_;refine WL.z ?_;refine W.seq ?_;refine W.sr ?_;refine WL.Kn run_move rfl rfl (fun BR=> ?_) (fun BR=> ?_)
 ·
  refine qN ?_;refine WL.q (e7 rfl rfl) (fun w9=> ?_) (fun w9=> ?_)
  ·
   refine qD ?_;refine qR ?_;rw[show ok=true from BR] at lE;have lE:iV b0=some ⟨qz,Wf,⟨st,rk,code,cj,info⟩,yN,hint⟩:=lE;have w9:qz≠host:=w9;have e:EN ⟨host,node,next,l,out,done,⟨th,tn⟩⟩ fr (iV b0)=⟨host,node,next,l,out,done,⟨th,tn⟩⟩:=by unfold EN;rw[lE];exact if_pos (by show qz≠host∨fr<0∨1<fr;omega)
   rw[e];exact⟨_,hm,show On W0 (bS 103 139 b ((.slice ad cj.length cd,cj)::aa) ⟨host,node,next,l,out,done,⟨th,tn⟩⟩::aY ((.slice ad cj.length cd,cj)::aa)::L) w from dD (la:=la) (lc:=lc) (oa:=oa) (oc:=oc) (da:=da) (dc:=dc) (bt:=bt) ⟨⟨eC,gy,l8⟩,pl,po,pd⟩ h.to⟩
  refine qN ?_;refine WL.q (cH rfl rfl) (fun rO=> ?_) (fun rO=> ?_)
  ·
   refine qD ?_;refine qR ?_;rw[show ok=true from BR] at lE;have lE:iV b0=some ⟨qz,Wf,⟨st,rk,code,cj,info⟩,yN,hint⟩:=lE;have e:EN ⟨host,node,next,l,out,done,⟨th,tn⟩⟩ fr (iV b0)=⟨host,node,next,l,out,done,⟨th,tn⟩⟩:=by unfold EN;rw[lE];exact if_pos (by show qz≠host∨fr<0∨1<fr;omega)
   rw[e];exact⟨_,hm,show On W0 (bS 103 139 b ((.slice ad cj.length cd,cj)::aa) ⟨host,node,next,l,out,done,⟨th,tn⟩⟩::aY ((.slice ad cj.length cd,cj)::aa)::L) w from dD (la:=la) (lc:=lc) (oa:=oa) (oc:=oc) (da:=da) (dc:=dc) (bt:=bt) ⟨⟨eC,gy,l8⟩,pl,po,pd⟩ h.to⟩
  refine qI (fun c2=> ?_) (fun c2=> ?_)
  ·
   refine qR ?_;rw[show ok=true from BR] at lE;have lE:iV b0=some ⟨qz,Wf,⟨st,rk,code,cj,info⟩,yN,hint⟩:=lE;have e:EN ⟨host,node,next,l,out,done,⟨th,tn⟩⟩ fr (iV b0)=⟨host,node,next,l,out,done,⟨th,tn⟩⟩:=by unfold EN;rw[lE];exact if_pos (by show qz≠host∨fr<0∨1<fr;omega)
   rw[e];exact⟨_,hm,show On W0 (bS 103 139 b ((.slice ad cj.length cd,cj)::aa) ⟨host,node,next,l,out,done,⟨th,tn⟩⟩::aY ((.slice ad cj.length cd,cj)::aa)::L) w from dD (la:=la) (lc:=lc) (oa:=oa) (oc:=oc) (da:=da) (dc:=dc) (bt:=bt) ⟨⟨eC,gy,l8⟩,pl,po,pd⟩ h.to⟩
  refine qI (fun c6=> ?_) (fun c6=> ?_)
  ·
   refine qI (fun c8=> ?_) (fun c8=> ?_)
   ·
    refine gs fun w h _=> ?_;refine qC ?_ (C:=GQ (show On W0 (bS 103 139 b ((.slice ad cj.length cd,cj)::aa) ⟨host,hint,next,l,out,done,⟨th,tn⟩⟩::aY ((.slice ad cj.length cd,cj)::aa)::L) w from dD (xl:=xl) (la:=la) (lc:=lc) (xo:=xo) (oa:=oa) (oc:=oc) (xd:=xd) (da:=da) (dc:=dc) (bt:=bt) ⟨⟨eC,gy,l8⟩,pl,po,pd⟩ h.to));rintro _ w h;refine qR ?_;rw[show ok=true from BR] at lE;have lE:iV b0=some ⟨qz,Wf,⟨st,rk,code,cj,info⟩,yN,hint⟩:=lE;have w9:¬qz≠host:=w9;have c8:hint≥0:=c8
    have e:EN ⟨host,node,next,l,out,done,⟨th,tn⟩⟩ fr (iV b0)=qf ⟨host,hint,next,l,out,done,⟨th,tn⟩⟩:=by
      unfold EN;rw[lE];simp only;rw[if_neg (by omega),if_neg (by rw[show yN=false by simpa using c6];decide),if_pos (by omega)]
    rw[e];exact⟨_,hm,h.to⟩
   refine qR ?_;rw[show ok=true from BR] at lE;have lE:iV b0=some ⟨qz,Wf,⟨st,rk,code,cj,info⟩,yN,hint⟩:=lE;have w9:¬qz≠host:=w9;have c8:¬hint≥0:=c8
   have e:EN ⟨host,node,next,l,out,done,⟨th,tn⟩⟩ fr (iV b0)=⟨host,node,next,l,out,done,⟨th,tn⟩⟩:=by
     unfold EN;rw[lE];simp only;rw[if_neg (by omega),if_neg (by rw[show yN=false by simpa using c6];decide),if_neg (by omega)]
   rw[e];exact⟨_,hm,show On W0 (bS 103 139 b ((.slice ad cj.length cd,cj)::aa) ⟨host,node,next,l,out,done,⟨th,tn⟩⟩::aY ((.slice ad cj.length cd,cj)::aa)::L) w from dD (la:=la) (lc:=lc) (oa:=oa) (oc:=oc) (da:=da) (dc:=dc) (bt:=bt) ⟨⟨eC,gy,l8⟩,pl,po,pd⟩ h.to⟩
  refine qC ?_ (C:=GQ (show On W0 (bS 103 139 b ((.slice ad cj.length cd,cj)::aa) ⟨host,node,next,l,out,done,⟨th,tn⟩⟩::aY ((.slice ad cj.length cd,cj)::aa)::aX b8 [.int .i64 st,.int .i64 rk,.int .i64 code,.slice ad cj.length cd,.int .i64 info] 38::L) w from dD (xl:=xl) (la:=la) (lc:=lc) (xo:=xo) (oa:=oa) (oc:=oc) (xd:=xd) (da:=da) (dc:=dc) (bt:=bt) ⟨⟨eC,gy,l8⟩,pl,po,pd⟩ h.to));rintro _ w h;have aA:∃q,q=qf ⟨host,node,next,l,out,done,⟨th,tn⟩⟩:=⟨_,rfl⟩;obtain⟨q,hq⟩:=aA;have SJ:=Um ⟨host,node,next,l,out,done,⟨th,tn⟩⟩;rw[←hq] at h SJ;obtain⟨qh,qn,qx,ql,qo,qd,⟨qt,qm⟩⟩:=q;simp only at SJ;obtain⟨e1,e2⟩:=SJ;rw[e1,e2] at h;refine qC ?_ (C:=Ut (id:=Wf) (st:=st) (rk:=rk) (code:=code) (info:=info) (cj:=cj) (rx:=ad) (rc:=cd) X0 Us MC (.inl (List.mem_cons_self ..)) h);rintro _ w h;refine qR ?_;rw[show ok=true from BR] at lE;have lE:iV b0=some ⟨qz,Wf,⟨st,rk,code,cj,info⟩,yN,hint⟩:=lE;have w9:¬qz≠host:=w9
  have e:EN ⟨host,node,next,l,out,done,⟨th,tn⟩⟩ fr (iV b0)=Bi (qf ⟨host,node,next,l,out,done,⟨th,tn⟩⟩) Wf ⟨st,rk,code,cj,info⟩:=by
    unfold EN;rw[lE];simp only;rw[if_neg (by omega),if_pos (by simpa using c6)]
  rw[e,←hq,e1,e2];exact⟨_,hm,h.to⟩
 refine qD ?_;refine qR ?_;rw[show ok=false from BR] at lE;have e:EN ⟨host,node,next,l,out,done,⟨th,tn⟩⟩ fr (iV b0)=⟨host,node,next,l,out,done,⟨th,tn⟩⟩:=by unfold EN;rw[lE];rfl
 rw[e];exact⟨_,hm,show On W0 (bS 103 139 b ((.slice ad cj.length cd,cj)::aa) ⟨host,node,next,l,out,done,⟨th,tn⟩⟩::aY ((.slice ad cj.length cd,cj)::aa)::L) w from dD (la:=la) (lc:=lc) (oa:=oa) (oc:=oc) (da:=da) (dc:=dc) (bt:=bt) ⟨⟨eC,gy,l8⟩,pl,po,pd⟩ h.to⟩
def yO(due:List Int)(q:gQ)(a:fk):gQ:=if(a.id:Int)∈due then yB q a else q
def yP(due:List Int)(m:List fk)(p:gQ):gQ:=m.foldl (yO due) p
theorem BA(due:List Int):∀(m:List fk) (p:gQ),∃(o:List Pk) (t:Tm),yP due m p={p with out:=o,t:=t}∧o.length≤p.out.length+m.length
 |[],p=>⟨p.out,p.t,rfl,Nat.le_refl _⟩
 | a::m,p=>by
   have e:yP due (a::m) p=yP due m (yO due p a):=rfl
   have hs:∃(o:List Pk) (t:Tm),yO due p a={p with out:=o,t:=t}∧o.length≤p.out.length+1:=by
     unfold yO;split
     · exact⟨_,_,rfl,by simp⟩
     exact⟨p.out,p.t,rfl,by omega⟩
   obtain⟨o1,t1,e1,h1⟩:=hs;obtain⟨o,t,e2,h2⟩:=BA due m (yO due p a);rw[e1] at h2 e2;exact⟨o,t,by rw[e,e1,e2],by rw[List.length_cons];have h3:o.length≤o1.length+m.length:=h2;omega⟩
theorem BB{due:List Int}{l:List fk}{p:gQ}{i:Nat}{a:fk}(h:l[i]? =some a):yP due (l.take (i+1)) p=yO due (yP due (l.take i) p) a:=by
 unfold yP;rw[List.take_add_one,h,List.foldl_append];rfl
theorem QY{host node:Int}{next:Nat}{l:List fk}{out:List Pk}{done:List Dn}{t t1:Tm}{due:List Int}(h:(t1,due)=rG t):Bj ⟨host,node,next,l,out,done,t⟩=yP due l (if 0∈due then⟨host,1 - node,next,l,out,done,(lS t1 0 8).1⟩ else⟨host,node,next,l,out,done,t1⟩):=by
 unfold Bj;simp only;rw[←h];rfl
theorem QZ{b next:Nat}{host node:Int}{l:List fk}{out:List Pk}{done:List Dn}{th:List Al}{tn:Int}{aa:aE}(SB:0≤node)(uI:node≤1)(hnx:next<4611686018427387904)(Us:l.length≤1000)(r7:out.length≤1000)(B9:∀a∈l,a.id<4611686018427387904∧a.c.data.length≤1000000∧0≤a.c.key∧a.c.key<18446744073709551616∧0≤a.c.new∧a.c.new<18446744073709551616)(h:On W0 (bS 103 139 b aa ⟨host,node,next,l,out,done,⟨th,tn⟩⟩::aY aa::L) w):Cs 90 [b] w fun v w'=>∃aN,(∀p∈aa,p∈aN)∧On W0 (bS 103 139 b aN (Bj ⟨host,node,next,l,out,done,⟨th,tn⟩⟩)::aY aN::L) w':=by
 refine qO ?_;have fH:=aG;have aA:=bS.r h;obtain⟨la,lc,h⟩:=aA
 have ua:∀UY o3 t3,k7 ⟨host,UY,next,l,o3,done,t3⟩<18446744073709551616:=fun UY o3 t3=>by
   unfold k7;cases l with
   |nil=>show next<_;omega
   |cons a l=>have:=(B9 a (List.mem_cons_self ..)).1;show a.id<_;omega
 have aA:=v8 h;obtain⟨xl,xo,oa,oc,xd,da,dc,bt,⟨⟨eC,gy,l8⟩,pl,po,pd⟩,h⟩:=aA;simp only at eC gy l8;have zE:l.length=xl.length:=by rw[←eC,List.length_map]
 refine qC ?_ (C:=Qc (h.aj (eL 139 bt ⟨th,tn⟩)));rintro v9 w ⟨a9,hv,h⟩;have aA:∃X,X=rG ⟨th,tn⟩:=⟨_,rfl⟩;obtain⟨X9,hX⟩:=aA;rw[←hX] at hv h;obtain⟨⟨th1,tn1⟩,due⟩:=X9;simp only at hv h;subst hv;refine gw ?_;refine W.cut (fun env w=>∃(j:Env) (p2:gQ),p2=(if 0∈due then(⟨host,1 - node,next,l,out,done,(lS ⟨th1,tn1⟩ 0 8).1⟩:gQ) else⟨host,node,next,l,out,done,⟨th1,tn1⟩⟩)∧env=eu j [(0,b),(2,.slice a9 due.length due.length)]∧On W0 (oR 103 139 b la lc aa p2::aY aa::Own 1 (.slice a9 due.length due.length) due.length (nq due)::L) w) ?_ ?_
 ·
  refine qC ?_ (C:=ug (h.aj (Own 1 (.slice a9 due.length due.length) due.length (nq due))) (show aB (Own 1 (.slice a9 due.length due.length) due.length (nq due)::_) (Cells 1 (.slice a9 due.length due.length) due.length (cV due)) from aB.cF (v:=.slice a9 due.length due.length)));rintro _ w ⟨hv,h⟩;have iG:=Bool.eq_false_or_eq_true (decide ((0:Int)∈due));rcases iG with IU|IU<;>(rw[IU] at hv;subst hv)
  · refine qS fun w h _=> ?_;refine qC ?_ (C:=zK (h.aj (eL 139 bt ⟨th1,tn1⟩)));rintro _ w ⟨rfl,h⟩;refine gw ?_;exact⟨_,_,(if_pos (of_decide_eq_true IU)).symm,aD ⟨rfl,rfl,trivial⟩,nK (oa:=oa) (oc:=oc) (da:=da) (dc:=dc) (bt:=bt) ⟨⟨eC,gy,l8⟩,pl,po,pd⟩ h.to⟩
  refine go ?_;refine W.cs ?_;exact⟨_,_,(if_neg (of_decide_eq_false IU)).symm,aD ⟨rfl,rfl,trivial⟩,nK (oa:=oa) (oc:=oc) (da:=da) (dc:=dc) (bt:=bt) ⟨⟨eC,gy,l8⟩,pl,po,pd⟩ h.to⟩
 clear h eC gy l8 pl po pd zE;rintro env w ⟨j,p2,vJ,rfl,h⟩;have aA:∃UY t2,p2=⟨host,UY,next,l,out,done,t2⟩:=by rw[vJ];split<;>exact⟨_,_,rfl⟩
 obtain⟨UY,t2,rfl⟩:=aA;have aA:=v8 h;obtain⟨xl,xo,oa,oc,xd,da,dc,bt,⟨⟨eC,gy,l8⟩,pl,po,pd⟩,h⟩:=aA;simp only at eC gy l8;have zE:l.length=xl.length:=by rw[←eC,List.length_map]
 refine go ?_;refine W.loop (fun(i:Nat) env w=>∃(j:Env) (aN:aE),env=eu j [(0,b),(2,.slice a9 due.length due.length),(28,.slice la l.length lc),(29,.int .i64 (l.length:Nat)),(30,.int .i64 (i:Nat))]∧i≤l.length∧(∀p∈aa,p∈aN)∧On W0 (oR 103 139 b la lc aN (yP due (l.take i) ⟨host,UY,next,l,out,done,t2⟩)::aY aN::Own 1 (.slice a9 due.length due.length) due.length (nq due)::L) w) (fun i=>l.length - i) (0) ?_ ?_
 · exact⟨_,aa,aD ⟨rfl,rfl,congrArg (fun q=>Value.slice la q lc) zE.symm,congrArg (fun q:Nat=>Value.int .i64 (q:Int)) zE.symm,rfl,trivial⟩,Nat.zero_le _,fun p hp=>hp,nK (oa:=oa) (oc:=oc) (da:=da) (dc:=dc) (bt:=bt) ⟨⟨eC,gy,l8⟩,pl,po,pd⟩ h.to⟩
 clear h eC gy l8 pl po pd zE;rintro i env w ⟨j,aN,rfl,hi,Qm,h⟩;refine qI (fun nB=> ?_) (fun nB=> ?_)
 ·
  have aA:=BA due (l.take i) ⟨host,UY,next,l,out,done,t2⟩;obtain⟨o3,⟨th3,tn3⟩,he3,ho3⟩:=aA;simp only at he3 ho3;rw[List.length_take,Nat.min_eq_left hi] at ho3;rw[he3] at h;have aA:=v8 h;obtain⟨xl,xo,oa,oc,xd,da,dc,bt,⟨⟨eC,gy,l8⟩,pl,po,pd⟩,h⟩:=aA;simp only at eC gy l8;have zE:l.length=xl.length:=by rw[←eC,List.length_map]
  have mw:0<xl.length→∃ba oa,la=some ⟨ba,oa,none⟩:=fun h0=>(h.aR (v:=.slice la xl.length lc)).addr h0;have aA:=mw (by omega);obtain⟨ba,uh,rfl⟩:=aA;have aA:∃x,xl[i]? =some x:=⟨_,List.getElem?_eq_getElem (show i<xl.length by omega)⟩;obtain⟨x,hx⟩:=aA;obtain⟨⟨JF,⟨kind,at_,n,data,ky,nw,cz,force⟩⟩,xv⟩:=x;have hla:l[i]? =some ⟨JF,⟨kind,at_,n,data,ky,nw,cz,force⟩⟩:=by rw[←eC,List.getElem?_map,hx];rfl
  have aA:=B9 _ (List.mem_of_getElem? hla);obtain⟨wV,Ga,VJ,hb4,hb5,hb6⟩:=aA;simp only at wV Ga VJ hb4 hb5 hb6;have aA:=Int.eq_ofNat_of_zero_le VJ;obtain⟨key,rfl⟩:=aA;have aA:=Int.eq_ofNat_of_zero_le hb5;obtain⟨new,rfl⟩:=aA;have aA:=pl.at hx;obtain⟨zn,ax,cx,V5⟩:=aA;simp only at V5 zn;subst V5;refine qD ?_;refine WL.v (gi isAgg135 sizeOf135 rfl rfl ((h.aR (v:=.slice (some ⟨ba,uh,none⟩) xl.length lc)).elem (i:=i) (vs:=[.int .u64 (JF:Int),.int .i64 kind,.int .i64 at_,.int .i64 n,.slice ax data.length cx,.int .u64 (key:Int),.int .u64 (new:Int),.int .i64 cz,.bool force]) (by omega) (aF pO.iA 9 sO xl _ _ hx))) ?_;refine gb fun b4 w h=> ?_;refine gs fun w h _=> ?_;refine qC ?_ (C:=ug (x:=(JF:Int)) (h.aj (Own 1 (.slice a9 due.length due.length) due.length (nq due))) (show aB (Own 1 (.slice a9 due.length due.length) due.length (nq due)::_) (Cells 1 (.slice a9 due.length due.length) due.length (cV due)) from aB.cF (v:=.slice a9 due.length due.length)));rintro _ w ⟨hv,h⟩;have iG:=Bool.eq_false_or_eq_true (decide ((JF:Int)∈due));rcases iG with eD|eD<;>(rw[eD] at hv;subst hv)
  · refine WL.v (cQ rfl) ?_;refine go ?_;refine W.cs ?_;have h:On W0 (oR 103 139 b (some ⟨ba,uh,none⟩) lc aN ⟨host,UY,next,l,o3,done,⟨th3,tn3⟩⟩::aY aN::Own 1 (.slice a9 due.length due.length) due.length (nq due)::aX b4 [.int .u64 (JF:Int),.int .i64 kind,.int .i64 at_,.int .i64 n,.slice ax data.length cx,.int .u64 (key:Int),.int .u64 (new:Int),.int .i64 cz,.bool force] 135::L) w:=nK (oa:=oa) (oc:=oc) (da:=da) (dc:=dc) (bt:=bt) ⟨⟨eC,gy,l8⟩,pl,po,pd⟩ h.to;refine qC ?_ (C:=DE (id:=JF) (key:=key) (new:=new) (by omega) (by omega) (by omega) Ga zn (ua ..) (by omega) h);rintro _ w ⟨cg,Q0,h⟩;refine qD ?_;exact⟨i+1,⟨_,cg,aD ⟨rfl,rfl,rfl,rfl,rfl,trivial⟩,by omega,fun p hp=>Q0 p (Qm p hp),(by rw[BB hla,he3,yO,if_pos (of_decide_eq_true eD)];exact h.to)⟩,by show l.length - (i+1)<l.length - i;omega⟩
  refine qD ?_;have h:On W0 (oR 103 139 b (some ⟨ba,uh,none⟩) lc aN ⟨host,UY,next,l,o3,done,⟨th3,tn3⟩⟩::aY aN::Own 1 (.slice a9 due.length due.length) due.length (nq due)::L) w:=nK (oa:=oa) (oc:=oc) (da:=da) (dc:=dc) (bt:=bt) ⟨⟨eC,gy,l8⟩,pl,po,pd⟩ h.to;exact⟨i+1,⟨_,aN,aD ⟨rfl,rfl,rfl,rfl,rfl,trivial⟩,by omega,Qm,(by rw[BB hla,he3,yO,if_neg (of_decide_eq_false eD)];exact h)⟩,by show l.length - (i+1)<l.length - i;omega⟩
 refine qR ?_;have aA:i=l.length:=by omega
 obtain rfl:=aA;rw[List.take_length] at h;rw[QY hX,←vJ];exact⟨aN,Qm,(oR.q h).to⟩
end Go.Proofs.YtcplmndikhjehaaGreat
namespace Go.Proofs.YtcplmndikhjehaaGreat
open Go.Proofs.Tryz
open Go Go.Sl Go.Sl.lD
set_option maxHeartbeats 4000000
set_option maxRecDepth 8000
variable{b:Nat}{i:Int}{aa:List (Value×List UInt8)}
variable{W0 w:World}{L F:List aC}
theorem HD{p q:Int}{ao:Option Addr}{cap:Nat}{bs:List UInt8}(h:On W0 L w)(C:aB L (Bytes (.slice ao bs.length cap) bs))(hn:bs.length≤140737488355328):
   Cs 87 [.agg #[.int .i64 p,.int .i64 q,.slice ao bs.length cap]] w fun v w'=>∃a c,v=.agg #[.int .i64 p,.int .i64 q,.slice a bs.length c]∧On W0 (bC (.slice a bs.length c) bs::L) w':=by
 refine qO ?_;refine gb fun b1 w h=> ?_;refine gb fun b2 w h=> ?_;refine qC ?_ (C:=bG h C.b.b hn);rintro _ w ⟨a,c,rfl,h⟩;refine qC ?_ (C:=cU h);rintro _ w ⟨rfl,h⟩;refine gs fun w h _=> ?_;refine gs fun w h _=> ?_;refine go ?_;refine W.ret (bf.uA (vs:=[.int .i64 _,.int .i64 _,.slice _ _ _]) h results87 isAgg184 sizeOf184 rfl rfl rfl ?_);exact⟨a,_,rfl,h.d2.d1⟩
theorem HE{H:Int}{cs:List Value}{e:Nat}{fr:Nat×Nat}(h:On W0 L w)[dQ L b (.int .i64 H::cs) e fr]:
   Cs 212 [b,.int .i64 i] w fun v w'=>∃t:Bool,v=.bool t∧((t=true∧0≤i∧i<H)∨(t=false∧¬(0≤i∧i<H)))∧On W0 L w':=by
 refine qO ?_;refine go ?_;refine WL.q (eA rfl rfl) (fun c6=> ?_) (fun c6=> ?_)
 · refine qD ?_;refine qR ?_;exact⟨_,rfl,by simp;omega,h⟩
 refine qR ?_;exact⟨_,rfl,by simp;omega,h⟩
theorem UZ{H:Int}(h:On W0 F w):
   Cs 17 [.int .i64 H] w fun v w'=>(¬(1≤H∧H≤64)∧v=.tuple #[.pointer none,.int .i64 1]∧On W0 F w')∨
     ((1≤H∧H≤64)∧∃b,v=.tuple #[.pointer (some ⟨b,0,none⟩),.int .i64 0]∧On W0 (qw 106 b ⟨H,[],0⟩ []::F) w'):=by
 refine qO ?_;refine go ?_;refine WL.q (cH rfl rfl) (fun c5=> ?_) (fun c5=> ?_)
 · refine qD ?_;refine qR ?_;exact .inl ⟨by omega,rfl,h⟩
 refine qI (fun c2=> ?_) (fun c2=> ?_)
 · refine qR ?_;exact .inl ⟨by omega,rfl,h⟩
 refine go ?_;refine WL.v (aP (pl:=[(0,1),(1,1),(2,1)]) (out:=[.int .i64 _,.slice _ _ _,.int .i64 _]) underlying106 zeroValue106 (fun w=>by kernel_rfl) rfl fz rfl) ?_;refine gb fun Gq w h=> ?_;refine qR ?_;refine .inr ⟨by omega,_,rfl, ?_⟩;exact rj (qs:=[]) rfl (by simp) (by simp) (by simp) ((h.bB 3 none).p1)
theorem ac3{n c:Nat}{a:Option Addr}{c0 c2:Value}{e:Nat}{fr:Nat×Nat}(h:On W0 L w)[dQ L b [c0,.slice a n c,c2] e fr]:
   Cs 86 [b,.int .i64 i] w fun v w'=>∃t:Bool,v=.bool t∧((t=true∧0≤i∧i<n)∨(t=false∧¬(0≤i∧i<n)))∧On W0 L w':=by
 refine qO ?_;refine go ?_;refine WL.q (eA rfl rfl) (fun c6=> ?_) (fun c6=> ?_)
 · refine qD ?_;refine qR ?_;exact⟨_,rfl,by simp;omega,h⟩
 refine qR ?_;exact⟨_,rfl,by simp;omega,h⟩
theorem U0{m:St}{f t:Int}{ax:Option Addr}{cx:Nat}{bs:List UInt8}(h:On W0 (qw 106 b m aa::aY aa::F) w)(C:aB (aY aa::F) (Bytes (.slice ax bs.length cx) bs))(hs0:0≤m.s)(Nn:m.s≤1000000000000000000):
   Cs 139 [b,.int .i64 f,.int .i64 t,.slice ax bs.length cx] w fun v w'=>v=.int .i64 (js m f t bs.length)∧
     ∃aN,(∀p∈aa,p∈aN)∧On W0 (qw 106 b (send m f t bs) aN::aY aN::F) w':=by
 refine qO ?_;have aA:=wF h;obtain⟨qs,a,c,e1,e2,e3,e4,h⟩:=aA;have hlen:qs.length=m.l.length:=by rw[←e1];simp
 have hl:=aG;refine qC ?_ (C:=HE h);rintro _ w ⟨_,rfl,⟨rfl,ht1⟩|⟨rfl,ht1⟩,h⟩
 ·
  refine qC ?_ (C:=HE h);rintro _ w ⟨_,rfl,⟨rfl,EP⟩|⟨rfl,EP⟩,h⟩
  ·
   refine qI (fun c7=> ?_) (fun c7=> ?_)
   ·
    refine qR ?_;have e:js m f t bs.length=5:=by unfold js;rw[if_neg (by omega),if_pos (by omega)]
    exact⟨by rw[e],aa,fun _ h=>h,by unfold send;rw[e];exact rj e1 e2 e3 e4 h⟩
   refine qI (fun ou=> ?_) (fun ou=> ?_)
   ·
    refine qR ?_;have e:js m f t bs.length=7:=by unfold js;rw[if_neg (by omega),if_neg (by omega),if_pos (by omega)]
    exact⟨by rw[e],aa,fun _ h=>h,by unfold send;rw[e];exact rj e1 e2 e3 e4 h⟩
   refine go ?_;refine W.draw Tryz.follows h (fun w h=> ?_);refine WT.m 0 rfl ?_;refine WT.m 1 rfl ?_;refine WT.n 2 rfl rfl ?_;refine WT.f 3 1 rfl underlying106 rfl sizeOf104 rfl rfl ?_;refine WT.l 4 rfl isAgg104 rfl (h.aS rfl) ?_;refine WT.m 5 rfl ?_;refine WT.m 6 rfl ?_;refine WT.m 7 rfl ?_;refine WT.p 8 rfl (fun w'=>(aP (pl:=[(0,1),(1,1),(2,1)]) (out:=[.int .i64 _,.int .i64 _,.slice _ _ _]) underlying184 zeroValue184 (fun w=>by kernel_rfl) rfl fz rfl)) ?_;refine WT.e 9 [true] rfl (ag call87 (HD h C.b.b (by omega))) ?_;rintro _ w ⟨an,cn,rfl,h⟩;refine qW ?_;refine WT.e 10 [true] rfl (aZ (zl:=[.int .i64 0,.int .i64 0,.slice none 0 0]) (out:=[.int .i64 _,.int .i64 _,.slice _ _ _]) h underlying104 sizeOf184 zeroValue184 (by decide) (by kernel_rfl) rfl rfl (by simp) fz rfl rfl (by simp[maxLen])) ?_;rintro _ w ⟨VH,rfl,h⟩;refine qW ?_;refine WT.e 11 [false] rfl (bU (bytes:=40) h rfl rfl h.aR underlying104 rfl rfl rfl rfl rfl (by omega) (by omega) (by simp[Value.oneCell'])) ?_;rintro _ w ⟨a2,c2,rfl,h⟩;refine⟨trivial, ?_⟩;refine WT.n 12 rfl rfl ?_;refine WT.f 13 1 rfl underlying106 rfl sizeOf104 rfl rfl ?_;refine WT.e 14 [] rfl (bI (v:=.slice _ _ _) h sizeOf104 rfl rfl rfl rfl rfl) ?_;rintro _ w h
   try simp only[Nat.zero_add,Nat.add_zero,List.set_cons_zero,List.set_cons_succ] at h
   refine⟨trivial, ?_⟩;refine WT.dn ?_;refine qS fun w h _=> ?_;refine qR ?_;have e:js m f t bs.length=0:=by unfold js;rw[if_neg (by omega),if_neg (by omega),if_neg (by omega)]
   refine⟨by rw[e],(.slice an bs.length cn,bs)::aa,fun _ h=>List.mem_cons_of_mem _ h, ?_⟩;have h:=(On.mU h.d1.p3.p2).p2.p2.p1;unfold send;rw[if_pos e];refine rj (qs:=qs++[⟨f,t,.slice an bs.length cn,bs⟩]) (by simp[e1,Q.pk]) ?_ ?_ ?_ (by simpa [Q.cells] using h)
   · intro q hq
     have aA:=List.mem_append.1 hq;rcases aA with hq|hq
     · exact List.mem_cons_of_mem _ (e2 q hq)
     rw[List.mem_singleton] at hq;subst hq;exact List.mem_cons_self ..
   · intro q hq
     have aA:=List.mem_append.1 hq;rcases aA with hq|hq
     · exact e3 q hq
     rw[List.mem_singleton] at hq;subst hq;rfl
   intro q hq;have aA:=List.mem_append.1 hq;rcases aA with hq|hq
   · exact e4 q hq
   rw[List.mem_singleton] at hq;subst hq;show bs.length≤8192;omega
  refine qD ?_;refine qR ?_;have e:js m f t bs.length=1:=by unfold js;rw[if_pos];omega
  exact⟨by rw[e],aa,fun _ h=>h,by unfold send;rw[e];exact rj e1 e2 e3 e4 h⟩
 refine qD ?_;refine qR ?_;have e:js m f t bs.length=1:=by unfold js;rw[if_pos];omega
 exact⟨by rw[e],aa,fun _ h=>h,by unfold send;rw[e];exact rj e1 e2 e3 e4 h⟩
theorem Ny{m:St}(h:On W0 (qw 106 b m aa::aY aa::F) w):
   Cs 126 [b,.int .i64 i] w fun v w'=>rK (Lg m i) W0 (qw 106 b m aa::aY aa::F) v w':=by
 refine qO ?_;have aA:=wF h;obtain⟨qs,a,c,e1,e2,e3,e4,h⟩:=aA;have hlen:qs.length=m.l.length:=by rw[←e1];simp
 have aA:=Own.bounds h.p1;obtain⟨hqc,rz⟩:=aA;have hl:=aG;refine gb fun b4 w h=> ?_;refine qC ?_ (C:=ac3 h);rintro _ w ⟨_,rfl,⟨rfl,ht⟩|⟨rfl,ht⟩,h⟩
 ·
  refine WL.v (cQ rfl) ?_;refine go ?_;refine W.cs ?_;refine W.seq ?_;have aA:=Own.addr h.p2 (by omega);obtain⟨bq,oq,rfl⟩:=aA;have aA:∃q,qs[i.toNat]? =some q:=⟨qs[i.toNat]'(by omega),by simp⟩;obtain⟨⟨pf,pt,pv,pbs⟩,hq⟩:=aA;have hm:=List.mem_of_getElem? hq;have hp:=e2 _ hm;have aA:=(h.tail.tail.tail.reads (aB.aa hp)).form;obtain⟨pa,pc,Cu,_,_,_⟩:=aA
  change pv=.slice pa pbs.length pc at Cu
  subst Cu;have hb8:=e4 _ hm
  change pbs.length≤8192 at hb8
  refine qD ?_;refine WL.v (gi isAgg184 sizeOf184 rfl rfl (((h.p2.cells 0 rfl).elem (i:=i.toNat) (vs:=[.int .i64 pf,.int .i64 pt,.slice pa pbs.length pc]) (by omega) (aF Q.cells 3 Q.rf qs _ _ hq)))) ?_;refine WL.e (ag call87 (HD h (aB.aa hp).b.b.b (by omega))) ?_;rintro _ w ⟨ar,cr,rfl,h⟩;refine gs fun w h _=> ?_;refine go ?_;refine W.ret (bf.rX (vs:=[.int .i64 _,.int .i64 _,.slice _ _ _]) (v2:=.bool _) h results126 isAgg184 sizeOf184 rfl rfl rfl rfl ?_)
  have e:Lg m i=some ⟨pf,pt,pbs⟩:=by
    unfold Lg;rw[if_pos ht.1,←e1,List.getElem?_map,hq];rfl
  exact rK.some e rfl (rj e1 e2 e3 e4 h.d1.q2).p1
 refine qD ?_;refine gs fun w h _=> ?_;refine go ?_;refine W.ret (bf.rX (vs:=[.int .i64 _,.int .i64 _,.slice _ _ _]) (v2:=.bool _) h results126 isAgg184 sizeOf184 rfl rfl rfl rfl ?_);exact rK.none (Hz (by omega)) rfl (rj e1 e2 e3 e4 h.tail)
theorem Nz{a:Option Addr}{n c k:Nat}{xs:List Value}(h:On W0 (Own 3 (.slice a n c) n xs::L) w)(hk:k<n)(KT:∀u∈xs,u.oneCell'=true):
   Cs 127 [.slice a n c,.int .i64 (k:Int),.int .i64 ((k+1:Nat):Int)] w fun v w'=>∃n',n'+1=n∧v=.slice a n' c∧
     On W0 (Own 3 (.slice a n' c) n' (xs.take (k*3)++xs.drop ((k+1)*3))::L) w':=by
 refine qO ?_;have aA:=Own.form h;obtain⟨a',c',hv,vg,rz,jK⟩:=aA;simp only[Value.slice.injEq] at hv;obtain⟨rfl,_,rfl⟩:=hv;have eC:=(Own.mT h).1;have hl:=aG;refine go ?_;refine WL.v (Ab underlying104 sizeOf184 rfl rfl rfl rfl (by omega) (by omega) (by omega)) ?_;refine qI (fun c3=> ?_) (fun c3=> ?_)
 · exfalso;omega
 refine go ?_;refine W.ez Tryz.follows h (by kernel_rfl) fun w h=> ?_;refine go ?_;refine X.v (fun _=>(rW underlying104 sizeOf184 rfl rfl (by omega))) ?_;refine go ?_;refine X.v (fun _=>(Aa underlying104 sizeOf184 rfl rfl (by omega))) ?_;refine X.e (rY (Own.front h (by omega)) ((h.cells 0 rfl).cut (by omega) (by omega) (by omega) (by omega)) rfl rfl underlying104 sizeOf184 (by omega) (fun u hu=>KT u (List.mem_of_mem_drop (List.mem_of_mem_take hu)))) ?_;rintro _ w ⟨rfl,h⟩;rw[List.take_of_length_le (l:=xs.drop ((k+1)*3)) (by rw[List.length_drop,eC,←Nat.sub_mul];exact Nat.le_refl _)] at h;have aA:∃n',n'=k+(n - (k+1)):=⟨_,rfl⟩;obtain⟨n',Qh⟩:=aA;rw[←Qh] at h;refine go ?_;refine WL.v (tj underlying104 sizeOf184 rfl rfl rfl (by omega) (by omega)) ?_;refine WL.e (rB (by rw[←Qh];exact h) (by omega) (by omega) rfl underlying104 zeroValue184 rfl (by simp[Value.cells,Value.oneCell'])) ?_;rintro _ w h;refine qR ?_;exact⟨_,by omega,rfl,h⟩
theorem JX{m:St}(h:On W0 (qw 106 b m aa::aY aa::F) w):
   Cs 83 [b,.int .i64 i] w fun v w'=>rK (Lg m i) W0 (qw 106 b (out m i) aa::aY aa::F) v w':=by
 refine qO ?_;have hl:=aG;refine gb fun b4 w h=> ?_;refine qC ?_ (C:=Ny (F:=_::F) h.q2);rintro _ w hR;have aA:=hR.elim;rcases aA with⟨p,a,c,BS,rfl,h⟩|⟨BS,rfl,h⟩
 ·
  refine gb fun b6 w h=> ?_;refine gs fun w h _=> ?_;refine go ?_;refine W.ct ?_;have hir:=JV.1 (show(Lg m i).isSome=true by rw[BS];rfl);have aA:=Int.eq_ofNat_of_zero_le hir.1;obtain⟨k,rfl⟩:=aA;have aA:=wF h.p2;obtain⟨qs,a',c',e1,e2,e3,e4,h⟩:=aA;have hlen:qs.length=m.l.length:=by rw[←e1];simp
  have Ef:k<qs.length:=by omega
  have aA:=Own.form h.p1;obtain⟨_,_,_,hb9,hc9,_⟩:=aA;refine qC ?_ (C:=Nz h.p1 (k:=k) Ef (ahB e3));rintro _ w ⟨n',Qh,rfl,h⟩;refine gs fun w h _=> ?_;refine gs fun w h _=> ?_;refine go ?_;refine W.ret (bf.rX (vs:=[.int .i64 _,.int .i64 _,.slice _ _ _]) (v2:=.bool _) h results83 isAgg184 sizeOf184 rfl rfl rfl rfl ?_);have e:out m k={m with l:=m.l.eraseIdx k}:=by unfold out;rw[BS];rfl
  refine rK.some BS rfl ?_;rw[e];rw[qM Q.cells 3 Q.rf,rC Q.cells 3 Q.rf,←List.flatMap_append,←List.eraseIdx_eq_take_drop_succ] at h;have rN:n'=(qs.eraseIdx k).length:=by rw[List.length_eraseIdx_of_lt Ef];omega
  rw[rN] at h;refine(rj (m:={m with l:=m.l.eraseIdx k}) ?_ ?_ ?_ ?_ h.p1.d2.d4).p1
  · show _=m.l.eraseIdx k
    rw[←e1,Sl.qi]
  · exact fun q hq=>e2 q (List.mem_of_mem_eraseIdx hq)
  · exact fun q hq=>e3 q (List.mem_of_mem_eraseIdx hq)
  exact fun q hq=>e4 q (List.mem_of_mem_eraseIdx hq)
 refine gb fun b6 w h=> ?_;refine gs fun w h _=> ?_;refine qS fun w h _=> ?_;refine go ?_;refine W.ret (bf.rX (vs:=[.int .i64 _,.int .i64 _,.slice _ _ _]) (v2:=.bool _) h results83 isAgg184 sizeOf184 rfl rfl rfl rfl ?_);exact rK.none BS rfl (by unfold out;rw[BS];exact h.tail.d2)
end Go.Proofs.YtcplmndikhjehaaGreat
namespace Go.Proofs.YtcplmndikhjehaaGreat
open Go Go.Sl Go.Sl.eM Go.Sl.gW Go.Sl.kM Go.Sl.pe Go.Sl.pM Go.Sl.mG Go.Sl.pO Go.Sl.rH Go.Sl.pN Go.Sl.gU Go.Sl.l9
open Go.Sl.oB (wr)
open Go.Sl.dA (fu fu.eN fu.mono)
set_option maxHeartbeats 0
set_option maxRecDepth 8000
variable{a o o0 o1:Option Addr}{b bd ga gh bm bx c i k n t:Nat}{c0 c1 c2 c3 c4 c5 v:Value}{cs:List Value}{fr:Nat×Nat}{z:Int}
variable{W0 w:World}{L F:List aC}
def mS(x:Iv×Value):List Value:=.int .i64 x.1.host:: .int .u64 (x.1.id:Int)::(x.1.c.cells x.2++[.int .i64 x.1.at_])
def kN(x:Cp×Value):List Value:=.int .i64 x.1.host:: .int .u64 (x.1.id:Int)::(x.1.r.cells x.2++[.int .i64 x.1.at_])
theorem jz(x:Iv×Value):(mS x).length=11:=rfl
theorem eP(x:Cp×Value):(kN x).length=8:=rfl
abbrev pL(b:Nat):Value:=.pointer (some ⟨b,0,none⟩)
def rU(aa:aE):List (Nat×gQ)→aC
 |[]=>Pack True []
 |x::l=>Pack True [bS 103 139 x.1 aa x.2,rU aa l]
theorem HF{T TT:Nat}{p q:aE}{x:gQ}(k:cI p q)(h:Hp)(H:bS T TT b p x h):bS T TT b q x h:=by
 obtain⟨y,⟨h0,h1,h2,h3⟩,s⟩:=H;exact⟨y,⟨h0,h1.mono k.h,h2.mono k.h,h3.mono k.h⟩,s⟩
theorem BC{p q:aE}(k:cI p q):∀(l:List (Nat×gQ)) (h:Hp),rU p l h→rU q l h
 |[],h,H=>H
 |x::l,h,⟨h1,s⟩=>⟨h1,(s.imp (HF k)).aI fun _ s=>s.imp (BC k l)⟩
theorem Q1{aa:aE}:∀{l:List (Nat×gQ)} {i:Nat} {x:Nat×gQ} {L:List aC},l[i]? =some x→On W0 (rU aa l::L) w→On W0 (bS 103 139 x.1 aa x.2::rU aa (l.eraseIdx i)::L) w
 | y::l,0,x,L,h,H=>by
   obtain rfl:y=x:=by simpa using h
   exact H.unpack.2
 | y::l,i+1,x,L,h,H=>by
   have H2:On W0 (bS 103 139 y.1 aa y.2::rU aa l::L) w:=H.unpack.2;have H3:=Q1 (by simpa using h) H2.p1;have H4:On W0 (bS 103 139 y.1 aa y.2::rU aa (l.eraseIdx i)::bS 103 139 x.1 aa x.2::L) w:=H3.to;exact(On.pack trivial H4).p1
theorem Wg{aa:aE}:∀{l:List (Nat×gQ)} {i:Nat} {x y:Nat×gQ} {L:List aC},l[i]? =some y→On W0 (bS 103 139 x.1 aa x.2::rU aa (l.eraseIdx i)::L) w→On W0 (rU aa (l.set i x)::L) w
 |z::l,0,x,y,L,h,H=>On.pack (M:=[bS 103 139 x.1 aa x.2,rU aa l]) trivial H
 | z::l,i+1,x,y,L,h,H=>by
   have H2:On W0 (rU aa (z::l.eraseIdx i)::bS 103 139 x.1 aa x.2::L) w:=H.p1;have H3:On W0 (bS 103 139 z.1 aa z.2::rU aa (l.eraseIdx i)::bS 103 139 x.1 aa x.2::L) w:=H2.unpack.2;have H4:On W0 (bS 103 139 x.1 aa x.2::rU aa (l.eraseIdx i)::bS 103 139 z.1 aa z.2::L) w:=H3.to;have H5:=Wg (by simpa using h) H4;exact On.pack trivial H5.p1
abbrev Fm(aa:aE):Kd:=⟨List gQ,fun v l=>Ex fun(xs:List (Nat×gQ))=>Pack (xs.map (·.2)=l) [Own 1 v l.length (xs.map fun x=>pL x.1),rU aa xs]⟩
abbrev ng (aa : aE) (bd : Nat) : Kd := ⟨Mc, fun v m => match m with
 | .up n=>Ex fun(y:Nat×Value)=>Pack (v=.pointer (some ⟨y.1,0,none⟩)) [BW y.1 bd aa y.2 n]
 | .down s => Ex fun (y : ow.Rg × dA.Dk) => Pack (v = .pointer none ∧ SI y.2 s.hd s.tn [] s.es y.1 ∧ y.2.calls ≤ s.cn) [dA.aQ 109 221 bd { y.2 with off := true }]⟩
abbrev Li(aa:aE):Kd:=⟨List Iv,fun v l=>Ex fun(xo:List (Iv×Value))=>Pack (xo.map (·.1)=l∧cW aa (·.c.data) xo) [Own 11 v l.length (xo.flatMap mS)]⟩
abbrev Lj(aa:aE):Kd:=⟨List Cp,fun v l=>Ex fun(xo:List (Cp×Value))=>Pack (xo.map (·.1)=l∧cW aa (·.r.data) xo) [Own 8 v l.length (xo.flatMap kN)]⟩
def BD(m:Ig):Prop:=∀x∈m.1,∃(h:Int) (id:Nat) (t:Int),x.2.1=.agg #[.int .i64 h,.int .u64 (id:Int),.int .i64 t]
abbrev JY:Kd:=⟨Ig,fun v m=>Ex fun(b:Nat)=>Pack (v=.map (some b)∧BD m) [bV b .u64 m.1 m.2]⟩
def lM(aK:Nat)(x:List Nk×Nat):lD.St:=⟨(aK:Int)+3,x.1.map fun k=>⟨k.f,k.t,k.d.bytes⟩,(x.2:Int)⟩
abbrev NA(aa:aE)(aK:Nat):Kd:=⟨List Nk×Nat,fun v x=>Ex fun(b:Nat)=>Pack (v=.pointer (some ⟨b,0,none⟩)) [lD.qw 106 b (lM aK x) aa]⟩
abbrev NB(aa:aE)(bd:Nat):Kd:=⟨Jd,fun v x=>Ex fun(b:Nat)=>Pack (v=.pointer (some ⟨b,0,none⟩)) [yM b bd aa x]⟩
def tX(x:Cl):Prop:=x.aK≤4∧x.blocks≤64∧x.paths.length=x.aK∧x.bQ<4294967295∧0≤x.now∧x.now≤1000000
structure ClV where
 pa:Option Addr
 pc:Nat
 ga:Nat
 gh:Nat
 kL:Nat
 o0:Option Addr
 o1:Option Addr
 bj:Nat
 bn:Nat
 ia:Option Addr
 ic:Nat
 bm:Nat
 oa:Option Addr
 oc:Nat
def eF(bx:Nat)(aa:aE)(x:Cl):aC:=Ex fun(y:ClV)=>Pack (tX x) [aX bx [.int .i64 (x.aK:Int),.int .i64 (x.blocks:Int),.slice y.pa x.paths.length y.pc,y.ga,y.gh,y.kL,.pointer y.o0,.pointer y.o1,y.bj,y.bn,.int .i64 x.now,.int .u32 (x.bQ:Int),.slice y.ia x.inv.length y.ic,.map (some y.bm),.slice y.oa x.out.length y.oc] 60,At (Fm aa) (.slice y.pa x.paths.length y.pc) x.paths,At (ng aa y.ga) (.pointer y.o0) x.n0,At (ng aa y.gh) (.pointer y.o1) x.n1,At (NB aa y.kL) y.bj x.jd,At (NA aa x.aK) y.bn (x.lY,x.jG),At (Li aa) (.slice y.ia x.inv.length y.ic) x.inv,At JY (.map (some y.bm)) x.row,At (Lj aa) (.slice y.oa x.out.length y.oc) x.out]
theorem Fo{aa:aE}{x:Cl}(H:On W0 (eF bx aa x::L) w):∃(pa:Option Addr) (pc ga gh kL:Nat) (o0 o1:Option Addr) (bj bn:Nat) (ia:Option Addr) (ic bm:Nat) (oa:Option Addr) (oc:Nat),tX x∧On W0 (aX bx [.int .i64 (x.aK:Int),.int .i64 (x.blocks:Int),.slice pa x.paths.length pc,ga,gh,kL,.pointer o0,.pointer o1,bj,bn,.int .i64 x.now,.int .u32 (x.bQ:Int),.slice ia x.inv.length ic,.map (some bm),.slice oa x.out.length oc] 60::At (Fm aa) (.slice pa x.paths.length pc) x.paths::At (ng aa ga) (.pointer o0) x.n0::At (ng aa gh) (.pointer o1) x.n1::At (NB aa kL) bj x.jd::At (NA aa x.aK) bn (x.lY,x.jG)::At (Li aa) (.slice ia x.inv.length ic) x.inv::At JY (.map (some bm)) x.row::At (Lj aa) (.slice oa x.out.length oc) x.out::L) w:=by
 obtain⟨⟨pa,pc,ga,gh,kL,o0,o1,bj,bn,ia,ic,bm,oa,oc⟩,H⟩:=H.ex;obtain⟨h1,H⟩:=H.unpack;exact⟨pa,pc,ga,gh,kL,o0,o1,bj,bn,ia,ic,bm,oa,oc,h1,H⟩
theorem clC{aa:aE}{x:Cl}{pa:Option Addr}{pc kL:Nat}{bj bn:Nat}{ia:Option Addr}{ic:Nat}{oa:Option Addr}{oc:Nat}(k:tX x)(H:On W0 (aX bx [.int .i64 (x.aK:Int),.int .i64 (x.blocks:Int),.slice pa x.paths.length pc,ga,gh,kL,.pointer o0,.pointer o1,bj,bn,.int .i64 x.now,.int .u32 (x.bQ:Int),.slice ia x.inv.length ic,.map (some bm),.slice oa x.out.length oc] 60::At (Fm aa) (.slice pa x.paths.length pc) x.paths::At (ng aa ga) (.pointer o0) x.n0::At (ng aa gh) (.pointer o1) x.n1::At (NB aa kL) bj x.jd::At (NA aa x.aK) bn (x.lY,x.jG)::At (Li aa) (.slice ia x.inv.length ic) x.inv::At JY (.map (some bm)) x.row::At (Lj aa) (.slice oa x.out.length oc) x.out::L) w):On W0 (eF bx aa x::L) w:=
 On.rT (⟨pa,pc,ga,gh,kL,o0,o1,bj,bn,ia,ic,bm,oa,oc⟩:ClV) (On.pack k H)
theorem U1{p q:aE}{l:List gQ}(k:cI p q)(h:Hp)(H:At (Fm p) v l h):At (Fm q) v l h:=by
 obtain⟨x,h1,s⟩:=H;exact⟨x,h1,s.aI fun _ s=>s.imp (BC k x)⟩
theorem U2{p q:aE}{m:Mc}(k:cI p q)(h:Hp)(H:At (ng p bd) v m h):At (ng q bd) v m h:=by
 cases m with
 |up n=>obtain⟨y,h1,s⟩:=H;exact⟨y,h1,s.imp (Hy k)⟩
 |down s=>exact H
theorem U3{p q:aE}{l:List Iv}(k:cI p q)(h:Hp)(H:At (Li p) v l h):At (Li q) v l h:=by
 obtain⟨x,⟨h1,h2⟩,s⟩:=H;exact⟨x,⟨h1,h2.mono k.h⟩,s⟩
theorem U4{p q:aE}{l:List Cp}(k:cI p q)(h:Hp)(H:At (Lj p) v l h):At (Lj q) v l h:=by
 obtain⟨x,⟨h1,h2⟩,s⟩:=H;exact⟨x,⟨h1,h2.mono k.h⟩,s⟩
theorem HG{p q:aE}{m:lD.St}(k:cI p q)(h:Hp)(H:lD.qw 106 b m p h):lD.qw 106 b m q h:=by
 obtain⟨x,⟨h1,h2,h3,h4⟩,s⟩:=H;exact⟨x,⟨h1,fun y hy=>k.h _ (h2 y hy),h3,h4⟩,s⟩
theorem U5{p q:aE}{x:List Nk×Nat}(k:cI p q)(h:Hp)(H:At (NA p n) v x h):At (NA q n) v x h:=by
 obtain⟨b,h1,s⟩:=H;exact⟨b,h1,s.imp (HG k)⟩
theorem U6{p q:aE}{bd:Nat}{v:Value}{x:Jd}(k:cI p q)(h:Hp)(H:At (NB p bd) v x h):At (NB q bd) v x h:=by
 obtain⟨b,h1,s⟩:=H;exact⟨b,h1,s.imp (HC k)⟩
section
variable{p q:aE}{L':List aC}[s:xN p q L L']
instance(priority:=100){l:List (Nat×gQ)}:xN p q (rU p l::L) (rU q l::L'):=⟨fun k _ H=>(H.aI (s.h k)).imp (BC k l)⟩
instance(priority:=100){v:Value}{l:List gQ}:xN p q (At (Fm p) v l::L) (At (Fm q) v l::L'):=⟨fun k _ H=>(H.aI (s.h k)).imp (U1 k)⟩
instance(priority:=100){v:Value}{bd:Nat}{m:Mc}:xN p q (At (ng p bd) v m::L) (At (ng q bd) v m::L'):=⟨fun k _ H=>(H.aI (s.h k)).imp (U2 k)⟩
instance(priority:=100){v:Value}{l:List Iv}:xN p q (At (Li p) v l::L) (At (Li q) v l::L'):=⟨fun k _ H=>(H.aI (s.h k)).imp (U3 k)⟩
instance(priority:=100){v:Value}{l:List Cp}:xN p q (At (Lj p) v l::L) (At (Lj q) v l::L'):=⟨fun k _ H=>(H.aI (s.h k)).imp (U4 k)⟩
instance(priority:=100){b:Nat}{m:lD.St}:xN p q (lD.qw 106 b m p::L) (lD.qw 106 b m q::L'):=⟨fun k _ H=>(H.aI (s.h k)).imp (HG k)⟩
instance(priority:=100){v:Value}{n:Nat}{x:List Nk×Nat}:xN p q (At (NA p n) v x::L) (At (NA q n) v x::L'):=⟨fun k _ H=>(H.aI (s.h k)).imp (U5 k)⟩
instance(priority:=100){v:Value}{bd:Nat}{x:Jd}:xN p q (At (NB p bd) v x::L) (At (NB q bd) v x::L'):=⟨fun k _ H=>(H.aI (s.h k)).imp (U6 k)⟩
end
theorem psO{aa:aE}{l:List gQ}(H:On W0 (At (Fm aa) v l::L) w):∃(xs:List (Nat×gQ)) (a:Option Addr) (c:Nat),v=.slice a xs.length c∧xs.map (·.2)=l∧On W0 (Own 1 (.slice a xs.length c) xs.length (xs.map fun x=>pL x.1)::rU aa xs::L) w:=by
 obtain⟨xs,H⟩:=On.ex H;obtain⟨h1,H⟩:=H.unpack;have e:l.length=xs.length:=by rw[←h1,List.length_map]
 rw[e] at H;have H:On W0 (Own 1 v xs.length (xs.map fun x=>pL x.1)::rU aa xs::L) w:=H;obtain⟨a,c,rfl,_⟩:=Own.form H;exact⟨xs,a,c,rfl,h1,H⟩
theorem psC{aa:aE}{xs:List (Nat×gQ)}{l:List gQ}(h1:xs.map (·.2)=l)(hn:n=l.length)(H:On W0 (Own 1 (.slice a n c) n (xs.map fun x=>pL x.1)::rU aa xs::L) w):On W0 (At (Fm aa) (.slice a n c) l::L) w:=by
 subst hn;exact On.rT xs (On.pack h1 H)
theorem U7{xs:List (Nat×gQ)}{x:Nat×gQ}{p:gQ}(h:xs[i]? =some x):(xs.set i (x.1,p)).map (fun x=>pL x.1)=xs.map fun x=>pL x.1:=by
 rw[List.map_set];apply List.ext_getElem?;intro k;rw[List.getElem?_set];split
 · rename_i e;subst e;rw[List.getElem?_map,h];simp;exact(List.getElem?_eq_some_iff.1 h).1
 rfl
theorem ivO{aa:aE}{l:List Iv}(H:On W0 (At (Li aa) v l::L) w):∃(xo:List (Iv×Value)) (a:Option Addr) (c:Nat),v=.slice a xo.length c∧(xo.map (·.1)=l∧cW aa (·.c.data) xo)∧On W0 (Own 11 (.slice a xo.length c) xo.length (xo.flatMap mS)::L) w:=by
 obtain⟨xo,H⟩:=On.ex H;obtain⟨h1,H⟩:=H.unpack;have e:l.length=xo.length:=by rw[←h1.1,List.length_map]
 rw[e] at H;have H:On W0 (Own 11 v xo.length (xo.flatMap mS)::L) w:=H;obtain⟨a,c,rfl,_⟩:=Own.form H;exact⟨xo,a,c,rfl,h1,H⟩
theorem YU{aa:aE}{xo:List (Iv×Value)}{l:List Iv}(h1:xo.map (·.1)=l∧cW aa (·.c.data) xo)(hn:n=l.length)(H:On W0 (Own 11 (.slice a n c) n (xo.flatMap mS)::L) w):On W0 (At (Li aa) (.slice a n c) l::L) w:=by
 subst hn;exact On.rT xo (On.pack h1 H)
theorem cpO{aa:aE}{l:List Cp}(H:On W0 (At (Lj aa) v l::L) w):∃(xo:List (Cp×Value)) (a:Option Addr) (c:Nat),v=.slice a xo.length c∧(xo.map (·.1)=l∧cW aa (·.r.data) xo)∧On W0 (Own 8 (.slice a xo.length c) xo.length (xo.flatMap kN)::L) w:=by
 obtain⟨xo,H⟩:=On.ex H;obtain⟨h1,H⟩:=H.unpack;have e:l.length=xo.length:=by rw[←h1.1,List.length_map]
 rw[e] at H;have H:On W0 (Own 8 v xo.length (xo.flatMap kN)::L) w:=H;obtain⟨a,c,rfl,_⟩:=Own.form H;exact⟨xo,a,c,rfl,h1,H⟩
theorem YV{aa:aE}{xo:List (Cp×Value)}{l:List Cp}(h1:xo.map (·.1)=l∧cW aa (·.r.data) xo)(hn:n=l.length)(H:On W0 (Own 8 (.slice a n c) n (xo.flatMap kN)::L) w):On W0 (At (Lj aa) (.slice a n c) l::L) w:=by
 subst hn;exact On.rT xo (On.pack h1 H)
theorem ac5{m:Ig}(H:On W0 (At JY (.map (some bm)) m::L) w):BD m∧On W0 (bV bm .u64 m.1 m.2::L) w:=by
 obtain⟨b,H⟩:=On.ex H;obtain⟨⟨h1,h2⟩,H⟩:=H.unpack;simp only[Value.map.injEq,Option.some.injEq] at h1;subst h1;exact⟨h2,H⟩
theorem Q2{m:Ig}(k:BD m)(H:On W0 (bV bm .u64 m.1 m.2::L) w):On W0 (At JY (.map (some bm)) m::L) w:=On.rT bm (On.pack ⟨rfl,k⟩ H)
theorem Q3{aa:aE}{n:Nd}(H:On W0 (At (ng aa bd) (.pointer o) (.up n)::L) w):∃(b:Nat) (vr:Value),o=some ⟨b,0,none⟩∧On W0 (BW b bd aa vr n::L) w:=by
 obtain⟨⟨b,vr⟩,H⟩:=On.ex H;obtain⟨h1,H⟩:=H.unpack;simp only[Value.pointer.injEq] at h1;exact⟨b,vr,h1,H⟩
theorem ac6{aa:aE}{s:kJ}(H:On W0 (At (ng aa bd) (.pointer o) (.down s)::L) w):o=none∧∃(g:ow.Rg) (d:dA.Dk),SI d s.hd s.tn [] s.es g∧d.calls≤s.cn∧On W0 (dA.aQ 109 221 bd {d with off:=true}::L) w:=by
 obtain⟨⟨g,d⟩,H⟩:=On.ex H;obtain⟨⟨h1,h2,h3⟩,H⟩:=H.unpack;simp only[Value.pointer.injEq] at h1;exact⟨h1,g,d,h2,h3,H⟩
theorem ac7{aa:aE}{m:Mc}(H:On W0 (At (ng aa bd) (.pointer o) m::L) w):o.isSome=m.YM:=by
 cases m with
 |up n=>obtain⟨b,vr,rfl,_⟩:=Q3 H;rfl
 |down s=>obtain⟨rfl,_⟩:=ac6 H;rfl
theorem upI{aa:aE}{vr:Value}{n:Nd}(H:On W0 (BW b bd aa vr n::L) w):On W0 (At (ng aa bd) b (.up n)::L) w:=On.rT (b,vr) (On.pack rfl H)
theorem dnI{aa:aE}{s:kJ}{g:ow.Rg}{d:dA.Dk}(h1:SI d s.hd s.tn [] s.es g)(h2:d.calls≤s.cn)(H:On W0 (dA.aQ 109 221 bd {d with off:=true}::L) w):On W0 (At (ng aa bd) (.pointer none) (.down s)::L) w:=On.rT (g,d) (On.pack ⟨rfl,h1,h2⟩ H)
def fQ{α:Type}(i:Nat)(a b:α):α:=if i=0 then a else b
theorem HH(hi:i≤1){aa:aE}{m0 m1:Mc}(H:On W0 (At (ng aa ga) (.pointer o0) m0::At (ng aa gh) (.pointer o1) m1::L) w):
   On W0 (At (ng aa (fQ i ga gh)) (.pointer (fQ i o0 o1)) (fQ i m0 m1)::At (ng aa (fQ i gh ga)) (.pointer (fQ i o1 o0)) (fQ i m1 m0)::L) w:=by
 rcases(show i=0∨i=1 by omega) with rfl|rfl
 · exact H
 exact H.p1
theorem Q4(hi:i≤1){aa:aE}{m0 m1 m:Mc}(H:On W0 (At (ng aa (fQ i ga gh)) (.pointer (fQ i o0 o1)) m::At (ng aa (fQ i gh ga)) (.pointer (fQ i o1 o0)) (fQ i m1 m0)::L) w):
   On W0 (At (ng aa ga) (.pointer o0) (fQ i m m0)::At (ng aa gh) (.pointer o1) (fQ i m1 m)::L) w:=by
 rcases(show i=0∨i=1 by omega) with rfl|rfl
 · exact H
 exact H.p1
theorem wM(x:Cl)(i:Nat)(m:Mc):x.Fi i m={x with n0:=fQ i m x.n0,n1:=fQ i x.n1 m}:=by
 unfold Cl.Fi fQ;split<;>rfl
theorem DR(hz:z=(i:Int))(hi:i≤1){w:World}(H:On W0 L w)[dQ L bx (c0::c1::c2::c3::c4::c5:: .pointer o0:: .pointer o1::cs) t fr]:w.cell? ⟨bx,6+z.toNat*1,none⟩=some (.pointer (fQ i o0 o1)):=by
 subst hz;rcases(show i=0∨i=1 by omega) with rfl|rfl
 · exact H.aS rfl
 exact H.aS rfl
theorem rq(hz:z=(i:Int))(hi:i≤1){w:World}(e:fQ i o0 o1=some ⟨b,0,none⟩)(H:On W0 L w)[dQ L bx (c0::c1::c2::c3::c4::c5:: .pointer o0:: .pointer o1::cs) t fr]:w.cell? ⟨bx,6+z.toNat*1,none⟩=some (.pointer (some ⟨b,0,none⟩)):=by
 rw[DR hz hi H,e]
theorem xQ{xs:List (Nat×gQ)}{x:Nat×gQ}(h:xs[k]? =some x):((xs.map fun x=>pL x.1).drop (k*1)).take 1=[pL x.1]:=by
 have hk:=(List.getElem?_eq_some_iff.1 h).1;rw[Nat.mul_one,List.drop_eq_getElem_cons (by rw[List.length_map];exact hk),List.take_succ_cons,List.take_zero,List.getElem_map,(List.getElem?_eq_some_iff.1 h).2]
theorem YW{xs:List (Nat×gQ)}{l:List gQ}{p:gQ}(h:xs.map (·.2)=l)(hp:l[k]? =some p):∃b,xs[k]? =some (b,p):=by
 rw[←h,List.getElem?_map] at hp;obtain⟨y,hy,rfl⟩:=Option.map_eq_some_iff.1 hp;exact⟨y.1,hy⟩
theorem qA{b0 b1:Nat}(hz:z=(i:Int))(hi:i≤1){w:World}(H:On W0 L w)[dQ L bx (c0::c1::c2::b0::b1::cs) t fr]:w.cell? ⟨bx,3+z.toNat*1,none⟩=some (.pointer (some ⟨fQ i b0 b1,0,none⟩)):=by
 subst hz;rcases(show i=0∨i=1 by omega) with rfl|rfl
 · exact H.aS rfl
 exact H.aS rfl
theorem Q5(hi:i≤1){aa:aE}{m0 m1 m:Mc}(H:On W0 (At (ng aa (fQ i ga gh)) (.pointer o) m::At (ng aa (fQ i gh ga)) (.pointer (fQ i o1 o0)) (fQ i m1 m0)::L) w):
   On W0 (At (ng aa ga) (.pointer (fQ i o o0)) (fQ i m m0)::At (ng aa gh) (.pointer (fQ i o1 o)) (fQ i m1 m)::L) w:=by
 rcases(show i=0∨i=1 by omega) with rfl|rfl
 · exact H
 exact H.p1
section
variable{P:Program}{ρ:Operand→Value}{d:Option Nat}{ty:TypeId}{pos:String}{af:Array Edge}{g:Option (Nat×Bool)}
theorem ur{tT:Nat}(hz:z=(i:Int))(hi:i≤1){x y:Operand}{v:Option Addr}(H:On W0 (aX bx (c0::c1::c2::c3::c4::c5:: .pointer o0:: .pointer o1::cs) tT::L) w)(hS:∀w,(sizeOf t).run P w=.ok 1 w)(h:ρ x=.pointer (some ⟨bx,6+z.toNat*1,none⟩))(hy:ρ y=.pointer v):
   nr P ρ ⟨d,.store t x y,ty,pos,af,g⟩ w (fun _ w'=>On W0 (aX bx (c0::c1::c2::c3::c4::c5:: .pointer (fQ i v o0):: .pointer (fQ i o1 v)::cs) tT::L) w'):=by
 subst hz;rcases(show i=0∨i=1 by omega) with rfl|rfl
 · exact bI H hS h hy rfl rfl (vt 6)
 exact bI H hS h hy rfl rfl (vt 7)
end
theorem Q6{A B C:aC}{L:List aC}(H:On W0 (A::B::C::L) w):∃R,R=L∧On W0 (A::B::C::R) w:=⟨L,rfl,H⟩
theorem Q7{bx:Nat}{p q:aE}{x:Cl}(k:cI p q)(h:Hp)(H:eF bx p x h):eF bx q x h:=by
 obtain⟨y,h1,s⟩:=H;exact⟨y,h1,xN.h k _ s⟩
instance(priority:=100){bx:Nat}{p q:aE}{x:Cl}{L':List aC}[s:xN p q L L']:xN p q (eF bx p x::L) (eF bx q x::L'):=⟨fun k _ H=>(H.aI (s.h k)).imp (Q7 k)⟩
theorem ntO{aa:aE}{x:List Nk×Nat}(H:On W0 (At (NA aa n) b x::L) w):On W0 (lD.qw 106 b (lM n x) aa::L) w:=by
 obtain⟨b',H⟩:=On.ex H;obtain⟨h1,H⟩:=H.unpack;simp only[Value.pointer.injEq,Option.some.injEq,Addr.mk.injEq,and_true] at h1;subst h1;exact H
theorem ntC{aa:aE}{x:List Nk×Nat}(H:On W0 (lD.qw 106 b (lM n x) aa::L) w):On W0 (At (NA aa n) b x::L) w:=On.rT b (On.pack rfl H)
theorem ac8{aa:aE}{x:Jd}(H:On W0 (At (NB aa bd) b x::L) w):On W0 (yM b bd aa x::L) w:=by
 obtain⟨b',H⟩:=On.ex H;obtain⟨h1,H⟩:=H.unpack;simp only[Value.pointer.injEq,Option.some.injEq,Addr.mk.injEq,and_true] at h1;subst h1;exact H
theorem YX{aa:aE}{x:Jd}(H:On W0 (yM b bd aa x::L) w):On W0 (At (NB aa bd) b x::L) w:=On.rT b (On.pack rfl H)
theorem ac9{aa:aE}{l:List gQ}{h:Hp}(H:Sat (At (Fm aa) (.slice a k c) l::L) h):k=l.length:=by
 obtain⟨h1,_,x,_,s⟩:=H.fact;obtain⟨h2,_,o⟩:=s.fact;obtain⟨a',c',e,_⟩:=o.cells.form;simp only[Value.slice.injEq] at e;exact e.2.1
theorem ada{aa:aE}{l:List Iv}{h:Hp}(H:Sat (At (Li aa) (.slice a k c) l::L) h):k=l.length:=by
 obtain⟨h1,_,x,_,s⟩:=H.fact;obtain⟨h2,_,o⟩:=s.fact;obtain⟨a',c',e,_⟩:=o.cells.form;simp only[Value.slice.injEq] at e;exact e.2.1
theorem adb{aa:aE}{l:List Cp}{h:Hp}(H:Sat (At (Lj aa) (.slice a k c) l::L) h):k=l.length:=by
 obtain⟨h1,_,x,_,s⟩:=H.fact;obtain⟨h2,_,o⟩:=s.fact;obtain⟨a',c',e,_⟩:=o.cells.form;simp only[Value.slice.injEq] at e;exact e.2.1
class ClG(L:List aC)(bx:Nat)(aa:outParam aE)(x:outParam Cl)(L':outParam (List aC)):Prop where
 h:tX x→∀h,Sat L h→Sat (eF bx aa x::L') h
instance{bx:Nat}{aa:aE}{x:Cl}:ClG (eF bx aa x::L) bx aa x L:=⟨fun _ _ h=>h⟩
instance(priority:=low){bx:Nat}{aa:aE}{x:Cl}{L':List aC}{A:aC}[s:ClG L bx aa x L']:ClG (A::L) bx aa x (A::L'):=⟨fun k h H=>(Sat.aI (s.h k) H).swap⟩
theorem og{aa:aE}{x x':Cl}{L':List aC}[g:ClG L bx aa x' L'](e:x'=x)(k:tX x)(h:On W0 L w):On W0 (eF bx aa x::L') w:=by subst e;exact h.imp (g.h k)
instance(priority:=50) adf {bx:Nat} {aa:aE} {aK blocks pl pc ga gh kL bj bn il ic bm ol oc bQ:Nat} {pa o0 o1 ia oa:Option Addr} {now:Int} {paths:List gQ} {n0 n1:Mc} {jd:Jd} {nt:List Nk×Nat} {inv:List Iv} {row:Ig} {out:List Cp} {L0 L1 L2 L3 L4 L5 L6 L7 L8 L9:List aC}
   [f0:FB L bx [.int .i64 (aK:Int),.int .i64 (blocks:Int),.slice pa pl pc,ga,gh,kL,.pointer o0,.pointer o1,bj,bn,.int .i64 now,.int .u32 (bQ:Int),.slice ia il ic,.map (some bm),.slice oa ol oc] 60 L0] [f1:DK L0 aa L1] [f2:nL (Fm aa) L1 (.slice pa pl pc) paths L2] [f3:nL (ng aa ga) L2 (.pointer o0) n0 L3] [f4:nL (ng aa gh) L3 (.pointer o1) n1 L4] [f5:nL (NB aa kL) L4 bj jd L5] [f6:nL (NA aa aK) L5 bn nt L6] [f7:nL (Li aa) L6 (.slice ia il ic) inv L7] [f8:nL JY L7 (.map (some bm)) row L8] [f9:nL (Lj aa) L8 (.slice oa ol oc) out L9]:
   ClG L bx aa ⟨aK, blocks, paths, n0, n1, jd, nt.1, nt.2, now, bQ, inv, row, out⟩ (aY aa :: L9) := ⟨fun k h H => by
 have H := f0.h _ H;have H := H.aI f1.h;have H := H.aI fun _ H => H.aI fun _ H => f2.h _ H;have H := H.aI fun _ H => H.aI fun _ H => H.aI fun _ H => f3.h _ H;have H := H.aI fun _ H => H.aI fun _ H => H.aI fun _ H => H.aI fun _ H => f4.h _ H;have H := H.aI fun _ H => H.aI fun _ H => H.aI fun _ H => H.aI fun _ H => H.aI fun _ H => f5.h _ H;have H := H.aI fun _ H => H.aI fun _ H => H.aI fun _ H => H.aI fun _ H => H.aI fun _ H => H.aI fun _ H => f6.h _ H;have H := H.aI fun _ H => H.aI fun _ H => H.aI fun _ H => H.aI fun _ H => H.aI fun _ H => H.aI fun _ H => H.aI fun _ H => f7.h _ H;have H := H.aI fun _ H => H.aI fun _ H => H.aI fun _ H => H.aI fun _ H => H.aI fun _ H => H.aI fun _ H => H.aI fun _ H => H.aI fun _ H => f8.h _ H;have H := H.aI fun _ H => H.aI fun _ H => H.aI fun _ H => H.aI fun _ H => H.aI fun _ H => H.aI fun _ H => H.aI fun _ H => H.aI fun _ H => H.aI fun _ H => f9.h _ H;have e1 := ac9 H.tail.tail;have e2 := ada H.tail.tail.tail.tail.tail.tail.tail;have e3 := adb H.tail.tail.tail.tail.tail.tail.tail.tail.tail;subst e1 e2 e3;have H : Sat ([aX bx [.int .i64 (aK : Int), .int .i64 (blocks : Int), .slice pa paths.length pc, ga, gh, kL, .pointer o0, .pointer o1, bj, bn, .int .i64 now, .int .u32 (bQ : Int), .slice ia inv.length ic, .map (some bm), .slice oa out.length oc] 60, aY aa, At (Fm aa) (.slice pa paths.length pc) paths, At (ng aa ga) (.pointer o0) n0, At (ng aa gh) (.pointer o1) n1, At (NB aa kL) bj jd, At (NA aa aK) bn nt, At (Li aa) (.slice ia inv.length ic) inv, At JY (.map (some bm)) row, At (Lj aa) (.slice oa out.length oc) out] ++ L9) h := H;refine Sat.swap ((Sat.aI fun h H => ?_) H.swap);refine (Sat.uv H).imp fun h s => ⟨⟨pa, pc, ga, gh, kL, o0, o1, bj, bn, ia, ic, bm, oa, oc⟩, k, s⟩⟩
end Go.Proofs.YtcplmndikhjehaaGreat
namespace Go.Proofs.YtcplmndikhjehaaGreat
open Go.Proofs.Tryz
open Go Go.Sl Go.Sl.eM Go.Sl.gW Go.Sl.kM Go.Sl.pe Go.Sl.pM Go.Sl.mG Go.Sl.pO Go.Sl.rH Go.Sl.pN Go.Sl.gU Go.Sl.l9
open Go.Sl.oB (wr)
open Go.Sl.dA (fu fu.eN fu.mono)
set_option maxHeartbeats 0
set_option maxRecDepth 8000
variable{bx e_ aK who:Nat}{cs:List Value}{fr:Nat×Nat}
variable{W0 w:World}{L F:List aC}
theorem Ra(k1:aK≤4)[dQ L bx (.int .i64 (aK:Int)::cs) e_ fr](h:On W0 L w):Cs 15 [bx] w fun v w'=>v=.int .i64 ((aK+3:Nat):Int)∧On W0 L w':=by
 refine qO ?_;refine go ?_;refine WL.v (gK (n:=3) rfl rfl (by omega)) ?_;refine qR ?_;exact⟨rfl,h⟩
theorem xR{aa:aE}{x:Cl}(h:On W0 (eF bx aa x::L) w):Cs 15 [bx] w fun v w'=>v=.int .i64 ((x.aK+3:Nat):Int)∧On W0 (eF bx aa x::L) w':=by
 obtain⟨pa,pc,ga,gh,kL,o0,o1,bj,bn,ia,ic,bm,oa,oc,kx,h⟩:=Fo h;refine(Ra kx.1 h).mono fun e w' he=> ?_;obtain⟨v,he,hv,h⟩:=he;exact⟨v,he,hv,clC kx h⟩
theorem ahM{aa:aE}{x:Cl}(h:On W0 (eF bx aa x::L) w):Cs 14 [bx] w fun v w'=>v=.int .i64 x.now∧On W0 (eF bx aa x::L) w':=by
 refine qO ?_;have aA:=Fo h;obtain⟨pa,pc,ga,gh,kL,o0,o1,bj,bn,ia,ic,bm,oa,oc,kx,h⟩:=aA;have k1:=kx.1;refine qR ?_;exact⟨rfl,clC kx h⟩
def Lk(aK:Nat)(o0 o1:Option Addr)(who:Nat):Bool:=if who=aK then o0.isSome else if who=aK+1 then o1.isSome else decide (who<aK+3)
theorem YY{c1 c2 c3 c4 c5:Value}{o0 o1:Option Addr}{bj:Nat}(k1:aK≤4)(hw:who≤1000000)[dQ L bx (.int .i64 (aK:Int)::c1::c2::c3::c4::c5:: .pointer o0:: .pointer o1::bj::cs) e_ fr](h:On W0 L w):Cs 24 [bx,.int .i64 (who:Int)] w fun v w'=>v=.bool (Lk aK o0 o1 who)∧On W0 L w':=by
 refine qO ?_;refine go ?_;refine WL.v (iq rfl rfl (by omega) (by omega)) ?_;refine go ?_;refine WL.q (cH rfl rfl) (fun BR=> ?_) (fun BR=> ?_)
 · exfalso;omega
 refine qI (fun c4=> ?_) (fun c4=> ?_)
 ·
  refine qR ?_;have e:Lk aK o0 o1 who=false:=by unfold Lk;rw[if_neg (by omega),if_neg (by omega)];exact decide_eq_false (by omega)
  rw[e];exact⟨rfl,h⟩
 refine qI (fun c8=> ?_) (fun c8=> ?_)
 ·
  refine qR ?_;have e:Lk aK o0 o1 who=true:=by unfold Lk;rw[if_neg (by omega),if_neg (by omega)];exact decide_eq_true (by omega)
  rw[e];exact⟨rfl,h⟩
 refine qI (fun nB=> ?_) (fun nB=> ?_)
 ·
  refine qR ?_;have e:Lk aK o0 o1 who=true:=by unfold Lk;rw[if_neg (by omega),if_neg (by omega)];exact decide_eq_true (by omega)
  rw[e];exact⟨rfl,h⟩
 have aA:∃i:Nat,who=aK+i∧i≤1:=⟨who - aK,by omega,by omega⟩;obtain⟨i,hwi,hi⟩:=aA;refine go ?_;refine WL.v (bg underlying55 sizeOf54 rfl rfl (by omega) (by omega)) ?_;refine WL.l isAgg54 rfl (DR (i:=i) (by omega) hi h) ?_;refine qR ?_
 have e:Lk aK o0 o1 who=(!(fQ i o0 o1).isNone):=by
   unfold Lk;have aA:=(show i=0∨i=1 by omega);rcases aA with rfl|rfl
   · rw[if_pos (show who=aK from hwi)];cases o0<;>rfl
   rw[if_neg (by omega),if_pos hwi];cases o1<;>rfl
 rw[e];exact⟨rfl,h⟩
theorem cup{aa:aE}{x:Cl}(hw:who≤1000000)(h:On W0 (eF bx aa x::L) w):Cs 24 [bx,.int .i64 (who:Int)] w fun v w'=>v=.bool (JW x who)∧On W0 (eF bx aa x::L) w':=by
 obtain⟨pa,pc,ga,gh,kL,o0,o1,bj,bn,ia,ic,bm,oa,oc,kx,h⟩:=Fo h;have u0:=ac7 (iW (k:=ng aa ga) (v:=.pointer o0) h);have u1:=ac7 (iW (k:=ng aa gh) (v:=.pointer o1) h);refine(YY kx.1 hw h).mono fun e w' he=> ?_;obtain⟨v,he,hv,h⟩:=he;exact⟨v,he,by rw[hv];unfold Lk JW;rw[u0,u1],clC kx h⟩
theorem Rb(x:Cl)(kh:aK≤4)(eh:x.aK=aK)[dQ L bx (.int .i64 (aK:Int)::cs) e_ fr]{Ii:Int}(hw:who≤1000000)(h:On W0 L w):Cs 140 [bx,.int .i64 (who:Int),.int .i64 Ii] w fun v w'=>v=.int .i64 (addr x who Ii)∧On W0 L w':=by
 refine qO ?_;subst eh;refine go ?_;refine WL.v (iq rfl rfl (by omega) (by omega)) ?_;refine go ?_;refine WL.q (cH rfl rfl) (fun oM=> ?_) (fun oM=> ?_)
 ·
  refine qD ?_;refine WL.v (eU (k:=.i64) rfl rfl) ?_;refine qR ?_;have e:addr x who Ii=wr (x.aK+Ii):=by unfold addr;rw[if_pos (by omega)]
  rw[e];exact⟨rfl,h⟩
 refine qI (fun c4=> ?_) (fun c4=> ?_)
 ·
  refine go ?_;refine WL.v (eU (k:=.i64) rfl rfl) ?_;refine qR ?_;have e:addr x who Ii=wr (x.aK+Ii):=by unfold addr;rw[if_pos (by omega)]
  rw[e];exact⟨rfl,h⟩
 refine qI (fun c8=> ?_) (fun c8=> ?_)
 ·
  refine go ?_;refine WL.v (di rfl rfl (by omega) (by omega)) ?_;refine go ?_;refine WL.v (iC (k:=.i64) rfl rfl) ?_;refine qR ?_;have e:addr x who Ii=wr (x.aK+1 - ((who:Int) - x.aK)):=by unfold addr;rw[if_neg (by omega),if_pos c8]
  rw[e];exact⟨rfl,h⟩
 refine qI (fun nB=> ?_) (fun nB=> ?_)
 ·
  refine qD ?_;refine qR ?_;have e:addr x who Ii=x.aK+2:=by unfold addr;rw[if_neg (by omega),if_neg c8,if_pos nB]
  rw[e];exact⟨rfl,h⟩
 refine go ?_;refine WL.v (iC (k:=.i64) rfl rfl) ?_;refine qR ?_;have e:addr x who Ii=wr (Ii - 16):=by unfold addr;rw[if_neg (by omega),if_neg c8,if_neg nB]
 rw[e];exact⟨rfl,h⟩
theorem adh(x:Cl)(kh:aK≤4)(eh:x.aK=aK)[dQ L bx (.int .i64 (aK:Int)::cs) e_ fr]{other:Int}(hw:who≤1000000)(h:On W0 L w):Cs 85 [bx,.int .i64 (who:Int),.int .i64 other] w fun v w'=>v=.int .i64 (from_ x who other)∧On W0 L w':=by
 refine qO ?_;subst eh;refine go ?_;refine WL.v (iq rfl rfl (by omega) (by omega)) ?_;refine go ?_;refine WL.q (cH rfl rfl) (fun oM=> ?_) (fun oM=> ?_)
 ·
  refine qD ?_;refine WL.v (iC (k:=.i64) rfl rfl) ?_;refine qR ?_;have e:from_ x who other=wr (other - x.aK):=by unfold from_;rw[if_pos (by omega)]
  rw[e];exact⟨rfl,h⟩
 refine qI (fun c4=> ?_) (fun c4=> ?_)
 ·
  refine go ?_;refine WL.v (iC (k:=.i64) rfl rfl) ?_;refine qR ?_;have e:from_ x who other=wr (other - x.aK):=by unfold from_;rw[if_pos (by omega)]
  rw[e];exact⟨rfl,h⟩
 refine qI (fun c8=> ?_) (fun c8=> ?_)
 ·
  refine go ?_;refine WL.v (eU (k:=.i64) rfl rfl) ?_;refine qR ?_;have e:from_ x who other=wr (16+other):=by unfold from_;rw[if_neg (by omega),if_pos c8]
  rw[e];exact⟨rfl,h⟩
 refine qI (fun nB=> ?_) (fun nB=> ?_)
 ·
  refine qR ?_;have e:from_ x who other=2:=by unfold from_;rw[if_neg (by omega),if_neg c8,if_pos nB]
  rw[e];exact⟨rfl,h⟩
 refine qR ?_;have e:from_ x who other=1:=by unfold from_;rw[if_neg (by omega),if_neg c8,if_neg nB]
 rw[e];exact⟨rfl,h⟩
end Go.Proofs.YtcplmndikhjehaaGreat
namespace Go.Proofs.YtcplmndikhjehaaGreat
open Go.Proofs.Tryz
open Go Go.Sl Go.Sl.eM Go.Sl.gW Go.Sl.kM Go.Sl.pe Go.Sl.pM Go.Sl.mG Go.Sl.pO Go.Sl.rH Go.Sl.pN Go.Sl.gU Go.Sl.l9
open Go.Sl.oB (wr)
open Go.Sl.dA (fu fu.eN fu.mono)
set_option maxHeartbeats 0
set_option maxRecDepth 8000
variable{W0 w:World}{L F:List aC}
section
variable{P:Program}{ρ:Operand→Value}{d:Option Nat}{ty:TypeId}{pos:String}{af:Array Edge}{g:Option (Nat×Bool)}
theorem yQ{t kt et b:Nat}{q kd:IntKind}{k:Int}{x y:Operand}{z v:Value}{kvs:List KV}{ck:Nat}(H:On W0 (bV b kd kvs ck::L) w)(hU:P.underlying t=some (.map kt et))(hK:P.underlying kt=some (.int q))(hZ:∀w,(zeroValue et).run P w=.ok z w)(hx:ρ x=.map (some b))(hy:ρ y=.int kd k)
   (hv:(dL kvs k).getD z=v):nr P ρ ⟨d,.lookup t x y true,ty,pos,af,g⟩ w (fun v' w'=>v'=.tuple #[v,.bool (dL kvs k).isSome]∧On W0 (bV b kd kvs ck::L) w'):=
 .inl ⟨_,w,pG H.jH.2 hU hK hZ hx hy hv rfl,rfl,H⟩
end
theorem Rc{m:Ig}(k:BD m)(key:Int):∃(h:Int) (id:Nat) (t:Int),(dL m.1 key).getD (.agg #[.int .i64 0,.int .u64 0,.int .i64 0])=.agg #[.int .i64 h,.int .u64 (id:Int),.int .i64 t]:=by
 cases e:dL m.1 key with
 |none=>exact⟨0,0,0,rfl⟩
 | some v=>
   unfold dL at e;obtain⟨y,hy,rfl⟩:=Option.map_eq_some_iff.1 e;exact k y (List.mem_of_find?_eq_some hy)
theorem NC{r:Ig}{now:Int}{c:xJ}(k:BD r):BD (lZ r now c):=by
 unfold lZ;split
 · exact k
 intro y hy;simp only[iR] at hy;split at hy
 · obtain⟨z,hz,rfl⟩:=List.mem_map.1 hy
   split
   · exact⟨_,_,_,rfl⟩
   exact k z hz
 rcases List.mem_append.1 hy with hy|hy
 · exact k y hy
 rw[List.mem_singleton.1 hy];exact⟨_,_,_,rfl⟩
theorem Re{who:Nat}{x:Cl}{t:Int}{d:Dt}(hw:who<x.aK+3):∃(nt:List Nk×Nat),(if js x t d=true then{x with lY:=x.lY++[⟨who,t,d⟩],jG:=x.jG+1} else x)={x with lY:=nt.1,jG:=nt.2}∧nt.2≤x.jG+1∧lD.send (lM x.aK (x.lY,x.jG)) (who:Int) t d.bytes=lM x.aK nt:=by
 have hl:=d.nG;by_cases hE:js x t d=true
 · refine⟨(x.lY++[⟨who,t,d⟩],x.jG+1),by rw[if_pos hE],Nat.le_refl _, ?_⟩
   unfold js at hE;simp only[Bool.and_eq_true,decide_eq_true_eq] at hE
   have e:lD.js (lM x.aK (x.lY,x.jG)) (who:Int) t d.bytes.length=0:=by
     unfold lD.js lM;rw[if_neg (by simp only;omega),if_neg (by omega),if_neg (by simp only[List.length_map];omega)]
   unfold lD.send;rw[if_pos e];simp[lM]
 refine⟨(x.lY,x.jG),by rw[if_neg hE],Nat.le_succ _, ?_⟩
 have e:lD.js (lM x.aK (x.lY,x.jG)) (who:Int) t d.bytes.length≠0:=by
   intro e;apply hE;unfold lD.js lM at e;simp only[List.length_map] at e;split at e
   · cases e
   split at e
   · cases e
   split at e
   · cases e
   rename_i a b c;unfold js;simp only[Bool.and_eq_true,decide_eq_true_eq];omega
 unfold lD.send;rw[if_neg e]
theorem BE{aa:aE}{v:Value}{l:List gQ}{i:Nat}{p:gQ}(hp:l[i]? =some p)(H:On W0 (At (Fm aa) v l::L) w):∃(xs:List (Nat×gQ)) (a:Option Addr) (c b:Nat),v=.slice a xs.length c∧xs.map (·.2)=l∧xs[i]? =some (b,p)∧On W0 (Own 1 (.slice a xs.length c) xs.length (xs.map fun x=>pL x.1)::bS 103 139 b aa p::rU aa (xs.eraseIdx i)::L) w:=by
 obtain⟨xs,a,c,hv,DS,H⟩:=psO H;obtain⟨b,hx⟩:=YW DS hp;exact⟨xs,a,c,b,hv,DS,hx,(Q1 hx H.p1).to⟩
theorem wN{aa:aE}{xs:List (Nat×gQ)}{l:List gQ}{i b c:Nat}{a:Option Addr}{p p0:gQ}(DS:xs.map (·.2)=l)(hx:xs[i]? =some (b,p0))(H:On W0 (Own 1 (.slice a xs.length c) xs.length (xs.map fun x=>pL x.1)::bS 103 139 b aa p::rU aa (xs.eraseIdx i)::L) w):On W0 (At (Fm aa) (.slice a xs.length c) (l.set i p)::L) w:=by
 have H2:On W0 (bS 103 139 b aa p::rU aa (xs.eraseIdx i)::Own 1 (.slice a xs.length c) xs.length (xs.map fun x=>pL x.1)::L) w:=H.to;have H3:=Wg (x:=(b,p)) hx H2;have e:=U7 (p:=p) hx;simp only at e;rw[←e] at H3;refine psC (by rw[List.map_set,DS]) ?_ H3.p1;rw[List.length_set,←DS,List.length_map]
theorem JZ{bx who:Nat}{aa:aE}{x x2:Cl}(hm:after x who=some x2)(h:On W0 (eF bx aa x::aY aa::L) w):Cs 89 [bx,.int .i64 (who:Int)] w fun v w'=>∃aN,cI aa aN∧On W0 (eF bx aN x2::aY aN::L) w':=by
 refine qO ?_;have fH:=aG;unfold after at hm;have dI:=iZ hm;clear hm;obtain⟨⟨hsn,hwh⟩,hm⟩:=dI;have aA:=Fo h;obtain⟨pa,pc,ga,gh,kL,o0,o1,bj,bn,ia,ic,bm,oa,oc,kx,h⟩:=aA;have k1:=kx.1;have k3:=kx.2.2.1;refine W.sr ?_;refine gw ?_;refine W.cut (fun env w=>∃(j:Env) (xo:List (Pk×Value)) (ao:Option Addr) (x1:Cl),wL who (xo.map (·.1)) x1=x2∧cW aa (·.data) xo∧tX x1∧x1.aK=x.aK∧x1.jG≤100000000∧xo.length≤1000∧env=eu j [(0,bx),(1,.int .i64 (who:Int)),(4,.slice ao xo.length xo.length)]∧On W0 (Own 2 (.slice ao xo.length xo.length) xo.length (xo.flatMap mW)::eF bx aa x1::aY aa::L) w) ?_ ?_
 ·
  refine qI (fun c4=> ?_) (fun c4=> ?_)
  ·
   rw[if_pos (by omega)] at hm;have aA:∃p,x.paths[who]? =some p:=⟨_,List.getElem?_eq_getElem (show who<x.paths.length by omega)⟩;obtain⟨p,hp⟩:=aA;rw[hp] at hm;simp only at hm;have dI:=iZ hm;clear hm;obtain⟨⟨vh,zf,Z6⟩,hm⟩:=dI;have hm:=Option.some.inj hm;obtain⟨host,nd,next,l,out,done,t⟩:=p;simp only at hm zf Z6;have aA:=BE hp (iW (k:=Fm aa) (v:=.slice pa x.paths.length pc) h);obtain⟨xs,pa9,pc9,bp,Cu,DS,zn,h⟩:=aA;simp only[Value.slice.injEq] at Cu;obtain⟨rfl,hle,rfl⟩:=Cu;rw[hle] at h;have eC:=(List.getElem?_eq_some_iff.1 zn).1;have aA:=(h.aR (v:=.slice pa xs.length pc)).addr (by omega);obtain⟨ba,uh,rfl⟩:=aA;refine qD ?_;refine WL.l isAgg61 rfl ((h.aR (v:=.slice (some ⟨ba,uh,none⟩) xs.length pc)).elem (i:=who) (vs:=[bp]) (by omega) (xQ zn) 0 _ rfl) ?_;refine WL.e (ag call134 (Up (h.aj (bS 103 139 bp aa ⟨host,nd,next,l,out,done,t⟩)))) ?_;rintro _ w ⟨xo,ao,rfl,gy,uW,h⟩;refine qD ?_;refine WL.l isAgg61 rfl ((h.aR (v:=.slice (some ⟨ba,uh,none⟩) xs.length pc)).elem (i:=who) (vs:=[bp]) (by omega) (xQ zn) 0 _ rfl) ?_;refine WL.e (ag call135 (Qg (h.aj (bS 103 139 bp aa ⟨host,nd,next,l,[],done,t⟩)))) ?_;rintro _ w ⟨xd,ad,rfl,l8,hpd,h⟩;refine gw ?_;have oA:done.length=xd.length:=by rw[←l8,List.length_map]
   have r7:out.length=xo.length:=by rw[←gy,List.length_map]
   have h:=wN DS zn (((h.aj (rU aa (xs.eraseIdx who))).aj (bS 103 139 bp aa (⟨host,nd,next,l,[],[],t⟩:gQ))).aj (Own 1 (.slice (some ⟨ba,uh,none⟩) xs.length pc) xs.length (xs.map fun x=>pL x.1)));have aA:=cpO (iW (k:=Lj aa) (v:=.slice oa x.out.length oc) h);obtain⟨xi,oa9,oc9,Rf,⟨HI,CK⟩,h⟩:=aA;simp only[Value.slice.injEq] at Rf;obtain⟨rfl,J0,rfl⟩:=Rf;rw[J0] at h;have h:=((h.aj (Own 6 (.slice ad xd.length xd.length) xd.length (xd.flatMap vZ))).aj (Own 8 (.slice oa xi.length oc) xi.length (xi.flatMap kN))).aj (aX bx [.int .i64 (x.aK:Int),.int .i64 (x.blocks:Int),.slice (some ⟨ba,uh,none⟩) xs.length pc,ga,gh,kL,.pointer o0,.pointer o1,bj,bn,.int .i64 x.now,.int .u32 (x.bQ:Int),.slice ia x.inv.length ic,.map (some bm),.slice oa xi.length oc] 60);have aA:=Q6 h;obtain⟨R,hR,h⟩:=aA;refine go ?_;refine W.loop (fun(q:Nat) env w=>∃(j:Env) (xi:List (Cp×Value)) (oa:Option Addr) (oc:Nat),env=eu j [(0,bx),(1,.int .i64 (who:Int)),(4,.slice ao xo.length xo.length),(85,.slice ad xd.length xd.length),(86,.int .i64 (xd.length:Nat)),(87,.int .i64 (q:Nat))]∧q≤xd.length∧xi.map (·.1)=x.out++(done.take q).map (fun d:Dn=>(⟨(who:Int),d.id,d.r,x.now⟩:Cp))∧cW aa (·.r.data) xi∧xi.length≤1000+q∧On W0 (aX bx [.int .i64 (x.aK:Int),.int .i64 (x.blocks:Int),.slice (some ⟨ba,uh,none⟩) xs.length pc,ga,gh,kL,.pointer o0,.pointer o1,bj,bn,.int .i64 x.now,.int .u32 (x.bQ:Int),.slice ia x.inv.length ic,.map (some bm),.slice oa xi.length oc] 60::Own 8 (.slice oa xi.length oc) xi.length (xi.flatMap kN)::Own 6 (.slice ad xd.length xd.length) xd.length (xd.flatMap vZ)::R) w) (fun q=>xd.length - q) (0) ?_ ?_
   · exact⟨_,xi,oa,oc,aD ⟨rfl,rfl,rfl,rfl,rfl,rfl,trivial⟩,Nat.zero_le _,by rw[HI];simp,CK,by omega,h⟩
   clear h HI CK;rintro q env w ⟨j,xi,oa,oc,rfl,hq,HI,CK,amQ,h⟩;refine qI (fun mP=> ?_) (fun mP=> ?_)
   ·
    have aA:∃y,xd[q]? =some y:=⟨_,List.getElem?_eq_getElem (show q<xd.length by omega)⟩;obtain⟨y,hy⟩:=aA;obtain⟨⟨did,⟨st,rk,code,cj,info⟩⟩,dv⟩:=y;have MC:done[q]? =some ⟨did,⟨st,rk,code,cj,info⟩⟩:=by rw[←l8,List.getElem?_map,hy];rfl
    have eD:=hpd.at hy;have ahP:=eD;obtain⟨_,rx,rc,oC⟩:=ahP;simp only at oC;subst oC;have aA:=(h.aR (v:=.slice ad xd.length xd.length)).addr (by omega);obtain⟨bz,oz,rfl⟩:=aA;refine qD ?_;refine WL.v (gi isAgg250 sizeOf250 rfl rfl ((h.aR (v:=.slice (some ⟨bz,oz,none⟩) xd.length xd.length)).elem (i:=q) (vs:=[.int .u64 (did:Int),.int .i64 st,.int .i64 rk,.int .i64 code,.slice rx cj.length rc,.int .i64 info]) (by omega) (aF vZ 6 Ul xd _ _ hy))) ?_;refine gb fun b7 w h=> ?_;refine gs fun w h _=> ?_;refine qT fun w h=> ?_;refine WT.l 7 rfl isAgg30 rfl (h.aS rfl) ?_;refine WT.f 8 1 rfl underlying250 rfl sizeOf38 rfl rfl ?_;refine WT.gF (vs:=[.int .i64 _,.int .i64 _,.int .i64 _,.slice _ _ _,.int .i64 _]) 9 rfl (by kernel_rfl) isAgg38 sizeOf38 rfl rfl (h.fR (n:=5) rfl) rfl rfl ?_;refine qU ?_;refine WT.p 14 rfl (fun w'=>(aP (pl:=[(0,1),(1,1),(2,5),(7,1)]) (out:=[.int .i64 _,.int .u64 _,.int .i64 _,.int .i64 _,.int .i64 _,.slice _ _ _,.int .i64 _,.int .i64 _]) underlying75 zeroValue75 (fun w=>by kernel_rfl) rfl fz rfl)) ?_;refine WT.e 15 [false,false,false,true] rfl (aZ (zl:=[.int .i64 0,.int .u64 0,.int .i64 0,.int .i64 0,.int .i64 0,.slice none 0 0,.int .i64 0,.int .i64 0]) (out:=[.int .i64 _,.int .u64 _,.int .i64 _,.int .i64 _,.int .i64 _,.slice _ _ _,.int .i64 _,.int .i64 _]) h underlying45 sizeOf75 zeroValue75 (by decide) (by kernel_rfl) rfl rfl (by simp) fz rfl rfl (by simp[maxLen])) ?_;rintro _ w ⟨amR,rfl,h⟩;refine qW ?_;refine WT.e 16 [false] rfl (bU (bytes:=80) h rfl rfl (h.aR) underlying45 rfl rfl rfl rfl rfl (by omega) (by omega) (by simp[Value.oneCell'])) ?_;rintro _ w ⟨ahQ,Nr,rfl,h⟩;refine⟨trivial, ?_⟩;refine qU ?_;refine WT.e 19 [] rfl (bI (v:=.slice _ _ _) h sizeOf45 rfl rfl rfl rfl rfl) ?_;rintro _ w h
    try simp only[Nat.zero_add,Nat.add_zero,List.set_cons_zero,List.set_cons_succ] at h
    refine⟨trivial, ?_⟩;refine WT.dn ?_;refine qD ?_;have aA:∃Ll:List (Cp×Value),Ll=xi++[((⟨(who:Int),did,⟨st,rk,code,cj,info⟩,x.now⟩:Cp),.slice rx cj.length rc)]:=⟨_,rfl⟩;obtain⟨Ll,Fp⟩:=aA;have e1:xi.length+1=Ll.length:=by rw[Fp];simp
    have e2:xi.flatMap kN++[.int .i64 (who:Int),.int .u64 (did:Int),.int .i64 st,.int .i64 rk,.int .i64 code,.slice rx cj.length rc,.int .i64 info,.int .i64 x.now]=Ll.flatMap kN:=by rw[Fp];simp[kN,Rp.cells]
    rw[e1,e2] at h;exact⟨q+1,⟨_,Ll,ahQ,Nr,aD ⟨rfl,rfl,rfl,rfl,rfl,rfl,trivial⟩,by omega,(by rw[Fp,List.map_append,HI,List.take_add_one,MC];simp),(by rw[Fp];exact CK.snoc eD),by omega,h.to⟩,by show xd.length - (q+1)<xd.length - q;omega⟩
   refine qD ?_;have aA:q=xd.length:=by omega
   obtain rfl:=aA;rw[←oA,List.take_length] at HI;subst hR;have H8:xi.length=(x.out++done.map (fun d:Dn=>(⟨(who:Int),d.id,d.r,x.now⟩:Cp))).length:=by rw[←HI,List.length_map]
   have h:=YV ⟨HI,CK⟩ H8 (h.aj (Own 8 (.slice oa xi.length oc) xi.length (xi.flatMap kN)));have Lm:tX {x with paths:=x.paths.set who (⟨host,nd,next,l,[],[],t⟩:gQ),out:=x.out++done.map (fun d:Dn=>(⟨(who:Int),d.id,d.r,x.now⟩:Cp))}:=⟨kx.1,kx.2.1,by show(x.paths.set who _).length=_;rw[List.length_set];exact kx.2.2.1,kx.2.2.2⟩;exact⟨_,xo,ao,{x with paths:=x.paths.set who (⟨host,nd,next,l,[],[],t⟩:gQ),out:=x.out++done.map (fun d:Dn=>(⟨(who:Int),d.id,d.r,x.now⟩:Cp))},(by rw[gy];exact hm),uW,Lm,rfl,hsn,by omega,aD ⟨rfl,rfl,rfl,trivial⟩,(og (bx:=bx) rfl Lm h).to⟩
  refine qI (fun C4=> ?_) (fun C4=> ?_)
  ·
   rw[if_neg (by omega),if_pos (by omega)] at hm;have dI:=iZ hm;clear hm;obtain⟨vh,hm⟩:=dI;have hm:=Option.some.inj hm;have h:=ac8 (iW (k:=NB aa kL) (v:=.pointer (some ⟨bj,0,none⟩)) h);refine qC ?_ (C:=ahE h);rintro _ w ⟨xo,ao,rfl,gy,uW,h⟩;have h:=YX (h.aj (yM bj kL aa {x.jd with out:=[]}));refine gw ?_;have r7:x.jd.out.length=xo.length:=by rw[←gy,List.length_map]
   exact⟨_,xo,ao,{x with jd:={x.jd with out:=[]}},(by rw[gy];exact hm),uW,kx,rfl,hsn,by omega,aD ⟨rfl,rfl,rfl,trivial⟩,(og (bx:=bx) (x:={x with jd:={x.jd with out:=[]}}) rfl kx h).to⟩
  rw[if_neg (by omega),if_neg (by omega)] at hm;have aA:∃i:Nat,who=x.aK+i∧i≤1:=⟨who - x.aK,by omega,by omega⟩;obtain⟨i,hwi,hi⟩:=aA;rw[show who - x.aK=i by omega] at hm
  have aA:∃n,x.node i=.up n:=by
    cases e:x.node i with
    |up n=>exact⟨n,rfl⟩
    |down s=>rw[e] at hm;cases hm
  obtain⟨n,Ln⟩:=aA;rw[Ln] at hm;simp only at hm;have dI:=iZ hm;clear hm;obtain⟨⟨vh,zf,Z6⟩,hm⟩:=dI;have hm:=Option.some.inj hm;have h:=HH hi ((h.aj (At (ng aa gh) (.pointer o1) x.n1)).aj (At (ng aa ga) (.pointer o0) x.n0));rw[show fQ i x.n0 x.n1=Mc.up n from Ln] at h;have aA:=Q3 h;obtain⟨b,vr,lf,h⟩:=aA;refine go ?_;refine WL.v (bg underlying55 sizeOf54 rfl rfl (by omega) (by omega)) ?_;refine WL.l isAgg54 rfl (rq (i:=i) (by omega) hi lf h) ?_;refine WL.e (ag call137 (ahy h.g)) ?_;rintro _ w ⟨xo,ao,rfl,gy,uW,h⟩;refine go ?_;refine WL.v (bg underlying55 sizeOf54 rfl rfl (by omega) (by omega)) ?_;refine WL.l isAgg54 rfl (rq (i:=i) (by omega) hi lf h) ?_;refine WL.e (ag call138 (QW (h.aj (BW b (fQ i ga gh) aa vr {n with out:=[]})))) ?_;rintro _ w ⟨xc,ac,rfl,hxc,hpc,h⟩;refine gw ?_;have aA:=ac5 (iW (v:=.map (some bm)) h);obtain⟨Fx,h⟩:=aA;have H8:n.bD.length=xc.length:=by rw[←hxc,List.length_map]
  have r7:n.out.length=xo.length:=by rw[←gy,List.length_map]
  have h:=h.g.aj (aX bx [.int .i64 (x.aK:Int),.int .i64 (x.blocks:Int),.slice pa x.paths.length pc,ga,gh,kL,.pointer o0,.pointer o1,bj,bn,.int .i64 x.now,.int .u32 (x.bQ:Int),.slice ia x.inv.length ic,.map (some bm),.slice oa x.out.length oc] 60);have aA:=Q6 h;obtain⟨R,hR,h⟩:=aA;refine go ?_;refine W.loop (fun(q:Nat) env w=>∃(j:Env) (r:Ig),r=(n.bD.take q).foldl (fun r c=>lZ r x.now c) x.row∧BD r∧env=eu j [(0,bx),(1,.int .i64 (who:Int)),(4,.slice ao xo.length xo.length),(33,.slice ac xc.length xc.length),(34,.int .i64 (xc.length:Nat)),(35,.int .i64 (q:Nat))]∧q≤xc.length∧On W0 (aX bx [.int .i64 (x.aK:Int),.int .i64 (x.blocks:Int),.slice pa x.paths.length pc,ga,gh,kL,.pointer o0,.pointer o1,bj,bn,.int .i64 x.now,.int .u32 (x.bQ:Int),.slice ia x.inv.length ic,.map (some bm),.slice oa x.out.length oc] 60::bV bm .u64 r.1 r.2::Own 11 (.slice ac xc.length xc.length) xc.length (xc.flatMap tW)::R) w) (fun q=>xc.length - q) (0) ?_ ?_
  · exact⟨_,x.row,rfl,Fx,aD ⟨rfl,rfl,rfl,rfl,rfl,rfl,trivial⟩,Nat.zero_le _,h⟩
  clear h Fx;rintro q env w ⟨j,r,hr,Fx,rfl,hq,h⟩;refine qI (fun Fy=> ?_) (fun Fy=> ?_)
  ·
   have aA:∃y,xc[q]? =some y:=⟨_,List.getElem?_eq_getElem (show q<xc.length by omega)⟩;obtain⟨y,hy⟩:=aA;obtain⟨⟨idx,yR,Wh,⟨ck,BF,Hj,iL,sS,sU,sV,sW⟩⟩,dv⟩:=y;have S6:n.bD[q]? =some ⟨idx,yR,Wh,⟨ck,BF,Hj,iL,sS,sU,sV,sW⟩⟩:=by rw[←hxc,List.getElem?_map,hy];rfl
   have aA:=hpc.at hy;obtain⟨_,cx,cc,oC⟩:=aA;simp only at oC;subst oC;have aA:=Rc Fx (idx:Int);obtain⟨lh,lid,lt,hlk⟩:=aA;have aA:=(h.aR (v:=.slice ac xc.length xc.length)).addr (by omega);obtain⟨bz,oz,rfl⟩:=aA;refine qD ?_;refine WL.v (gi isAgg253 sizeOf253 rfl rfl ((h.aR (v:=.slice (some ⟨bz,oz,none⟩) xc.length xc.length)).elem (i:=q) (vs:=[.int .u64 (idx:Int),.int .i64 yR,.int .u64 (Wh:Int),.int .i64 ck,.int .i64 BF,.int .i64 Hj,.slice cx iL.length cc,.int .u64 sS,.int .u64 sU,.int .i64 sV,.bool sW]) (by omega) (aF tW 11 Qw xc _ _ hy))) ?_;refine gb fun b9 w h=> ?_;refine gs fun w h _=> ?_;refine gw ?_;refine W.cut (fun env w=>∃(j:Env) (b9:Nat),env=eu j [(0,bx),(1,.int .i64 (who:Int)),(4,.slice ao xo.length xo.length),(9,b9),(11,.bool (dL r.1 (idx:Int)).isSome),(33,.slice (some ⟨bz,oz,none⟩) xc.length xc.length),(34,.int .i64 (xc.length:Nat)),(35,.int .i64 (q:Nat))]∧On W0 (aX bx [.int .i64 (x.aK:Int),.int .i64 (x.blocks:Int),.slice pa x.paths.length pc,ga,gh,kL,.pointer o0,.pointer o1,bj,bn,.int .i64 x.now,.int .u32 (x.bQ:Int),.slice ia x.inv.length ic,.map (some bm),.slice oa x.out.length oc] 60::bV bm .u64 r.1 r.2::Own 11 (.slice (some ⟨bz,oz,none⟩) xc.length xc.length) xc.length (xc.flatMap tW)::aX b9 [.int .u64 (idx:Int),.int .i64 yR,.int .u64 (Wh:Int),.int .i64 ck,.int .i64 BF,.int .i64 Hj,.slice cx iL.length cc,.int .u64 sS,.int .u64 sU,.int .i64 sV,.bool sW] 253::R) w) ?_ ?_
   ·
    refine qT fun w h=> ?_;refine WT.l 5 rfl isAgg30 rfl (h.aS rfl) ?_;refine WT.two 6 10 (by kernel_rfl) ?_ ?_
    · refine WT.ju 6 [false,false] rfl (by kernel_rfl) (yQ (h.aj (bV bm .u64 r.1 r.2)) underlying50 underlying30 zeroValue82 rfl rfl hlk) rfl rfl ?_;rintro _ w ⟨rfl,h⟩;refine⟨trivial, ?_⟩;refine qU ?_;refine WT.e 10 [] rfl (bR h zeroValue82 rfl) ?_;rintro _ w ⟨Ib,rfl,h⟩;refine⟨trivial, ?_⟩;refine WT.e 11 [] rfl (bA h sizeOf82 rfl rfl rfl rfl rfl) ?_;rintro _ w h;refine⟨trivial, ?_⟩;refine qU ?_;exact⟨_,b9,aD ⟨rfl,rfl,rfl,rfl,rfl,rfl,rfl,rfl,trivial⟩,h.to⟩
    refine WT.ju 10 [true,true] rfl (by kernel_rfl) (bR h zeroValue82 rfl) rfl rfl ?_;rintro _ w ⟨Ib,rfl,h⟩;refine qW ?_;refine WT.e 6 [false,false] rfl (yQ (h.aj (bV bm .u64 r.1 r.2)) underlying50 underlying30 zeroValue82 rfl rfl hlk) ?_;rintro _ w ⟨rfl,h⟩;refine⟨trivial, ?_⟩;refine qU ?_;refine WT.e 11 [] rfl (bA h sizeOf82 rfl rfl rfl rfl rfl) ?_;rintro _ w h;refine⟨trivial, ?_⟩;refine qU ?_;exact⟨_,b9,aD ⟨rfl,rfl,rfl,rfl,rfl,rfl,rfl,rfl,trivial⟩,h.to⟩
   clear h;rintro env w ⟨j,b9,rfl,h⟩;refine qI (fun zx=> ?_) (fun zx=> ?_)
   ·
    refine qG fun w h=> ?_;refine X.e (jI (v:=.agg #[.int .i64 yR,.int .u64 (Wh:Int),.int .i64 x.now]) (h.aj (bV bm .u64 r.1 r.2)) underlying50 underlying30 rfl rfl rfl) ?_;rintro _ w h;refine qD ?_;have e:lZ r x.now ⟨idx,yR,Wh,⟨ck,BF,Hj,iL,sS,sU,sV,sW⟩⟩=(iR r.1 (idx:Int) (.agg #[.int .i64 yR,.int .u64 (Wh:Int),.int .i64 x.now]) r.2,fV r.1 (idx:Int) r.2):=by unfold lZ;rw[if_neg (by simpa using zx)];rfl
    exact⟨q+1,⟨_,lZ r x.now ⟨idx,yR,Wh,⟨ck,BF,Hj,iL,sS,sU,sV,sW⟩⟩,(by rw[List.take_add_one,S6,List.foldl_append,←hr];rfl),NC Fx,aD ⟨rfl,rfl,rfl,rfl,rfl,rfl,trivial⟩,by omega,(by rw[e];exact h.to)⟩,by show xc.length - (q+1)<xc.length - q;omega⟩
   refine qD ?_;have e:lZ r x.now ⟨idx,yR,Wh,⟨ck,BF,Hj,iL,sS,sU,sV,sW⟩⟩=r:=by unfold lZ;rw[if_pos (by simpa using zx)]
   exact⟨q+1,⟨_,r,(by rw[List.take_add_one,S6,List.foldl_append,←hr];exact e.symm),Fx,aD ⟨rfl,rfl,rfl,rfl,rfl,rfl,trivial⟩,by omega,h.to⟩,by show xc.length - (q+1)<xc.length - q;omega⟩
  refine qD ?_;have aA:q=xc.length:=by omega
  obtain rfl:=aA;rw[←H8,List.take_length] at hr;subst hR hr;have h:=Q2 Fx (h.aj (bV bm .u64 (n.bD.foldl (fun r c=>lZ r x.now c) x.row).1 (n.bD.foldl (fun r c=>lZ r x.now c) x.row).2));have h:=upI (h.aj (BW b (fQ i ga gh) aa vr {n with out:=[],bD:=[]}));rw[←lf] at h;have h:=Q4 hi ((h.aj (At (ng aa (fQ i gh ga)) (.pointer (fQ i o1 o0)) (fQ i x.n1 x.n0))).aj (At (ng aa (fQ i ga gh)) (.pointer (fQ i o0 o1)) (.up {n with out:=[],bD:=[]})));rw[wM] at hm;exact⟨_,xo,ao,{x with row:=n.bD.foldl (fun r c=>lZ r x.now c) x.row,n0:=fQ i (.up {n with out:=[],bD:=[]}) x.n0,n1:=fQ i x.n1 (.up {n with out:=[],bD:=[]})},(by rw[gy];exact hm),uW,kx,rfl,hsn,by omega,aD ⟨rfl,rfl,rfl,trivial⟩,(og (bx:=bx) (x:={x with row:=n.bD.foldl (fun r c=>lZ r x.now c) x.row,n0:=fQ i (.up {n with out:=[],bD:=[]}) x.n0,n1:=fQ i x.n1 (.up {n with out:=[],bD:=[]})}) rfl kx h).to⟩
 clear h hm;rintro env w ⟨j,xo,ao,x1,hs,uW,kx1,adi,adj,amS,rfl,h⟩;refine go ?_;refine W.loop (fun(q:Nat) env w=>∃(j:Env) (aN:aE) (x':Cl),wL who ((xo.drop q).map (·.1)) x'=x2∧cI aa aN∧tX x'∧x'.aK=x.aK∧x'.jG≤100000000+q∧env=eu j [(0,bx),(1,.int .i64 (who:Int)),(119,.slice ao xo.length xo.length),(120,.int .i64 (xo.length:Nat)),(121,.int .i64 (q:Nat))]∧q≤xo.length∧On W0 (Own 2 (.slice ao xo.length xo.length) xo.length (xo.flatMap mW)::eF bx aN x'::aY aN::L) w) (fun q=>xo.length - q) (0) ?_ ?_
 · exact⟨_,aa,x1,hs,cI.yZ,kx1,adi,adj,aD ⟨rfl,rfl,rfl,rfl,rfl,trivial⟩,Nat.zero_le _,h⟩
 clear h hs adj adi kx1;rintro q env w ⟨j,aN,x',hs,BX,kx',hh',hs',rfl,hq,h⟩;refine qI (fun FA=> ?_) (fun FA=> ?_)
 ·
  have aA:∃y,xo[q]? =some y:=⟨_,List.getElem?_eq_getElem (show q<xo.length by omega)⟩;obtain⟨y,hy⟩:=aA;obtain⟨⟨Ii,d⟩,dv⟩:=y;have aA:=(uW.mono BX.h).at hy;obtain⟨eD,xa,xc,oC⟩:=aA;simp only at oC eD;have oC:dv=.slice xa d.bytes.length xc:=oC;subst oC;have aA:=(h.aR (v:=.slice ao xo.length xo.length)).addr (by omega);obtain⟨bz,oz,rfl⟩:=aA;have aA:=Fo (h.aj (eF bx aN x'));obtain⟨pa,pc,ga,gh,kL,o0,o1,bj,bn,ia,ic,bm,oa,oc,_,h⟩:=aA;have h:=ntO (iW (k:=NA aN x'.aK) (v:=.pointer (some ⟨bn,0,none⟩)) h);have aA:=Re (t:=addr x' who Ii) (d:=d) (show who<x'.aK+3 by omega);obtain⟨nt,e1,e2,e3⟩:=aA;refine qD ?_;refine WL.v (gi isAgg256 sizeOf256 rfl rfl ((h.aR (v:=.slice (some ⟨bz,oz,none⟩) xo.length xo.length)).elem (i:=q) (vs:=[.int .i64 Ii,.slice xa d.bytes.length xc]) (by omega) (aF mW 2 Uk xo _ _ hy))) ?_;refine gb fun C6 w h=> ?_;refine gs fun w h _=> ?_;refine qT fun w h=> ?_;refine WT.l 8 rfl isAgg3 rfl (h.aS rfl) ?_;refine WT.f 10 1 rfl underlying256 rfl sizeOf28 rfl rfl ?_;refine WT.l 11 rfl isAgg28 rfl (h.aS rfl) ?_;refine WT.e 9 [true,false,true] rfl (ag call140 (Rb x' kx'.1 rfl (by have:=kx'.1;omega) h)) ?_;rintro _ w ⟨rfl,h⟩;refine qW ?_;refine WT.e 12 [false,false] rfl (ag call139 (U0 ((h.aj (aY aN)).aj (lD.qw 106 bn (lM x'.aK (x'.lY,x'.jG)) aN)) (aB.to (fu.eN (L:=[]) eD)) (by show(0:Int)≤(x'.jG:Int);omega) (by show(x'.jG:Int)≤_;omega))) ?_;rintro amT w ⟨hv,cg,Q0,h⟩;subst hv;rw[e3] at h;have lF:cI aN cg:=⟨Q0⟩;have h:=nZ lF (ntC h);refine⟨trivial, ?_⟩;refine WT.dn ?_;refine qD ?_
  have m7:wL who ((xo.drop (q+1)).map (·.1)) (if js x' (addr x' who Ii) d=true then{x' with lY:=x'.lY++[⟨who,addr x' who Ii,d⟩],jG:=x'.jG+1} else x')=x2:=by
    rw[List.drop_eq_getElem_cons (show q<xo.length by omega),show xo[q]=(⟨Ii,d⟩,.slice xa d.bytes.length xc) from Option.some.inj ((List.getElem?_eq_getElem (by omega)).symm.trans hy)] at hs;exact hs
  rw[e1] at m7;exact⟨q+1,⟨_,cg,{x' with lY:=nt.1,jG:=nt.2},m7,BX.trans lF,kx',hh',by show nt.2≤_;omega,aD ⟨rfl,rfl,rfl,rfl,rfl,trivial⟩,by omega,(og (bx:=bx) (x:={x' with lY:=nt.1,jG:=nt.2}) rfl kx' h).to⟩,by show xo.length - (q+1)<xo.length - q;omega⟩
 refine qR ?_;have aA:q=xo.length:=by omega
 obtain rfl:=aA;rw[List.drop_length] at hs;have aA:x'=x2:=hs;obtain rfl:=aA;exact⟨aN,BX,h.to⟩
end Go.Proofs.YtcplmndikhjehaaGreat
