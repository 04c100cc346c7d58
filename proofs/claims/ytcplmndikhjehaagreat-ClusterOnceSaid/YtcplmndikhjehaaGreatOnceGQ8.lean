/-
  Texts of a proof as one.
-/
import Derived.Test.YtcplmndikhjehaaGreatOnceGQ7
import Derived.Test.YtcplmndikhjehaaGreatOnceGQ2
import Derived.Test.YtcplmndikhjehaaGreatOnceGQ1
import Derived.Test.YtcplmndikhjehaaGreatOnceGQ4
import Derived.RangeFuncIn
import Derived.RangeFuncRecord
import Derived.RangeFuncSeq
import Derived.TacticsIn
import Derived.Test.YtcplmndikhjehaaGreatOnceGQ6
import Derived.Test.YtcplmndikhjehaaGreatOnceGQ5
import Derived.Lib.AppendStr
set_option linter.unusedVariables false
set_option linter.unusedSimpArgs false
namespace Go.Proofs.YtcplmndikhjehaaGreat
open Go.Proofs.Tryz
open Go Go.Sl Go.Sl.eM Go.Sl.gW Go.Sl.kM Go.Sl.pe Go.Sl.pM Go.Sl.mG Go.Sl.pO Go.Sl.rH Go.Sl.pN Go.Sl.gU Go.Sl.l9
open Go.Sl.oB (wr)
open Go.Sl.dA (fu fu.eN fu.mono)
set_option maxHeartbeats 0
set_option maxRecDepth 8000
variable{bx i:Nat}
variable{W0 w:World}{L F:List aC}
theorem J2{p:gQ}(h:okP p=true):p.l.length≤1000∧p.out.length≤100∧p.done.length≤100∧p.next<4611686018427387904∧0≤p.node∧p.node≤1∧∀a∈p.l,a.id<4611686018427387904∧a.c.data.length≤1000∧0≤a.c.key∧a.c.key<18446744073709551616∧0≤a.c.new∧a.c.new<18446744073709551616:=by
 unfold okP at h;simp only[Bool.and_eq_true,decide_eq_true_eq,List.all_eq_true] at h;obtain⟨⟨⟨⟨⟨⟨h1,h2⟩,h3⟩,h4⟩,h5⟩,h6⟩,h7⟩:=h
 exact ⟨h1, h2, h3, h4, h5, h6, fun a ha => by
   obtain ⟨⟨⟨⟨⟨a1, a2⟩, a3⟩, a4⟩, a5⟩, a6⟩ := h7 a ha;exact ⟨a1, a2, a3, a4, a5, a6⟩⟩
theorem Rh{x:Cl}:lD.Lg (lM x.aK (x.lY,x.jG)) (i:Int)=(x.lY[i]?).map fun k=>⟨k.f,k.t,k.d.bytes⟩:=by
 unfold lD.Lg lM;rw[if_pos (by omega),List.getElem?_map];rfl
theorem U8{x:Cl}:lD.out (lM x.aK (x.lY,x.jG)) (i:Int)=lM x.aK (x.lY.eraseIdx i,x.jG):=by
 unfold lD.out;rw[Rh];cases e:x.lY[i]? with
 |none=>rw[if_neg (by simp)];rw[List.eraseIdx_of_length_le (List.getElem?_eq_none_iff.1 e)]
 |some k=>rw[if_pos (by simp)];simp[lM,lD.qi]
theorem adk{who:Nat}{aa:aE}{x x2:Cl}(hm:DP x who=some x2)(hw:who≤1000000)(h:On W0 (eF bx aa x::aY aa::L) w):Cs 53 [bx,.int .i64 (who:Int)] w fun v w'=>∃aN,cI aa aN∧On W0 (eF bx aN x2::aY aN::L) w':=by
 refine qO ?_;have fH:=aG;unfold DP at hm;have dI:=cG hm;clear hm;obtain⟨xq,h1,hm⟩:=dI;have aA:=Fo h;obtain⟨pa,pc,ga,gh,kL,o0,o1,bj,bn,ia,ic,bm,oa,oc,kx,h⟩:=aA;have k1:=kx.1;have k3:=kx.2.2.1;refine W.cut (fun env w=>∃(j:Env) (ig:aE) (x1:Cl),after x1 who=some x2∧cI aa ig∧env=eu j [(0,bx),(1,.int .i64 (who:Int))]∧On W0 (eF bx ig x1::aY ig::L) w) ?_ ?_
 ·
  refine qI (fun c3=> ?_) (fun c3=> ?_)
  · rw[if_pos (by omega)] at h1;have aA:∃p,x.paths[who]? =some p:=⟨_,List.getElem?_eq_getElem (show who<x.paths.length by omega)⟩;obtain⟨p,hp⟩:=aA;rw[hp] at h1;simp only at h1;have Ri:=iZ h1;clear h1;obtain⟨cD,h1⟩:=Ri;have aA:=Option.some.inj h1;obtain rfl:=aA;have aA:=J2 cD;obtain⟨Cc,zA,hk3,SA,hk5,hk6,N2⟩:=aA;obtain⟨host,nd,next,l,out,done,⟨th,tn⟩⟩:=p;simp only at Cc zA hk3 SA hk5 hk6 N2;have aA:=BE hp (iW (k:=Fm aa) (v:=.slice pa x.paths.length pc) h);obtain⟨xs,pa9,pc9,bp,Cu,DS,zn,h⟩:=aA;simp only[Value.slice.injEq] at Cu;obtain⟨rfl,hle,rfl⟩:=Cu;rw[hle] at h;have eC:=(List.getElem?_eq_some_iff.1 zn).1;have aA:=(h.aR (v:=.slice pa xs.length pc)).addr (by omega);obtain⟨ba,uh,rfl⟩:=aA;refine qD ?_;refine WL.l isAgg61 rfl ((h.aR (v:=.slice (some ⟨ba,uh,none⟩) xs.length pc)).elem (i:=who) (vs:=[bp]) (by omega) (xQ zn) 0 _ rfl) ?_;refine WL.e (ag call90 (QZ hk5 hk6 SA Cc (by omega) (fun a ha=>by obtain⟨a1,a2,a3⟩:=N2 a ha;exact⟨a1,by omega,a3⟩) ((h.aj (aY aa)).aj (bS 103 139 bp aa ⟨host,nd,next,l,out,done,⟨th,tn⟩⟩)))) ?_;rintro _ w ⟨cg,Rj,h⟩;have lF:cI aa cg:=⟨Rj⟩;have h:=nZ lF h;have h:=wN DS zn (((h.aj (rU cg (xs.eraseIdx who))).aj (bS 103 139 bp cg (Bj ⟨host,nd,next,l,out,done,⟨th,tn⟩⟩))).aj (Own 1 (.slice (some ⟨ba,uh,none⟩) xs.length pc) xs.length (xs.map fun x=>pL x.1)));refine gw ?_;have Lm:tX {x with paths:=x.paths.set who (Bj ⟨host,nd,next,l,out,done,⟨th,tn⟩⟩)}:=⟨kx.1,kx.2.1,by show(x.paths.set who _).length=_;rw[List.length_set];exact kx.2.2.1,kx.2.2.2⟩;exact⟨_,cg,{x with paths:=x.paths.set who (Bj ⟨host,nd,next,l,out,done,⟨th,tn⟩⟩)},hm,lF,aD ⟨rfl,rfl,trivial⟩,(og (bx:=bx) rfl Lm h).to⟩
  refine qI (fun c6=> ?_) (fun c6=> ?_)
  ·
   rw[if_neg (by omega),if_pos (by omega)] at h1;have aA:∃i:Nat,who=x.aK+i∧i≤1:=⟨who - x.aK,by omega,by omega⟩;obtain⟨i,hwi,hi⟩:=aA;rw[show who - x.aK=i by omega] at h1
   have aA:∃n,x.node i=.up n:=by
     cases e:x.node i with
     |up n=>exact⟨n,rfl⟩
     |down s=>rw[e] at h1;cases h1
   obtain⟨n,Ln⟩:=aA;rw[Ln] at h1;simp only at h1;have Ri:=q7 h1;clear h1;obtain⟨n2,rN,rfl⟩:=Ri;rw[wM] at hm;have h:=HH hi ((h.aj (At (ng aa gh) (.pointer o1) x.n1)).aj (At (ng aa ga) (.pointer o0) x.n0));rw[show fQ i x.n0 x.n1=Mc.up n from Ln] at h;have aA:=Q3 h;obtain⟨b,vr,lf,h⟩:=aA;have h:=acJ (h.aj (aY aa)).p1;have nk_:=BV (b:=b) (bd:=fQ i ga gh) (p0:=aa) (vr:=vr) (n:=n) h;obtain⟨nk,h⟩:=nk_;refine go ?_;refine WL.v (bg underlying55 sizeOf54 rfl rfl (by omega) (by omega)) ?_;refine WL.l isAgg54 rfl (rq (i:=i) (by omega) hi lf h) ?_;refine WL.e (ag call91 (acI (p0:=aa) nk rN h)) ?_;rintro _ w h;have aA:=YK h;obtain⟨cg,lF,h⟩:=aA;have h:=nZ lF h;have h:=upI h.g;rw[←lf] at h;have h:=Q4 hi ((h.aj (At (ng cg (fQ i gh ga)) (.pointer (fQ i o1 o0)) (fQ i x.n1 x.n0))).aj (At (ng cg (fQ i ga gh)) (.pointer (fQ i o0 o1)) (.up n2)));refine gw ?_;exact⟨_,cg,{x with n0:=fQ i (.up n2) x.n0,n1:=fQ i x.n1 (.up n2)},hm,lF,aD ⟨rfl,rfl,trivial⟩,(og (bx:=bx) (x:={x with n0:=fQ i (.up n2) x.n0,n1:=fQ i x.n1 (.up n2)}) rfl kx h).to⟩
  rw[if_neg (by omega),if_neg (by omega)] at h1;have aA:=Option.some.inj h1;obtain rfl:=aA;refine qD ?_;exact⟨_,aa,x,hm,cI.yZ,aD ⟨rfl,rfl,trivial⟩,(og (bx:=bx) rfl kx h).to⟩
 clear h hm;rintro env w ⟨j,ig,x1,hm,BX,rfl,h⟩;refine qC ?_ (C:=JZ hm h);rintro _ w ⟨iM,Rk,h⟩;refine qR ?_;exact⟨iM,BX.trans Rk,h.to⟩
theorem adm{who:Nat}{aa:aE}{x x2:Cl}{fr:Int}{d:Dt}{B:List UInt8}{a0:Option Addr}{c0:Nat}(hm:hand x who fr d=some x2)(hB:B=d.bytes)(nj:B.length≤1000000)(hw:who≤1000000)(C:aB L (Bytes (.slice a0 B.length c0) B))(h:On W0 (eF bx aa x::aY aa::L) w):Cs 84 [bx,.int .i64 (who:Int),.int .i64 fr,.slice a0 B.length c0] w fun v w'=>∃aN,cI aa aN∧On W0 (eF bx aN x2::aY aN::L) w':=by
 refine qO ?_;have fH:=aG;unfold hand at hm;have dI:=cG hm;clear hm;obtain⟨xq,h1,hm⟩:=dI;have aA:=Fo h;obtain⟨pa,pc,ga,gh,kL,o0,o1,bj,bn,ia,ic,bm,oa,oc,kx,h⟩:=aA;have k1:=kx.1;have k3:=kx.2.2.1;refine W.cut (fun env w=>∃(j:Env) (ig:aE) (x1:Cl),after x1 who=some x2∧cI aa ig∧env=eu j [(0,bx),(1,.int .i64 (who:Int))]∧On W0 (eF bx ig x1::aY ig::L) w) ?_ ?_
 ·
  refine qI (fun c3=> ?_) (fun c3=> ?_)
  ·
   rw[if_pos (by omega)] at h1;have aA:∃p,x.paths[who]? =some p:=⟨_,List.getElem?_eq_getElem (show who<x.paths.length by omega)⟩;obtain⟨p,hp⟩:=aA;rw[hp] at h1;simp only at h1;have Ri:=iZ h1;clear h1;obtain⟨⟨cD,hdo,hda⟩,h1⟩:=Ri;have aA:=Option.some.inj h1;obtain rfl:=aA;have aA:=J2 cD;obtain⟨Cc,zA,hk3,SA,hk5,hk6,N2⟩:=aA;obtain⟨host,nd,next,l,out,done,⟨th,tn⟩⟩:=p;simp only at Cc zA hk3 SA hk5 hk6 N2;have aA:=BE hp (iW (k:=Fm aa) (v:=.slice pa x.paths.length pc) h);obtain⟨xs,pa9,pc9,bp,Cu,DS,zn,h⟩:=aA;simp only[Value.slice.injEq] at Cu;obtain⟨rfl,hle,rfl⟩:=Cu;rw[hle] at h;have eC:=(List.getElem?_eq_some_iff.1 zn).1;have aA:=(h.aR (v:=.slice pa xs.length pc)).addr (by omega);obtain⟨ba,uh,rfl⟩:=aA
   have lE:iV B=JD d:=by
     rw[hB];cases d with
     |JC a=>exact JT hdo
     |_=>cases hda
   refine qD ?_;refine WL.l isAgg61 rfl ((h.aR (v:=.slice (some ⟨ba,uh,none⟩) xs.length pc)).elem (i:=who) (vs:=[bp]) (by omega) (xQ zn) 0 _ rfl) ?_;refine qC ?_ (C:=YT nj (fun a ha=>by have:=(N2 a ha).1;omega) Cc (by omega) ((h.aj (aY aa)).aj (bS 103 139 bp aa ⟨host,nd,next,l,out,done,⟨th,tn⟩⟩)) (aB.to C));rintro _ w ⟨cg,Rj,h⟩;rw[lE] at h;have lF:cI aa cg:=⟨Rj⟩;have h:=nZ lF h;have h:=wN DS zn (((h.aj (rU cg (xs.eraseIdx who))).aj (bS 103 139 bp cg (EN ⟨host,nd,next,l,out,done,⟨th,tn⟩⟩ fr (JD d)))).aj (Own 1 (.slice (some ⟨ba,uh,none⟩) xs.length pc) xs.length (xs.map fun x=>pL x.1)));refine gw ?_;have Lm:tX {x with paths:=x.paths.set who (EN ⟨host,nd,next,l,out,done,⟨th,tn⟩⟩ fr (JD d))}:=⟨kx.1,kx.2.1,by show(x.paths.set who _).length=_;rw[List.length_set];exact kx.2.2.1,kx.2.2.2⟩;exact⟨_,cg,{x with paths:=x.paths.set who (EN ⟨host,nd,next,l,out,done,⟨th,tn⟩⟩ fr (JD d))},hm,lF,aD ⟨rfl,rfl,trivial⟩,(og (bx:=bx) rfl Lm h).to⟩
  refine qI (fun c6=> ?_) (fun c6=> ?_)
  · rw[if_neg (by omega),if_pos (by omega)] at h1;have Ri:=q7 h1;clear h1;obtain⟨j2,V0,rfl⟩:=Ri;have h:=ac8 (iW (k:=NB aa kL) (v:=.pointer (some ⟨bj,0,none⟩)) h);refine qC ?_ (C:=jIn hB nj V0 (aB.to C) ((h.aj (aY aa)).aj (yM bj kL aa x.jd)));rintro _ w ⟨cg,lF,h⟩;have h:=nZ lF (YX h);refine gw ?_;exact⟨_,cg,{x with jd:=j2},hm,lF,aD ⟨rfl,rfl,trivial⟩,(og (bx:=bx) (x:={x with jd:=j2}) rfl kx h).to⟩
  rw[if_neg (by omega),if_neg (by omega)] at h1;have Ri:=iZ h1;clear h1;obtain⟨NQ,h1⟩:=Ri;have aA:∃i:Nat,who=x.aK+i∧i≤1:=⟨who - x.aK,by omega,by omega⟩;obtain⟨i,hwi,hi⟩:=aA;rw[show who - x.aK=i by omega] at h1
  have aA:∃n,x.node i=.up n:=by
    cases e:x.node i with
    |up n=>exact⟨n,rfl⟩
    |down s=>rw[e] at h1;cases h1
  obtain⟨n,Ln⟩:=aA;rw[Ln] at h1;simp only at h1;have Ri:=q7 h1;clear h1;obtain⟨n2,rN,rfl⟩:=Ri;rw[wM] at hm;have h:=HH hi ((h.aj (At (ng aa gh) (.pointer o1) x.n1)).aj (At (ng aa ga) (.pointer o0) x.n0));rw[show fQ i x.n0 x.n1=Mc.up n from Ln] at h;have aA:=Q3 h;obtain⟨b,vr,lf,h⟩:=aA;have h:=acJ (h.aj (aY aa)).p1;have nk_:=BV (b:=b) (bd:=fQ i ga gh) (p0:=aa) (vr:=vr) (n:=n) h;obtain⟨nk,h⟩:=nk_;refine go ?_;refine WL.v (bg underlying55 sizeOf54 rfl rfl (by omega) (by omega)) ?_;refine WL.l isAgg54 rfl (rq (i:=i) (by omega) hi lf h) ?_;refine qC ?_ (C:=nIn (p0:=aa) nk hB nj rN (aB.to C) h);rintro _ w ⟨Ld,h⟩;have aA:=YK h;obtain⟨cg,lF,h⟩:=aA;have h:=nZ lF h;have h:=upI h.g;rw[←lf] at h;have h:=Q4 hi ((h.aj (At (ng cg (fQ i gh ga)) (.pointer (fQ i o1 o0)) (fQ i x.n1 x.n0))).aj (At (ng cg (fQ i ga gh)) (.pointer (fQ i o0 o1)) (.up n2)));refine gw ?_;exact⟨_,cg,{x with n0:=fQ i (.up n2) x.n0,n1:=fQ i x.n1 (.up n2)},hm,lF,aD ⟨rfl,rfl,trivial⟩,(og (bx:=bx) (x:={x with n0:=fQ i (.up n2) x.n0,n1:=fQ i x.n1 (.up n2)}) rfl kx h).to⟩
 clear h hm;rintro env w ⟨j,ig,x1,hm,BX,rfl,h⟩;refine qC ?_ (C:=JZ hm h);rintro _ w ⟨iM,Rk,h⟩;refine qR ?_;exact⟨iM,BX.trans Rk,h.to⟩
theorem HJ{aa:aE}{x x2:Cl}{r:Int}(hm:dy x i=some (x2,r))(h:On W0 (eF bx aa x::aY aa::L) w):Cs 46 [bx,.int .i64 (i:Int)] w fun v w'=>v=.int .i64 r∧∃aN,cI aa aN∧On W0 (eF bx aN x2::aY aN::L) w':=by
 refine qO ?_;have fH:=aG;unfold dy at hm;have aA:=Fo h;obtain⟨pa,pc,ga,gh,kL,o0,o1,bj,bn,ia,ic,bm,oa,oc,kx,h⟩:=aA;have k1:=kx.1;have h:=ntO (iW (k:=NA aa x.aK) (v:=.pointer (some ⟨bn,0,none⟩)) h);refine qC ?_ (C:=JX ((h.aj (aY aa)).aj (lD.qw 106 bn (lM x.aK (x.lY,x.jG)) aa)));rintro _ w hR;rw[Rh,U8] at hR;have aA:=hR.elim;rcases aA with⟨p9,a,c,BS,rfl,h⟩|⟨BS,rfl,h⟩
 ·
  have aA:=Option.map_eq_some_iff.1 BS;obtain⟨⟨f,t,d⟩,hn,rfl⟩:=aA;simp only at h;rw[hn] at hm;simp only at hm;have dI:=iZ hm;clear hm;obtain⟨⟨ht0,ht1,oA⟩,hm⟩:=dI;have aA:=Int.eq_ofNat_of_zero_le ht0;obtain⟨who,rfl⟩:=aA;have hm:(if JW x who=true then(hand {x with lY:=x.lY.eraseIdx i} who (from_ x who f) d).map (fun x=>(x,(0:Int))) else some ({x with lY:=x.lY.eraseIdx i},0))=some (x2,r):=hm;refine gb fun b5 w h=> ?_;refine gs fun w h _=> ?_;refine go ?_;refine WL.v (cQ rfl) ?_;refine go ?_;refine W.cs ?_;refine W.seq ?_;refine W.seq ?_;have h:=ntC (h.aj (lD.qw 106 bn (lM x.aK (x.lY.eraseIdx i,x.jG)) aa));refine qC ?_ (C:=cup (by omega) ((og (bx:=bx) (x:={x with lY:=x.lY.eraseIdx i}) rfl kx h).to:On W0 (eF bx aa {x with lY:=x.lY.eraseIdx i}::aY aa::aX b5 [.int .i64 f,.int .i64 (who:Int),.slice a d.bytes.length c] 184::bC (.slice a d.bytes.length c) d.bytes::L) w));rintro _ w ⟨hv,h⟩;have iG:=Bool.eq_false_or_eq_true (JW x who);rcases iG with hq|hq<;>(rw[show JW {x with lY:=x.lY.eraseIdx i} who=_ from hq] at hv;subst hv)
  · rw[if_pos hq] at hm;have dI:=q7 hm;clear hm;obtain⟨x3,hh,he⟩:=dI;have aA:=Prod.mk.inj he;obtain⟨rfl,rfl⟩:=aA;have aA:=Fo h;obtain⟨pa,pc,ga,gh,kL,o0,o1,bj,bn,ia,ic,bm,oa,oc,_,h⟩:=aA;refine qD ?_;refine qT fun w h=> ?_;refine WT.l 7 rfl isAgg3 rfl (h.aS rfl) ?_;refine WT.f 9 2 rfl underlying184 rfl sizeOf28 rfl rfl ?_;refine WT.l 10 rfl isAgg28 rfl (h.aS rfl) ?_;refine WT.e 8 [true,false,false,true] rfl (ag call85 (adh x k1 rfl (by omega) h)) ?_;rintro _ w ⟨rfl,h⟩;refine qW ?_;refine WT.e 11 [false,false] rfl (ag call84 (adm hh rfl (by rw[d.nG];omega) (by omega) (aB.to (show aB [bC (.slice a d.bytes.length c) d.bytes] (Bytes (.slice a d.bytes.length c) d.bytes) from aB.cF)) ((og (bx:=bx) (x:={x with lY:=x.lY.eraseIdx i}) rfl kx h).to:On W0 (eF bx aa {x with lY:=x.lY.eraseIdx i}::aY aa::bC (.slice a d.bytes.length c) d.bytes::aX b5 [.int .i64 f,.int .i64 (who:Int),.slice a d.bytes.length c] 184::L) w))) ?_;rintro _ w ⟨cg,lF,h⟩;refine⟨trivial, ?_⟩;refine WT.dn ?_;refine qR ?_;exact⟨rfl,cg,lF,h.to⟩
  rw[if_neg (by rw[hq];decide)] at hm;have aA:=Prod.mk.inj (Option.some.inj hm);obtain⟨rfl,rfl⟩:=aA;refine qD ?_;refine qR ?_;exact⟨rfl,aa,cI.yZ,h.to⟩
 have hn:x.lY[i]? =none:=by simpa using BS
 rw[hn] at hm;have aA:=Prod.mk.inj (Option.some.inj hm);obtain⟨rfl,rfl⟩:=aA;rw[List.eraseIdx_of_length_le (List.getElem?_eq_none_iff.1 hn)] at h;have h:=ntC h;refine gb fun b5 w h=> ?_;refine gs fun w h _=> ?_;refine qD ?_;refine qR ?_;exact⟨rfl,aa,cI.yZ,(og (bx:=bx) rfl kx h).to⟩
end Go.Proofs.YtcplmndikhjehaaGreat
namespace Go.Proofs.YtcplmndikhjehaaGreat
open Go.Proofs.Tryz
open Go Go.Sl Go.Sl.eM Go.Sl.gW Go.Sl.kM Go.Sl.pe Go.Sl.pM Go.Sl.mG Go.Sl.pO Go.Sl.rH Go.Sl.pN Go.Sl.gU Go.Sl.l9
open Go.Sl.oB (wr)
open Go.Sl.dA (fu fu.eN fu.mono)
set_option maxHeartbeats 0
set_option maxRecDepth 8000
variable{bx who:Nat}
variable{W0 w:World}{L F:List aC}
theorem iH{α:Type}{l:List α}{i:Nat}{a:α}(h:l[i]? =some a):l.set i a=l:=by
 apply List.ext_getElem?;intro k;rw[List.getElem?_set];split
 · rename_i e;subst e
   rw[if_pos (List.getElem?_eq_some_iff.1 h).1,h]
 rfl
theorem clK{aa:aE}{x:Cl}(H:On W0 (eF bx aa x::L) w):tX x:=by
 obtain⟨_,_,_,_,_,_,_,_,_,_,_,_,_,_,k,_⟩:=Fo H;exact k
theorem u5(x:Cl)(i:Nat)(m:Mc):(x.Fi i m).aK=x.aK:=by unfold Cl.Fi;split<;>rfl
theorem oT{who:Nat}:∀(l:List Pk) (x:Cl),(wL who l x).aK=x.aK
 |[],x=>rfl
 | p::l,x=>by
   unfold wL;rw[oT l];split<;>rfl
theorem HK{x y:Cl}(h:after x who=some y):y.aK=x.aK:=by
 unfold after at h;obtain⟨_,h⟩:=iZ h;split at h
 · split at h
   · cases h
   obtain⟨_,h⟩:=iZ h;rw[←Option.some.inj h,oT]
 split at h
 · obtain⟨_,h⟩:=iZ h
   rw[←Option.some.inj h,oT]
 split at h
 · cases h
 obtain⟨_,h⟩:=iZ h;rw[←Option.some.inj h,oT,u5]
theorem HL{x y:Cl}(h:DP x who=some y):y.aK=x.aK:=by
 unfold DP at h;obtain⟨z,h1,h⟩:=cG h;rw[HK h];split at h1
 · split at h1
   · cases h1
   obtain⟨_,h1⟩:=iZ h1;rw[←Option.some.inj h1]
 split at h1
 · split at h1
   · cases h1
   obtain⟨n,_,rfl⟩:=q7 h1;exact u5 ..
 rw[←Option.some.inj h1]
theorem adn{k:Nat}{aa:aE}{x x2:Cl}(hm:ie k x=some x2)(hk:k≤1000)(h:On W0 (eF bx aa x::aY aa::L) w):Cs 51 [bx,.int .i64 (k:Int)] w fun v w'=>v=.int .i64 0∧∃aN,cI aa aN∧On W0 (eF bx aN x2::aY aN::L) w':=by
 refine qO ?_;have fH:=aG;refine qE ?_;refine W.loop (fun(q:Nat) env w=>∃(j:Env) (iM:aE) (x3:Cl),ie (k - q) x3=some x2∧cI aa iM∧env=eu j [(0,bx),(13,.int .i64 (k:Int)),(14,.int .i64 (q:Int))]∧q≤k∧On W0 (eF bx iM x3::aY iM::L) w) (fun q=>k - q) (0) ?_ ?_
 · exact⟨_,aa,x,hm,cI.yZ,aD ⟨rfl,rfl,rfl,trivial⟩,Nat.zero_le _,h⟩
 clear h hm;rintro q env w ⟨j,iM,x3,hs,BX,rfl,hq,h⟩;refine qI (fun mP=> ?_) (fun mP=> ?_)
 ·
  have aA:∃m,k - q=m+1:=⟨k - q - 1,by omega⟩;obtain⟨m,hkm⟩:=aA;rw[hkm] at hs;have hs:(round x3).bind (fun x=>ie m x)=some x2:=hs;have aA:=cG hs;obtain⟨x5,hr,m7⟩:=aA;rw[show m=k - (q+1) by omega] at m7;have aA:=cG hr;obtain⟨x4,ht,hp⟩:=aA;have kh:=(clK h).1;refine qC ?_ (C:=xR h);rintro _ w ⟨rfl,h⟩;refine go ?_;refine W.loop (fun(r:Nat) env w=>∃(j:Env) (om:aE) (y:Cl),DQ (x3.aK+3 - r) y r=some x4∧y.aK=x3.aK∧cI iM om∧env=eu j [(0,bx),(13,.int .i64 (k:Int)),(14,.int .i64 (q:Int)),(17,.int .i64 ((x3.aK+3:Nat):Int)),(18,.int .i64 (r:Int))]∧r≤x3.aK+3∧On W0 (eF bx om y::aY om::L) w) (fun r=>x3.aK+3 - r) (0) ?_ ?_
  · exact⟨_,iM,x3,ht,rfl,cI.yZ,aD ⟨rfl,rfl,rfl,rfl,rfl,trivial⟩,Nat.zero_le _,h⟩
  clear h ht;rintro r env w ⟨j,om,y,ht,hyh,HM,rfl,hr4,h⟩;refine qI (fun zF=> ?_) (fun zF=> ?_)
  ·
   have aA:∃m4,x3.aK+3 - r=m4+1:=⟨x3.aK+3 - r - 1,by omega⟩;obtain⟨m4,YD⟩:=aA;rw[YD] at ht;have EP:(if JW y r=true then(DP y r).bind (fun x=>DQ m4 x (r+1)) else DQ m4 y (r+1))=some x4:=ht;rw[show m4=x3.aK+3 - (r+1) by omega] at EP;refine qC ?_ (C:=cup (who:=r) (by omega) h);rintro _ w ⟨hv,h⟩;have iG:=Bool.eq_false_or_eq_true (JW y r);rcases iG with ZO|ZO<;>(rw[ZO] at hv;subst hv)
   · refine WL.v (cQ rfl) ?_;refine go ?_;refine W.cs ?_;have ht3:=EP;rw[if_pos ZO] at ht3;have aA:=cG ht3;obtain⟨y5,hty,ahS⟩:=aA;refine qC ?_ (C:=adk hty (by omega) h);rintro _ w ⟨uu,U9,h⟩;refine qD ?_;rw[if_pos ZO] at EP;exact⟨r+1,⟨_,uu,y5,ahS,(HL hty).trans hyh,HM.trans U9,aD ⟨rfl,rfl,rfl,rfl,rfl,trivial⟩,by omega,h.to⟩,by show x3.aK+3 - (r+1)<x3.aK+3 - r;omega⟩
   refine qD ?_;rw[if_neg (by rw[ZO];decide)] at EP;exact⟨r+1,⟨_,om,y,EP,hyh,HM,aD ⟨rfl,rfl,rfl,rfl,rfl,trivial⟩,by omega,h.to⟩,by show x3.aK+3 - (r+1)<x3.aK+3 - r;omega⟩
  have aA:r=x3.aK+3:=by omega
  obtain rfl:=aA;rw[Nat.sub_self] at ht;have aA:y=x4:=Option.some.inj ht;obtain rfl:=aA;refine go ?_;refine W.loop (fun(n:Nat) env w=>∃(j:Env) (uu:aE) (y:Cl),HA (2000 - n) y=some x5∧cI iM uu∧env=eu j [(0,bx),(13,.int .i64 (k:Int)),(14,.int .i64 (q:Int)),(6,.int .i64 (n:Int))]∧n≤2000∧On W0 (eF bx uu y::aY uu::L) w) (fun n=>2000 - n) (0) ?_ ?_
  · exact⟨_,om,y,hp,HM,aD ⟨rfl,rfl,rfl,rfl,trivial⟩,Nat.zero_le _,h⟩
  clear h hp HM;rintro n env w ⟨j,uu,y,hp,U9,rfl,hn,h⟩;refine go ?_;refine WL.v (cH rfl rfl) ?_;refine go ?_;refine W.lN rfl (fun Xn=> ?_) (fun Xn=> ?_)
  ·
   have aA:∃m5,2000 - n=m5+1:=⟨2000 - n - 1,by omega⟩;obtain⟨m5,hm5⟩:=aA;rw[hm5] at hp;have aA:=cG (show(dy y 0).bind (fun r=>if r.2=0 then HA m5 r.1 else some r.1)=some x5 from hp);obtain⟨⟨y6,e6⟩,hd,vJ⟩:=aA;have vJ:(if e6=0 then HA m5 y6 else some y6)=some x5:=vJ;refine qC ?_ (C:=HJ (i:=0) hd h);rintro _ w ⟨rfl,Lo,adp,h⟩;refine qI (fun YI=> ?_) (fun YI=> ?_)
   · rw[if_neg YI] at vJ;have aA:∃x6,x6=y6:=⟨_,rfl⟩;obtain⟨x6,hx6⟩:=aA;rw[Option.some.inj vJ] at hx6 h;rw[←hx6] at m7 h;refine qD ?_;exact⟨q+1,⟨_,Lo,x6,m7,(BX.trans U9).trans adp,aD ⟨rfl,rfl,rfl,trivial⟩,by omega,h.to⟩,by show k - (q+1)<k - q;omega⟩
   refine qD ?_;rw[if_pos (Decidable.not_not.1 YI)] at vJ;exact⟨n+1,⟨_,Lo,y6,(by rw[show 2000 - (n+1)=m5 by omega];exact vJ),U9.trans adp,aD ⟨rfl,rfl,rfl,rfl,trivial⟩,by omega,h.to⟩,by show 2000 - (n+1)<2000 - n;omega⟩
  exfalso;rw[show 2000 - n=0 by omega] at hp;cases hp
 refine qR ?_;rw[show k - q=0 by omega] at hs;have aA:x3=x2:=Option.some.inj hs;obtain rfl:=aA;exact⟨rfl,iM,BX,h.to⟩
theorem Va{aa:aE}{x x2:Cl}{r op en kind at_ n cz:Int}{key new DT rR dl dc cx:Nat}{force:Bool}{data:List UInt8}{ax rS da:Option Addr}(hm:lu x who ⟨kind,at_,n,data,(key:Int),(new:Int),cz,force⟩=some (x2,r))(C:aB L (Bytes (.slice ax data.length cx) data))(h:On W0 (eF bx aa x::aY aa::L) w):Cs 52 [bx,.agg #[.int .i64 op,.int .i64 (who:Int),.int .i64 en,.int .i64 kind,.int .i64 at_,.int .i64 n,.slice ax data.length cx,.int .u64 (key:Int),.int .u64 (new:Int),.int .i64 cz,.bool force,.slice rS DT rR,.slice da dl dc]] w fun v w'=>v=.int .i64 r∧∃aN,cI aa aN∧On W0 (eF bx aN x2::aY aN::L) w':=by
 refine qO ?_;have fH:=aG;unfold lu at hm;have aA:=Fo h;obtain⟨pa,pc,ga,gh,kL,o0,o1,bj,bn,ia,ic,bm,oa,oc,kx,h⟩:=aA;have k1:=kx.1;have k3:=kx.2.2.1
 have aA:∃p,x.paths[who]? =some p:=by
   cases e:x.paths[who]? with
   |none=>rw[e] at hm;cases hm
   |some p=>exact⟨p,rfl⟩
 obtain⟨p,hp⟩:=aA;have hwl:=(List.getElem?_eq_some_iff.1 hp).1;rw[hp] at hm;simp only at hm;have dI:=iZ hm;clear hm;obtain⟨⟨cD,vh,zf,Z6,hg4,hg5,hg6⟩,hm⟩:=dI;have aA:=J2 cD;obtain⟨Cc,zA,hk3,SA,hk5,hk6,N2⟩:=aA;obtain⟨host,nd,next,l,out,done,⟨th,tn⟩⟩:=p;simp only at Cc zA hk3 SA hk5 hk6 N2;have aA:=BE hp (iW (k:=Fm aa) (v:=.slice pa x.paths.length pc) h);obtain⟨xs,pa9,pc9,bp,Cu,DS,zn,h⟩:=aA;simp only[Value.slice.injEq] at Cu;obtain⟨rfl,hle,rfl⟩:=Cu;rw[hle] at h;have eC:=(List.getElem?_eq_some_iff.1 zn).1;have aA:=(h.aR (v:=.slice pa xs.length pc)).addr (by omega);obtain⟨ba,uh,rfl⟩:=aA
 have ua:k7 ⟨host,nd,next,l,out,done,⟨th,tn⟩⟩<4611686018427387904:=by
   unfold k7;cases l with
   |nil=>exact SA
   |cons a l=>exact(N2 a (List.mem_cons_self ..)).1
 refine gb fun b3 w h=> ?_;refine go ?_;refine W.ez Tryz.follows h (by kernel_rfl) fun w h=> ?_;refine go ?_;refine X.v (fun _=>(dB rfl rfl (by omega))) ?_;refine go ?_;refine X.v (fun _=>(nM rfl rfl (by omega))) ?_;refine qD ?_;refine qG fun w h=> ?_;refine X.lc rfl ((h.aR (v:=.slice (some ⟨ba,uh,none⟩) xs.length pc)).elem (i:=who) (vs:=[bp]) (by omega) (xQ zn) 0 _ rfl) ?_;refine qC ?_ (C:=JH SA (by omega) (by omega) (by omega) ua Cc (by omega) ((h.aj (aY aa)).aj (bS 103 139 bp aa ⟨host,nd,next,l,out,done,⟨th,tn⟩⟩)) (aB.to C));rintro _ w ⟨cg,Rj,rfl,h⟩;have lF:cI aa cg:=⟨Rj⟩;have h:=nZ lF h;have h:=wN DS zn (((h.aj (rU cg (xs.eraseIdx who))).aj (bS 103 139 bp cg (dh ⟨host,nd,next,l,out,done,⟨th,tn⟩⟩ ⟨kind,at_,n,data,(key:Int),(new:Int),cz,force⟩).1)).aj (Own 1 (.slice (some ⟨ba,uh,none⟩) xs.length pc) xs.length (xs.map fun x=>pL x.1)));refine qI (fun c8=> ?_) (fun c8=> ?_)
 ·
  rw[if_pos c8] at hm;have aA:=Prod.mk.inj (Option.some.inj hm);obtain⟨rfl,rfl⟩:=aA
  have e9:(dh ⟨host,nd,next,l,out,done,⟨th,tn⟩⟩ ⟨kind,at_,n,data,(key:Int),(new:Int),cz,force⟩).1=⟨host,nd,next,l,out,done,⟨th,tn⟩⟩:=by
    unfold dh at c8⊢;split
    · rfl
    split
    · rfl
    rename_i z1 z2;rw[if_neg z1,if_neg z2] at c8;exact absurd rfl c8
  rw[e9,iH hp] at h;refine qR ?_;exact⟨rfl,cg,lF,(og (bx:=bx) rfl kx h).to⟩
 rw[if_neg c8] at hm;have aA:=q7 hm;obtain⟨x3,haf,he⟩:=aA;have aA:=Prod.mk.inj he;obtain⟨rfl,rfl⟩:=aA;refine qC ?_ (C:=bG h (aB.to C) (by omega));rintro _ w ⟨XV,Ue,rfl,h⟩;refine gs fun w h _=> ?_;refine qD ?_;have aA:=ivO (iW (k:=Li cg) (v:=.slice ia x.inv.length ic) h);obtain⟨xi,ia9,ic9,Rf,⟨HI,CK⟩,h⟩:=aA;simp only[Value.slice.injEq] at Rf;obtain⟨rfl,J0,rfl⟩:=Rf;rw[J0] at h;have hil:xi.length≤1000:=by omega
 refine W.draw Tryz.follows h (fun w h=> ?_);refine WT.m 0 rfl ?_;refine WT.m 1 rfl ?_;refine WT.n 2 rfl rfl ?_;refine WT.f 3 12 rfl underlying60 rfl sizeOf47 rfl rfl ?_;refine WT.l 4 rfl isAgg47 rfl (h.aS rfl) ?_;refine WT.f 5 1 rfl underlying34 rfl sizeOf3 rfl rfl ?_;refine WT.l 6 rfl isAgg3 rfl (h.aS rfl) ?_;refine WT.m 7 rfl ?_;refine WT.f 8 3 rfl underlying34 rfl sizeOf32 rfl rfl ?_;refine WT.gF (vs:=[.int .i64 _,.int .i64 _,.int .i64 _,.slice _ _ _,.int .u64 _,.int .u64 _,.int .i64 _,.bool _]) 9 rfl (by kernel_rfl) isAgg32 sizeOf32 rfl rfl (h.fR (n:=8) rfl) rfl rfl ?_;refine qU ?_;refine WT.p 14 rfl (fun w'=>(aP (pl:=[(0,1),(1,1),(2,8),(10,1)]) (out:=[.int .i64 _,.int .u64 _,.int .i64 _,.int .i64 _,.int .i64 _,.slice _ _ _,.int .u64 _,.int .u64 _,.int .i64 _,.bool _,.int .i64 _]) underlying96 zeroValue96 (fun w=>by kernel_rfl) rfl fz rfl)) ?_;refine WT.e 15 [false,false,false,true] rfl (aZ (zl:=[.int .i64 0,.int .u64 0,.int .i64 0,.int .i64 0,.int .i64 0,.slice none 0 0,.int .u64 0,.int .u64 0,.int .i64 0,.bool false,.int .i64 0]) (out:=[.int .i64 _,.int .u64 _,.int .i64 _,.int .i64 _,.int .i64 _,.slice _ _ _,.int .u64 _,.int .u64 _,.int .i64 _,.bool _,.int .i64 _]) h underlying47 sizeOf96 zeroValue96 (by decide) (by kernel_rfl) rfl rfl (by simp) fz rfl rfl (by simp[maxLen])) ?_;rintro _ w ⟨b57,rfl,h⟩;refine qW ?_;refine WT.e 16 [false] rfl (bU (bytes:=104) h rfl rfl (h.aR) underlying47 rfl rfl rfl rfl rfl (by omega) (by omega) (by simp[Value.oneCell'])) ?_;rintro _ w ⟨OT,H9,rfl,h⟩;refine⟨trivial, ?_⟩;refine qU ?_;refine WT.e 19 [] rfl (bI (v:=.slice _ _ _) h sizeOf47 rfl rfl rfl rfl rfl) ?_;rintro _ w h
 try simp only[Nat.zero_add,Nat.add_zero,List.set_cons_zero,List.set_cons_succ] at h
 refine⟨trivial, ?_⟩;refine WT.dn ?_;refine W.seq ?_;have aA:∃Ll:List (Iv×Value),Ll=xi++[((⟨(who:Int),(dh ⟨host,nd,next,l,out,done,⟨th,tn⟩⟩ ⟨kind,at_,n,data,(key:Int),(new:Int),cz,force⟩).2.1,⟨kind,at_,n,data,(key:Int),(new:Int),cz,force⟩,x.now⟩:Iv),(.slice XV data.length Ue:Value))]:=⟨_,rfl⟩;obtain⟨Ll,Fp⟩:=aA;have e1:xi.length+1=Ll.length:=by rw[Fp];simp
 have e2:xi.flatMap mS++[.int .i64 (who:Int),.int .u64 ((dh ⟨host,nd,next,l,out,done,⟨th,tn⟩⟩ ⟨kind,at_,n,data,(key:Int),(new:Int),cz,force⟩).2.1:Int),.int .i64 kind,.int .i64 at_,.int .i64 n,.slice XV data.length Ue,.int .u64 (key:Int),.int .u64 (new:Int),.int .i64 cz,.bool force,.int .i64 x.now]=Ll.flatMap mS:=by rw[Fp];simp[mS,Cm.cells]
 rw[e1,e2] at h;have h:=grow (h.aj (bC (.slice XV data.length Ue) data));have Yk:Ll.map (·.1)=x.inv++[(⟨(who:Int),(dh ⟨host,nd,next,l,out,done,⟨th,tn⟩⟩ ⟨kind,at_,n,data,(key:Int),(new:Int),cz,force⟩).2.1,⟨kind,at_,n,data,(key:Int),(new:Int),cz,force⟩,x.now⟩:Iv)]:=by rw[Fp,List.map_append,HI];rfl
 have h:=YU ⟨Yk,by rw[Fp];exact(CK.mono cI.cons.h).snoc ⟨.inl (List.mem_cons_self ..),XV,Ue,rfl⟩⟩ (by rw[←Yk,List.length_map]) (h.aj (Own 11 (.slice OT Ll.length H9) Ll.length (Ll.flatMap mS)));have Lm:tX {x with paths:=x.paths.set who (dh ⟨host,nd,next,l,out,done,⟨th,tn⟩⟩ ⟨kind,at_,n,data,(key:Int),(new:Int),cz,force⟩).1,inv:=x.inv++[(⟨(who:Int),(dh ⟨host,nd,next,l,out,done,⟨th,tn⟩⟩ ⟨kind,at_,n,data,(key:Int),(new:Int),cz,force⟩).2.1,⟨kind,at_,n,data,(key:Int),(new:Int),cz,force⟩,x.now⟩:Iv)]}:=⟨kx.1,kx.2.1,by show(x.paths.set who _).length=_;rw[List.length_set];exact kx.2.2.1,kx.2.2.2⟩;refine qC ?_ (C:=JZ haf ((og (bx:=bx) (x:={x with paths:=x.paths.set who (dh ⟨host,nd,next,l,out,done,⟨th,tn⟩⟩ ⟨kind,at_,n,data,(key:Int),(new:Int),cz,force⟩).1,inv:=x.inv++[(⟨(who:Int),(dh ⟨host,nd,next,l,out,done,⟨th,tn⟩⟩ ⟨kind,at_,n,data,(key:Int),(new:Int),cz,force⟩).2.1,⟨kind,at_,n,data,(key:Int),(new:Int),cz,force⟩,x.now⟩:Iv)]}) rfl Lm h).to:On W0 (eF bx ((.slice XV data.length Ue,data)::cg) {x with paths:=x.paths.set who (dh ⟨host,nd,next,l,out,done,⟨th,tn⟩⟩ ⟨kind,at_,n,data,(key:Int),(new:Int),cz,force⟩).1,inv:=x.inv++[(⟨(who:Int),(dh ⟨host,nd,next,l,out,done,⟨th,tn⟩⟩ ⟨kind,at_,n,data,(key:Int),(new:Int),cz,force⟩).2.1,⟨kind,at_,n,data,(key:Int),(new:Int),cz,force⟩,x.now⟩:Iv)]}::aY ((.slice XV data.length Ue,data)::cg)::L) w));rintro _ w ⟨iM,Rk,h⟩;refine qR ?_;exact⟨rfl,iM,(lF.trans cI.cons).trans Rk,h.to⟩
end Go.Proofs.YtcplmndikhjehaaGreat
namespace Go.Proofs.YtcplmndikhjehaaGreat
open Go.Proofs.Tryz
open Go Go.Sl Go.Sl.eM Go.Sl.gW Go.Sl.kM Go.Sl.pe Go.Sl.pM Go.Sl.mG Go.Sl.pO Go.Sl.rH Go.Sl.pN Go.Sl.gU Go.Sl.l9
open Go.Sl.oB (wr)
open Go.Sl.dA (fu fu.eN fu.mono)
set_option maxHeartbeats 0
set_option maxRecDepth 8000
variable{ga gh kL blocks bx aK i bQ:Nat}{mP nB CS pW c2 c8 c9:Value}{o0 o1:Option Addr}
variable{W0 w:World}{L F:List aC}
theorem J3{aa:aE}{s:kJ}{n2:Nd}{g:ow.Rg}{d:dA.Dk}{z:Int}(hz:z=(i:Int))(hi:i≤1)(zB:bQ+1<4294967296)(hS:SI d s.hd s.tn [] s.es g)(hc:d.calls≤s.cn)(hs:wF i blocks s (bQ+1)=some n2)(h:On W0 (aX bx [.int .i64 (aK:Int),.int .i64 (blocks:Int),c2,ga,gh,kL,.pointer (o0),.pointer (o1),c8,c9,mP,.int .u32 ((bQ:Nat):Int),nB,CS,pW] 60::dA.aQ 109 221 (fQ i ga gh) d::aY aa::L) w):Cs 22 [bx,.int .i64 z] w fun v w'=>v=.int .i64 0∧∃b aN,cI aa aN∧On W0 (aX bx [.int .i64 (aK:Int),.int .i64 (blocks:Int),c2,ga,gh,kL,.pointer (fQ i (some ⟨b,0,none⟩) o0),.pointer (fQ i o1 (some ⟨b,0,none⟩)),c8,c9,mP,.int .u32 ((bQ+1:Nat):Int),nB,CS,pW] 60::BW b (fQ i ga gh) aN (.pointer none) n2::aY aN::L) w':=by
 refine qO ?_;subst hz;unfold wF at hs;have aA:=cG hs;obtain⟨s2,Nn,hs⟩:=aA;have aA:=iZ hs;obtain⟨⟨g1,g2,g3,g4⟩,hs⟩:=aA;have hs:=Option.some.inj hs;refine go ?_;refine WL.v (cT (k:=.u32) (m:=bQ) (n:=1) rfl rfl (by show _≤(4294967295:Int);omega)) ?_;refine gs fun w h _=> ?_;refine qE ?_;refine qT fun w h=> ?_;refine WT.p 11 rfl (fun w'=>(bg underlying53 sizeOf52 rfl rfl (by omega) (by omega))) ?_;refine WT.l 12 rfl isAgg52 rfl (qA (i:=i) rfl hi h) ?_;refine qU ?_;refine WT.n 21 rfl rfl ?_;refine WT.f 22 6 rfl underlying60 rfl sizeOf55 rfl rfl ?_;refine WT.e 17 [false,false,false] rfl (ag call45 (acN (n2:=n2) hi zB hS hc Nn g1 g3 g4 ((h.aj (aY aa)).aj (dA.aQ 109 221 (fQ i ga gh) d)))) ?_;rintro _ w ⟨b46,rfl,h⟩;rw[hs] at h;have aA:=YK h;obtain⟨cg,lF,h⟩:=aA;have h:=h.aj (aX bx [.int .i64 (aK:Int),.int .i64 (blocks:Int),c2,ga,gh,kL,.pointer (o0),.pointer (o1),c8,c9,mP,.int .u32 ((bQ+1:Nat):Int),nB,CS,pW] 60);refine⟨trivial, ?_⟩;refine qU ?_;refine WT.p 23 rfl (fun w'=>(bg underlying55 sizeOf54 rfl rfl (by omega) (by omega))) ?_;refine WT.e 24 [] rfl (ur rfl hi h sizeOf54 rfl rfl) ?_;rintro _ w h;refine⟨trivial, ?_⟩;refine qU ?_;refine qR ?_;exact⟨rfl,b46,cg,lF,h.to⟩
theorem YZ{aa:aE}{x:Z9}{d:dA.Dk}(zB:bQ+1<4294967296)(hx:Nx x d)(h:On W0 (aX bx [.int .i64 (aK:Int),.int .i64 (blocks:Int),c2,.pointer (some ⟨ga,0,none⟩),.pointer (some ⟨gh,0,none⟩),.pointer (some ⟨kL,0,none⟩),.pointer (o0),.pointer (o1),c8,c9,mP,.int .u32 ((bQ:Nat):Int),nB,CS,pW] 60::dA.aQ 109 221 kL d::L) w):Cs 22 [.pointer (some ⟨bx,0,none⟩),.int .i64 2] w fun v w'=>v=.int .i64 0∧∃b,On W0 (aX bx [.int .i64 (aK:Int),.int .i64 (blocks:Int),c2,.pointer (some ⟨ga,0,none⟩),.pointer (some ⟨gh,0,none⟩),.pointer (some ⟨kL,0,none⟩),.pointer (o0),.pointer (o1),.pointer (some ⟨b,0,none⟩),c9,mP,.int .u32 ((bQ+1:Nat):Int),nB,CS,pW] 60::yM b kL aa ⟨x.r,x.tn,[],x.cn⟩::L) w':=by
 refine qO ?_;refine go ?_;refine WL.v (cT (k:=.u32) (m:=bQ) (n:=1) rfl rfl (by show _≤(4294967295:Int);omega)) ?_;refine gs fun w h _=> ?_;refine qE ?_;refine WL.v (bg underlying53 sizeOf52 rfl rfl (by decide) (by decide)) ?_;refine qC ?_ (C:=acX (aa:=aa) hx (h.aj (dA.aQ 109 221 kL d)));rintro _ w ⟨b23,rfl,h⟩;refine gs fun w h _=> ?_;refine qR ?_;exact⟨rfl,b23,h.to⟩
theorem adq{z:Int}(hz:z=(i:Int))(hi:i≤1)(h:On W0 (aX bx [.int .i64 (aK:Int),.int .i64 (blocks:Int),c2,ga,gh,kL,.pointer (o0),.pointer (o1),c8,c9,mP,.int .u32 ((bQ:Nat):Int),nB,CS,pW] 60::L) w):Cs 93 [bx,.int .i64 z] w fun v w'=>On W0 (aX bx [.int .i64 (aK:Int),.int .i64 (blocks:Int),c2,ga,gh,kL,.pointer (fQ i none o0),.pointer (fQ i o1 none),c8,c9,mP,.int .u32 ((bQ:Nat):Int),nB,CS,pW] 60::L) w':=by
 refine qO ?_;subst hz;refine qE ?_;refine WL.v (bg underlying55 sizeOf54 rfl rfl (by omega) (by omega)) ?_;refine WL.e (ur rfl hi h sizeOf54 rfl rfl) ?_;rintro _ w h;refine qR ?_;exact h.to
theorem Rl{b:Nat}{d:dA.Dk}(h:On W0 (dA.aQ 109 221 b d::L) w):Cs 94 [b] w fun v w'=>v=.bool d.dead∧On W0 (dA.aQ 109 221 b d::L) w':=by
 refine qO ?_;have aA:=dA.sj h;obtain⟨pa,pc,h⟩:=aA;have aA:=dA.si h;obtain⟨mb,ck,rows,aa,cD,hm,h⟩:=aA;refine qR ?_;have h:=dA.gN cD hm h;exact⟨rfl,dA.kW h⟩
theorem Y3{aa:aE}{x x2:Cl}{r en kind at_ n cz:Int}{key new:Int}{rR el ec dl dc:Nat}{force:Bool}{rS ea da:Option Addr}{aV:List Int}(hi:i≤1)(hm:xP x i=some (x2,r))(C2:aB L (Cells 1 (.slice rS aV.length rR) aV.length (dA.fK aV)))(h:On W0 (eF bx aa x::aY aa::L) w):Cs 54 [bx,.agg #[.int .i64 6,.int .i64 ((x.aK+i:Nat):Int),.int .i64 en,.int .i64 kind,.int .i64 at_,.int .i64 n,.slice ea el ec,.int .u64 key,.int .u64 new,.int .i64 cz,.bool force,.slice rS aV.length rR,.slice da dl dc]] w fun v w'=>v=.int .i64 r∧∃aN,cI aa aN∧On W0 (eF bx aN x2::aY aN::L) w':=by
 refine qO ?_;have fH:=aG;unfold xP at hm;have aA:=Fo h;obtain⟨pa,pc,ga,gh,kL,o0,o1,bj,bn,ia,ic,bm,oa,oc,kx,h⟩:=aA;have k1:=kx.1
 have aA:∃n,x.node i=.up n:=by
   cases e:x.node i with
   |up n=>exact⟨n,rfl⟩
   |down s=>rw[e] at hm;cases hm
 obtain⟨n,Ln⟩:=aA;rw[Ln] at hm;simp only at hm;have aA:=iZ hm;obtain⟨S6,hm⟩:=aA;have aA:=Prod.mk.inj (Option.some.inj hm);obtain⟨wW,rfl⟩:=aA;rw[wM] at wW;subst wW;have h:=HH hi ((h.aj (At (ng aa gh) (.pointer o1) x.n1)).aj (At (ng aa ga) (.pointer o0) x.n0));rw[show fQ i x.n0 x.n1=Mc.up n from Ln] at h;have aA:=Q3 h;obtain⟨b,vr,lf,h⟩:=aA
 have Sw:Lk x.aK o0 o1 (x.aK+i)=true:=by
   unfold Lk;have aA:=(show i=0∨i=1 by omega);rcases aA with rfl|rfl
   · rw[if_pos (show x.aK+0=x.aK from rfl),show o0=_ from lf];rfl
   rw[if_neg (by omega),if_pos rfl,show o1=_ from lf];rfl
 refine gb fun b3 w h=> ?_;refine go ?_;refine W.ez Tryz.follows h (by kernel_rfl) fun w h=> ?_;refine go ?_;refine X.v (fun _=>(iq rfl rfl (by omega) (by omega))) ?_;refine go ?_;refine WL.v (dB rfl rfl (by omega)) ?_;refine go ?_;refine WL.v (eV rfl rfl (by omega)) ?_;refine qN ?_;refine WL.v (dB rfl rfl (by decide)) ?_;refine qN ?_;refine WL.v (eV rfl rfl (by decide)) ?_;refine qD ?_;refine qT fun w h=> ?_;refine WT.m 4 rfl ?_;refine WT.m 5 rfl ?_;refine WT.n 6 rfl rfl ?_;refine WT.f 7 3 rfl underlying60 rfl sizeOf53 rfl rfl ?_;refine WT.p 8 rfl (fun w'=>(bg underlying53 sizeOf52 rfl rfl (by omega) (by omega))) ?_;refine WT.l 9 rfl isAgg52 rfl (qA (i:=i) (by omega) hi h) ?_;refine WT.e 3 [true,false] rfl (ag call24 (YY k1 (by omega) h)) ?_;rintro v35 w ⟨hv,h⟩;rw[Sw] at hv;subst hv;refine⟨⟨qA (by omega) hi h,trivial⟩, ?_⟩;refine qU ?_;refine WL.v (gL rfl rfl rfl) ?_;refine go ?_;refine W.ct ?_;refine go ?_;refine WL.v (cQ rfl) ?_;refine go ?_;refine W.cs ?_;refine W.seq ?_;have aA:=US (h.aj (BW b (fQ i ga gh) aa vr n));obtain⟨oa3,oc3,ca3,cc3,bs3,bu3,ba3,vw3,v13,v23,nk,h⟩:=aA;have aA:=SL (iW (k:=kK (fQ i ga gh)) (v:=.pointer (some ⟨bs3,0,none⟩)) h);obtain⟨bt3,br3,g3,d3,⟨hS,ZI⟩,h⟩:=aA;have hcr:=JU (aV:=aV) hS.flat hS.live.off hS.live.dead hS.live.cJ;refine qC ?_ (C:=W5 (aV:=aV) (by omega) (h.aj (dA.aQ 109 221 (fQ i ga gh) d3)) (aB.to C2));rintro _ w h;rw[hcr] at h;refine qC ?_ (C:=adq (i:=i) (by omega) hi (h.aj (aX bx [.int .i64 (x.aK:Int),.int .i64 (x.blocks:Int),.slice pa x.paths.length pc,ga,gh,kL,.pointer o0,.pointer o1,bj,bn,.int .i64 x.now,.int .u32 (x.bQ:Int),.slice ia x.inv.length ic,.map (some bm),.slice oa x.out.length oc] 60)));rintro _ w h;refine qR ?_;have h:=Q5 hi ((h.aj (At (ng aa (fQ i gh ga)) (.pointer (fQ i o1 o0)) (fQ i x.n1 x.n0))).aj (dA.aQ 109 221 (fQ i ga gh) {d3 with off:=true})|>dnI hS ZI);exact⟨rfl,aa,cI.yZ,(og (bx:=bx) (x:={x with n0:=fQ i (.down n.s) x.n0,n1:=fQ i x.n1 (.down n.s)}) rfl kx h).to⟩
theorem Y4{aa:aE}{x x2:Cl}{r en kind at_ n cz:Int}{key new:Int}{rR el ec dl dc:Nat}{force:Bool}{rS ea da:Option Addr}{DT:Nat}(hi:i≤1)(hm:sX x i=some (x2,r))(h:On W0 (eF bx aa x::aY aa::L) w):Cs 54 [bx,.agg #[.int .i64 7,.int .i64 ((x.aK+i:Nat):Int),.int .i64 en,.int .i64 kind,.int .i64 at_,.int .i64 n,.slice ea el ec,.int .u64 key,.int .u64 new,.int .i64 cz,.bool force,.slice rS DT rR,.slice da dl dc]] w fun v w'=>v=.int .i64 r∧∃aN,cI aa aN∧On W0 (eF bx aN x2::aY aN::L) w':=by
 refine qO ?_;have fH:=aG;unfold sX at hm;have aA:=Fo h;obtain⟨pa,pc,ga,gh,kL,o0,o1,bj,bn,ia,ic,bm,oa,oc,kx,h⟩:=aA;have k1:=kx.1
 have aA:∃s,x.node i=.down s:=by
   cases e:x.node i with
   |down n=>exact⟨n,rfl⟩
   |up s=>rw[e] at hm;cases hm
 obtain⟨s,Ln⟩:=aA;rw[Ln] at hm;simp only at hm;have aA:=Ck hm;obtain⟨zB,hm⟩:=aA;have aA:=q7 hm;obtain⟨n2,rN,he⟩:=aA;have aA:=Prod.mk.inj he;obtain⟨wW,rfl⟩:=aA;rw[wM] at wW;subst wW;have h:=HH hi ((h.aj (At (ng aa gh) (.pointer o1) x.n1)).aj (At (ng aa ga) (.pointer o0) x.n0));rw[show fQ i x.n0 x.n1=Mc.down s from Ln] at h;have aA:=ac6 h;obtain⟨lf,g3,d3,hS,ZI,h⟩:=aA;have hdd:({d3 with off:=true}:dA.Dk).dead=false:=hS.live.dead
 have JO:({({d3 with off:=true}:dA.Dk) with off:=false,cJ:=0}:dA.Dk)=d3:=by
   obtain⟨m9,n9,ahU,ajG,Y5,ahV,ahW⟩:=d3;have e1:ahU=false:=hS.live.off;have e2:Y5=0:=hS.live.cJ;subst e1 e2;rfl
 have Sw:Lk x.aK o0 o1 (x.aK+i)=false:=by
   unfold Lk;have aA:=(show i=0∨i=1 by omega);rcases aA with rfl|rfl
   · rw[if_pos (show x.aK+0=x.aK from rfl),show o0=_ from lf];rfl
   rw[if_neg (by omega),if_pos rfl,show o1=_ from lf];rfl
 refine gb fun b3 w h=> ?_;refine go ?_;refine W.ez Tryz.follows h (by kernel_rfl) fun w h=> ?_;refine go ?_;refine X.v (fun _=>(iq rfl rfl (by omega) (by omega))) ?_;refine go ?_;refine WL.v (dB rfl rfl (by omega)) ?_;refine go ?_;refine WL.v (eV rfl rfl (by omega)) ?_;refine qN ?_;refine WL.v (dB rfl rfl (by decide)) ?_;refine qN ?_;refine WL.v (eV rfl rfl (by decide)) ?_;refine qD ?_;refine qT fun w h=> ?_;refine WT.m 4 rfl ?_;refine WT.m 5 rfl ?_;refine WT.n 6 rfl rfl ?_;refine WT.f 7 3 rfl underlying60 rfl sizeOf53 rfl rfl ?_;refine WT.p 8 rfl (fun w'=>(bg underlying53 sizeOf52 rfl rfl (by omega) (by omega))) ?_;refine WT.l 9 rfl isAgg52 rfl (qA (i:=i) (by omega) hi h) ?_;refine WT.e 3 [true,false] rfl (ag call24 (YY k1 (by omega) h)) ?_;rintro v35 w ⟨hv,h⟩;rw[Sw] at hv;subst hv;refine⟨⟨qA (by omega) hi h,trivial⟩, ?_⟩;refine qU ?_;refine WL.v (iE rfl rfl (by decide)) ?_;refine qN ?_;refine WL.v (gL rfl rfl rfl) ?_;refine qC ?_ (C:=Rl (h.aj (dA.aQ 109 221 (fQ i ga gh) {d3 with off:=true})));rintro v65 w ⟨hv,h⟩;rw[hdd] at hv;subst hv;refine qC ?_ (C:=WY h);rintro _ w h;rw[JO] at h;refine qC ?_ (C:=J3 (i:=i) (aK:=x.aK) (blocks:=x.blocks) (bQ:=x.bQ) (by omega) hi (by omega) hS ZI rN (((h.aj (aY aa)).aj (dA.aQ 109 221 (fQ i ga gh) d3)).aj (aX bx [.int .i64 (x.aK:Int),.int .i64 (x.blocks:Int),.slice pa x.paths.length pc,ga,gh,kL,.pointer o0,.pointer o1,bj,bn,.int .i64 x.now,.int .u32 (x.bQ:Int),.slice ia x.inv.length ic,.map (some bm),.slice oa x.out.length oc] 60)));rintro _ w ⟨rfl,b70,cg,lF,h⟩;have h:=nZ lF h;refine qE ?_;refine qR ?_;have h:=Q5 hi ((h.aj (At (ng cg (fQ i gh ga)) (.pointer (fQ i o1 o0)) (fQ i x.n1 x.n0))).aj (BW b70 (fQ i ga gh) cg (.pointer none) n2)|>upI);have Lm:tX {x with bQ:=x.bQ+1,n0:=fQ i (.up n2) x.n0,n1:=fQ i x.n1 (.up n2)}:=⟨kx.1,kx.2.1,kx.2.2.1,by show x.bQ+1<_;omega,kx.2.2.2.2⟩;exact⟨rfl,cg,lF,(og (bx:=bx) rfl Lm h).to⟩
end Go.Proofs.YtcplmndikhjehaaGreat
namespace Go.Proofs.YtcplmndikhjehaaGreat
open Go.Proofs.Tryz
open Go Go.Sl Go.Sl.eM Go.Sl.gW Go.Sl.kM Go.Sl.pe Go.Sl.pM Go.Sl.mG Go.Sl.pO Go.Sl.rH Go.Sl.pN Go.Sl.gU Go.Sl.l9
open Go.Sl.oB (wr)
open Go.Sl.dA (fu fu.eN fu.mono)
set_option maxHeartbeats 0
set_option maxRecDepth 8000
variable{at_ en key kind n new op r cz wh:Int}{bx dc dl ec el rR DT:Nat}{da ea rS:Option Addr}{force:Bool}
variable{W0 w:World}{L F:List aC}
def evX(r:Int)(x:Cl):Cl:=if r=0 then x else{x with now:=x.now - 1}
theorem HN{aa:aE}{x x2:Cl}(hn:x.now<1000000)(rN:r≠0→1≤x2.now)(H:∀(b3:Nat) (w:World),On W0 (eF bx aa {x with now:=x.now+1}::aY aa::aX b3 [.int .i64 op,.int .i64 wh,.int .i64 en,.int .i64 kind,.int .i64 at_,.int .i64 n,.slice ea el ec,.int .u64 key,.int .u64 new,.int .i64 cz,.bool force,.slice rS DT rR,.slice da dl dc] 34::L) w→Cs 23 [bx,.agg #[.int .i64 op,.int .i64 wh,.int .i64 en,.int .i64 kind,.int .i64 at_,.int .i64 n,.slice ea el ec,.int .u64 key,.int .u64 new,.int .i64 cz,.bool force,.slice rS DT rR,.slice da dl dc]] w fun v w'=>v=.int .i64 r∧∃aN,cI aa aN∧On W0 (eF bx aN x2::aY aN::aX b3 [.int .i64 op,.int .i64 wh,.int .i64 en,.int .i64 kind,.int .i64 at_,.int .i64 n,.slice ea el ec,.int .u64 key,.int .u64 new,.int .i64 cz,.bool force,.slice rS DT rR,.slice da dl dc] 34::L) w')(h:On W0 (eF bx aa x::aY aa::L) w):Cs 6 [bx,.agg #[.int .i64 op,.int .i64 wh,.int .i64 en,.int .i64 kind,.int .i64 at_,.int .i64 n,.slice ea el ec,.int .u64 key,.int .u64 new,.int .i64 cz,.bool force,.slice rS DT rR,.slice da dl dc]] w fun v w'=>v=.int .i64 r∧∃aN,cI aa aN∧On W0 (eF bx aN (evX r x2)::aY aN::L) w':=by
 refine qO ?_;have aA:=Fo h;obtain⟨pa,pc,ga,gh,kL,o0,o1,bj,bn,ia,ic,bm,oa,oc,kx,h⟩:=aA;have k5:=kx.2.2.2.2;refine gb fun b3 w h=> ?_;refine qS fun w h _=> ?_;refine gw ?_;refine W.seq ?_;have Lm:tX {x with now:=x.now+1}:=⟨kx.1,kx.2.1,kx.2.2.1,kx.2.2.2.1,by show 0≤x.now+1;omega,by show x.now+1≤1000000;omega⟩;refine qC ?_ (C:=H b3 _ ((og (bx:=bx) (x:={x with now:=x.now+1}) rfl Lm h).to));rintro _ w ⟨rfl,cg,lF,h⟩;refine qI (fun c4=> ?_) (fun c4=> ?_)
 · have aA:=Fo h;obtain⟨pa,pc,ga,gh,kL,o0,o1,bj,bn,ia,ic,bm,oa,oc,kx2,h⟩:=aA;have k6:=kx2.2.2.2.2;have hn3:=rN c4;refine qS fun w h _=> ?_;refine qR ?_;have e:evX r x2={x2 with now:=x2.now - 1}:=if_neg c4;rw[e];have Lm:tX {x2 with now:=x2.now - 1}:=⟨kx2.1,kx2.2.1,kx2.2.2.1,kx2.2.2.2.1,by show 0≤x2.now - 1;omega,by show x2.now - 1≤1000000;omega⟩;exact⟨rfl,cg,lF,(og (bx:=bx) rfl Lm h).to⟩
 refine qR ?_;have e:evX r x2=x2:=if_pos (Decidable.not_not.1 c4);rw[e];exact⟨rfl,cg,lF,h.to⟩
theorem Y6{aa:aE}{x x2:Cl}{i:Nat}(hm:dy x i=some (x2,r))(h:On W0 (eF bx aa x::aY aa::L) w):Cs 23 [bx,.agg #[.int .i64 3,.int .i64 wh,.int .i64 (i:Int),.int .i64 kind,.int .i64 at_,.int .i64 n,.slice ea el ec,.int .u64 key,.int .u64 new,.int .i64 cz,.bool force,.slice rS DT rR,.slice da dl dc]] w fun v w'=>v=.int .i64 r∧∃aN,cI aa aN∧On W0 (eF bx aN x2::aY aN::L) w':=by
 refine qO ?_;refine gb fun b3 w h=> ?_;refine qE ?_;refine WL.e (ag call46 (HJ hm ((h.aj (aY aa)).aj (eF bx aa x)))) ?_;rintro _ w ⟨rfl,cg,lF,h⟩;refine qR ?_;exact⟨rfl,cg,lF,h.to⟩
theorem Y7{aa:aE}{x x2:Cl}{k:Nat}(hk:k≤1000)(hm:ie k x=some x2)(hr:r=0)(h:On W0 (eF bx aa x::aY aa::L) w):Cs 23 [bx,.agg #[.int .i64 11,.int .i64 wh,.int .i64 (k:Int),.int .i64 kind,.int .i64 at_,.int .i64 n,.slice ea el ec,.int .u64 key,.int .u64 new,.int .i64 cz,.bool force,.slice rS DT rR,.slice da dl dc]] w fun v w'=>v=.int .i64 r∧∃aN,cI aa aN∧On W0 (eF bx aN x2::aY aN::L) w':=by
 refine qO ?_;subst hr;refine gb fun b3 w h=> ?_;refine qE ?_;refine WL.e (ag call51 (adn hm hk ((h.aj (aY aa)).aj (eF bx aa x)))) ?_;rintro _ w ⟨rfl,cg,lF,h⟩;refine qR ?_;exact⟨rfl,cg,lF,h.to⟩
theorem Rm{aa:aE}{x x2:Cl}(ho:op=6∨op=7)(H:∀(b3:Nat) (w:World),On W0 (eF bx aa x::aY aa::aX b3 [.int .i64 op,.int .i64 wh,.int .i64 en,.int .i64 kind,.int .i64 at_,.int .i64 n,.slice ea el ec,.int .u64 key,.int .u64 new,.int .i64 cz,.bool force,.slice rS DT rR,.slice da dl dc] 34::L) w→Cs 54 [bx,.agg #[.int .i64 op,.int .i64 wh,.int .i64 en,.int .i64 kind,.int .i64 at_,.int .i64 n,.slice ea el ec,.int .u64 key,.int .u64 new,.int .i64 cz,.bool force,.slice rS DT rR,.slice da dl dc]] w fun v w'=>v=.int .i64 r∧∃aN,cI aa aN∧On W0 (eF bx aN x2::aY aN::aX b3 [.int .i64 op,.int .i64 wh,.int .i64 en,.int .i64 kind,.int .i64 at_,.int .i64 n,.slice ea el ec,.int .u64 key,.int .u64 new,.int .i64 cz,.bool force,.slice rS DT rR,.slice da dl dc] 34::L) w')(h:On W0 (eF bx aa x::aY aa::L) w):Cs 23 [bx,.agg #[.int .i64 op,.int .i64 wh,.int .i64 en,.int .i64 kind,.int .i64 at_,.int .i64 n,.slice ea el ec,.int .u64 key,.int .u64 new,.int .i64 cz,.bool force,.slice rS DT rR,.slice da dl dc]] w fun v w'=>v=.int .i64 r∧∃aN,cI aa aN∧On W0 (eF bx aN x2::aY aN::L) w':=by
 refine qO ?_;refine gb fun b3 w h=> ?_;refine qE ?_;refine WL.e (ag call54 (H b3 _ h.to)) ?_;rintro _ w ⟨rfl,cg,lF,h⟩;refine qR ?_;exact⟨rfl,cg,lF,h.to⟩
theorem Y8{aa:aE}{x x2:Cl}{key new:Nat}{who:Nat}{data:List UInt8}{ax:Option Addr}{cx:Nat}(hm:lu x who ⟨kind,at_,n,data,(key:Int),(new:Int),cz,force⟩=some (x2,r))(C:aB L (Bytes (.slice ax data.length cx) data))(h:On W0 (eF bx aa x::aY aa::L) w):Cs 23 [bx,.agg #[.int .i64 1,.int .i64 (who:Int),.int .i64 en,.int .i64 kind,.int .i64 at_,.int .i64 n,.slice ax data.length cx,.int .u64 (key:Int),.int .u64 (new:Int),.int .i64 cz,.bool force,.slice rS DT rR,.slice da dl dc]] w fun v w'=>v=.int .i64 r∧∃aN,cI aa aN∧On W0 (eF bx aN x2::aY aN::L) w':=by
 refine qO ?_;refine gb fun b3 w h=> ?_;refine qE ?_;refine WL.e (ag call52 (Va hm (aB.to C) ((h.aj (aY aa)).aj (eF bx aa x)))) ?_;rintro _ w ⟨rfl,cg,lF,h⟩;refine qR ?_;exact⟨rfl,cg,lF,h.to⟩
end Go.Proofs.YtcplmndikhjehaaGreat
namespace Go.Sl
open Go
variable{P:Program}{N:Nat}{Q:Exit→Env→World→Prop}{env:Env}{w:World}{c:Code}
structure ahX(p:Prop):Prop where
 h:p
def W.T(P:Program)(N:Nat)(c:Code)(Q:Exit→Env→World→Prop):Nat→Env→World→Prop
 |0,_,_=>False
 |n+1,env,w=>ahX (W P N c (fun e env w=>match e with| .normal=>W.T P N c Q n env w|e=>Q e env w) env w)
theorem W.u{n:Nat}(h:W P N c (fun e env w=>match e with| .normal=>W.T P N c Q n env w|e=>Q e env w) env w):W.T P N c Q (n+1) env w:=⟨h⟩
theorem W.times(n:Nat)(h:W.T P N c Q n env w):W P N (.loop c) Q env w:=by
 refine W.loop (W.T P N c Q) id n h fun s env w hs=> ?_;cases s with
 |zero=>exact hs.elim
 | succ s=>
   intro a r;refine wp_mono (hs.h a r) ?_;rintro e a' w' ⟨eZ,r',q⟩;refine⟨eZ,r', ?_⟩;cases e with
   |normal=>exact⟨s,q,Nat.lt_succ_self s⟩
   |exit id=>exact q
   |goto l=>exact q
   |ret=>exact q
   |panic ch=>exact q
   |outgrown=>exact q
end Go.Sl
namespace Go.Proofs.YtcplmndikhjehaaGreat
open Go.Proofs.Tryz
open Go Go.Sl Go.Sl.eM Go.Sl.gW Go.Sl.kM Go.Sl.pe Go.Sl.pM Go.Sl.mG Go.Sl.pO Go.Sl.rH Go.Sl.pN Go.Sl.gU Go.Sl.l9
open Go.Sl.oB (wr)
open Go.Sl.dA (fu fu.eN fu.mono)
set_option maxHeartbeats 0
set_option maxRecDepth 8000
variable{W0 w:World}{L F:List aC}
theorem Rn{aa:aE}{b:Nat}{p:gQ}:∀{l:List (Nat×gQ)} {L:List aC},On W0 (bS 103 139 b aa p::rU aa l::L) w→On W0 (rU aa (l++[(b,p)])::L) w
 |[],L,H=>On.pack (M:=[bS 103 139 b aa p,rU aa []]) trivial H
 | x::l,L,H=>by
   have H2:On W0 (bS 103 139 x.1 aa x.2::rU aa l::bS 103 139 b aa p::L) w:=H.p1.unpack.2;have H3:On W0 (bS 103 139 b aa p::rU aa l::bS 103 139 x.1 aa x.2::L) w:=H2.to;exact On.pack trivial (Rn H3).p1
theorem adt{aa:aE}(H:On W0 L w):On W0 (rU aa []::L) w:=On.pack (M:=[]) trivial H
theorem HO{α:Type}{a b:α}:fQ 0 a b=a:=rfl
theorem Lp{α:Type}{a b:α}:fQ 1 a b=b:=rfl
theorem BG(h:On W0 L w):Cs 18 [] w fun v w'=>v=.int .i64 354∧On W0 L w':=by
 refine qO ?_;refine qR ?_;exact⟨rfl,h⟩
theorem adu{aK blocks:Nat}{x:Cl}(hm:Nv aK blocks=some x)(h1:1≤aK)(hh:aK≤4)(wV:1≤blocks)(hb:blocks≤64)(h:On W0 L w):Cs 5 [.int .i64 (aK:Int),.int .i64 (blocks:Int)] w fun v w'=>∃bx,v=.tuple #[.pointer (some ⟨bx,0,none⟩),.int .i64 0]∧∃aa,On W0 (eF bx aa x::aY aa::L) w':=by
 refine qO ?_;have fH:=aG;unfold Nv at hm;have aA:=cG hm;obtain⟨na,hna,hm⟩:=aA;have aA:=cG hm;obtain⟨nb,zD,hm⟩:=aA;have aA:=Option.some.inj hm;obtain rfl:=aA;have h:=h.Ac;refine qE ?_;refine WL.e (mu (kd:=.u64) h) ?_;rintro _ w ⟨SQ,rfl,h⟩;refine WL.v (aP (pl:=[(0,1),(1,1),(2,1),(3,3),(6,2),(8,1),(9,1),(10,1),(11,1),(12,1),(13,1),(14,1)]) (out:=[.int .i64 (aK:Int),.int .i64 (blocks:Int),.slice none 0 0,.pointer none,.pointer none,.pointer none,.pointer none,.pointer none,.pointer none,.pointer none,.int .i64 0,.int .u32 ((0:Nat):Int),.slice none 0 0,.map (some SQ),.slice none 0 0]) underlying60 zeroValue60 (fun w=>by kernel_rfl) rfl fz rfl) ?_;refine gb fun Hu w h=> ?_;refine go ?_;refine W.loop (fun(q:Nat) env w=>∃(j:Env) (xs:List (Nat×gQ)) (pa:Option Addr) (pc:Nat),env=eu j [(6,.pointer (some ⟨Hu,0,none⟩)),(36,.int .i64 (aK:Int)),(37,.int .i64 (q:Int))]∧q≤aK∧xs.length=q∧xs.map (·.2)=(List.range q).map (fun q:Nat=>(⟨(q:Int),0,1,[],[],[],⟨[],0⟩⟩:gQ))∧On W0 (aX Hu [.int .i64 (aK:Int),.int .i64 (blocks:Int),.slice pa xs.length pc,.pointer none,.pointer none,.pointer none,.pointer none,.pointer none,.pointer none,.pointer none,.int .i64 0,.int .u32 ((0:Nat):Int),.slice none 0 0,.map (some SQ),.slice none 0 0] 60::Own 1 (.slice pa xs.length pc) xs.length (xs.map fun x=>pL x.1)::rU [] xs::bV SQ .u64 [] 0::aY []::L) w) (fun q=>aK - q) (0) ?_ ?_
 · have h:On W0 (Own 1 (.slice none ([]:List (Nat×gQ)).length 0) ([]:List (Nat×gQ)).length (([]:List (Nat×gQ)).map fun x=>pL x.1)::_) w:=(adt (aa:=[]) h).bB 1 none
   exact⟨_,[],none,0,aD ⟨rfl,rfl,rfl,trivial⟩,Nat.zero_le _,rfl,rfl,h.to⟩
 clear h;rintro q env w ⟨j,xs,pa,pc,rfl,hq,eC,DS,h⟩;refine qI (fun ou=> ?_) (fun ou=> ?_)
 ·
  refine qC ?_ (C:=Uq (aa:=[]) (by omega) (by omega) h);rintro _ w ⟨VN,rfl,h⟩;refine go ?_;refine WL.e (aZ (zl:=[.pointer none]) (out:=[.pointer _]) h underlying51 sizeOf61 zeroValue61 (by decide) (by kernel_rfl) rfl rfl (by simp) fz rfl rfl (by simp[maxLen])) ?_;rintro _ w ⟨b51,rfl,h⟩;refine WL.e (bU (bytes:=8) h rfl rfl (h.aR) underlying51 rfl rfl rfl rfl rfl (by omega) (by omega) (by simp[Value.oneCell'])) ?_;rintro _ w ⟨a52,c52,rfl,h⟩;refine gs fun w h _=> ?_;refine qD ?_;have aA:∃xs2:List (Nat×gQ),xs2=xs++[(VN,(⟨(q:Int),0,1,[],[],[],⟨[],0⟩⟩:gQ))]:=⟨_,rfl⟩;obtain⟨xs2,wW⟩:=aA;have e1:xs.length+1=xs2.length:=by rw[wW];simp
  have e2:(xs.map fun x=>pL x.1)++[.pointer (some ⟨VN,0,none⟩)]=xs2.map fun x=>pL x.1:=by rw[wW];simp
  rw[e1,e2] at h;have h:=Rn ((h.aj (rU [] xs)).aj (bS 103 139 VN [] ⟨(q:Int),0,1,[],[],[],⟨[],0⟩⟩));rw[←wW] at h;exact⟨q+1,⟨_,xs2,a52,c52,aD ⟨rfl,rfl,rfl,trivial⟩,by omega,by omega,by rw[wW,List.map_append,DS,List.range_succ,List.map_append];rfl,h.to⟩,by show aK - (q+1)<aK - q;omega⟩
 have aA:aK=q:=by omega
 obtain rfl:=aA;refine qC ?_ (C:=Ra (by omega) h);rintro _ w ⟨rfl,h⟩;refine qC ?_ (C:=UZ h);rintro _ w hR;rcases hR with⟨dX,_⟩|⟨_,bn,rfl,h⟩
 · exact absurd (show _ by omega) dX
 refine gs fun w h _=> ?_;refine go ?_;refine W.times 4 ?_;refine W.u ?_;refine qE ?_;refine WL.e (ag call18 (BG h)) ?_;rintro _ w ⟨rfl,h⟩;refine qE ?_;refine W.draw Tryz.follows h (fun w h=> ?_);refine WT.m 0 rfl ?_;refine WT.m 1 rfl ?_;refine WT.m 2 rfl ?_;refine WT.n 7 rfl rfl ?_;refine WT.f 8 3 rfl underlying60 rfl sizeOf53 rfl rfl ?_;refine WT.e 3 [] rfl (ag call19 (IW h)) ?_;rintro _ w hR;rcases hR with⟨_,_,d0,rfl,h⟩|⟨dX,_⟩;rotate_left
 · exact absurd ⟨by decide,by decide⟩ dX
 refine⟨trivial, ?_⟩;refine WT.m 4 rfl ?_;refine WT.p 5 rfl (fun w'=>(bZ rfl rfl)) ?_;refine WT.p 6 rfl (fun w'=>(bZ rfl rfl)) ?_;refine WT.p 9 rfl (fun w'=>(bg underlying53 sizeOf52 rfl rfl (by decide) (by decide))) ?_;refine WT.e 10 [] rfl (bI (o:=3) (v:=.pointer _) h sizeOf52 rfl rfl rfl rfl rfl) ?_;rintro _ w h
 try simp only[List.set_cons_zero,List.set_cons_succ] at h
 refine⟨trivial, ?_⟩;refine WT.dn ?_;refine qD ?_;refine W.u ?_;refine qE ?_;refine WL.e (ag call18 (BG h)) ?_;rintro _ w ⟨rfl,h⟩;refine qE ?_;refine W.draw Tryz.follows h (fun w h=> ?_);refine WT.m 0 rfl ?_;refine WT.m 1 rfl ?_;refine WT.m 2 rfl ?_;refine WT.n 7 rfl rfl ?_;refine WT.f 8 3 rfl underlying60 rfl sizeOf53 rfl rfl ?_;refine WT.e 3 [] rfl (ag call19 (IW h)) ?_;rintro _ w hR;rcases hR with⟨_,_,d1,rfl,h⟩|⟨dX,_⟩;rotate_left
 · exact absurd ⟨by decide,by decide⟩ dX
 refine⟨trivial, ?_⟩;refine WT.m 4 rfl ?_;refine WT.p 5 rfl (fun w'=>(bZ rfl rfl)) ?_;refine WT.p 6 rfl (fun w'=>(bZ rfl rfl)) ?_;refine WT.p 9 rfl (fun w'=>(bg underlying53 sizeOf52 rfl rfl (by decide) (by decide))) ?_;refine WT.e 10 [] rfl (bI (o:=4) (v:=.pointer _) h sizeOf52 rfl rfl rfl rfl rfl) ?_;rintro _ w h
 try simp only[List.set_cons_zero,List.set_cons_succ] at h
 refine⟨trivial, ?_⟩;refine WT.dn ?_;refine qD ?_;refine W.u ?_;refine qE ?_;refine WL.e (ag call18 (BG h)) ?_;rintro _ w ⟨rfl,h⟩;refine qE ?_;refine W.draw Tryz.follows h (fun w h=> ?_);refine WT.m 0 rfl ?_;refine WT.m 1 rfl ?_;refine WT.m 2 rfl ?_;refine WT.n 7 rfl rfl ?_;refine WT.f 8 3 rfl underlying60 rfl sizeOf53 rfl rfl ?_;refine WT.e 3 [] rfl (ag call19 (IW h)) ?_;rintro _ w hR;rcases hR with⟨_,_,d2,rfl,h⟩|⟨dX,_⟩;rotate_left
 · exact absurd ⟨by decide,by decide⟩ dX
 refine⟨trivial, ?_⟩;refine WT.m 4 rfl ?_;refine WT.p 5 rfl (fun w'=>(bZ rfl rfl)) ?_;refine WT.p 6 rfl (fun w'=>(bZ rfl rfl)) ?_;refine WT.p 9 rfl (fun w'=>(bg underlying53 sizeOf52 rfl rfl (by decide) (by decide))) ?_;refine WT.e 10 [] rfl (bI (o:=5) (v:=.pointer _) h sizeOf52 rfl rfl rfl rfl rfl) ?_;rintro _ w h
 try simp only[List.set_cons_zero,List.set_cons_succ] at h
 refine⟨trivial, ?_⟩;refine WT.dn ?_;refine qD ?_;refine W.u ?_;refine qE ?_;refine W.times 3 ?_;refine W.u ?_;refine qE ?_;refine WL.v (bg underlying53 sizeOf52 rfl rfl (by decide) (by decide)) ?_;refine qC ?_ (C:=Lh (fun k=>rfl) (Ep 354) rfl rfl (h.aj (dA.aQ 109 221 d0 (dA.Mb 354))));rintro _ w ⟨rfl,e0,g0,hS0,Ko,h⟩;refine qE ?_;refine W.u ?_;refine qE ?_;refine WL.v (bg underlying53 sizeOf52 rfl rfl (by decide) (by decide)) ?_;refine qC ?_ (C:=Lh (fun k=>rfl) (Ep 354) rfl rfl (h.aj (dA.aQ 109 221 d1 (dA.Mb 354))));rintro _ w ⟨rfl,e1,g1,hS1,FK,h⟩;refine qE ?_;refine W.u ?_;refine qE ?_;refine WL.v (bg underlying53 sizeOf52 rfl rfl (by decide) (by decide)) ?_;refine qD ?_;refine WL.e (ag call21 (Cv (by decide) (by decide) (Ep 2) ⟨by decide,by decide⟩ ⟨by decide,by decide⟩ (by decide) (h.aj (dA.aQ 109 221 d2 (dA.Mb 2))))) ?_;rintro _ w ⟨rfl,e2,hT2,rN,H6,h⟩;refine qE ?_;refine W.times 4 ?_;refine W.u ?_;refine qE ?_;refine WL.e (ag call22 (J3 (i:=0) rfl (by decide) (by decide) hS0 Ko hna (((h.aj (aY [])).aj (dA.aQ 109 221 d0 e0)).aj (aX Hu [.int .i64 (aK:Int),.int .i64 (blocks:Int),.slice pa xs.length pc,.pointer (some ⟨d0,0,none⟩),.pointer (some ⟨d1,0,none⟩),.pointer (some ⟨d2,0,none⟩),.pointer none,.pointer none,.pointer none,.pointer (some ⟨bn,0,none⟩),.int .i64 0,.int .u32 ((0:Nat):Int),.slice none 0 0,.map (some SQ),.slice none 0 0] 60)))) ?_;rintro _ w ⟨rfl,n0,Ac,VR,h⟩;simp only[HO,Lp] at h;have h:=nZ VR h;refine qE ?_;refine W.u ?_;refine qE ?_;refine WL.e (ag call22 (J3 (i:=1) (bQ:=0+1) rfl (by decide) (by decide) hS1 FK zD (((h.aj (aY Ac)).aj (dA.aQ 109 221 d1 e1)).aj (aX Hu [.int .i64 (aK:Int),.int .i64 (blocks:Int),.slice pa xs.length pc,.pointer (some ⟨d0,0,none⟩),.pointer (some ⟨d1,0,none⟩),.pointer (some ⟨d2,0,none⟩),.pointer (some ⟨n0,0,none⟩),.pointer none,.pointer none,.pointer (some ⟨bn,0,none⟩),.int .i64 0,.int .u32 ((0+1:Nat):Int),.slice none 0 0,.map (some SQ),.slice none 0 0] 60)))) ?_;rintro _ w ⟨rfl,n1,ig,W6,h⟩;simp only[HO,Lp] at h;have h:=nZ W6 h;refine qE ?_;refine W.u ?_;refine go ?_;refine WL.v (FI rfl rfl (by decide)) ?_;refine go ?_;refine W.ct ?_;refine W.skip ?_;refine W.seq ?_;refine W.block ?_;refine W.sr ?_;refine gw ?_;refine W.seq ?_;have hW:Nx ⟨⟨1,0,3⟩,1,10⟩ e2:=⟨hT2,by rw[H6];decide,by rw[rN];decide,by decide,by decide⟩;refine qC ?_ (C:=YZ (aK:=aK) (blocks:=blocks) (bQ:=0+1+1) (aa:=ig) (x:=⟨⟨1,0,3⟩,1,10⟩) (by decide) hW ((h.aj (dA.aQ 109 221 d2 e2)).aj (aX Hu [.int .i64 (aK:Int),.int .i64 (blocks:Int),.slice pa xs.length pc,.pointer (some ⟨d0,0,none⟩),.pointer (some ⟨d1,0,none⟩),.pointer (some ⟨d2,0,none⟩),.pointer (some ⟨n0,0,none⟩),.pointer (some ⟨n1,0,none⟩),.pointer none,.pointer (some ⟨bn,0,none⟩),.int .i64 0,.int .u32 ((0+1+1:Nat):Int),.slice none 0 0,.map (some SQ),.slice none 0 0] 60)));rintro _ w ⟨rfl,bj,h⟩;refine qE ?_;refine W.u ?_;refine qE ?_;refine qR ?_;have h:=psC DS (by rw[List.length_map,List.length_range];exact eC) ((h.aj (rU ig xs)).aj (Own 1 (.slice pa xs.length pc) xs.length (xs.map fun x=>pL x.1)));have h:=upI (h.aj (BW n0 d0 ig (.pointer none) na));have h:=upI (h.aj (BW n1 d1 ig (.pointer none) nb));have h:=YX (h.aj (yM bj d2 ig ⟨⟨1,0,3⟩,1,[],10⟩));have h:=ntC (x:=([],0)) (h.aj (lD.qw 106 bn ⟨((aK+3:Nat):Int),[],0⟩ ig));have h:=Q2 (m:=([],0)) (fun x hx=>by cases hx) (h.aj (bV SQ .u64 [] 0));have h:=YU (aa:=ig) (xo:=[]) (l:=[]) ⟨rfl,fun x hx=>by cases hx⟩ rfl (h.bB 11 none);have h:=YV (aa:=ig) (xo:=[]) (l:=[]) ⟨rfl,fun x hx=>by cases hx⟩ rfl (h.bB 8 none);have kx:tX ⟨aK,blocks,(List.range aK).map (fun q:Nat=>(⟨(q:Int),0,1,[],[],[],⟨[],0⟩⟩:gQ)),.up na,.up nb,⟨⟨1,0,3⟩,1,[],10⟩,[],0,0,3,[],([],0),[]⟩:=⟨hh,hb,by rw[List.length_map,List.length_range],by show 3<4294967295;decide,by show(0:Int)≤0;decide,by show(0:Int)≤1000000;decide⟩;exact⟨Hu,rfl,ig,(og (bx:=Hu) rfl kx h).to⟩
end Go.Proofs.YtcplmndikhjehaaGreat
namespace Go.Sl
open Go
variable{R:Value→World→Prop}{args:List Value}{c:Operand}{id:Nat}
@[reducible] def FR(o:Option Nat):Fence:={Fence.wide with round:=o}
theorem Vb{o:Option Nat}{n:Nat}{P:Program}{f:FuncId}{args:Array Value}{w:World}{R:Ending→World→Prop}(h:Calls P f args w R):CallsIn (FR o) n P f args w R:=(callsIn_wide (n:=n)).2 h
theorem Vc{n:Nat}{P:Program}{f:FuncId}{args:Array Value}{w:World}{R:Ending→World→Prop}(h:CallsIn (FR none) n P f args w R):Calls P f args w R:=(callsIn_wide (n:=n)).1 h
structure oE(N:Nat)(ds:List Deferred)(a:Act)(env:Env):Prop where
 size:a.tmps.size=N
 get:∀t,a.tmps.getD t undef=env t
 defers:a.defers=ds
theorem oE.eval{N:Nat}{ds:List Deferred}{a:Act}{env:Env}(r:oE N ds a env):a.eval=cN env:=by
 funext x
 cases x with
 |tmp t=>exact r.get t
 |_=>rfl
theorem oE.put{N:Nat}{ds:List Deferred}{a:Act}{env:Env}(r:oE N ds a env){d:Nat}(hd:Nat.ble (d+1) N=true)(v:Value):oE N ds (a.put (some d) v) (Sn env d v):=by
 have dW:d<a.tmps.size:=by rw[r.size];exact Nat.le_of_ble_eq_true hd
 refine⟨by simp[Act.put,r.size],fun t=> ?_,r.defers⟩;by_cases h:t=d
 · subst h;rw[FE];simp[Act.put,dW]
 rw[CF _ _ h,←r.get t];simp[Act.put,Array.getElem?_setIfInBounds_ne (Ne.symm h)]
theorem oE.vl{N:Nat}{ds:List Deferred}{a:Act}{env:Env}(r:oE N ds a env){d:Option Nat}(hd:iN N d=true)(v:Value):oE N ds (a.put d v) (cP env d v):=by
 cases d with
 |none=>exact r
 |some d=>exact r.put hd v
theorem oE.yielded{N:Nat}{ds:List Deferred}{a:Act}{env:Env}(r:oE N ds a env)(ops:Array Oper)(j:Nat):yielded ops a.tmps j=aU ops env j:=by
 have r':Rel N {a with defers:=[]} env:=⟨r.size,r.get,rfl⟩;exact r'.yielded ops j
def zQ(o:Oper):Bool:=match o.op with| .defer _=>false|_=>true
theorem xS{o:Oper}(h:zQ o=true)(ro:Option Nat)(ρ:Operand→Value):Oper.semAt ro ρ o=execOp ρ o:=Oper.semAt_eq ro ρ o fun c e=>by
 unfold zQ at h;rw[e] at h;cases h
section
variable{P:Program}{N n:Nat}{fo:Option Nat}{ds:List Deferred}{ops:Array Oper}{K:List Deferred→Env→World→Prop}{env:Env}{w:World}{rest:List Oper}{o:Oper}
def Y9(N:Nat)(K:List Deferred→Env→World→Prop):Exit→Act→World→Prop:=fun e a w=>e=.normal∧∃ds env,oE N ds a env∧K ds env w
def oF(fo:Option Nat)(n:Nat)(P:Program)(N:Nat)(ops:Array Oper)(K:List Deferred→Env→World→Prop)(l:List Oper)(ds:List Deferred)(env:Env)(w:World):Prop:=
 ∀a,oE N ds a env→wpListIn (FR fo) n P ops (Y9 N K) l a w
theorem oF.nil(h:K ds env w):oF fo n P N ops K [] ds env w:=fun a r=>⟨rfl,ds,env,r,h⟩
theorem oF.val{v:Value}{w':World}(hr:(execOp (cN env) o).run P w=.ok (.value v) w')(hp:zQ o=true)(hw:Region.wanted o (aU ops env)=true)(hd:iN N o.dst=true)
   (k:oF fo n P N ops K rest ds (cP env o.dst v) w'):oF fo n P N ops K (o::rest) ds env w:=fun a r=>by
 unfold wpListIn;have hy:yielded ops a.tmps=aU ops env:=funext fun j=>r.yielded ops j;rw[hy,if_pos hw];refine⟨fun _ _=>trivial, ?_⟩;rw[xS hp,r.eval,hr];exact k _ (r.vl hd v)
theorem oF.BP(he:nr P (cN env) o w R)(hp:zQ o=true)(hw:Region.wanted o (aU ops env)=true)(hd:iN N o.dst=true)
   (k:∀v w',R v w'→oF fo n P N ops K rest ds (cP env o.dst v) w'):oF fo n P N ops K (o::rest) ds env w:=fun a r=>by
 unfold wpListIn;have hy:yielded ops a.tmps=aU ops env:=funext fun j=>r.yielded ops j;rw[hy,if_pos hw];refine⟨fun _ _=>trivial, ?_⟩;rw[xS hp,r.eval];rcases he with⟨v,w',hr,hR⟩|⟨w',hr,hR⟩|⟨f,args,w1,hr,hc⟩
 · rw[hr];exact k v w' hR _ (r.vl hd v)
 · rw[hr];exact k undef w' hR _ (r.vl hd undef)
 rw[hr];refine⟨fun h=>(by cases h),CallsIn.mono (Vb hc) ?_⟩;rintro e w' ⟨v,rfl,hR⟩;exact k v w' hR _ (r.vl hd v)
theorem oF.yield{l:Nat}{x y:Operand}{args:List Operand}{qK:Array TypeId}{d:Option Nat}{ty:TypeId}{pos:String}{af:Array Edge}{g:Option (Nat×Bool)}
   (ho:o=⟨d,.call {callee:=.value x,args:=args.toArray,argTypes:=qK},ty,pos,af,g⟩) (hx:cN env x=.func (.yield l) #[] #[]) (hw:Region.wanted o (aU ops env)=true) (hd:iN N o.dst=true)
   (hY:YieldAt (FR fo) (n - 1) P l (args.map (cN env)).toArray w (wU R)) (k:∀v w',R v w'→oF fo n P N ops K rest ds (cP env o.dst v) w'):oF fo n P N ops K (o::rest) ds env w:=fun a r=>by
 unfold wpListIn;have hyy:yielded ops a.tmps=aU ops env:=funext fun j=>r.yielded ops j;rw[hyy,if_pos hw];refine⟨fun _ _=>trivial, ?_⟩;rw[xS (by rw[ho];rfl),r.eval];obtain⟨fn,tmps,assign,body,Iz,hR⟩:=hY
 have hex:(execOp (cN env) o).run P w=.ok (.round l fn tmps assign body) w:=by
   rw[ho];simp[execOp,resolve,Deferred.ofValue,hx,invoke,Iz]
 rw[hex];refine⟨fun h=>(by cases h),RoundIn.mono hR ?_⟩;rintro e w' ⟨v,rfl,hR⟩;exact k v w' hR _ (r.vl hd v)
end
section
variable{P:Program}{N n:Nat}{fo:Option Nat}{ds:List Deferred}{env:Env}{w:World}
def J4(N:Nat)(Q:Exit→List Deferred→Env→World→Prop):Exit→Act→World→Prop:=fun e a w=>∃ds env,oE N ds a env∧Q e ds env w
def WF(fo:Option Nat)(n:Nat)(P:Program)(N:Nat)(c:Code)(Q:Exit→List Deferred→Env→World→Prop)(ds:List Deferred)(env:Env)(w:World):Prop:=
 ∀a,oE N ds a env→c.wpIn (FR fo) n P (J4 N Q) a w
@[reducible] def adw(fo:Option Nat)(n:Nat)(P:Program)(N:Nat)(b:Code)(Q:Exit→List Deferred→Env→World→Prop):Exit→List Deferred→Env→World→Prop
 | .normal,ds,env,w=>WF fo n P N b Q ds env w
 |e,ds,env,w=>Q e ds env w
@[reducible] def J5(id:Nat)(Q:Exit→List Deferred→Env→World→Prop):Exit→List Deferred→Env→World→Prop
 | .exit i,ds,env,w=>match Nat.beq i id with|true=>Q .normal ds env w|false=>Q (.exit i) ds env w
 |e,ds,env,w=>Q e ds env w
variable{Q Q':Exit→List Deferred→Env→World→Prop}
theorem WF.seq{x y:Code}(h:WF fo n P N x (adw fo n P N y Q) ds env w):WF fo n P N (.seq x y) Q ds env w:=fun a r=>by
 refine wpIn_seq (wpIn_mono (h a r) ?_);rintro e a' w' ⟨zR,eZ,r',q⟩;cases e with
 |normal=>exact q a' r'
 |_=>exact⟨zR,eZ,r',q⟩
theorem WF.skip(h:Q .normal ds env w):WF fo n P N .skip Q ds env w:=fun _ r=>wpIn_skip ⟨ds,env,r,h⟩
theorem WF.exit(h:Q (.exit id) ds env w):WF fo n P N (.exit id) Q ds env w:=fun _ r=>wpIn_exit ⟨ds,env,r,h⟩
theorem WF.ret(h:Q .ret ds env w):WF fo n P N .ret Q ds env w:=fun _ r=>wpIn_ret ⟨ds,env,r,h⟩
theorem WF.block{c:Code}(h:WF fo n P N c (J5 id Q) ds env w):WF fo n P N (.block id c) Q ds env w:=fun a r=>by
 refine wpIn_block (wpIn_mono (h a r) ?_);rintro e a' w' ⟨zR,eZ,r',q⟩;cases e with
 | exit i=>
   simp only[Exit.inBlock];by_cases hi:i=id
   · subst hi;simp only[J5,Nat.beq_refl] at q;rw[if_pos rfl];exact⟨zR,eZ,r',q⟩
   have hb:Nat.beq i id=false:=by rw[←Bool.not_eq_true];intro e;exact hi (Nat.eq_of_beq_eq_true e)
   simp only[J5,hb] at q;rw[if_neg hi];exact⟨zR,eZ,r',q⟩
 |_=>exact⟨zR,eZ,r',q⟩
theorem WF.cond{x y:Code}(b:Bool)(hc:cN env c=.bool b)(h:WF fo n P N (if b then x else y) Q ds env w):WF fo n P N (.cond c x y) Q ds env w:=fun a r=>
 wpIn_cond (by rw[r.eval];exact hc) (h a r)
theorem WF.zT{x y:Code}(hc:cN env c=.bool true)(h:WF fo n P N x Q ds env w):WF fo n P N (.cond c x y) Q ds env w:=WF.cond true hc h
theorem WF.zU{x y:Code}(hc:cN env c=.bool false)(h:WF fo n P N y Q ds env w):WF fo n P N (.cond c x y) Q ds env w:=WF.cond false hc h
theorem WF.region{l:List Oper}(h:oF fo n P N l.toArray (fun zR eZ w'=>Q .normal zR eZ w') l ds env w):WF fo n P N (.region id l.toArray false) Q ds env w:=fun a r=>by
 refine wpIn_region_lit ?_;refine weaken ?_ l a w (h a r);rintro e a' w' ⟨rfl,zR,eZ,r',k⟩;exact⟨zR,eZ,r',k⟩
where
 weaken {P:Program} {fo:Option Nat} {n:Nat} {ops:Array Oper} {Q Q':Exit→Act→World→Prop} (i:∀e a w,Q e a w→Q' e a w):∀(l:List Oper) (a:Act) (w:World),wpListIn (FR fo) n P ops Q l a w→wpListIn (FR fo) n P ops Q' l a w:=by
   intro l
   induction l with
   |nil=>exact fun a w h=>i _ _ _ h
   | cons o rest ih=>
     intro a w h;unfold wpListIn at h⊢;split
     · rename_i hw
       rw[if_pos hw] at h;obtain⟨h1,h2⟩:=h;refine⟨h1, ?_⟩;generalize (Oper.semAt _ a.eval o).run P w=r at h2⊢;cases r with
       | ok nx w'=>
         cases nx<;>simp only[Oper.uponIn] at h2⊢<;>
           first
             |exact ih _ _ h2
             | exact ⟨h2.1, CallsIn.mono h2.2 (fun e w'' he => by
                 cases e
                 · exact ih _ _ he
                 · exact i _ _ _ he
                 exact ⟨he.choose, he.choose_spec.choose, i _ _ _ he.choose_spec.choose_spec⟩)⟩
             | exact ⟨h2.1, RoundIn.mono h2.2 (fun e w'' he => by
                 cases e
                 · exact ih _ _ he
                 · exact i _ _ _ he
                 exact ⟨he.choose, he.choose_spec.choose, i _ _ _ he.choose_spec.choose_spec⟩)⟩
             |exact⟨h2.1,RowsIn.mono h2.2 (fun _ _ he=>ih _ _ he)⟩
       | halt x w'=>
         cases x<;>simp only[Oper.uponIn] at h2⊢;exact i _ _ _ h2
     rename_i hw;rw[if_neg hw] at h;exact⟨h.1,ih _ _ h.2⟩
@[reducible] def adx{σ:Type}(I:σ→Env→World→Prop)(m:σ→Nat)(s:σ)(ds:List Deferred)(Q:Exit→List Deferred→Env→World→Prop):Exit→List Deferred→Env→World→Prop
 | .normal,zR,env,w=>zR=ds∧∃s',I s' env w∧m s'<m s
 |e,zR,env,w=>Q e zR env w
theorem WF.loop{σ:Type}{c:Code}(I:σ→Env→World→Prop)(m:σ→Nat)(s0:σ)(h0:I s0 env w)
   (step:∀s env w,I s env w→WF fo n P N c (adx I m s ds Q) ds env w):WF fo n P N (.loop c) Q ds env w:=fun a r=>by
 intro b k cs Db hb hr
 have key:∀j a w,(∃s env,oE N ds a env∧I s env w∧m s=j)→
     ∃e a' w',J4 N Q e a' w'∧ArrivesIn (Machine.fenced P (FR fo)) P (lone (b.atR a (.code c:: .inLoop c::k)) cs w) b k cs e a' w':=by
   intro j
   induction j using Nat.strongRecOn with
   | _ j ih=>
     rintro a w ⟨s,env,r,hI,hm⟩;obtain⟨e,ND,B6,⟨zR,eZ,r',hq⟩,HP⟩:=step s env w hI a r b (.inLoop c::k) cs Db hb hr;cases e with
     | normal=>
       obtain⟨rfl,s',hI',dW⟩:=hq;obtain⟨ahY,ahZ,Om,ady,Vd⟩:=ih (m s') (by omega) ND B6 ⟨s',eZ,r',hI',rfl⟩;exact⟨ahY,ahZ,Om,ady,.of_steps (StepsIn.trans HP (.one (fenced_calm hb hr rfl) stepR_inLoop)) Vd⟩
     |exit id=>exact⟨_,ND,B6,⟨zR,eZ,r',hq⟩,.pass rfl (fun _ _=> .inl (by simp)) HP⟩
     |goto l=>exact⟨_,ND,B6,⟨zR,eZ,r',hq⟩,.pass rfl (fun _ _=> .inl (by simp)) HP⟩
     |ret=>exact⟨_,ND,B6,⟨zR,eZ,r',hq⟩,.pass rfl (fun _ _=> .inl (by simp)) HP⟩
     |panic ch=>exact⟨_,ND,B6,⟨zR,eZ,r',hq⟩,.pass rfl (fun _ _=> .inl (by simp)) HP⟩
     |outgrown=>exact⟨_,ND,B6,⟨zR,eZ,r',hq⟩,.pass rfl (fun _ _=> .inl (by simp)) HP⟩
 obtain⟨e,a',w',hq,HP⟩:=key _ a w ⟨s0,env,r,h0,rfl⟩;exact⟨e,a',w',hq,.of_steps (.one (fenced_calm hb hr rfl) stepR_loop) HP⟩
end
theorem DU{β γ:Type}[DecidableEq γ](f:β→γ):∀{l:List β} {e:β},(l.map f).Nodup→e∈l→l.Perm (e::l.filter fun x=> !decide (f x=f e))
 |[],e,_,h=>by cases h
 | y::l,e,hn,h=>by
   rw[List.map_cons,List.nodup_cons] at hn;rcases List.mem_cons.1 h with h1|h1
   · subst h1
     have e1:((e::l).filter fun x=> !decide (f x=f e))=l:=by
       rw[List.filter_cons,if_neg (by simp)];refine List.filter_eq_self.2 fun x hx=> ?_;have:f x≠f e:=fun hh=>hn.1 (List.mem_map.2 ⟨x,hx,hh⟩);simpa using this
     rw[e1]
   have l5:f y≠f e:=fun hh=>hn.1 (List.mem_map.2 ⟨e,h1,hh.symm⟩);rw[List.filter_cons,if_pos (by simpa using l5)];exact((DU f hn.2 h1).cons y).trans (List.Perm.swap ..)
theorem NF{kvs:List KV}{seen:Array Nat}{e:KV}(hf:(kvs.map (·.2.2)).Nodup)(h:e∈iX kvs seen):(iX kvs seen).Perm (e::iX kvs (seen.push e.2.2)):=by
 have hn:((iX kvs seen).map (·.2.2)).Nodup:=(List.filter_sublist.map _).nodup hf;have h1:=DU (fun x:KV=>x.2.2) hn h
 have e1:iX kvs (seen.push e.2.2)=(iX kvs seen).filter fun x=> !decide (x.2.2=e.2.2):=by
   unfold iX;rw[List.filter_filter];refine List.filter_congr fun x _=> ?_;rw[fF,Bool.not_or,Bool.and_comm]
   congr 1
 rw[e1];exact h1
section
variable{P:Program}{N n:Nat}{ds:List Deferred}{env:Env}{w W0:World}{L:List aC}{Q:Exit→List Deferred→Env→World→Prop}
theorem On.Fq{b:Nat}{o:Obj}(o':Obj)(H:On W0 (vf b o::L) w):On W0 (vf b o'::L) (w.putObj b o'):=by
 have hb:=H.block 0 rfl;have dW:b<w.heap.size:=(Array.getElem?_eq_some_iff.1 hb).1;refine H.set 0 rfl rfl rfl rfl (by simp[World.putObj]) ?_ ?_
 · simp[World.putObj,dW]
 intro k hk;simp[World.putObj,Ne.symm hk]
def BH(env:Env):List (Nat×Value)→Env
 |[]=>env
 |(p,v)::l=>BH (Sn env p v) l
theorem oE.BH:∀{l:List (Nat×Value)} {a:Act} {env:Env},oE N ds a env→(∀p∈l,Nat.ble (p.1+1) N=true)→oE N ds {a with tmps:=l.foldl (fun t (x:Nat×Value)=>t.setIfInBounds x.1 x.2) a.tmps} (BH env l)
 |[],a,env,r,_=>r
 | (p,v)::l,a,env,r,h=>by
   have r1:=r.put (h (p,v) (List.mem_cons_self ..)) v;exact oE.BH (a:=a.put (some p) v) r1 (fun q hq=>h q (List.mem_cons_of_mem _ hq))
abbrev DV(D:Nat):Deferred:={target:=.collected D,args:=#[]}
abbrev yS(D:Nat):aC:=vf D (.deferred (some []))
theorem WF.rangeFunc{α:Type}{g:Operand}{ps:List Nat}{assign body:Code}{gf:FuncId}{caps:Array Value}(HQ:α→List Value)
   (hg:cN env g=.func (.func gf) #[] caps) (hen:∀args w,(callFunc gf args).run P w=.ok (.enter gf args) w)
   (Y0:List α→aC) (S:List α→Prop) (Bd:List α→α→Prop) (adz:Env→α→Env) (hps:∀x,(HQ x).length=ps.length) (hpn:∀p∈ps,Nat.ble (p+1) N=true)
   (Ve:∀l x w,WF (some l) (n - 1 - 1) P N assign (fun e zR eZ w'=>e=.normal∧zR=[]∧eZ=adz env x∧w'=w) [] (BH env (ps.zip (HQ x))) w)
   (adA:∀l pre x A w,Bd pre x→On W0 (Y0 pre::A) w→WF (some l) (n - 1 - 1) P N body (fun e zR eZ w'=>e=.normal∧On W0 (Y0 (pre++[x])::A) w') [] (adz env x) w)
   (OK : ∀ l (Y : List α → aC) w, (∀ pre x A w, Bd pre x → On W0 (Y pre :: A) w → YieldAt (FR none) (n - 1 - 1) P l (HQ x).toArray w (wU fun v w' => v = .bool true ∧ On W0 (Y (pre ++ [x]) :: A) w')) →
     On W0 (Y [] :: L) w → CallsIn (FR none) (n - 1) P gf (#[.func (.yield l) #[] #[]] ++ caps) w (wU fun v w' => ∃ ss, S ss ∧ On W0 (Y ss :: L) w'))
   (H:On W0 (Y0 []::L) w) (k:∀D ss w',S ss→On W0 (Y0 ss::yS D::L) w'→Q .normal (DV D::ds) env w'):
   WF none n P N (.rangeFunc g ps.toArray assign body) Q ds env w:=fun a r=>by
 refine wpIn_rangeFunc ?_;intro fn hfn;obtain⟨D,hD⟩:∃D,D=w.heap.size:=⟨_,rfl⟩;obtain⟨rec,Fs⟩:∃rec:LoopState→Loop,rec=fun st=>{state:=st,pending:=none,fn,tmps:=a.tmps,params:=ps.toArray,assign,body,defers:=D}:=⟨_,rfl⟩;obtain⟨W1,hW1⟩:∃W1,W1=(w.alloc (.deferred (some []))).alloc (.loop (rec .ready)):=⟨_,rfl⟩;have h1:=(H.alloc (.deferred (some []))).alloc (.loop (rec .ready));rw[←hD,←hW1] at h1;have CH:(w.alloc (.deferred (some []))).heap.size=D+1:=by rw[hD];simp
 rw[CH] at h1;obtain⟨Y,hYd⟩:∃Y:List α→aC,Y=fun pre=>Pack True [Y0 pre,vf (D+1) (.loop (rec .ready)),yS D]:=⟨_,rfl⟩;have hYp:∀pre,Y pre=Pack True [Y0 pre,vf (D+1) (.loop (rec .ready)),yS D]:=fun pre=>by rw[hYd]
 clear hYd
 have Za:∀pre x A w,Bd pre x→On W0 (Y pre::A) w→YieldAt (FR none) (n - 1 - 1) P (D+1) (HQ x).toArray w (wU fun v w'=>v=.bool true∧On W0 (Y (pre++[x])::A) w'):=by
   intro pre x A w hbd hY;rw[hYp] at hY;obtain⟨_,hY⟩:=hY.unpack;have hY:On W0 (Y0 pre::vf (D+1) (.loop (rec .ready))::yS D::A) w:=hY;have hl:w.heap[D+1]? =some (.loop (rec .ready)):=hY.block 1 rfl;have hy:=run_yield (P:=P) (args:=(HQ x).toArray) hl (by rw[Fs];simp[hps x]);refine⟨_,_,_,_,hy,roundIn_of_wpIn trivial ?_⟩
   have rr:oE N [] {tmps:=(((rec .ready).params.zip (HQ x).toArray).foldl (fun tmps (t,a)=>tmps.setIfInBounds t a) (rec .ready).tmps),defers:=[]} (BH env (ps.zip (HQ x))):=by
     have r0:oE N [] {tmps:=a.tmps,defers:=[]} env:=⟨r.size,r.get,rfl⟩;have:=r0.BH (l:=ps.zip (HQ x)) (fun p hp=>hpn p.1 (List.of_mem_zip hp).1);rw[Fs];simpa using this
   have ea:(rec .ready).assign=assign:=by rw[Fs]
   have eb:(rec .ready).body=body:=by rw[Fs]
   rw[ea,eb];refine wpIn_mono (Ve (D+1) x w _ rr) ?_;rintro e a1 w1 ⟨ds1,ajI,r1,rfl,rfl,rfl,rfl⟩;have hb:=run_beginRound (P:=P) hl (by rw[Fs]);refine⟨_,hb, ?_⟩;have h2:On W0 (vf (D+1) (.loop {rec .ready with state:=.busy})::Y0 pre::yS D::A) (w1.putObj (D+1) (.loop {rec .ready with state:=.busy})):=On.Fq _ hY.p1;refine wpIn_mono (adA (D+1) pre x _ _ hbd h2.p1 a1 r1) ?_;rintro e a2 w2 ⟨ds2,ang,r2,rfl,h3⟩;have hl3:=h3.block 1 rfl;have he:=run_endRound (P:=P) none hl3;refine⟨_,_,he,_,rfl,rfl, ?_⟩;rw[hYp];refine On.pack trivial ?_;have h4:=On.Fq (.loop {{rec .ready with state:=.busy} with state:=if(none:Option Code).isNone then .ready else .done,pending:=none}) h3.p1;have e4:({{rec .ready with state:=.busy} with state:=if(none:Option Code).isNone then .ready else .done,pending:=none}:Loop)=rec .ready:=by rw[Fs];rfl
   rw[e4] at h4⊢;exact h4.p1
 have h2:On W0 (Y []::L) W1:=by
   rw[hYp];refine On.pack trivial ?_;have h3:On W0 (vf (D+1) (.loop (rec .ready))::yS D::Y0 []::L) _:=h1;exact h3.p2
 have adD:=OK (D+1) Y W1 Za h2
 have ah1:(Instr.enterLoop fn a.tmps ps.toArray assign body none).run P w=.ok (D+1,[DV D]) W1:=by
   rw[hW1,Fs,hD];exact run_enterLoop_outer _ _ _ _ _
 have ah2:(resolve a.eval (rangeCall g (D+1)) 0).run P W1=.ok {target:=.fn (.func gf) caps,args:=#[.func (.yield (D+1)) #[] #[]]} W1:=by
   have B1:a.eval g=.func (.func gf) #[] caps:=by rw[r.eval];exact hg
   simp only[resolve,B1];simp[go_sem]
 have hinv:(invoke (.fn (.func gf) caps) #[.func (.yield (D+1)) #[] #[]]).run P W1=.ok (.enter gf (#[.func (.yield (D+1)) #[] #[]]++caps)) W1:=by
   simp[invoke,go_sem,hen]
 have adE:∀(e:Ending) (w2:World),wU (fun v w'=>∃ss,S ss∧On W0 (Y ss::L) w') e w2→rangePost (FR none) n P (D+1) (J4 N Q) {a with defers:=[DV D]++a.defers} e w2:=by
   rintro e w2 ⟨v,rfl,ss,hS,h3⟩;rw[hYp] at h3;obtain⟨_,h3⟩:=h3.unpack;have h3:On W0 (Y0 ss::vf (D+1) (.loop (rec .ready))::yS D::L) w2:=h3;have hl:=h3.block 1 rfl;have VR:(rec .ready).pending=none:=by rw[Fs]
   have he:(Instr.endLoop (D+1)).run P w2=.ok none (w2.putObj (D+1) (.loop {rec .ready with state:=.exhausted})):=by
     have:=run_endLoop (P:=P) hl (by rw[Fs];simp);rw[this];exact congrArg (fun q=>Result.ok q _) VR
   have h4:=On.Fq (.loop {rec .ready with state:=.exhausted}) h3.p1;refine⟨none,_,he,DV D::ds,env,⟨r.size,r.get,by rw[←r.defers];rfl⟩,k D ss _ hS h4.tail⟩
 exact⟨D+1,[DV D],W1,_,W1,gf,_,W1,ah1,ah2,fun _ _=>trivial,hinv,fun h=>(by cases h),CallsIn.mono adD adE⟩
theorem BI{fn:Func}(hn:fn.ntmps=N)(hl:Nat.ble args.length N=true):oE N [] {tmps:=args.toArray++Array.replicate (fn.ntmps - args.toArray.size) undef,defers:=[]} (uw args):=by
 have hle:args.length≤N:=Nat.le_of_ble_eq_true hl;refine⟨?_,fun t=> ?_,rfl⟩
 · simp[hn];omega
 have nth:∀(l:List Value) (t:Nat),uw l t=l.getD t undef:=by
   intro l
   induction l with
   |nil=>intro t;simp[uw]
   | cons v l ih=>intro t;cases t with
     |zero=>simp[uw]
     |succ t=>simp[uw,ih]
 rw[nth];simp only[Array.getD_eq_getD_getElem?,List.getD_eq_getElem?_getD];rw[Array.getElem?_append];split
 · simp
 rename_i B1;simp at B1;rw[List.getElem?_eq_none B1,Array.getElem?_replicate];split<;>rfl
@[reducible] def adF(P:Program)(fn:Func)(R:Value→World→Prop):Exit→List Deferred→Env→World→Prop:=fun e ds env w=>ds=[]∧bf P fn R e env w
@[reducible] def adG(P:Program)(fn:Func)(R:Value→World→Prop):Exit→List Deferred→Env→World→Prop
 | .ret,ds,env,w=>∃D,ds=[DV D]∧w.heap[D]? =some (.deferred (some []))∧bf P fn R .ret env (w.putObj D (.deferred none))
 |_,_,_,_=>False
theorem Zb{f:FuncId}{fn:Func}{c:Code}(hf:P.funcs[f]? =some fn)(hb:fn.body=some c)(hn:fn.ntmps=N)(hl:Nat.ble args.length N=true)
   (h:WF none n P N c (adF P fn R) [] (uw args) w):CallsIn (FR none) n P f args.toArray w (wU R):=by
 refine callsIn_of_wp hf hb trivial ?_;refine wpIn_mono (h _ (BI hn hl)) ?_;rintro e a' w' ⟨zR,eZ,r',rfl,q⟩;cases e with
 |normal=>obtain⟨v,hv,hR⟩:=q;exact⟨r'.defers,v,hv a'.tmps r'.get,v,rfl,hR⟩
 |ret=>obtain⟨v,hv,hR⟩:=q;exact⟨r'.defers,v,hv a'.tmps r'.get,v,rfl,hR⟩
 |exit _=>exact q.elim
 |goto _=>exact q.elim
 |panic _=>exact q.elim
 |outgrown=>exact q.elim
theorem Zc{f:FuncId}{fn:Func}{c:Code}(hf:P.funcs[f]? =some fn)(hb:fn.body=some c)(hn:fn.ntmps=N)(hl:Nat.ble args.length N=true)
   (h:WF none n P N c (adG P fn R) [] (uw args) w):CallsIn (FR none) n P f args.toArray w (wU R):=by
 refine callsIn_of_wp_marks hf hb trivial ?_;refine wpIn_mono (h _ (BI hn hl)) ?_;rintro e a' w' ⟨zR,eZ,r',q⟩;cases e with
 | ret=>
   obtain⟨D,rfl,hD,v,hv,hR⟩:=q;show LeavesInM _ _ _ _ _ _ a'.defers _ _;rw[r'.defers];exact⟨(by simp),.inl ⟨D,_,rfl,run_takeDeferred hD,v,hv a'.tmps r'.get,v,rfl,hR⟩⟩
 |normal=>exact q.elim
 |exit _=>exact q.elim
 |goto _=>exact q.elim
 |panic _=>exact q.elim
 |outgrown=>exact q.elim
end
end Go.Sl
namespace Go.Proofs.YtcplmndikhjehaaGreat
open Go.Proofs.Tryz
open Go Go.Sl Go.Sl.eM Go.Sl.gW Go.Sl.kM Go.Sl.pe Go.Sl.pM Go.Sl.mG Go.Sl.pO Go.Sl.rH Go.Sl.pN Go.Sl.gU Go.Sl.l9
open Go.Sl.oB (wr)
open Go.Sl.dA (fu fu.eN fu.mono)
set_option maxHeartbeats 0
set_option maxRecDepth 8000
variable{a:Option Addr}{bb c ck mb n:Nat}{l:List Int}{x:Int}
variable{W0 w:World}{L F:List aC}
theorem Ro{kvs:List KV}(h:On W0 (bV mb .u64 kvs ck::L) w):Cs 26 [.map (some mb)] w fun v w'=>∃bb,v=.func (.func 57) #[] #[.pointer (some ⟨bb,0,none⟩)]∧On W0 (aX bb [.map (some mb)] 50::bV mb .u64 kvs ck::L) w':=by
 refine qO ?_;refine qB fun b1 w h=> ?_;refine qD ?_;refine W.ret (bf.r1 results26 rfl ?_);exact⟨b1,rfl,h⟩
theorem Rq{l:Nat}{kvs:List KV}{Y:List Int→aC}(hY:∀pre x A w,pre.length<kvs.length→On W0 (Y pre::A) w→YieldAt (FR none) (n - 1) Tryz.prog l [.int .u64 x].toArray w (wU fun v w'=>v=.bool true∧On W0 (Y (pre++[x])::A) w'))(h:On W0 (Y []::aX bb [.map (some mb)] 50::bV mb .u64 kvs ck::L) w):CallsIn (FR none) n Tryz.prog 57 [.func (.yield l) #[] #[],.pointer (some ⟨bb,0,none⟩)].toArray w (wU fun v w'=>∃ss,ss.Perm (kvs.map (·.1))∧On W0 (Y ss::aX bb [.map (some mb)] 50::bV mb .u64 kvs ck::L) w'):=by
 refine Zb func57 rfl ntmps57 rfl (WF.seq (WF.region (oF.val (jw isAgg50 rfl (h.aS rfl)) rfl rfl rfl (oF.BP (w5 (h.aj (bV mb .u64 kvs ck)) underlying50 rfl) rfl rfl rfl ?_))));rintro _ w ⟨rr,rfl,h⟩;have fe:=(On.jH (h.aj (bV mb .u64 kvs ck))).1;refine oF.nil (WF.block ?_);refine WF.loop (fun(seen:Array Nat) env w=>∃(j:Env) (ss:List Int),env=eu j [(0,.func (.yield l) #[] #[]),(5,.pointer (some ⟨rr,0,none⟩))]∧(ss++(iX kvs seen).map (·.1)).Perm (kvs.map (·.1))∧On W0 (sg rr mb seen ck::bV mb .u64 kvs ck::Y ss::aX bb [.map (some mb)] 50::L) w) (fun seen=>(iX kvs seen).length) (#[]) ?_ ?_
 · have e0:iX kvs #[]=kvs:=List.filter_eq_self.2 (by simp)
   exact⟨_,[],aD ⟨rfl,rfl,trivial⟩,by rw[e0];exact List.Perm.refl _,h.to⟩
 rintro seen env w ⟨j,ss,rfl,hp,h⟩;refine WF.seq (WF.region (oF.BP (Ap h.g rfl) rfl rfl rfl ?_));rintro _ w h0;rcases h0 with⟨mw,rfl,h⟩|⟨e1,eD,rfl,h⟩;rotate_left
 ·
  refine oF.val (bZ rfl rfl) rfl rfl rfl (oF.nil (WF.seq (WF.zT rfl (WF.skip (WF.block (WF.seq ?_))))));have hrp:=NF fe.2.1 eD
  have dW:ss.length<kvs.length:=by
    have h1:=hp.length_eq;have h2:=hrp.length_eq;simp only[List.length_append,List.length_map,List.length_cons] at h1 h2;omega
  have vJ:((ss++[e1.1])++(iX kvs (seen.push e1.2.2)).map (·.1)).Perm (kvs.map (·.1)):=by
    rw[List.append_assoc];exact((hrp.map (·.1)).symm.append_left ss).trans hp
  refine WF.region (oF.val (uD h (vX eD) rfl) rfl rfl rfl (oF.val (bZ rfl rfl) rfl rfl rfl (oF.val run_assign rfl rfl rfl (oF.nil (WF.seq (WF.region (oF.val run_move rfl rfl rfl ?_)))))));refine oF.val run_move rfl rfl rfl (oF.yield (y:=.const undef) rfl rfl rfl rfl (hY ss e1.1 _ _ dW (h.aj (Y ss))) ?_);rintro _ w ⟨rfl,h⟩;refine oF.val (cQ rfl) rfl rfl rfl (oF.nil (WF.zU rfl (WF.skip ?_)));refine⟨rfl, ?_⟩;exact⟨seen.push e1.2.2,⟨_,ss++[e1.1],aD ⟨rfl,rfl,trivial⟩,vJ,h.to⟩,xB eD⟩
 refine oF.val (bZ rfl rfl) rfl rfl rfl (oF.nil (WF.seq (WF.zU rfl (WF.exit ?_))));refine⟨rfl, ?_⟩;refine qR ?_;rw[mw,List.map_nil,List.append_nil] at hp;exact⟨ss,hp,h.to⟩
theorem Cw{g:FuncId}{caps:Array Value}{S:List Int→Prop}(hen:∀args w,(callFunc g args).run Tryz.prog w=.ok (.enter g args) w)
   (OK:∀l (Y:List Int→aC) w,(∀pre x A w,pre.length<1000000→On W0 (Y pre::A) w→YieldAt (FR none) (3 - 1 - 1) Tryz.prog l [.int .u64 x].toArray w (wU fun v w'=>v=.bool true∧On W0 (Y (pre++[x])::A) w'))→On W0 (Y []::L) w→CallsIn (FR none) (3 - 1) Tryz.prog g (#[.func (.yield l) #[] #[]]++caps) w (wU fun v w'=>∃ss,S ss∧On W0 (Y ss::L) w'))
   (h:On W0 L w):Cs 99 [.slice none 0 0,.func (.func g) #[] caps] w fun v w'=>∃a c ss,S ss∧v=.slice a ss.length c∧On W0 (Own 1 (.slice a ss.length c) ss.length (ss.map (Value.int .u64))::L) w':=by
 have fH:=aG;refine Vc (n:=3) ?_;refine Zc func99 rfl ntmps99 rfl ?_;refine WF.seq ?_;refine WF.region ?_;refine oF.BP (fc (l:=[.slice none 0 0]) h rfl rfl) rfl rfl rfl ?_;rintro _ w ⟨b2,rfl,h⟩;refine oF.val run_assign rfl rfl rfl ?_;refine oF.nil ?_;refine WF.seq ?_;refine WF.seq ?_;refine WF.region ?_;refine oF.val run_move rfl rfl rfl ?_;refine oF.nil ?_;refine WF.block ?_;refine WF.rangeFunc (fun x=>[.int .u64 x]) rfl hen (fun pre:List Int=>Ex fun(p:Option Addr×Nat)=>Pack (pre.length≤1000000) [aX b2 [.slice p.1 pre.length p.2] 76,Own 1 (.slice p.1 pre.length p.2) pre.length (pre.map (Value.int .u64))]) S (fun pre _=>pre.length<1000000) (fun env x=>Sn (Sn env 7 (.int .u64 x)) 5 (.int .u64 x)) (fun _=>rfl) (by decide) ?_ ?_ OK ?_ ?_
 · intro l x w
   refine WF.region ?_;refine oF.val run_assign rfl rfl rfl ?_;refine oF.nil ?_;exact⟨rfl,rfl,rfl,rfl⟩
 · intro l pre x A w hbd h
   obtain⟨⟨a,c⟩,h⟩:=h.ex;obtain⟨ja,h⟩:=h.unpack;have h:On W0 (aX b2 [.slice a pre.length c] 76::Own 1 (.slice a pre.length c) pre.length (pre.map (Value.int .u64))::A) w:=h;refine WF.block ?_;refine WF.region ?_;refine oF.val (jw isAgg76 rfl (h.aS rfl)) rfl rfl rfl ?_;refine oF.val run_move rfl rfl rfl ?_;refine oF.BP (aZ (zl:=[.int .u64 0]) (out:=[.int .u64 _]) h underlying76 sizeOf30 zeroValue30 (by decide) (by kernel_rfl) rfl rfl (by simp) fz rfl rfl (by simp[maxLen])) rfl rfl rfl ?_;rintro _ w ⟨Ib,rfl,h⟩;refine oF.BP (bU (bytes:=8) h rfl rfl (h.aR) underlying76 rfl rfl rfl rfl rfl (by omega) (by omega) (by simp[Value.oneCell'])) rfl rfl rfl ?_;rintro _ w ⟨NT,ou,rfl,h⟩;refine oF.BP (bI (v:=.slice NT (pre.length+1) ou) h sizeOf76 rfl rfl rfl rfl rfl) rfl rfl rfl ?_;rintro _ w h
   try simp only[Nat.zero_add,Nat.add_zero,List.set_cons_zero,List.set_cons_succ] at h
   refine oF.nil ?_;refine⟨rfl,On.rT (NT,ou) ?_⟩;have el:(pre++[x]).length=pre.length+1:=by rw[List.length_append];rfl
   have em:(pre++[x]).map (Value.int .u64)=pre.map (Value.int .u64)++[.int .u64 x]:=by rw[List.map_append];rfl
   refine On.pack (by rw[el];omega) ?_;show On W0 (aX b2 [.slice NT (pre++[x]).length ou] 76::Own 1 (.slice NT (pre++[x]).length ou) (pre++[x]).length ((pre++[x]).map (Value.int .u64))::A) w;rw[el,em];have h:On W0 (Own 1 (.slice NT (pre.length+1) ou) (pre.length+1) (pre.map (Value.int .u64)++[.int .u64 x])::_) w:=h.own (.slice NT (pre.length+1) ou);exact h.to
 · refine On.rT (none,0) (On.pack (by decide) ?_)
   have h:=h.bB 1 none;have h:On W0 (aX b2 [.slice none 0 0] 76::Own 1 (.slice none 0 0) 0 []::L) w:=h.to;exact h
 intro D ss w hS h;obtain⟨⟨a,c⟩,h⟩:=h.ex;obtain⟨ja,h⟩:=h.unpack;have h:On W0 (aX b2 [.slice a ss.length c] 76::Own 1 (.slice a ss.length c) ss.length (ss.map (Value.int .u64))::yS D::L) w:=h;refine WF.seq ?_;refine WF.region ?_;refine oF.val (jw isAgg76 rfl (h.aS rfl)) rfl rfl rfl ?_;refine oF.val run_assign rfl rfl rfl ?_;refine oF.nil ?_;refine WF.ret ?_;have h2:=On.Fq (.deferred none) h.p2;exact⟨D,rfl,h.block 2 rfl,bf.r1 results99 rfl ⟨a,c,ss,hS,rfl,h2.tail.tail⟩⟩
theorem HR{kvs:List KV}(Ef:kvs.length≤1000000)(h:On W0 (aX bb [.map (some mb)] 50::bV mb .u64 kvs ck::L) w):Cs 55 [.func (.func 57) #[] #[.pointer (some ⟨bb,0,none⟩)]] w fun v w'=>∃a c,∃ss:List Int,ss.Perm (kvs.map (·.1))∧v=.slice a ss.length c∧On W0 (Own 1 (.slice a ss.length c) ss.length (ss.map (Value.int .u64))::aX bb [.map (some mb)] 50::bV mb .u64 kvs ck::L) w':=by
 refine qO ?_;refine go ?_;refine WL.e (ag call99 (Cw call57 (fun l Y w hY h=>Rq (fun pre x A w dW=>hY pre x A w (by omega)) h) h)) ?_;rintro _ w ⟨a,c,ss,hS,rfl,h⟩;refine qR ?_;exact⟨a,c,ss,hS,rfl,h⟩
theorem Rr{x:Nat}(hx:x≤2)(h:On W0 L w):Cs 160 [.int .u64 (x:Int)] w fun v w'=>(∃z:Int,v=.int .i64 z)∧On W0 L w':=by
 refine qO ?_
 have key:∀s:ByteArray,3≤s.size→∃c,s[(UInt8.ofNat x).toNat]? =some c:=fun s hs=>by
   have h1:(UInt8.ofNat x).toNat<s.size:=by
     have:(UInt8.ofNat x).toNat=x:=by rw[UInt8.toNat_ofNat'];omega
     omega
   exact⟨s[(UInt8.ofNat x).toNat],getElem?_pos s _ h1⟩
 refine go ?_;refine WL.v (nM rfl rfl (by omega)) ?_;refine qN ?_;refine WL.v (nM rfl rfl (by omega)) ?_;refine qN ?_;refine WL.v (nM rfl rfl (by omega)) ?_;refine go ?_;refine W.cf ?_;refine go ?_;refine WL.v (vz underlying30 underlying5 rfl) ?_;refine WL.v (D9 underlying9 rfl rfl (key _ (by decide)).choose_spec) ?_;refine WL.v (ko underlying5 underlying3 rfl) ?_;refine WL.v (eU rfl rfl) ?_;refine qR ?_;exact⟨⟨_,rfl⟩,h⟩
theorem Vf{x:Nat}(hx:x≤2)(h:On W0 L w):Cs 101 [.int .u64 (x:Int)] w fun v w'=>(∃z:Int,v=.int .i64 z)∧On W0 L w':=by
 refine qO ?_;refine qC ?_ (C:=Rr hx h);rintro _ w ⟨⟨z,rfl⟩,h⟩;refine qR ?_;exact⟨⟨z,rfl⟩,h⟩
theorem Rt(h:On W0 L w):Cs 234 [.int .u64 x] w fun v w'=>v=.bool false∧On W0 L w':=by
 refine qO ?_;refine qE ?_;refine qR ?_;exact⟨rfl,h⟩
theorem Vg{y:Int}(h:On W0 L w):Cs 156 [.int .u64 x,.int .u64 y] w fun v w'=>v=.bool (decide (x<y))∧On W0 L w':=by
 refine qO ?_;refine qC ?_ (C:=Rt h);rintro _ w ⟨rfl,h⟩;refine qD ?_;refine qR ?_;exact⟨rfl,h⟩
def HS:List Int→List Int
 |[x,y]=>if y<x then[y,x] else[x,y]
 |l=>l
section
variable{P:Program}{ρ:Operand→Value}{d:Option Nat}{ty:TypeId}{pos:String}{af:Array Edge}{g:Option (Nat×Bool)}
theorem mc{t b o q k size:Nat}{x y:Operand}{v:Value}{xs:List Value}(H:On W0 (Own size (.slice (some ⟨b,o,none⟩) n c) n xs::L) w)(hS:∀w,(sizeOf t).run P w=.ok 1 w)(h:ρ x=.pointer (some ⟨b,q,none⟩))(hq:q=o+k)(hy:ρ y=v)(hv:v.oneCell'=true)
   (hk:k<n*size):nr P ρ ⟨d,.store t x y,ty,pos,af,g⟩ w (fun _ w'=>On W0 (Own size (.slice (some ⟨b,o,none⟩) n c) n (xs.set k v)::L) w'):=by
 subst hq;exact kS H hS h hy hv hk
end
theorem adH{ba oa:Nat}{y:Int}(h:On W0 (Own 1 (.slice (some ⟨ba,oa,none⟩) 2 c) 2 ([.int .u64 x,.int .u64 y])::L) w):Cs 150 [.slice (some ⟨ba,oa,none⟩) 2 c,.int .i64 0,.int .i64 2] w fun v w'=>On W0 (Own 1 (.slice (some ⟨ba,oa,none⟩) 2 c) 2 (if y<x then[.int .u64 y,.int .u64 x] else[.int .u64 x,.int .u64 y])::L) w':=by
 refine qO ?_;refine qD ?_;refine W.times 2 ?_;refine W.u ?_;refine qE ?_;refine W.times 2 ?_;refine W.u ?_;refine go ?_;refine W.ez Tryz.follows h (by kernel_rfl) fun w h=> ?_;refine go ?_;refine X.v (fun _=>(zZ rfl rfl (by decide))) ?_;refine qD ?_;refine X.lc rfl ((h.aR (v:=.slice (some ⟨ba,oa,none⟩) 2 c)).elem (i:=1) (vs:=[.int .u64 y]) (by decide) rfl 0 _ rfl) ?_;refine qD ?_;refine X.lc rfl ((h.aR (v:=.slice (some ⟨ba,oa,none⟩) 2 c)).elem (i:=0) (vs:=[.int .u64 x]) (by decide) rfl 0 _ rfl) ?_;refine X.e (ag call156 (Vg h)) ?_;rintro _ w ⟨rfl,h⟩;refine qI (fun nB=> ?_) (fun nB=> ?_)
 · refine qG fun w h=> ?_;refine X.lc rfl ((h.aR (v:=.slice (some ⟨ba,oa,none⟩) 2 c)).elem (i:=0) (vs:=[.int .u64 x]) (by decide) rfl 0 _ rfl) ?_;refine qD ?_;refine X.lc rfl ((h.aR (v:=.slice (some ⟨ba,oa,none⟩) 2 c)).elem (i:=1) (vs:=[.int .u64 y]) (by decide) rfl 0 _ rfl) ?_;refine qD ?_;refine X.e (mc (k:=1) (v:=.int .u64 x) h sizeOf30 rfl rfl rfl rfl (by decide)) ?_;rintro _ w h;refine qD ?_;refine X.e (mc (k:=0) (v:=.int .u64 y) h sizeOf30 rfl rfl rfl rfl (by decide)) ?_;rintro _ w h;refine qD ?_;refine W.u ?_;refine go ?_;refine W.ez Tryz.follows h (by kernel_rfl) fun w h=> ?_;refine go ?_;refine X.v (fun _=>(eV rfl rfl (by decide))) ?_;refine qD ?_;refine W.u ?_;refine qE ?_;refine qR ?_;rw[if_pos nB];exact h
 refine qD ?_;refine W.u ?_;refine qE ?_;refine qR ?_;rw[if_neg nB];exact h
theorem Wj(hn:n≤1)(h:On W0 L w):Cs 150 [.slice a n c,.int .i64 0,.int .i64 (n:Int)] w fun v w'=>On W0 L w':=by
 refine qO ?_;refine qD ?_;refine W.times 1 ?_;refine W.u ?_;refine qE ?_;refine qR ?_;exact h
theorem ah3(hn:l.length≤2)(h:On W0 (Own 1 (.slice a l.length c) l.length (l.map (Value.int .u64))::L) w):Cs 150 [.slice a l.length c,.int .i64 0,.int .i64 (l.length:Int)] w fun v w'=>On W0 (Own 1 (.slice a l.length c) l.length ((HS l).map (Value.int .u64))::L) w':=by
 match l,hn,h with
 |[],_,h=>exact Wj (by decide) h
 |[x],_,h=>exact Wj (n:=1) (by decide) h
 | [x,y],_,h=>
   obtain⟨ba,oa,rfl⟩:=(h.aR (v:=.slice a 2 c)).addr (by decide);refine(adH h).mono fun e w' he=> ?_;obtain⟨v,he,h⟩:=he;refine⟨v,he, ?_⟩;have e1:(HS [x,y]).map (Value.int .u64)=if y<x then[Value.int .u64 y,Value.int .u64 x] else[.int .u64 x,.int .u64 y]:=by unfold HS;simp only;split<;>rfl
   rw[e1];exact h
 |x::y::z::l,hn,_=>exact absurd hn (by simp)
theorem ah4{lim:Int}(hn:l.length≤2)(h:On W0 (Own 1 (.slice a l.length c) l.length (l.map (Value.int .u64))::L) w):Cs 100 [.slice a l.length c,.int .i64 0,.int .i64 (l.length:Int),.int .i64 lim] w fun v w'=>On W0 (Own 1 (.slice a l.length c) l.length ((HS l).map (Value.int .u64))::L) w':=by
 refine qO ?_;refine go ?_;refine W.times 1 ?_;refine W.u ?_;refine qE ?_;refine WL.e (ag call150 (ah3 hn h)) ?_;rintro _ w h;refine qR ?_;exact h
theorem adI(hn:l.length≤2)(h:On W0 (Own 1 (.slice a l.length c) l.length (l.map (Value.int .u64))::L) w):Cs 56 [.slice a l.length c] w fun v w'=>On W0 (Own 1 (.slice a l.length c) l.length ((HS l).map (Value.int .u64))::L) w':=by
 refine qO ?_;refine qC ?_ (C:=Vf hn h);rintro _ w ⟨⟨z,rfl⟩,h⟩;refine qC ?_ (C:=ah4 hn h);rintro _ w h;refine qR ?_;exact h
theorem Vh{kvs:List KV}(Ef:kvs.length≤2)(h:On W0 (aX bb [.map (some mb)] 50::bV mb .u64 kvs ck::L) w):Cs 25 [.func (.func 57) #[] #[.pointer (some ⟨bb,0,none⟩)]] w fun v w'=>∃a c,∃ss:List Int,ss.Perm (kvs.map (·.1))∧v=.slice a ss.length c∧On W0 (Own 1 (.slice a ss.length c) ss.length ((HS ss).map (Value.int .u64))::aX bb [.map (some mb)] 50::bV mb .u64 kvs ck::L) w':=by
 refine qO ?_;refine qC ?_ (C:=HR (by omega) h);rintro _ w ⟨a,c,ss,hS,rfl,h⟩;have zB:ss.length≤2:=by rw[hS.length_eq,List.length_map];exact Ef
 refine qC ?_ (C:=adI zB h);rintro _ w h;refine qR ?_;exact⟨a,c,ss,hS,rfl,h⟩
end Go.Proofs.YtcplmndikhjehaaGreat
namespace Go.Proofs.YtcplmndikhjehaaGreat
open Go.Proofs.Tryz
open Go Go.Sl Go.Sl.eM Go.Sl.gW Go.Sl.kM Go.Sl.pe Go.Sl.pM Go.Sl.mG Go.Sl.pO Go.Sl.rH Go.Sl.pN Go.Sl.gU Go.Sl.l9
open Go.Sl.oB (wr)
open Go.Sl.dA (fu fu.eN fu.mono)
set_option maxHeartbeats 0
set_option maxRecDepth 8000
variable{a:Option Addr}{c n:Nat}{xs:List Value}
variable{W0 w:World}{L F:List aC}
theorem BJ{α:Type}(f:α→List Value)(n k:Nat)(hf:∀x,(f x).length=n)(hk:k<n)(y:α)(v:Value):∀(l:List α) (i:Nat) (x:α),l[i]? =some x→(f x).set k v=f y→(l.flatMap f).set (i*n+k) v=(l.set i y).flatMap f
 | z::l,0,x,h,e=>by
   obtain rfl:z=x:=by simpa using h
   rw[List.flatMap_cons,Nat.zero_mul,Nat.zero_add,List.set_append_left _ _ (by rw[hf];exact hk),e];rfl
 | z::l,i+1,x,h,e=>by
   have e2:(i+1)*n+k=(f z).length+(i*n+k):=by rw[hf,Nat.succ_mul];omega
   rw[List.flatMap_cons,e2,List.set_append_right _ _ (by omega),Nat.add_sub_cancel_left,BJ f n k hf hk y v l i x (by simpa using h) e];rfl
theorem Ru{aa:aE}{xl:List (Cp×Value)}(pl:cW aa (·.r.data) xl):∀u∈xl.flatMap kN,u.oneCell'=true:=fun u hu=>by
 obtain⟨x,hx,hu⟩:=List.mem_flatMap.1 hu;obtain⟨⟨a1,a2,a3,a4⟩,xv⟩:=x;obtain⟨_,a,c,hv⟩:=pl _ hx;simp only at hv;subst hv;simp[kN,Rp.cells] at hu;rcases hu with rfl|rfl|rfl|rfl|rfl|rfl|rfl|rfl<;>rfl
theorem Rx{aa:aE}{xl:List (Iv×Value)}(pl:cW aa (·.c.data) xl):∀u∈xl.flatMap mS,u.oneCell'=true:=fun u hu=>by
 obtain⟨x,hx,hu⟩:=List.mem_flatMap.1 hu;obtain⟨⟨a1,a2,a3,a4⟩,xv⟩:=x;obtain⟨_,a,c,hv⟩:=pl _ hx;simp only at hv;subst hv;simp[mS,Cm.cells] at hu;rcases hu with rfl|rfl|rfl|rfl|rfl|rfl|rfl|rfl|rfl|rfl|rfl<;>rfl
theorem BK{α:Type}{aa:aE}{d:α→List UInt8}{xs:List (α×Value)}{i:Nat}{x:α×Value}(H:cW aa d xs)(h:XX aa x.2 (d x.1)):cW aa d (xs.set i x):=fun y hy=>by
 rcases List.mem_or_eq_of_mem_set hy with hy|rfl
 · exact H y hy
 exact h
theorem wO{α:Type}{xs:List (α×Value)}{i:Nat}{x:α}{v v':Value}(h:xs[i]? =some (x,v)):(xs.set i (x,v')).map (·.1)=xs.map (·.1):=by
 rw[List.map_set];exact iH (by rw[List.getElem?_map,h];rfl)
theorem Ry(h:On W0 (Own 8 (.slice a n c) n xs::L) w):Cs 31 [.slice a n c] w fun v w'=>v=.slice a n n∧On W0 (Own 8 (.slice a n n) n xs::L) w':=by
 refine qO ?_;have aA:=Own.form h;obtain⟨a',c',hv,vg,rz,jK⟩:=aA;simp only[Value.slice.injEq] at hv;obtain⟨rfl,_,rfl⟩:=hv;refine go ?_;refine WL.v (iO underlying45 sizeOf75 rfl rfl rfl (by omega) (by omega)) ?_;refine qR ?_;exact⟨rfl,Own.clip h⟩
theorem Rz{ao:Option Addr}{cap:Nat}(h:On W0 L w)(C:aB L (Cells 8 (.slice ao n cap) n xs))(hn:n≤4096)(h1:∀u∈xs,u.oneCell'=true):Cs 32 [.slice ao n cap] w fun v w'=>∃a c,v=.slice a n c∧On W0 (Own 8 (.slice a n c) n xs::L) w':=by
 refine qO ?_;have aA:=(h.reads C).form;obtain⟨ao',LC,hv,vg,rz,jK⟩:=aA;have eC:=(h.reads C).1;simp only[Value.slice.injEq] at hv;obtain⟨rfl,_,rfl⟩:=hv;have hl:=aG;refine go ?_;refine WL.v (iF underlying45 rfl rfl) ?_;refine qI (fun c2=> ?_) (fun c2=> ?_)
 ·
  refine qR ?_;have h0:cap=0:=jK (by simpa using c2);have aA:n=0:=by omega
  obtain rfl:=aA;have hb:xs=[]:=List.eq_nil_of_length_eq_zero (by omega);subst hb;exact⟨none,0,rfl,h.bB 8 none⟩
 refine go ?_;refine WL.e (aZ (out:=[]) h underlying45 sizeOf75 zeroValue75 (by decide) (by simp) rfl rfl (by simp) trivial rfl rfl (by simp[maxLen])) ?_;rintro _ w ⟨b5,rfl,h⟩;refine go ?_;refine WL.e (mj (bytes:=80) h rfl rfl (h.aO C) underlying45 rfl rfl rfl rfl rfl (by omega) (by omega) h1) ?_;rintro _ w ⟨a,c,rfl,h⟩;refine qR ?_;exact⟨_,_,rfl,h⟩
theorem RA(h:On W0 (Own 11 (.slice a n c) n xs::L) w):Cs 35 [.slice a n c] w fun v w'=>v=.slice a n n∧On W0 (Own 11 (.slice a n n) n xs::L) w':=by
 refine qO ?_;have aA:=Own.form h;obtain⟨a',c',hv,vg,rz,jK⟩:=aA;simp only[Value.slice.injEq] at hv;obtain⟨rfl,_,rfl⟩:=hv;refine go ?_;refine WL.v (iO underlying47 sizeOf96 rfl rfl rfl (by omega) (by omega)) ?_;refine qR ?_;exact⟨rfl,Own.clip h⟩
theorem RB{ao:Option Addr}{cap:Nat}(h:On W0 L w)(C:aB L (Cells 11 (.slice ao n cap) n xs))(hn:n≤4096)(h1:∀u∈xs,u.oneCell'=true):Cs 36 [.slice ao n cap] w fun v w'=>∃a c,v=.slice a n c∧On W0 (Own 11 (.slice a n c) n xs::L) w':=by
 refine qO ?_;have aA:=(h.reads C).form;obtain⟨ao',LC,hv,vg,rz,jK⟩:=aA;have eC:=(h.reads C).1;simp only[Value.slice.injEq] at hv;obtain⟨rfl,_,rfl⟩:=hv;have hl:=aG;refine go ?_;refine WL.v (iF underlying47 rfl rfl) ?_;refine qI (fun c2=> ?_) (fun c2=> ?_)
 ·
  refine qR ?_;have h0:cap=0:=jK (by simpa using c2);have aA:n=0:=by omega
  obtain rfl:=aA;have hb:xs=[]:=List.eq_nil_of_length_eq_zero (by omega);subst hb;exact⟨none,0,rfl,h.bB 11 none⟩
 refine go ?_;refine WL.e (aZ (out:=[]) h underlying47 sizeOf96 zeroValue96 (by decide) (by simp) rfl rfl (by simp) trivial rfl rfl (by simp[maxLen])) ?_;rintro _ w ⟨b5,rfl,h⟩;refine go ?_;refine WL.e (mj (bytes:=104) h rfl rfl (h.aO C) underlying47 rfl rfl rfl rfl rfl (by omega) (by omega) h1) ?_;rintro _ w ⟨a,c,rfl,h⟩;refine qR ?_;exact⟨_,_,rfl,h⟩
theorem RC(h:On W0 (Own 3 (.slice a n c) n xs::L) w):Cs 27 [.slice a n c] w fun v w'=>v=.slice a n n∧On W0 (Own 3 (.slice a n n) n xs::L) w':=by
 refine qO ?_;have aA:=Own.form h;obtain⟨a',c',hv,vg,rz,jK⟩:=aA;simp only[Value.slice.injEq] at hv;obtain⟨rfl,_,rfl⟩:=hv;refine go ?_;refine WL.v (iO underlying41 sizeOf82 rfl rfl rfl (by omega) (by omega)) ?_;refine qR ?_;exact⟨rfl,Own.clip h⟩
theorem J6{bx:Nat}{aa:aE}{x:Cl}(r7:x.out.length≤1000)(oA:∀c∈x.out,c.r.data.length≤100000)(h:On W0 (eF bx aa x::aY aa::L) w):Cs 12 [bx] w fun v w'=>∃(xo:List (Cp×Value)) (sA:Option Addr) (aN:aE),v=.slice sA x.out.length x.out.length∧xo.map (·.1)=x.out∧cW aN (·.r.data) xo∧cI aa aN∧On W0 (Own 8 (.slice sA x.out.length x.out.length) x.out.length (xo.flatMap kN)::eF bx aN x::aY aN::L) w':=by
 refine qO ?_;have fH:=aG;have aA:=Fo h;obtain⟨pa,pc,ga,gh,kL,o0,o1,bj,bn,ia,ic,bm,oa,oc,kx,h⟩:=aA;have aA:=cpO (iW (k:=Lj aa) (v:=.slice oa x.out.length oc) h);obtain⟨xi,i9,ic9,Rf,⟨HI,CK⟩,h⟩:=aA;simp only[Value.slice.injEq] at Rf;obtain⟨rfl,J0,rfl⟩:=Rf;rw[←J0] at h;refine qC ?_ (C:=Rz h (show aB (Own 8 (.slice oa x.out.length oc) x.out.length (xi.flatMap kN)::_) (Cells 8 (.slice oa x.out.length oc) x.out.length (xi.flatMap kN)) from aB.cF) (by omega) (Ru CK));rintro _ w ⟨a9,c9,rfl,h⟩;refine qC ?_ (C:=Ry h);rintro _ w ⟨rfl,h⟩;have aA:∃a,a=a9:=⟨_,rfl⟩;obtain⟨sA,ha⟩:=aA;subst ha;have h:=YV ⟨HI,CK⟩ rfl (h.aj (Own 8 (.slice oa x.out.length oc) x.out.length (xi.flatMap kN)));refine go ?_;refine W.loop (fun(q:Nat) env w=>∃(j:Env) (xo:List (Cp×Value)) (aN:aE),env=eu j [(3,.slice sA x.out.length x.out.length),(12,.int .i64 (x.out.length:Nat)),(13,.int .i64 (q:Nat))]∧q≤x.out.length∧xo.map (·.1)=x.out∧cW aN (·.r.data) xo∧cI aa aN∧On W0 (Own 8 (.slice sA x.out.length x.out.length) x.out.length (xo.flatMap kN)::eF bx aN x::aY aN::L) w) (fun q=>x.out.length - q) (0) ?_ ?_
 · exact⟨_,xi,aa,aD ⟨rfl,rfl,rfl,trivial⟩,Nat.zero_le _,HI,CK,cI.yZ,(og (bx:=bx) rfl kx h).to⟩
 clear h HI CK;rintro q env w ⟨j,xo,aN,rfl,hq,gy,uW,BX,h⟩;have eC:xo.length=x.out.length:=by rw[←gy,List.length_map]
 refine qI (fun c6=> ?_) (fun c6=> ?_)
 · have aA:∃y,xo[q]? =some y:=⟨_,List.getElem?_eq_getElem (show q<xo.length by omega)⟩;obtain⟨y,hy⟩:=aA;obtain⟨⟨host,id,⟨st,rk,code,data,info⟩,at_⟩,dv⟩:=y;have aA:=uW.at hy;obtain⟨eD,dx,dc,oC⟩:=aA;simp only at oC eD;subst oC;have aA:=(h.aR (v:=.slice sA x.out.length x.out.length)).addr (by omega);obtain⟨bz,oz,rfl⟩:=aA;have hdb:=oA ⟨host,id,⟨st,rk,code,data,info⟩,at_⟩ (by rw[←gy];exact List.mem_map_of_mem (List.mem_of_getElem? hy));simp only at hdb;refine qD ?_;refine WL.l isAgg28 rfl ((h.aR (v:=.slice (some ⟨bz,oz,none⟩) x.out.length x.out.length)).elem (i:=q) (vs:=[.int .i64 host,.int .u64 (id:Int),.int .i64 st,.int .i64 rk,.int .i64 code,.slice dx data.length dc,.int .i64 info,.int .i64 at_]) (by omega) (aF kN 8 eP xo _ _ hy) 5 _ rfl) ?_;refine WL.e (ag call34 (bG h (aB.to (fu.eN (L:=[]) eD)) (by omega))) ?_;rintro _ w ⟨a24,Ic,rfl,h⟩;refine qC ?_ (C:=cU h);rintro _ w ⟨rfl,h⟩;refine qD ?_;refine WL.e (mc (k:=q*8+5) (v:=.slice a24 data.length data.length) (h.aj (Own 8 (.slice (some ⟨bz,oz,none⟩) x.out.length x.out.length) x.out.length (xo.flatMap kN))) sizeOf28 rfl (by show _+(q:Int).toNat*8+2+3=_;rw[Int.toNat_natCast];omega) rfl rfl (by omega)) ?_;rintro _ w h;refine qD ?_;have h:=grow (h.aj (bC (.slice a24 data.length data.length) data));have h:=(h.aj (eF bx ((.slice a24 data.length data.length,data)::aN) x)).aj (Own 8 (.slice (some ⟨bz,oz,none⟩) x.out.length x.out.length) x.out.length ((xo.flatMap kN).set (q*8+5) (.slice a24 data.length data.length)));rw[BJ kN 8 5 eP (by decide) (⟨host,id,⟨st,rk,code,data,info⟩,at_⟩,.slice a24 data.length data.length) (.slice a24 data.length data.length) xo q _ hy rfl] at h;exact⟨q+1,⟨_,xo.set q (⟨host,id,⟨st,rk,code,data,info⟩,at_⟩,.slice a24 data.length data.length),(.slice a24 data.length data.length,data)::aN,aD ⟨rfl,rfl,rfl,trivial⟩,by omega,by rw[wO hy,gy],BK (uW.mono cI.cons.h) ⟨.inl (List.mem_cons_self ..),a24,_,rfl⟩,BX.trans cI.cons,h.to⟩,by show x.out.length - (q+1)<x.out.length - q;omega⟩
 refine qR ?_;exact⟨xo,sA,aN,rfl,gy,uW,BX,h.to⟩
theorem RD{bx:Nat}{aa:aE}{x:Cl}(r7:x.inv.length≤1000)(oA:∀c∈x.inv,c.c.data.length≤100000)(h:On W0 (eF bx aa x::aY aa::L) w):Cs 13 [bx] w fun v w'=>∃(xo:List (Iv×Value)) (sA:Option Addr) (aN:aE),v=.slice sA x.inv.length x.inv.length∧xo.map (·.1)=x.inv∧cW aN (·.c.data) xo∧cI aa aN∧On W0 (Own 11 (.slice sA x.inv.length x.inv.length) x.inv.length (xo.flatMap mS)::eF bx aN x::aY aN::L) w':=by
 refine qO ?_;have fH:=aG;have aA:=Fo h;obtain⟨pa,pc,ga,gh,kL,o0,o1,bj,bn,ia,ic,bm,oa,oc,kx,h⟩:=aA;have aA:=ivO (iW (k:=Li aa) (v:=.slice ia x.inv.length ic) h);obtain⟨xi,i9,ic9,Rf,⟨HI,CK⟩,h⟩:=aA;simp only[Value.slice.injEq] at Rf;obtain⟨rfl,J0,rfl⟩:=Rf;rw[←J0] at h;refine qC ?_ (C:=RB h (show aB (Own 11 (.slice ia x.inv.length ic) x.inv.length (xi.flatMap mS)::_) (Cells 11 (.slice ia x.inv.length ic) x.inv.length (xi.flatMap mS)) from aB.cF) (by omega) (Rx CK));rintro _ w ⟨a9,c9,rfl,h⟩;refine qC ?_ (C:=RA h);rintro _ w ⟨rfl,h⟩;have aA:∃a,a=a9:=⟨_,rfl⟩;obtain⟨sA,ha⟩:=aA;subst ha;have h:=YU ⟨HI,CK⟩ rfl (h.aj (Own 11 (.slice ia x.inv.length ic) x.inv.length (xi.flatMap mS)));refine go ?_;refine W.loop (fun(q:Nat) env w=>∃(j:Env) (xo:List (Iv×Value)) (aN:aE),env=eu j [(3,.slice sA x.inv.length x.inv.length),(12,.int .i64 (x.inv.length:Nat)),(13,.int .i64 (q:Nat))]∧q≤x.inv.length∧xo.map (·.1)=x.inv∧cW aN (·.c.data) xo∧cI aa aN∧On W0 (Own 11 (.slice sA x.inv.length x.inv.length) x.inv.length (xo.flatMap mS)::eF bx aN x::aY aN::L) w) (fun q=>x.inv.length - q) (0) ?_ ?_
 · exact⟨_,xi,aa,aD ⟨rfl,rfl,rfl,trivial⟩,Nat.zero_le _,HI,CK,cI.yZ,(og (bx:=bx) rfl kx h).to⟩
 clear h HI CK;rintro q env w ⟨j,xo,aN,rfl,hq,gy,uW,BX,h⟩;have eC:xo.length=x.inv.length:=by rw[←gy,List.length_map]
 refine qI (fun c6=> ?_) (fun c6=> ?_)
 · have aA:∃y,xo[q]? =some y:=⟨_,List.getElem?_eq_getElem (show q<xo.length by omega)⟩;obtain⟨y,hy⟩:=aA;obtain⟨⟨host,id,⟨kind,BF,n,data,key,new,cz,force⟩,at_⟩,dv⟩:=y;have aA:=uW.at hy;obtain⟨eD,dx,dc,oC⟩:=aA;simp only at oC eD;subst oC;have aA:=(h.aR (v:=.slice sA x.inv.length x.inv.length)).addr (by omega);obtain⟨bz,oz,rfl⟩:=aA;have hdb:=oA ⟨host,id,⟨kind,BF,n,data,key,new,cz,force⟩,at_⟩ (by rw[←gy];exact List.mem_map_of_mem (List.mem_of_getElem? hy));simp only at hdb;refine qD ?_;refine WL.l isAgg28 rfl ((h.aR (v:=.slice (some ⟨bz,oz,none⟩) x.inv.length x.inv.length)).elem (i:=q) (vs:=[.int .i64 host,.int .u64 (id:Int),.int .i64 kind,.int .i64 BF,.int .i64 n,.slice dx data.length dc,.int .u64 key,.int .u64 new,.int .i64 cz,.bool force,.int .i64 at_]) (by omega) (aF mS 11 jz xo _ _ hy) 5 _ rfl) ?_;refine WL.e (ag call34 (bG h (aB.to (fu.eN (L:=[]) eD)) (by omega))) ?_;rintro _ w ⟨a24,Ic,rfl,h⟩;refine qC ?_ (C:=cU h);rintro _ w ⟨rfl,h⟩;refine qD ?_;refine WL.e (mc (k:=q*11+5) (v:=.slice a24 data.length data.length) (h.aj (Own 11 (.slice (some ⟨bz,oz,none⟩) x.inv.length x.inv.length) x.inv.length (xo.flatMap mS))) sizeOf28 rfl (by show _+(q:Int).toNat*11+2+3=_;rw[Int.toNat_natCast];omega) rfl rfl (by omega)) ?_;rintro _ w h;refine qD ?_;have h:=grow (h.aj (bC (.slice a24 data.length data.length) data));have h:=(h.aj (eF bx ((.slice a24 data.length data.length,data)::aN) x)).aj (Own 11 (.slice (some ⟨bz,oz,none⟩) x.inv.length x.inv.length) x.inv.length ((xo.flatMap mS).set (q*11+5) (.slice a24 data.length data.length)));rw[BJ mS 11 5 jz (by decide) (⟨host,id,⟨kind,BF,n,data,key,new,cz,force⟩,at_⟩,.slice a24 data.length data.length) (.slice a24 data.length data.length) xo q _ hy rfl] at h;exact⟨q+1,⟨_,xo.set q (⟨host,id,⟨kind,BF,n,data,key,new,cz,force⟩,at_⟩,.slice a24 data.length data.length),(.slice a24 data.length data.length,data)::aN,aD ⟨rfl,rfl,rfl,trivial⟩,by omega,by rw[wO hy,gy],BK (uW.mono cI.cons.h) ⟨.inl (List.mem_cons_self ..),a24,_,rfl⟩,BX.trans cI.cons,h.to⟩,by show x.inv.length - (q+1)<x.inv.length - q;omega⟩
 refine qR ?_;exact⟨xo,sA,aN,rfl,gy,uW,BX,h.to⟩
end Go.Proofs.YtcplmndikhjehaaGreat
namespace Go.Proofs.YtcplmndikhjehaaGreat
open Go.Proofs.Tryz
open Go Go.Sl Go.Sl.eM Go.Sl.gW Go.Sl.kM Go.Sl.pe Go.Sl.pM Go.Sl.mG Go.Sl.pO Go.Sl.rH Go.Sl.pN Go.Sl.gU Go.Sl.l9
open Go.Sl.oB (wr)
open Go.Sl.dA (fu fu.eN fu.mono)
set_option maxHeartbeats 0
set_option maxRecDepth 8000
variable{W0 w:World}{L F:List aC}
abbrev Ct:=Int×Nat×Int
def mg(c:Ct):List Value:=[.int .i64 c.1,.int .u64 (c.2.1:Int),.int .i64 c.2.2]
theorem gx(c:Ct):(mg c).length=3:=rfl
abbrev Rw:=Int×Ct×Nat
def oU(r:Rw):KV:=(r.1,.agg #[.int .i64 r.2.1.1,.int .u64 (r.2.1.2.1:Int),.int .i64 r.2.1.2.2],r.2.2)
theorem Vi{l:List Int}{k:Nat}{x:Int}(h:l[k]? =some x):((l.map (Value.int .u64)).drop (k*1)).take 1=[.int .u64 x]:=by
 have hk:=(List.getElem?_eq_some_iff.1 h).1;rw[Nat.mul_one,List.drop_eq_getElem_cons (by rw[List.length_map];exact hk),List.take_succ_cons,List.take_zero,List.getElem_map,(List.getElem?_eq_some_iff.1 h).2]
theorem Lq:∀{rows:List Rw} {i:Nat} {r:Rw},(rows.map (·.1)).Pairwise (· < ·)→rows[i]? =some r→dL (rows.map oU) r.1=some (oU r).2.1
 | z::l,0,r,hp,h=>by
   obtain rfl:z=r:=by simpa using h
   simp[dL,oU]
 | z::l,i+1,r,hp,h=>by
   have hr:r∈l:=List.mem_of_getElem? (show l[i]? =some r by simpa using h);have vJ:=List.pairwise_cons.1 hp;have dW:z.1<r.1:=vJ.1 r.1 (List.mem_map_of_mem hr);have:=Lq vJ.2 (show l[i]? =some r by simpa using h);unfold dL at this⊢;rw[List.map_cons,List.find?_cons_of_neg (by simp[oU];omega)];exact this
theorem NG{ss ks:List Int}(h:ss.Perm ks)(hp:ks.Pairwise (· < ·))(hl:ks.length≤2):HS ss=ks:=by
 match ks,hp,hl,h with
 |[],_,_,h=>rw[h.eq_nil];rfl
 |[a],_,_,h=>rw[List.perm_singleton.1 h];rfl
 | [a,b],hp,_,h=>
   have Aw:=h.length_eq
   match ss,Aw,h with
   | [x,y],_,h=>
     have hab:a<b:=(List.pairwise_cons.1 hp).1 b (List.mem_singleton.2 rfl);have m1:=h.mem_iff (a:=x);have m2:=h.mem_iff (a:=y);have m3:=h.mem_iff (a:=a);have m4:=h.mem_iff (a:=b);simp only[List.mem_cons,List.not_mem_nil,or_false,true_or,or_true,true_iff,iff_true] at m1 m2 m3 m4;unfold HS;simp only;split
     · have e1:y=a:=by omega
       have e2:x=b:=by omega
       rw[e1,e2]
     have e1:x=a:=by omega
     have e2:y=b:=by omega
     rw[e1,e2]
 |x::y::z::l,_,hl,_=>exact absurd hl (by simp)
theorem BL{bx:Nat}{aa:aE}{x:Cl}{rows:List Rw}(hr:x.row.1=rows.map oU)(hn:rows.length≤2)(hp:(rows.map (·.1)).Pairwise (· < ·))(h:On W0 (eF bx aa x::L) w):Cs 9 [bx] w fun v w'=>∃a,v=.slice a rows.length rows.length∧On W0 (Own 3 (.slice a rows.length rows.length) rows.length (rows.flatMap fun r=>mg r.2.1)::eF bx aa x::L) w':=by
 refine qO ?_;have fH:=aG;have aA:=Fo h;obtain⟨pa,pc,ga,gh,kL,o0,o1,bj,bn,ia,ic,bm,oa,oc,kx,h⟩:=aA;have aA:=ac5 (iW (v:=.map (some bm)) h);obtain⟨Fx,h⟩:=aA;rw[hr] at h;refine qC ?_ (C:=Ro (kvs:=rows.map oU) (h.aj (bV bm .u64 (rows.map oU) x.row.2)));rintro _ w ⟨Ib,rfl,h⟩;refine qC ?_ (C:=Vh (kvs:=rows.map oU) (by rw[List.length_map];exact hn) h);rintro v11 w ⟨ak,ck,ss,hS,hv,h⟩;rw[List.map_map] at hS;have zB:ss.length=rows.length:=by rw[hS.length_eq,List.length_map]
 rw[NG (ks:=rows.map (·.1)) hS hp (by rw[List.length_map];exact hn),zB] at h;rw[zB] at hv;subst hv;refine gw ?_;have h:=((h.aj (aX bx [.int .i64 (x.aK:Int),.int .i64 (x.blocks:Int),.slice pa x.paths.length pc,ga,gh,kL,.pointer o0,.pointer o1,bj,bn,.int .i64 x.now,.int .u32 (x.bQ:Int),.slice ia x.inv.length ic,.map (some bm),.slice oa x.out.length oc] 60)).aj (bV bm .u64 (rows.map oU) x.row.2)).aj (Own 1 (.slice ak rows.length ck) rows.length ((rows.map (·.1)).map (Value.int .u64)));have aA:=Q6 h;obtain⟨R,hR,h⟩:=aA;refine go ?_;refine W.loop (fun(q:Nat) env w=>∃(j:Env) (a:Option Addr) (c:Nat),env=eu j [(0,bx),(3,.slice a q c),(11,.slice ak rows.length ck),(12,.int .i64 (rows.length:Nat)),(13,.int .i64 (q:Nat))]∧q≤rows.length∧On W0 (Own 3 (.slice a q c) q ((rows.take q).flatMap fun r=>mg r.2.1)::Own 1 (.slice ak rows.length ck) rows.length ((rows.map (·.1)).map (Value.int .u64))::bV bm .u64 (rows.map oU) x.row.2::aX bx [.int .i64 (x.aK:Int),.int .i64 (x.blocks:Int),.slice pa x.paths.length pc,ga,gh,kL,.pointer o0,.pointer o1,bj,bn,.int .i64 x.now,.int .u32 (x.bQ:Int),.slice ia x.inv.length ic,.map (some bm),.slice oa x.out.length oc] 60::R) w) (fun q=>rows.length - q) (0) ?_ ?_
 · exact⟨_,none,0,aD ⟨rfl,rfl,rfl,rfl,rfl,trivial⟩,Nat.zero_le _,h.bB 3 none⟩
 clear h;rintro q env w ⟨j,a,c,rfl,hq,h⟩;refine qI (fun c6=> ?_) (fun c6=> ?_)
 ·
  have aA:∃y,rows[q]? =some y:=⟨_,List.getElem?_eq_getElem (show q<rows.length by omega)⟩;obtain⟨y,hy⟩:=aA;obtain⟨k1,⟨h1,i1,t1⟩,c1⟩:=y;have hlk:=Lq hp hy;have aA:=(h.aR (v:=.slice ak rows.length ck)).addr (by omega);obtain⟨bz,oz,rfl⟩:=aA;refine qD ?_;refine WL.l isAgg30 rfl ((h.aR (v:=.slice (some ⟨bz,oz,none⟩) rows.length ck)).elem (i:=q) (vs:=[.int .u64 k1]) (by omega) (Vi (by rw[List.getElem?_map,hy];rfl)) 0 _ rfl) ?_;refine go ?_;refine WL.e (xO (v:=.agg #[.int .i64 h1,.int .u64 (i1:Int),.int .i64 t1]) (h.aj (bV bm .u64 (rows.map oU) x.row.2)) underlying50 underlying30 zeroValue82 rfl rfl (by rw[hlk];rfl)) ?_;rintro _ w ⟨rfl,h⟩;refine WL.e (aZ (zl:=[.int .i64 0,.int .u64 0,.int .i64 0]) (out:=[.int .i64 _,.int .u64 _,.int .i64 _]) h underlying41 sizeOf82 zeroValue82 (by decide) (by kernel_rfl) rfl rfl (by simp) fz rfl rfl (by simp[maxLen])) ?_;rintro _ w ⟨b24,rfl,h⟩;refine WL.e (bU (bytes:=24) h rfl rfl (h.aR) underlying41 rfl rfl rfl rfl rfl (by omega) (by omega) (by simp[Value.oneCell'])) ?_;rintro _ w ⟨a25,Fy,rfl,h⟩;refine qD ?_;have e:(rows.take q).flatMap (fun r=>mg r.2.1)++[.int .i64 h1,.int .u64 (i1:Int),.int .i64 t1]=(rows.take (q+1)).flatMap fun r=>mg r.2.1:=by rw[List.take_add_one,hy,List.flatMap_append];rfl
  rw[e] at h;exact⟨q+1,⟨_,a25,Fy,aD ⟨rfl,rfl,rfl,rfl,rfl,trivial⟩,by omega,h.to⟩,by show rows.length - (q+1)<rows.length - q;omega⟩
 have aA:q=rows.length:=by omega
 obtain rfl:=aA;rw[List.take_length] at h;refine qC ?_ (C:=RC (h.aj (Own 3 (.slice a rows.length c) rows.length (rows.flatMap fun r=>mg r.2.1))));rintro _ w ⟨rfl,h⟩;refine qR ?_;subst hR;have h:=Q2 Fx (by rw[hr];exact h.aj (bV bm .u64 (rows.map oU) x.row.2));exact⟨a,rfl,(clC (bx:=bx) (aa:=aa) (pa:=pa) (pc:=pc) (ga:=ga) (gh:=gh) (kL:=kL) (o0:=o0) (o1:=o1) (bj:=bj) (bn:=bn) (ia:=ia) (ic:=ic) (bm:=bm) (oa:=oa) (oc:=oc) (L:=Own 3 (.slice a rows.length rows.length) rows.length (rows.flatMap fun r=>mg r.2.1)::L) kx h.to).to⟩
theorem HT{bx i:Nat}{aa:aE}{x:Cl}{p:gQ}(hp:x.paths[i]? =some p)(hl:p.l.length≤1000)(h:On W0 (eF bx aa x::aY aa::L) w):Cs 11 [bx,.int .i64 (i:Int)] w fun v w'=>v=.int .i64 (p.l.length:Nat)∧On W0 (eF bx aa x::aY aa::L) w':=by
 refine qO ?_;have fH:=aG;have aA:=Fo h;obtain⟨pa,pc,ga,gh,kL,o0,o1,bj,bn,ia,ic,bm,oa,oc,kx,h⟩:=aA;have k3:=kx.2.2.1;have hil:=(List.getElem?_eq_some_iff.1 hp).1;obtain⟨host,nd,next,l,out,done,t⟩:=p;simp only at hl;have aA:=BE hp (iW (k:=Fm aa) (v:=.slice pa x.paths.length pc) h);obtain⟨xs,pa9,pc9,bp,Cu,DS,zn,h⟩:=aA;simp only[Value.slice.injEq] at Cu;obtain⟨rfl,hle,rfl⟩:=Cu;rw[hle] at h;have eC:=(List.getElem?_eq_some_iff.1 zn).1;have aA:=(h.aR (v:=.slice pa xs.length pc)).addr (by omega);obtain⟨ba,uh,rfl⟩:=aA;refine qE ?_;refine WL.l isAgg61 rfl ((h.aR (v:=.slice (some ⟨ba,uh,none⟩) xs.length pc)).elem (i:=i) (vs:=[bp]) (by omega) (xQ zn) 0 _ rfl) ?_;refine WL.e (ag call30 (GR hl (h.aj (bS 103 139 bp aa ⟨host,nd,next,l,out,done,t⟩)))) ?_;rintro _ w ⟨aw,xw,rfl,h⟩;refine qR ?_;have h:=wN DS zn (((h.aj (rU aa (xs.eraseIdx i))).aj (bS 103 139 bp aa ⟨host,nd,next,l,out,done,t⟩)).aj (Own 1 (.slice (some ⟨ba,uh,none⟩) xs.length pc) xs.length (xs.map fun x=>pL x.1)));rw[iH hp] at h;exact⟨rfl,(og (bx:=bx) rfl kx h).to⟩
theorem qF{b k:Nat}{pre vs post:List Value}{w:World}(E:∀j u,(pre++(vs++post))[j]? =some u→w.cell? ⟨b,k+j,none⟩=some u):∀j u,vs[j]? =some u→w.cell? ⟨b,k+pre.length+j,none⟩=some u:=fun j u h=>by
 have h3:=(List.getElem?_eq_some_iff.1 h).1;have h2:=E (pre.length+j) u (by rw[List.getElem?_append_right (by omega),Nat.add_sub_cancel_left,List.getElem?_append_left h3];exact h);rw[Nat.add_assoc];exact h2
theorem Wk{bx q0 id:Nat}{aa:aE}{x:Cl}{host:Int}{cp:Cp}(r7:x.out.length≤1000)(oA:∀c∈x.out,c.r.data.length≤100000)(Ce:x.out[q0]? =some cp)(hm:cp.host=host∧cp.id=id)(dX:∀(k:Nat) (d:Cp),k<q0→x.out[k]? =some d→¬(d.host=host∧d.id=id))(h:On W0 (eF bx aa x::aY aa::L) w):Cs 8 [bx,.int .i64 host,.int .u64 (id:Int)] w fun v w'=>∃(dx:Option Addr) (dc:Nat) (aN:aE),v=.tuple #[.agg #[.int .i64 cp.r.st,.int .i64 cp.r.key,.int .i64 cp.r.code,.slice dx cp.r.data.length dc,.int .i64 cp.r.info],.bool true]∧fu aN (.slice dx cp.r.data.length dc) cp.r.data∧cI aa aN∧On W0 (eF bx aN x::aY aN::L) w':=by
 refine qO ?_;have fH:=aG;have SJ:=(List.getElem?_eq_some_iff.1 Ce).1;refine gb fun b6 w h=> ?_;refine qC ?_ (C:=J6 r7 oA ((h.aj (aY aa)).aj (eF bx aa x)));rintro _ w ⟨xo,sA,aN,rfl,gy,uW,BX,h⟩;have eC:xo.length=x.out.length:=by rw[←gy,List.length_map]
 refine go ?_;refine W.loop (fun(q:Nat) env w=>∃(j:Env),env=eu j [(0,bx),(1,.int .i64 host),(2,.int .u64 (id:Int)),(6,b6),(8,.slice sA x.out.length x.out.length),(9,.int .i64 (q:Nat))]∧q≤q0∧On W0 (Own 8 (.slice sA x.out.length x.out.length) x.out.length (xo.flatMap kN)::aX b6 [.int .i64 0,.int .i64 0,.int .i64 0,.slice none 0 0,.int .i64 0] 38::eF bx aN x::aY aN::L) w) (fun q=>q0 - q) (0) ?_ ?_
 · exact⟨_,aD ⟨rfl,rfl,rfl,rfl,rfl,rfl,trivial⟩,Nat.zero_le _,h.to⟩
 clear h;rintro q env w ⟨j,rfl,hq,h⟩;refine qI (fun c6=> ?_) (fun c6=> ?_)
 ·
  have aA:∃y,xo[q]? =some y:=⟨_,List.getElem?_eq_getElem (show q<xo.length by omega)⟩;obtain⟨y,hy⟩:=aA;obtain⟨⟨ho,ii,⟨st,rk,code,data,info⟩,at_⟩,dv⟩:=y;have Zd:x.out[q]? =some ⟨ho,ii,⟨st,rk,code,data,info⟩,at_⟩:=by rw[←gy,List.getElem?_map,hy];rfl
  have aA:=uW.at hy;obtain⟨eD,dx,dc,oC⟩:=aA;simp only at oC eD;subst oC;have aA:=(h.aR (v:=.slice sA x.out.length x.out.length)).addr (by omega);obtain⟨bz,oz,rfl⟩:=aA;refine qD ?_;refine WL.l isAgg3 rfl ((h.aR (v:=.slice (some ⟨bz,oz,none⟩) x.out.length x.out.length)).elem (i:=q) (vs:=[.int .i64 ho,.int .u64 (ii:Int),.int .i64 st,.int .i64 rk,.int .i64 code,.slice dx data.length dc,.int .i64 info,.int .i64 at_]) (by omega) (aF kN 8 eP xo _ _ hy) 0 _ rfl) ?_;refine go ?_;refine WL.q (cL rfl rfl) (fun Ic=> ?_) (fun Ic=> ?_)
  ·
   refine qD ?_;refine WL.l isAgg30 rfl ((h.aR (v:=.slice (some ⟨bz,oz,none⟩) x.out.length x.out.length)).elem (i:=q) (vs:=[.int .i64 ho,.int .u64 (ii:Int),.int .i64 st,.int .i64 rk,.int .i64 code,.slice dx data.length dc,.int .i64 info,.int .i64 at_]) (by omega) (aF kN 8 eP xo _ _ hy) 1 _ rfl) ?_;refine qI (fun ou=> ?_) (fun ou=> ?_)
   ·
    refine W.seq ?_
    have Xt:q=q0:=by
      have aA:=Nat.lt_or_ge q q0;rcases aA with dW|B1
      · exact absurd ⟨Ic,Int.ofNat.inj ou⟩ (dX q _ dW Zd)
      omega
    subst Xt;rw[Ce] at Zd;have aA:=Option.some.inj Zd;obtain rfl:=aA;refine qD ?_;refine WL.v (gi isAgg38 sizeOf38 rfl rfl (qF (pre:=[.int .i64 ho,.int .u64 (ii:Int)]) (vs:=[.int .i64 st,.int .i64 rk,.int .i64 code,.slice dx data.length dc,.int .i64 info]) (post:=[.int .i64 at_]) ((h.aR (v:=.slice (some ⟨bz,oz,none⟩) x.out.length x.out.length)).elem (i:=q) (vs:=[.int .i64 ho,.int .u64 (ii:Int),.int .i64 st,.int .i64 rk,.int .i64 code,.slice dx data.length dc,.int .i64 info,.int .i64 at_]) (by omega) (aF kN 8 eP xo _ _ hy)))) ?_;refine gs fun w h _=> ?_;refine go ?_;refine W.ret (bf.rX (vs:=[.int .i64 _,.int .i64 _,.int .i64 _,.slice _ _ _,.int .i64 _]) (v2:=.bool _) h results8 isAgg38 sizeOf38 rfl rfl rfl rfl ?_);exact⟨dx,dc,aN,rfl,eD,BX,h.to⟩
   refine qD ?_
   have Xt:q≠q0:=by
     intro e;subst e;rw[Ce] at Zd;have aA:=Option.some.inj Zd;obtain rfl:=aA;exact ou (congrArg Int.ofNat hm.2)
   exact⟨q+1,⟨_,aD ⟨rfl,rfl,rfl,rfl,rfl,rfl,trivial⟩,by omega,h.to⟩,by show q0 - (q+1)<q0 - q;omega⟩
  refine qD ?_
  have Xt:q≠q0:=by
    intro e;subst e;rw[Ce] at Zd;have aA:=Option.some.inj Zd;obtain rfl:=aA;exact Ic hm.1
  exact⟨q+1,⟨_,aD ⟨rfl,rfl,rfl,rfl,rfl,rfl,trivial⟩,by omega,h.to⟩,by show q0 - (q+1)<q0 - q;omega⟩
 exfalso;omega
end Go.Proofs.YtcplmndikhjehaaGreat
namespace Go.Proofs.YtcplmndikhjehaaGreat
open Go.Proofs.Tryz
open Go Go.Sl Go.Sl.eM Go.Sl.gW Go.Sl.kM Go.Sl.pe Go.Sl.pM Go.Sl.mG Go.Sl.pO Go.Sl.rH Go.Sl.pN Go.Sl.gU Go.Sl.l9
open Go.Sl.oB (wr)
open Go.Sl.dA (fu fu.eN fu.mono)
set_option maxHeartbeats 0
set_option maxRecDepth 8000
variable{at_ en key kind n new r cz:Int}{bx dc dl ec el i rR DT:Nat}{da ea rS:Option Addr}{force:Bool}
variable{W0 w:World}{L F:List aC}
theorem oV{x y:Cl}{f:Cl→Option (Cl×Int)}(h:l9.step x f=some (y,r)):x.now<1000000∧∃z,f {x with now:=x.now+1}=some (z,r)∧y=evX r z∧(r≠0→1≤z.now):=by
 unfold l9.step at h;obtain⟨hn,h⟩:=iZ h;obtain⟨⟨z,s⟩,hf,h⟩:=cG h;simp only at h;refine⟨hn,z, ?_⟩;by_cases hs:s=0
 · rw[if_pos hs] at h
   obtain⟨rfl,rfl⟩:=Prod.mk.inj (Option.some.inj h);exact⟨hf,(if_pos hs).symm,fun q=>absurd hs q⟩
 rw[if_neg hs] at h;obtain⟨h1,h⟩:=iZ h;obtain⟨rfl,rfl⟩:=Prod.mk.inj (Option.some.inj h);exact⟨hf,(if_neg hs).symm,fun _=>h1⟩
theorem Ft{x y:Cl}(h:sX x i=some (y,r)):y.aK=x.aK:=by
 unfold sX at h;split at h
 · cases h
 obtain⟨_,h⟩:=Ck h;obtain⟨n,_,he⟩:=q7 h;rw[←(Prod.mk.inj he).1,u5]
theorem DW{x y:Cl}(h:UW x i=some y):y.aK=x.aK:=by
 unfold UW at h;split at h
 · rw[←Option.some.inj h]
 obtain⟨⟨z,r⟩,hs,h⟩:=cG h;obtain⟨h0,h⟩:=iZ h;obtain⟨_,z2,hf,rfl,_⟩:=oV hs;simp only at h h0;subst h0;rw[←Option.some.inj h];show(evX 0 z2).aK=x.aK;rw[show evX 0 z2=z2 from if_pos rfl];have e:=Ft hf;exact e
theorem HU{aa:aE}{x x2:Cl}{wh:Int}(hm:l9.step x (fun x=>dy x i)=some (x2,r))(h:On W0 (eF bx aa x::aY aa::L) w):Cs 6 [bx,.agg #[.int .i64 3,.int .i64 wh,.int .i64 (i:Int),.int .i64 kind,.int .i64 at_,.int .i64 n,.slice ea el ec,.int .u64 key,.int .u64 new,.int .i64 cz,.bool force,.slice rS DT rR,.slice da dl dc]] w fun v w'=>v=.int .i64 r∧∃aN,cI aa aN∧On W0 (eF bx aN x2::aY aN::L) w':=by
 obtain⟨hn,z,hf,rfl,hz⟩:=oV hm;exact HN hn hz (fun b3 w h=>Y6 hf h) h
theorem HV{aa:aE}{x x2:Cl}{wh:Int}{k:Nat}(hk:k≤1000)(hm:l9.step x (fun x=>(ie k x).map fun x=>(x,0))=some (x2,r))(h:On W0 (eF bx aa x::aY aa::L) w):Cs 6 [bx,.agg #[.int .i64 11,.int .i64 wh,.int .i64 (k:Int),.int .i64 kind,.int .i64 at_,.int .i64 n,.slice ea el ec,.int .u64 key,.int .u64 new,.int .i64 cz,.bool force,.slice rS DT rR,.slice da dl dc]] w fun v w'=>v=.int .i64 r∧∃aN,cI aa aN∧On W0 (eF bx aN x2::aY aN::L) w':=by
 obtain⟨hn,z,hf,rfl,hz⟩:=oV hm;obtain⟨z2,hc,he⟩:=q7 hf;obtain⟨rfl,rfl⟩:=Prod.mk.inj he;exact HN hn hz (fun b3 w h=>Y7 hk hc rfl h) h
theorem Ze{aa:aE}{x x2:Cl}{aV:List Int}(hi:i≤1)(C2:aB L (Cells 1 (.slice rS aV.length rR) aV.length (dA.fK aV)))(hm:l9.step x (fun x=>xP x i)=some (x2,r))(h:On W0 (eF bx aa x::aY aa::L) w):Cs 6 [bx,.agg #[.int .i64 6,.int .i64 ((x.aK+i:Nat):Int),.int .i64 en,.int .i64 kind,.int .i64 at_,.int .i64 n,.slice ea el ec,.int .u64 key,.int .u64 new,.int .i64 cz,.bool force,.slice rS aV.length rR,.slice da dl dc]] w fun v w'=>v=.int .i64 r∧∃aN,cI aa aN∧On W0 (eF bx aN x2::aY aN::L) w':=by
 obtain⟨hn,z,hf,rfl,hz⟩:=oV hm;exact HN hn hz (fun b3 w h=>Rm (.inl rfl) (fun b4 w h=>Y3 (x:={x with now:=x.now+1}) hi hf (aB.to C2) h) h) h
theorem Zf{aa:aE}{x x2:Cl}(hi:i≤1)(hm:l9.step x (fun x=>sX x i)=some (x2,r))(h:On W0 (eF bx aa x::aY aa::L) w):Cs 6 [bx,.agg #[.int .i64 7,.int .i64 ((x.aK+i:Nat):Int),.int .i64 en,.int .i64 kind,.int .i64 at_,.int .i64 n,.slice ea el ec,.int .u64 key,.int .u64 new,.int .i64 cz,.bool force,.slice rS DT rR,.slice da dl dc]] w fun v w'=>v=.int .i64 r∧∃aN,cI aa aN∧On W0 (eF bx aN x2::aY aN::L) w':=by
 obtain⟨hn,z,hf,rfl,hz⟩:=oV hm;exact HN hn hz (fun b3 w h=>Rm (.inr rfl) (fun b4 w h=>Y4 (x:={x with now:=x.now+1}) hi hf h) h) h
theorem Fu{aa:aE}{x x2:Cl}{key:Nat}{new:Nat}{who:Nat}{data:List UInt8}{ax:Option Addr}{cx:Nat}(C:aB L (Bytes (.slice ax data.length cx) data))(hm:l9.step x (fun x=>lu x who ⟨kind,at_,n,data,(key:Int),(new:Int),cz,force⟩)=some (x2,r))(h:On W0 (eF bx aa x::aY aa::L) w):Cs 6 [bx,.agg #[.int .i64 1,.int .i64 (who:Int),.int .i64 en,.int .i64 kind,.int .i64 at_,.int .i64 n,.slice ax data.length cx,.int .u64 (key:Int),.int .u64 (new:Int),.int .i64 cz,.bool force,.slice rS DT rR,.slice da dl dc]] w fun v w'=>v=.int .i64 r∧∃aN,cI aa aN∧On W0 (eF bx aN x2::aY aN::L) w':=by
 obtain⟨hn,z,hf,rfl,hz⟩:=oV hm;exact HN hn hz (fun b3 w h=>Y8 hf (aB.to C) h) h
theorem Vj{x:Cl}{q:Nat}(h:JW x q=false)(hq:q<x.aK+3):∃i,i≤1∧q=x.aK+i:=by
 unfold JW at h;split at h
 · exact⟨0,by omega,by omega⟩
 split at h
 · exact⟨1,by omega,by omega⟩
 exact absurd (of_decide_eq_false h) (by omega)
def sY(x:Cl)(q:Nat):Option Cl:=if q≤x.aK then Fj x else if q=x.aK+1 then UW x 1 else some x
theorem RE{x z:Cl}{q:Nat}(h:sY x q=some z)(hu:JW x q=true):sY x (q+1)=some z:=by
 unfold sY at*;by_cases h1:q<x.aK
 · rw[if_pos (by omega)] at h⊢;exact h
 by_cases h2:q=x.aK
 · subst h2
   rw[if_pos (Nat.le_refl _)] at h;rw[if_neg (by omega),if_pos rfl];unfold Fj at h;rw[show UW x 0=some x from if_pos hu] at h;exact h
 rw[if_neg (by omega)] at h⊢;rw[if_neg (by omega)];by_cases h3:q=x.aK+1
 · subst h3
   rw[if_pos rfl] at h;rw[show UW x 1=some x from if_pos hu] at h;exact h
 rw[if_neg h3] at h;exact h
theorem RF{x z:Cl}(hi:i≤1)(h:sY x (x.aK+i)=some z)(hu:JW x (x.aK+i)=false):∃y,l9.step x (fun x=>sX x i)=some (y,0)∧y.aK=x.aK∧sY y (x.aK+i+1)=some z:=by
 have key:∀y,UW x i=some y→l9.step x (fun x=>sX x i)=some (y,0):=fun y hy=>by
   unfold UW at hy;rw[if_neg (by rw[hu];decide)] at hy;obtain⟨⟨z3,r⟩,hs,hy⟩:=cG hy;obtain⟨h0,hy⟩:=iZ hy;simp only at h0 hy;subst h0;rw[hs,show z3=y from Option.some.inj hy]
 rcases(show i=0∨i=1 by omega) with rfl|rfl
 · unfold sY at h
   rw[if_pos (show x.aK+0≤x.aK from Nat.le_refl _)] at h;obtain⟨y,hy,h⟩:=cG h;have hh:=DW hy;refine⟨y,key y hy,hh, ?_⟩;unfold sY;rw[if_neg (by omega),if_pos (by omega)];exact h
 unfold sY at h;rw[if_neg (by omega),if_pos rfl] at h;have hh:=DW h;refine⟨z,key z h,hh, ?_⟩;unfold sY;rw[if_neg (by omega),if_neg (by omega)]
theorem adJ{k:Nat}{aa:aE}{x x2:Cl}(hk:k≤1000)(hm:zP x k=some x2)(h:On W0 (eF bx aa x::aY aa::L) w):Cs 7 [bx,.int .i64 (k:Int)] w fun v w'=>v=.bool true∧∃aN,cI aa aN∧On W0 (eF bx aN x2::aY aN::L) w':=by
 refine qO ?_;unfold zP at hm;have aA:=cG hm;obtain⟨z,hz,hm⟩:=aA;unfold qy at hm;have aA:=q7 hm;obtain⟨⟨z2,r2⟩,hs,rfl⟩:=aA
 have EH:r2=0:=by
   have aA:=oV hs;obtain⟨_,z3,hf,_⟩:=aA;have aA:=q7 hf;obtain⟨z4,_,he⟩:=aA;exact(Prod.mk.inj he).2.symm
 subst EH;simp only;refine go ?_;refine W.loop (fun(q:Nat) env w=>∃(j:Env) (iM:aE) (y:Cl),sY y q=some z∧y.aK=x.aK∧cI aa iM∧env=eu j [(0,bx),(1,.int .i64 (k:Int)),(5,.int .i64 (q:Int))]∧q≤x.aK+3∧On W0 (eF bx iM y::aY iM::L) w) (fun q=>x.aK+3 - q) (0) ?_ ?_
 · exact⟨_,aa,x,(if_pos (Nat.zero_le _)).trans hz,rfl,cI.yZ,aD ⟨rfl,rfl,rfl,trivial⟩,Nat.zero_le _,h⟩
 clear h;rintro q env w ⟨j,iM,y,hy,hyh,BX,rfl,hq,h⟩;have kh:=(clK h).1;refine qC ?_ (C:=xR h);rintro _ w ⟨rfl,h⟩;refine qI (fun c5=> ?_) (fun c5=> ?_)
 ·
  refine qC ?_ (C:=cup (who:=q) (by omega) h);rintro _ w ⟨hv,h⟩;have iG:=Bool.eq_false_or_eq_true (JW y q);rcases iG with hu|hu<;>(rw[hu] at hv;subst hv)
  · refine qD ?_;exact⟨q+1,⟨_,iM,y,RE hy hu,hyh,BX,aD ⟨rfl,rfl,rfl,trivial⟩,by omega,h.to⟩,by show x.aK+3 - (q+1)<x.aK+3 - q;omega⟩
  have aA:=Vj hu (by omega);obtain⟨i,hi,rfl⟩:=aA;have aA:=RF hi hy hu;obtain⟨y2,ki,hh2,hy2⟩:=aA;refine qD ?_;refine WL.e (ag call6 (Zf hi ki h)) ?_;rintro _ w ⟨rfl,om,HM,h⟩;refine qE ?_;exact⟨y.aK+i+1,⟨_,om,y2,hy2,hh2.trans hyh,BX.trans HM,aD ⟨rfl,rfl,rfl,trivial⟩,by omega,h.to⟩,by show x.aK+3 - (y.aK+i+1)<x.aK+3 - (y.aK+i);omega⟩
 have aA:q=x.aK+3:=by omega
 obtain rfl:=aA;unfold sY at hy;rw[if_neg (by omega),if_neg (by omega)] at hy;have aA:=Option.some.inj hy;obtain rfl:=aA;refine go ?_;refine WL.v (aP (pl:=[(0,1),(1,1),(2,1),(3,8),(11,1),(12,1)]) (out:=[.int .i64 11,.int .i64 0,.int .i64 (k:Int),.int .i64 0,.int .i64 0,.int .i64 0,.slice none 0 0,.int .u64 0,.int .u64 0,.int .i64 0,.bool false,.slice none 0 0,.slice none 0 0]) underlying34 zeroValue34 (fun w=>by kernel_rfl) rfl fz rfl) ?_;refine WL.e (ag call6 (HV hk hs h)) ?_;rintro _ w ⟨rfl,om,HM,h⟩;refine qE ?_;refine qR ?_;exact⟨rfl,om,BX.trans HM,h⟩
end Go.Proofs.YtcplmndikhjehaaGreat
namespace Go.Proofs.YtcplmndikhjehaaGreat
open Go.Proofs.Tryz
open Go Go.Sl Go.Sl.eM Go.Sl.gW Go.Sl.kM Go.Sl.pe Go.Sl.pM Go.Sl.mG Go.Sl.pO Go.Sl.rH Go.Sl.pN Go.Sl.gU Go.Sl.l9
open Go.Sl.oB (wr)
open Go.Sl.dA (fu fu.eN fu.mono)
set_option maxHeartbeats 0
set_option maxRecDepth 8000
variable{a:Option Addr}{c id:Nat}{host:Int}
variable{W0 w:World}{L F:List aC}
def ij(l:List (Int×Nat))(h:Int)(id:Nat):Int:=match l.findIdx? (fun x=>decide (x.1=h)&&decide (x.2=id)) with|some i=>(i:Int)|none=> -1
theorem u6{l:List (Int×Nat)}{h:Int}(hn:∀(j:Nat) (y:Int×Nat),l[j]? =some y→¬(y.1=h∧y.2=id)):ij l h id= -1:=by
 unfold ij;rw[List.findIdx?_eq_none_iff.2];intro y hy;obtain⟨j,hj⟩:=List.getElem?_of_mem hy;have:=hn j y hj;rw[Bool.and_eq_false_iff,decide_eq_false_iff_not,decide_eq_false_iff_not];exact Decidable.not_and_iff_not_or_not.1 this
theorem xT{l:List (Int×Nat)}{h:Int}{i:Nat}{x:Int×Nat}(hx:l[i]? =some x)(hp:x.1=h∧x.2=id)(hn:∀(j:Nat) (y:Int×Nat),j<i→l[j]? =some y→¬(y.1=h∧y.2=id)):ij l h id=i:=by
 unfold ij;have dW:=(List.getElem?_eq_some_iff.1 hx).1
 have : l.findIdx? (fun x => decide (x.1 = h) && decide (x.2 = id)) = some i := List.findIdx?_eq_some_iff_getElem.2 ⟨dW, by rw [(List.getElem?_eq_some_iff.1 hx).2, hp.1, hp.2]; simp, fun j hj => by
   have := hn j (l[j]'(by omega)) hj (by simp);simpa using this⟩
 rw[this]
theorem RG{l:List (Iv×Value)}(h:On W0 L w)(C:aB L (Cells 11 (.slice a l.length c) l.length (l.flatMap mS))):Cs 102 [.slice a l.length c,.int .i64 host,.int .u64 (id:Int)] w fun v w'=>v=.int .i64 (ij (l.map fun x=>(x.1.host,x.1.id)) host id)∧On W0 L w':=by
 refine qO ?_;have hbd:=(h.aO C).bounds;have fH:=aG;refine go ?_;refine W.loop (fun(q:Nat) env w=>∃j,env=eu j [(0,.slice a l.length c),(1,.int .i64 host),(2,.int .u64 (id:Int)),(7,.int .i64 (q:Int))]∧q≤l.length∧(∀(j:Nat) (y:Int×Nat),j<q→(l.map fun x=>(x.1.host,x.1.id))[j]? =some y→¬(y.1=host∧y.2=id))∧On W0 L w) (fun q=>l.length - q) (0) ?_ ?_
 · exact⟨_,aD ⟨rfl,rfl,rfl,rfl,trivial⟩,Nat.zero_le _,fun j y hj=>absurd hj (Nat.not_lt_zero _),h⟩
 clear h;rintro q env w ⟨j,rfl,hq,dX,h⟩;refine qI (fun c5=> ?_) (fun c5=> ?_)
 ·
  have aA:∃y,l[q]? =some y:=⟨_,List.getElem?_eq_getElem (show q<l.length by omega)⟩;obtain⟨y,hy⟩:=aA;have aA:=(h.aO C).addr (by omega);obtain⟨bz,oz,rfl⟩:=aA;refine qD ?_;refine WL.l isAgg3 rfl ((h.aO C).elem (i:=q) (vs:=(mS y)) (by omega) (aF mS 11 jz l _ _ hy) 0 _ rfl) ?_;refine go ?_;refine WL.q (cL rfl rfl) (fun zF=> ?_) (fun zF=> ?_)
  ·
   refine qD ?_;refine WL.l isAgg30 rfl ((h.aO C).elem (i:=q) (vs:=(mS y)) (by omega) (aF mS 11 jz l _ _ hy) 1 _ rfl) ?_;refine qI (fun mP=> ?_) (fun mP=> ?_)
   · refine qR ?_;rw[xT (by rw[List.getElem?_map,hy];rfl) ⟨zF,Int.ofNat.inj mP⟩ dX];exact⟨rfl,h⟩
   refine qD ?_
   exact ⟨q + 1, ⟨_, aD ⟨rfl, rfl, rfl, rfl, trivial⟩, by omega, fun j z hj hz => (by
     by_cases RH:j=q
     · subst RH
       rw[List.getElem?_map,hy] at hz;cases hz;exact fun hh=>mP (congrArg Int.ofNat hh.2)
     exact dX j z (by omega) hz), h⟩, by show l.length - (q + 1) < l.length - q; omega⟩
  refine qD ?_
  exact ⟨q + 1, ⟨_, aD ⟨rfl, rfl, rfl, rfl, trivial⟩, by omega, fun j z hj hz => (by
    by_cases RH:j=q
    · subst RH
      rw[List.getElem?_map,hy] at hz;cases hz;exact fun hh=>zF hh.1
    exact dX j z (by omega) hz), h⟩, by show l.length - (q + 1) < l.length - q; omega⟩
 refine qR ?_;rw[u6 fun j y hj=>dX j y (by have:=(List.getElem?_eq_some_iff.1 hj).1;rw[List.length_map] at this;omega) hj];exact⟨rfl,h⟩
theorem J7{l:List Ct}(h:On W0 L w)(C:aB L (Cells 3 (.slice a l.length c) l.length (l.flatMap mg))):Cs 61 [.slice a l.length c,.int .i64 host,.int .u64 (id:Int)] w fun v w'=>v=.int .i64 (ij (l.map fun x=>(x.1,x.2.1)) host id)∧On W0 L w':=by
 refine qO ?_;have hbd:=(h.aO C).bounds;have fH:=aG;refine go ?_;refine W.loop (fun(q:Nat) env w=>∃j,env=eu j [(0,.slice a l.length c),(1,.int .i64 host),(2,.int .u64 (id:Int)),(7,.int .i64 (q:Int))]∧q≤l.length∧(∀(j:Nat) (y:Int×Nat),j<q→(l.map fun x=>(x.1,x.2.1))[j]? =some y→¬(y.1=host∧y.2=id))∧On W0 L w) (fun q=>l.length - q) (0) ?_ ?_
 · exact⟨_,aD ⟨rfl,rfl,rfl,rfl,trivial⟩,Nat.zero_le _,fun j y hj=>absurd hj (Nat.not_lt_zero _),h⟩
 clear h;rintro q env w ⟨j,rfl,hq,dX,h⟩;refine qI (fun c5=> ?_) (fun c5=> ?_)
 ·
  have aA:∃y,l[q]? =some y:=⟨_,List.getElem?_eq_getElem (show q<l.length by omega)⟩;obtain⟨y,hy⟩:=aA;have aA:=(h.aO C).addr (by omega);obtain⟨bz,oz,rfl⟩:=aA;refine qD ?_;refine WL.l isAgg3 rfl ((h.aO C).elem (i:=q) (vs:=(mg y)) (by omega) (aF mg 3 gx l _ _ hy) 0 _ rfl) ?_;refine go ?_;refine WL.q (cL rfl rfl) (fun zF=> ?_) (fun zF=> ?_)
  ·
   refine qD ?_;refine WL.l isAgg30 rfl ((h.aO C).elem (i:=q) (vs:=(mg y)) (by omega) (aF mg 3 gx l _ _ hy) 1 _ rfl) ?_;refine qI (fun mP=> ?_) (fun mP=> ?_)
   · refine qR ?_;rw[xT (by rw[List.getElem?_map,hy];rfl) ⟨zF,Int.ofNat.inj mP⟩ dX];exact⟨rfl,h⟩
   refine qD ?_
   exact ⟨q + 1, ⟨_, aD ⟨rfl, rfl, rfl, rfl, trivial⟩, by omega, fun j z hj hz => (by
     by_cases RH:j=q
     · subst RH
       rw[List.getElem?_map,hy] at hz;cases hz;exact fun hh=>mP (congrArg Int.ofNat hh.2)
     exact dX j z (by omega) hz), h⟩, by show l.length - (q + 1) < l.length - q; omega⟩
  refine qD ?_
  exact ⟨q + 1, ⟨_, aD ⟨rfl, rfl, rfl, rfl, trivial⟩, by omega, fun j z hj hz => (by
    by_cases RH:j=q
    · subst RH
      rw[List.getElem?_map,hy] at hz;cases hz;exact fun hh=>zF hh.1
    exact dX j z (by omega) hz), h⟩, by show l.length - (q + 1) < l.length - q; omega⟩
 refine qR ?_;rw[u6 fun j y hj=>dX j y (by have:=(List.getElem?_eq_some_iff.1 hj).1;rw[List.length_map] at this;omega) hj];exact⟨rfl,h⟩
theorem Zg{l:List (Cp×Value)}(h:On W0 L w)(C:aB L (Cells 8 (.slice a l.length c) l.length (l.flatMap kN))):Cs 103 [.slice a l.length c,.int .i64 host,.int .u64 (id:Int)] w fun v w'=>v=.int .i64 (ij (l.map fun x=>(x.1.host,x.1.id)) host id)∧On W0 L w':=by
 refine qO ?_;have hbd:=(h.aO C).bounds;have fH:=aG;refine go ?_;refine W.loop (fun(q:Nat) env w=>∃j,env=eu j [(0,.slice a l.length c),(1,.int .i64 host),(2,.int .u64 (id:Int)),(7,.int .i64 (q:Int))]∧q≤l.length∧(∀(j:Nat) (y:Int×Nat),j<q→(l.map fun x=>(x.1.host,x.1.id))[j]? =some y→¬(y.1=host∧y.2=id))∧On W0 L w) (fun q=>l.length - q) (0) ?_ ?_
 · exact⟨_,aD ⟨rfl,rfl,rfl,rfl,trivial⟩,Nat.zero_le _,fun j y hj=>absurd hj (Nat.not_lt_zero _),h⟩
 clear h;rintro q env w ⟨j,rfl,hq,dX,h⟩;refine qI (fun c5=> ?_) (fun c5=> ?_)
 ·
  have aA:∃y,l[q]? =some y:=⟨_,List.getElem?_eq_getElem (show q<l.length by omega)⟩;obtain⟨y,hy⟩:=aA;have aA:=(h.aO C).addr (by omega);obtain⟨bz,oz,rfl⟩:=aA;refine qD ?_;refine WL.l isAgg3 rfl ((h.aO C).elem (i:=q) (vs:=(kN y)) (by omega) (aF kN 8 eP l _ _ hy) 0 _ rfl) ?_;refine go ?_;refine WL.q (cL rfl rfl) (fun zF=> ?_) (fun zF=> ?_)
  ·
   refine qD ?_;refine WL.l isAgg30 rfl ((h.aO C).elem (i:=q) (vs:=(kN y)) (by omega) (aF kN 8 eP l _ _ hy) 1 _ rfl) ?_;refine qI (fun mP=> ?_) (fun mP=> ?_)
   · refine qR ?_;rw[xT (by rw[List.getElem?_map,hy];rfl) ⟨zF,Int.ofNat.inj mP⟩ dX];exact⟨rfl,h⟩
   refine qD ?_
   exact ⟨q + 1, ⟨_, aD ⟨rfl, rfl, rfl, rfl, trivial⟩, by omega, fun j z hj hz => (by
     by_cases RH:j=q
     · subst RH
       rw[List.getElem?_map,hy] at hz;cases hz;exact fun hh=>mP (congrArg Int.ofNat hh.2)
     exact dX j z (by omega) hz), h⟩, by show l.length - (q + 1) < l.length - q; omega⟩
  refine qD ?_
  exact ⟨q + 1, ⟨_, aD ⟨rfl, rfl, rfl, rfl, trivial⟩, by omega, fun j z hj hz => (by
    by_cases RH:j=q
    · subst RH
      rw[List.getElem?_map,hy] at hz;cases hz;exact fun hh=>zF hh.1
    exact dX j z (by omega) hz), h⟩, by show l.length - (q + 1) < l.length - q; omega⟩
 refine qR ?_;rw[u6 fun j y hj=>dX j y (by have:=(List.getElem?_eq_some_iff.1 hj).1;rw[List.length_map] at this;omega) hj];exact⟨rfl,h⟩
theorem adL{a1 a2 a3:Option Addr}{c1 c2 c3:Nat}{xi:List (Iv×Value)}{u7:List Ct}{xo:List (Cp×Value)}(Nn:∀{i:Nat} (y:Iv×Value),xi[i]? =some y→∃a c,y.2=.slice a y.1.c.data.length c)(QI:∀{i:Nat} (y:Cp×Value),xo[i]? =some y→∃a c,y.2=.slice a y.1.r.data.length c)(Eg:xi.length≤1000)(Aw:u7.length≤1000)(hl3:xo.length≤1000)(h:On W0 L w)(C1:aB L (Cells 11 (.slice a1 xi.length c1) xi.length (xi.flatMap mS)))(C2:aB L (Cells 3 (.slice a2 u7.length c2) u7.length (u7.flatMap mg)))(C3:aB L (Cells 8 (.slice a3 xo.length c3) xo.length (xo.flatMap kN))):Cs 28 [.slice a1 xi.length c1,.slice a2 u7.length c2,.slice a3 xo.length c3] w fun v w'=>∃b1 d1 b2 d2 b3 d3,v=.tuple #[.slice b1 xi.length d1,.slice b2 u7.length d2,.slice b3 xo.length d3]∧On W0 (Own 11 (.slice b1 xi.length d1) xi.length (xi.flatMap mS)::Own 3 (.slice b2 u7.length d2) u7.length (u7.flatMap mg)::Own 8 (.slice b3 xo.length d3) xo.length (xo.flatMap kN)::L) w':=by
 refine qO ?_;have fH:=aG;have wV:=(h.aO C1).bounds;have Ga:=(h.aO C2).bounds;have VJ:=(h.aO C3).bounds;have uI:0<xi.length→∃b o,a1=some ⟨b,o,none⟩:=fun h0=>(h.aO C1).addr h0;have rN:0<u7.length→∃b o,a2=some ⟨b,o,none⟩:=fun h0=>(h.aO C2).addr h0;have hn3:0<xo.length→∃b o,a3=some ⟨b,o,none⟩:=fun h0=>(h.aO C3).addr h0;refine go ?_;refine W.loop (fun(q:Nat) env w=>∃(j:Env) (b1:Option Addr) (d1:Nat),env=eu j [(0,.slice a1 xi.length c1),(1,.slice a2 u7.length c2),(2,.slice a3 xo.length c3),(9,.slice b1 q d1),(12,.int .i64 (q:Int)),(10,.slice none 0 0),(11,.slice none 0 0)]∧q≤xi.length∧On W0 (Own 11 (.slice b1 q d1) q ((xi.take q).flatMap mS)::L) w) (fun q=>xi.length - q) (0) ?_ ?_
 · exact⟨_,none,0,aD ⟨rfl,rfl,rfl,rfl,rfl,rfl,rfl,trivial⟩,Nat.zero_le _,h.bB 11 none⟩
 clear h;rintro q env w ⟨j,b1,d1,rfl,hq,h⟩;refine qI (fun c8=> ?_) (fun c8=> ?_)
 ·
  have aA:∃y,xi[q]? =some y:=⟨_,List.getElem?_eq_getElem (show q<xi.length by omega)⟩;obtain⟨y,hy⟩:=aA;obtain⟨⟨y1,y2,⟨y3,y4,y5,y6,y7,y8,y9,y10⟩,y11⟩,yv⟩:=y;have aA:=Nn _ hy;obtain⟨yx,yc,Wl⟩:=aA;simp only at Wl;subst Wl;have aA:=uI (by omega);obtain⟨bz,oz,rfl⟩:=aA;refine qG fun w h=> ?_;refine X.lc rfl ((h.aO C1).elem (i:=q) (vs:=[.int .i64 y1,.int .u64 (y2:Int),.int .i64 y3,.int .i64 y4,.int .i64 y5,.slice yx y6.length yc,.int .u64 y7,.int .u64 y8,.int .i64 y9,.bool y10,.int .i64 y11]) (by omega) (aF mS 11 jz xi _ _ hy) 0 _ rfl) ?_;refine qD ?_;refine X.lc rfl ((h.aO C1).elem (i:=q) (vs:=[.int .i64 y1,.int .u64 (y2:Int),.int .i64 y3,.int .i64 y4,.int .i64 y5,.slice yx y6.length yc,.int .u64 y7,.int .u64 y8,.int .i64 y9,.bool y10,.int .i64 y11]) (by omega) (aF mS 11 jz xi _ _ hy) 1 _ rfl) ?_;refine qD ?_;refine X.lr rfl (qF (pre:=[.int .i64 y1,.int .u64 (y2:Int)]) (vs:=[.int .i64 y3,.int .i64 y4,.int .i64 y5,.slice yx y6.length yc,.int .u64 y7,.int .u64 y8,.int .i64 y9,.bool y10]) (post:=[.int .i64 y11]) ((h.aO C1).elem (i:=q) (vs:=[.int .i64 y1,.int .u64 (y2:Int),.int .i64 y3,.int .i64 y4,.int .i64 y5,.slice yx y6.length yc,.int .u64 y7,.int .u64 y8,.int .i64 y9,.bool y10,.int .i64 y11]) (by omega) (aF mS 11 jz xi _ _ hy))) rfl ?_;refine qD ?_;refine X.lc rfl ((h.aO C1).elem (i:=q) (vs:=[.int .i64 y1,.int .u64 (y2:Int),.int .i64 y3,.int .i64 y4,.int .i64 y5,.slice yx y6.length yc,.int .u64 y7,.int .u64 y8,.int .i64 y9,.bool y10,.int .i64 y11]) (by omega) (aF mS 11 jz xi _ _ hy) 10 _ rfl) ?_;refine qD ?_;refine X.e (aZ (zl:=[.int .i64 0,.int .u64 0,.int .i64 0,.int .i64 0,.int .i64 0,.slice none 0 0,.int .u64 0,.int .u64 0,.int .i64 0,.bool false,.int .i64 0]) (out:=[.int .i64 _,.int .u64 _,.int .i64 _,.int .i64 _,.int .i64 _,.slice _ _ _,.int .u64 _,.int .u64 _,.int .i64 _,.bool _,.int .i64 _]) h underlying84 sizeOf125 zeroValue125 (by decide) (by kernel_rfl) rfl rfl (by simp) fz rfl rfl (by simp[maxLen])) ?_;rintro _ w ⟨b43,rfl,h⟩;refine X.e (bU (bytes:=104) h rfl rfl (h.aR) underlying84 rfl rfl rfl rfl rfl (by omega) (by omega) (by simp[Value.oneCell'])) ?_;rintro _ w ⟨a44,c44,rfl,h⟩;refine qD ?_;have e:(xi.take q).flatMap mS++[.int .i64 y1,.int .u64 (y2:Int),.int .i64 y3,.int .i64 y4,.int .i64 y5,.slice yx y6.length yc,.int .u64 y7,.int .u64 y8,.int .i64 y9,.bool y10,.int .i64 y11]=(xi.take (q+1)).flatMap mS:=by rw[List.take_add_one,hy,List.flatMap_append];rfl
  rw[e] at h;exact⟨q+1,⟨_,a44,c44,aD ⟨rfl,rfl,rfl,rfl,rfl,rfl,rfl,trivial⟩,by omega,h.to⟩,by show xi.length - (q+1)<xi.length - q;omega⟩
 have aA:q=xi.length:=by omega
 obtain rfl:=aA;rw[List.take_length] at h;refine go ?_;refine W.loop (fun(q:Nat) env w=>∃(j:Env) (b2:Option Addr) (d2:Nat),env=eu j [(0,.slice a1 xi.length c1),(1,.slice a2 u7.length c2),(2,.slice a3 xo.length c3),(9,.slice b1 xi.length d1),(10,.slice b2 q d2),(13,.int .i64 (q:Int)),(11,.slice none 0 0)]∧q≤u7.length∧On W0 (Own 3 (.slice b2 q d2) q ((u7.take q).flatMap mg)::Own 11 (.slice b1 xi.length d1) xi.length (xi.flatMap mS)::L) w) (fun q=>u7.length - q) (0) ?_ ?_
 · exact⟨_,none,0,aD ⟨rfl,rfl,rfl,rfl,rfl,rfl,rfl,trivial⟩,Nat.zero_le _,h.bB 3 none⟩
 clear h;rintro q env w ⟨j,b2,d2,rfl,hq,h⟩;refine qI (fun C4=> ?_) (fun C4=> ?_)
 ·
  have aA:∃y,u7[q]? =some y:=⟨_,List.getElem?_eq_getElem (show q<u7.length by omega)⟩;obtain⟨y,hy⟩:=aA;obtain⟨y1,y2,y3⟩:=y;have aA:=rN (by omega);obtain⟨bz,oz,rfl⟩:=aA;refine qG fun w h=> ?_;refine X.lc rfl ((h.aO C2).elem (i:=q) (vs:=[.int .i64 y1,.int .u64 (y2:Int),.int .i64 y3]) (by omega) (aF mg 3 gx u7 _ _ hy) 0 _ rfl) ?_;refine qD ?_;refine X.lc rfl ((h.aO C2).elem (i:=q) (vs:=[.int .i64 y1,.int .u64 (y2:Int),.int .i64 y3]) (by omega) (aF mg 3 gx u7 _ _ hy) 1 _ rfl) ?_;refine qD ?_;refine X.lc rfl ((h.aO C2).elem (i:=q) (vs:=[.int .i64 y1,.int .u64 (y2:Int),.int .i64 y3]) (by omega) (aF mg 3 gx u7 _ _ hy) 2 _ rfl) ?_;refine qD ?_;refine X.e (aZ (zl:=[.int .i64 0,.int .u64 0,.int .i64 0]) (out:=[.int .i64 _,.int .u64 _,.int .i64 _]) h underlying85 sizeOf126 zeroValue126 (by decide) (by kernel_rfl) rfl rfl (by simp) fz rfl rfl (by simp[maxLen])) ?_;rintro _ w ⟨b68,rfl,h⟩;refine X.e (bU (bytes:=24) h rfl rfl (h.aR) underlying85 rfl rfl rfl rfl rfl (by omega) (by omega) (by simp[Value.oneCell'])) ?_;rintro _ w ⟨a69,c69,rfl,h⟩;refine qD ?_;have e:(u7.take q).flatMap mg++[.int .i64 y1,.int .u64 (y2:Int),.int .i64 y3]=(u7.take (q+1)).flatMap mg:=by rw[List.take_add_one,hy,List.flatMap_append];rfl
  rw[e] at h;exact⟨q+1,⟨_,a69,c69,aD ⟨rfl,rfl,rfl,rfl,rfl,rfl,rfl,trivial⟩,by omega,h.to⟩,by show u7.length - (q+1)<u7.length - q;omega⟩
 have aA:q=u7.length:=by omega
 obtain rfl:=aA;rw[List.take_length] at h;refine go ?_;refine W.loop (fun(q:Nat) env w=>∃(j:Env) (b3:Option Addr) (d3:Nat),env=eu j [(0,.slice a1 xi.length c1),(1,.slice a2 u7.length c2),(2,.slice a3 xo.length c3),(9,.slice b1 xi.length d1),(10,.slice b2 u7.length d2),(11,.slice b3 q d3),(14,.int .i64 (q:Int))]∧q≤xo.length∧On W0 (Own 8 (.slice b3 q d3) q ((xo.take q).flatMap kN)::Own 3 (.slice b2 u7.length d2) u7.length (u7.flatMap mg)::Own 11 (.slice b1 xi.length d1) xi.length (xi.flatMap mS)::L) w) (fun q=>xo.length - q) (0) ?_ ?_
 · exact⟨_,none,0,aD ⟨rfl,rfl,rfl,rfl,rfl,rfl,rfl,trivial⟩,Nat.zero_le _,h.bB 8 none⟩
 clear h;rintro q env w ⟨j,b3,d3,rfl,hq,h⟩;refine qI (fun Ie=> ?_) (fun Ie=> ?_)
 ·
  have aA:∃y,xo[q]? =some y:=⟨_,List.getElem?_eq_getElem (show q<xo.length by omega)⟩;obtain⟨y,hy⟩:=aA;obtain⟨⟨y1,y2,⟨y3,y4,y5,y6,y7⟩,y8⟩,yv⟩:=y;have aA:=QI _ hy;obtain⟨yx,yc,Wl⟩:=aA;simp only at Wl;subst Wl;have aA:=hn3 (by omega);obtain⟨bz,oz,rfl⟩:=aA;refine qG fun w h=> ?_;refine X.lc rfl ((h.aO C3).elem (i:=q) (vs:=[.int .i64 y1,.int .u64 (y2:Int),.int .i64 y3,.int .i64 y4,.int .i64 y5,.slice yx y6.length yc,.int .i64 y7,.int .i64 y8]) (by omega) (aF kN 8 eP xo _ _ hy) 0 _ rfl) ?_;refine qD ?_;refine X.lc rfl ((h.aO C3).elem (i:=q) (vs:=[.int .i64 y1,.int .u64 (y2:Int),.int .i64 y3,.int .i64 y4,.int .i64 y5,.slice yx y6.length yc,.int .i64 y7,.int .i64 y8]) (by omega) (aF kN 8 eP xo _ _ hy) 1 _ rfl) ?_;refine qD ?_;refine X.lr rfl (qF (pre:=[.int .i64 y1,.int .u64 (y2:Int)]) (vs:=[.int .i64 y3,.int .i64 y4,.int .i64 y5,.slice yx y6.length yc,.int .i64 y7]) (post:=[.int .i64 y8]) ((h.aO C3).elem (i:=q) (vs:=[.int .i64 y1,.int .u64 (y2:Int),.int .i64 y3,.int .i64 y4,.int .i64 y5,.slice yx y6.length yc,.int .i64 y7,.int .i64 y8]) (by omega) (aF kN 8 eP xo _ _ hy))) rfl ?_;refine qD ?_;refine X.lc rfl ((h.aO C3).elem (i:=q) (vs:=[.int .i64 y1,.int .u64 (y2:Int),.int .i64 y3,.int .i64 y4,.int .i64 y5,.slice yx y6.length yc,.int .i64 y7,.int .i64 y8]) (by omega) (aF kN 8 eP xo _ _ hy) 7 _ rfl) ?_;refine qD ?_;refine X.e (aZ (zl:=[.int .i64 0,.int .u64 0,.int .i64 0,.int .i64 0,.int .i64 0,.slice none 0 0,.int .i64 0,.int .i64 0]) (out:=[.int .i64 _,.int .u64 _,.int .i64 _,.int .i64 _,.int .i64 _,.slice _ _ _,.int .i64 _,.int .i64 _]) h underlying86 sizeOf127 zeroValue127 (by decide) (by kernel_rfl) rfl rfl (by simp) fz rfl rfl (by simp[maxLen])) ?_;rintro _ w ⟨b98,rfl,h⟩;refine X.e (bU (bytes:=80) h rfl rfl (h.aR) underlying86 rfl rfl rfl rfl rfl (by omega) (by omega) (by simp[Value.oneCell'])) ?_;rintro _ w ⟨a99,c99,rfl,h⟩;refine qD ?_;have e:(xo.take q).flatMap kN++[.int .i64 y1,.int .u64 (y2:Int),.int .i64 y3,.int .i64 y4,.int .i64 y5,.slice yx y6.length yc,.int .i64 y7,.int .i64 y8]=(xo.take (q+1)).flatMap kN:=by rw[List.take_add_one,hy,List.flatMap_append];rfl
  rw[e] at h;exact⟨q+1,⟨_,a99,c99,aD ⟨rfl,rfl,rfl,rfl,rfl,rfl,rfl,trivial⟩,by omega,h.to⟩,by show xo.length - (q+1)<xo.length - q;omega⟩
 have aA:q=xo.length:=by omega
 obtain rfl:=aA;rw[List.take_length] at h;refine qR ?_;exact⟨b1,d1,b2,d2,b3,d3,rfl,h.to⟩
end Go.Proofs.YtcplmndikhjehaaGreat
namespace Go.Proofs.YtcplmndikhjehaaGreat
open Go.Proofs.Tryz
open Go Go.Sl Go.Sl.BitM Go.Sl.zh Go.Sl.uf Go.Sl.eM Go.Sl.gW
set_option maxHeartbeats 0
set_option maxRecDepth 8000
variable{ax:Option Addr}{b cx n p q:Nat}{bs:List UInt8}
variable{W0 w:World}{L F:List aC}
theorem NH{l:List UInt8}{o k:Nat}{x:UInt8}(hx:bs[k]? =some x)(h:o+bs.length≤l.length):(qa l o (bs.take k)).set (o+k) x=qa l o (bs.take (k+1)):=by
 have hk:=(List.getElem?_eq_some_iff.1 hx).1;have l1:(bs.take k).length=k:=by rw[List.length_take];omega
 have l2:(bs.take (k+1)).length=k+1:=by rw[List.length_take];omega
 have h1:=sG (l:=l) (o:=o) (bs:=bs.take k) (by omega);apply List.ext_getElem?;intro j;rw[List.getElem?_set,Gt (by omega),Gt (by omega),l1,l2];by_cases e:o+k=j
 · subst e
   rw[if_pos rfl,if_pos (by omega),if_pos (by omega),List.getElem?_take,if_pos (by omega),show o+k - o=k by omega,hx]
 rw[if_neg e];by_cases e2:o≤j∧j<o+k
 · rw[if_pos e2,if_pos (by omega),List.getElem?_take,List.getElem?_take,if_pos (by omega),if_pos (by omega)]
 rw[if_neg e2,if_neg (by omega)]
theorem J8{l:List UInt8}{i:Nat}{x:UInt8}:(aL l).set i (.int .u8 ((x.toNat:Nat):Int))=aL (l.set i x):=by
 unfold aL;rw[List.map_set]
theorem DY(uI:1≤n)(hn:n≤1024)(h:On W0 L w):Cs 235 [.int .i64 (n:Int)] w fun v w'=>∃a c,v=.slice a (List.replicate ((n+7) / 8) (0:UInt8)).length c∧On W0 (bC (.slice a (List.replicate ((n+7) / 8) (0:UInt8)).length c) (List.replicate ((n+7) / 8) 0)::L) w':=by
 refine qO ?_;have fH:=aG;refine go ?_;refine WL.v (dB rfl rfl (by omega)) ?_;refine go ?_;refine WL.v (eV rfl rfl (by omega)) ?_;refine qN ?_;refine WL.v (gK (m:=n) (n:=7) rfl rfl (by omega)) ?_;refine WL.v (gM (m:=n+7) (n:=8) rfl rfl (by omega) (by omega)) ?_;refine WL.e (kR (bytes:=1) h (by rfl) (by rfl) underlying28 rfl rfl rfl rfl rfl (by omega) (by omega)) ?_;rintro _ w ⟨Gq,rfl,h⟩;refine qR ?_;have e1:aL (List.replicate ((n+7) / 8) 0)=List.replicate ((n+7) / 8) (.int .u8 0):=by simp[aL,tY]
 rw[List.length_replicate];refine⟨_,_,rfl, ?_⟩;unfold bC;rw[e1,List.length_replicate];exact h.to
theorem NI{i:Nat}(h:On W0 L w)(C:aB L (Cells 1 (.slice ax n cx) n (aL bs)))(S7:bs.length=n)(hb:n≤1000)(hi:i≤100000):Cs 332 [.slice ax n cx,.int .i64 (i:Int)] w fun v w'=>(∃b,v=.bool b)∧On W0 L w':=by
 refine qO ?_;refine qE ?_;refine WL.v (gM (m:=i) (n:=8) rfl rfl (by omega) (by omega)) ?_;refine go ?_;refine WL.q (cH rfl rfl) (fun nB=> ?_) (fun nB=> ?_)
 · refine qD ?_;have CC:=h.aO C;have ha:=CC.addr (by omega);obtain⟨bq,oq,B9⟩:=ha;subst B9;have hx:∃x,bs[i / 8]? =some x:=⟨bs[i / 8]'(by omega),by simp⟩;obtain⟨x,hx⟩:=hx;have PF:=x.toNat_lt;refine go ?_;refine WL.v (gM (m:=i) (n:=8) rfl rfl (by omega) (by omega)) ?_;refine qD ?_;refine WL.l isAgg5 rfl ((h.aO C).elem (i:=i / 8) (vs:=[.int .u8 x.toNat]) (by omega) (dJ hx) 0 _ rfl) ?_;refine go ?_;refine WL.v (mz (m:=i) (n:=8) rfl rfl (by omega)) ?_;refine qD ?_;refine WL.v (jb (j:=i % 8) rfl rfl (by show i % 8≤8;omega)) ?_;refine WL.v (jc (n:=1) 1 rfl rfl (by show((x.toNat / 2^(i % 8):Nat):Int)≤255;have:=Nat.div_le_self x.toNat (2^(i % 8));omega) (by decide) rfl) ?_;refine qD ?_;refine qR ?_;exact⟨⟨_,rfl⟩,h⟩
 refine qR ?_;exact⟨⟨_,rfl⟩,h⟩
theorem NJ{s:Bool}(h:On W0 L w)(C:aB L (Bytes (.slice ax bs.length cx) bs))(hb:bs.length≤1000)(hp:p≤10000)(hq:q≤10000):Cs 297 [.slice ax bs.length cx,.int .i64 (p:Int),.int .i64 (q:Int),.bool s] w fun v w'=>∃a c z,∃mm:List UInt8,mm.length=bs.length∧v=.tuple #[.slice a mm.length c,.int .i64 z]∧On W0 (bC (.slice a mm.length c) mm::L) w':=by
 refine qO ?_;have fH:=aG;have VK:=Cells.bounds (h.aO C);obtain⟨yg,IT⟩:=VK;refine go ?_;refine WL.e (aZ (out:=[]) h underlying28 sizeOf5 zeroValue5 (by decide) (by simp) rfl rfl (by simp) trivial rfl rfl (by simp[maxLen])) ?_;rintro _ w ⟨C6,rfl,h⟩;refine go ?_;refine WL.e (mj (bytes:=1) h rfl rfl (h.aO (C)) underlying28 rfl rfl rfl rfl rfl (by omega) (by omega) cR) ?_;rintro _ w ⟨tu,kY,rfl,h⟩;refine qE ?_;refine W.lN rfl (fun c3=> ?_) (fun c3=> ?_)
 · refine qR ?_;exact⟨tu,kY,0,bs,rfl,rfl,h.to⟩
 refine go ?_;refine W.loop (fun(k:Nat) env w=>∃(j:Env) (mm:List UInt8) (z:Nat),env=eu j [(1,.int .i64 (p:Int)),(2,.int .i64 (q:Int)),(3,.bool s),(10,.slice tu bs.length kY),(11,.int .i64 (z:Int)),(12,.int .i64 ((p+k:Nat):Int))]∧mm.length=bs.length∧z≤k∧On W0 (Own 1 (.slice tu bs.length kY) bs.length (aL mm)::L) w) (fun k=>8*bs.length - (p+k)) (0) ?_ ?_
 · exact⟨_,bs,0,aD ⟨rfl,rfl,rfl,rfl,rfl,rfl,trivial⟩,rfl,Nat.zero_le _,h.to⟩
 rintro k env w ⟨j,mm,z,rfl,H7,hz,h⟩;refine go ?_;refine WL.v (dr (m:=8) (n:=bs.length) rfl rfl (by omega)) ?_;refine WL.q (cH rfl rfl) (fun Ie=> ?_) (fun Ie=> ?_)
 ·
  refine qI (fun nB=> ?_) (fun nB=> ?_)
  ·
   refine qC ?_ (C:=NI h (aB.cF) H7 (by omega) (by omega));rintro _ w ⟨⟨b40,rfl⟩,h⟩;refine go ?_;refine WL.v (x9 underlying4 rfl rfl) ?_;refine qI (fun tq=> ?_) (fun tq=> ?_)
   ·
    refine W.seq ?_;have ha:=Own.addr h (by omega);obtain⟨bq,oq,B9⟩:=ha;subst B9;have hx:∃x,mm[(p+k) / 8]? =some x:=⟨mm[(p+k) / 8]'(by omega),by simp⟩;obtain⟨x,hx⟩:=hx;have PF:=x.toNat_lt;have vJ:1*2^((p+k) % 8)≤255:=by have:=Nat.pow_le_pow_right (n:=2) (by omega) (show(p+k) % 8≤7 by omega);omega
    have hxr:=PC x (show(p+k) % 8<8 by omega);rw[←Nat.one_mul (2^((p+k) % 8))] at hxr;refine go ?_;refine WL.v (gM (m:=p+k) (n:=8) rfl rfl (by omega) (by omega)) ?_;refine go ?_;refine WL.v (gM (m:=p+k) (n:=8) rfl rfl (by omega) (by omega)) ?_;refine qD ?_;refine WL.l isAgg5 rfl ((h.aR (v:=.slice (some ⟨bq,oq,none⟩) bs.length kY)).elem (i:=(p+k) / 8) (vs:=[.int .u8 x.toNat]) (by omega) (dJ hx) 0 _ rfl) ?_;refine go ?_;refine WL.v (mz (m:=p+k) (n:=8) rfl rfl (by omega)) ?_;refine qD ?_;refine WL.v (mq (m:=1) (j:=(p+k) % 8) rfl rfl (by show(p+k) % 8≤8;omega) (by show _≤(255:Int);omega)) ?_;refine WL.v (pR rfl rfl (by show _≤(255:Int);omega) (by show _≤(255:Int);omega) (by show _≤(255:Int);omega)) ?_;refine qD ?_;refine WL.e (kS (k:=(p+k) / 8*1) (v:=.int .u8 _) h sizeOf5 rfl rfl rfl (by omega)) ?_;rintro _ w h;rw[Nat.mul_one,yu hx] at h;refine qD ?_;exact⟨k+1,⟨_,flip mm (p+k),z+1,aD ⟨rfl,rfl,rfl,rfl,rfl,rfl,trivial⟩,by rw[yq,H7],by omega,h.to⟩,by show 8*bs.length - (p+(k+1))<8*bs.length - (p+k);omega⟩
   refine qD ?_;exact⟨k+1,⟨_,mm,z,aD ⟨rfl,rfl,rfl,rfl,rfl,rfl,trivial⟩,H7,by omega,h.to⟩,by show 8*bs.length - (p+(k+1))<8*bs.length - (p+k);omega⟩
  refine qR ?_;refine⟨tu,kY,(z:Int),mm,H7, ?_, ?_⟩
  · rw[H7]
  unfold bC;rw[H7];exact h.to
 refine qD ?_;refine qR ?_;refine⟨tu,kY,(z:Int),mm,H7, ?_, ?_⟩
 · rw[H7]
 unfold bC;rw[H7];exact h.to
theorem wP{N:Nat}{cs:List Value}{e:Nat}{fr:Nat×Nat}{at_ n:Int}(hN:N≤1024)(h:On W0 L w)[dQ L b (.int .i64 (N:Int)::cs) e fr]:Cs 238 [b,.int .i64 at_,.int .i64 n] w fun v w'=>((v=.bool true∧0≤n∧n≤32∧0≤at_∧at_≤N∧n≤N - at_)∨(v=.bool false∧¬(0≤n∧n≤32∧0≤at_∧at_≤N∧n≤N - at_)))∧On W0 L w':=by
 refine qO ?_;refine go ?_;refine WL.q (eA rfl rfl) (fun c8=> ?_) (fun c8=> ?_)
 ·
  refine go ?_;refine WL.q (jR rfl rfl) (fun ou=> ?_) (fun ou=> ?_)
  ·
   refine qN ?_;refine WL.q (eA rfl rfl) (fun kY=> ?_) (fun kY=> ?_)
   ·
    refine qN ?_;refine WL.q (jR rfl rfl) (fun wX=> ?_) (fun wX=> ?_)
    ·
     refine qN ?_;refine WL.v (iq rfl rfl (by omega) (by omega)) ?_;refine WL.q (jR rfl rfl) (fun rO=> ?_) (fun rO=> ?_)
     · refine qR ?_;exact⟨.inl ⟨rfl,by omega,by omega,by omega,by omega,by omega⟩,h⟩
     refine qR ?_;exact⟨.inr ⟨rfl,by omega⟩,h⟩
    refine qR ?_;exact⟨.inr ⟨rfl,by omega⟩,h⟩
   refine qR ?_;exact⟨.inr ⟨rfl,by omega⟩,h⟩
  refine qR ?_;exact⟨.inr ⟨rfl,by omega⟩,h⟩
 refine qR ?_;exact⟨.inr ⟨rfl,by omega⟩,h⟩
theorem J9{s:Sp}{pc:gR}(Sz:p+q≤s.N)(hq:q≤32)(h:On W0 (gY 293 b pc s::cO pc::L) w):Cs 239 [b,.int .i64 (p:Int),.int .i64 (q:Int)] w fun v w'=>∃a c,v=.tuple #[.slice a (bH s p q).length c,.int .i64 0]∧On W0 (bC (.slice a (bH s p q).length c) (bH s p q)::gY 293 b pc s::cO pc::L) w':=by
 refine qO ?_;have fH:=aG;have ho:=kZ h;obtain⟨bv,mv,m,lf,h⟩:=ho;have RI:=lf;obtain⟨vi,Tx,hmv,yd⟩:=RI;have Ji:=vi;obtain⟨IA,NQ,Gu,Jh⟩:=Ji;have CB:aB (cO pc::L) (Bytes bv s.d):=aB.wI Tx;have CM:aB (cO pc::L) (Bytes mv m):=aB.wI hmv;have fB:=(h.aO CB).form;obtain⟨ab,cb,wV,Ga,VJ,_⟩:=fB;have fM:=(h.aO CM).form;obtain⟨am,cm,Ek,Ia,yw,_⟩:=fM;subst wV;subst Ek;refine qC ?_ (C:=wP Gu h);rintro _ w ⟨hv,h⟩;rcases hv with⟨hv,_⟩|⟨_,dX⟩;rotate_left
 · exact absurd (show _ by omega) dX
 subst hv;refine WL.v (cQ rfl) ?_;refine go ?_;refine W.cs ?_;refine W.seq ?_;have eY:=kr (l:=p*8) (h:=(p+q)*8) CB Ga (by omega) (by omega);obtain⟨a',c',eY,gC⟩:=eY;have Xa:(s.d.drop (p*8)).take ((p+q)*8 - p*8)=bH s p q:=by unfold bH;rw[Nat.mul_comm p 8,show(p+q)*8 - 8*p=8*q by omega]
 rw[Xa] at eY gC;have ja:(bH s p q).length=8*q:=by unfold bH;rw[List.length_take,List.length_drop];omega
 refine go ?_;refine WL.e (aZ (out:=[]) h underlying28 sizeOf5 zeroValue5 (by decide) (by simp) rfl rfl (by simp) trivial rfl rfl (by simp[maxLen])) ?_;rintro _ w ⟨C6,rfl,h⟩;refine go ?_;refine WL.v (dr (m:=p) (n:=8) rfl rfl (by omega)) ?_;refine qN ?_;refine WL.v (dr (m:=p+q) (n:=8) rfl rfl (by omega)) ?_;refine WL.v (nO (l:=p*8) (h:=(p+q)*8) underlying28 sizeOf5 rfl rfl rfl (by omega) (by omega) eY) ?_;refine WL.e (mj (bytes:=1) h rfl rfl (h.aO (gC)) underlying28 rfl rfl rfl rfl rfl (by omega) (by omega) cR) ?_;rintro _ w ⟨a25,Fy,rfl,h⟩;refine qR ?_;exact⟨a25,Fy,rfl,(eH lf (h.aj (aX b [.int .i64 (s.N:Int),.slice ab s.d.length cb,.slice am m.length cm] 293))).to⟩
theorem yT{s:Sp}{pc:gR}(h8:bs.length % 8=0)(Sz:p+bs.length / 8≤s.N)(hq:bs.length / 8≤32)(h:On W0 (gY 293 b pc s::cO pc::L) w)(C:aB L (Bytes (.slice ax bs.length cx) bs)):Cs 240 [b,.int .i64 (p:Int),.slice ax bs.length cx] w fun v w'=>∃lX,q9 pc lX∧v=.int .i64 0∧On W0 (gY 293 b lX (fh s p bs)::cO lX::L) w':=by
 refine qO ?_;have fH:=aG;have ho:=kZ h;obtain⟨bv,mv,m,lf,h⟩:=ho;have RI:=lf;obtain⟨vi,Tx,hmv,yd⟩:=RI;have Ji:=vi;obtain⟨IA,NQ,Gu,Jh⟩:=Ji;have CB:aB (cO pc::L) (Bytes bv s.d):=aB.wI Tx;have CM:aB (cO pc::L) (Bytes mv m):=aB.wI hmv;have fB:=(h.aO CB).form;obtain⟨ab,cb,wV,Ga,VJ,_⟩:=fB;have fM:=(h.aO CM).form;obtain⟨am,cm,Ek,Ia,yw,_⟩:=fM;subst wV;subst Ek;have VK:=Cells.bounds (h.aO C);obtain⟨yg,IT⟩:=VK;refine go ?_;refine WL.v (gM (m:=bs.length) (n:=8) rfl rfl (by omega) (by omega)) ?_;refine go ?_;refine WL.v (mz (m:=bs.length) (n:=8) rfl rfl (by omega)) ?_;refine WL.v (bY rfl rfl (by omega)) ?_;refine qC ?_ (C:=wP Gu h);rintro _ w ⟨hv,h⟩;rcases hv with⟨hv,_⟩|⟨_,dX⟩;rotate_left
 · exact absurd (show _ by omega) dX
 subst hv;refine qD ?_;refine WL.e (aZ (out:=[]) h underlying28 sizeOf5 zeroValue5 (by decide) (by simp) rfl rfl (by simp) trivial rfl rfl (by simp[maxLen])) ?_;rintro _ w ⟨b24,rfl,h⟩;refine go ?_;refine WL.e (mj (bytes:=1) h rfl rfl (h.aO (CB)) underlying28 rfl rfl rfl rfl rfl (by omega) (by omega) cR) ?_;rintro _ w ⟨Zh,Zi,rfl,h⟩;refine go ?_;refine W.loop (fun(k:Nat) env w=>k≤bs.length∧∃j,env=eu j [(0,b),(1,.int .i64 (p:Int)),(2,.slice ax bs.length cx),(7,.int .i64 ((bs.length / 8:Nat):Int)),(8,.slice Zh s.d.length Zi),(9,.int .i64 (k:Int))]∧On W0 (Own 1 (.slice Zh s.d.length Zi) s.d.length (aL (qa s.d (8*p) (bs.take k)))::aX b [.int .i64 (s.N:Int),.slice ab s.d.length cb,.slice am m.length cm] 293::cO pc::L) w) (fun k=>bs.length - k) (0) ?_ ?_
 · have e0:qa s.d (8*p) (bs.take 0)=s.d:=by rw[List.take_zero,AY]
   exact⟨Nat.zero_le _,_,aD ⟨rfl,rfl,rfl,rfl,rfl,rfl,trivial⟩,by rw[e0];exact h.to⟩
 rintro k env w ⟨hk,j,rfl,h⟩;refine qI (fun nB=> ?_) (fun nB=> ?_)
 ·
  refine W.skip ?_;refine W.seq ?_;have Ef:k<bs.length:=by omega
  have hx:∃x,bs[k]? =some x:=⟨bs[k]'(by omega),by simp⟩;obtain⟨x,hx⟩:=hx;have CC:=h.aO C;have ha:=CC.addr (by omega);obtain⟨bx,ox,hax⟩:=ha;subst hax;have ha:=Own.addr h (by omega);obtain⟨bq,oq,B9⟩:=ha;subst B9;refine go ?_;refine WL.v (dr (m:=p) (n:=8) rfl rfl (by omega)) ?_;refine qN ?_;refine WL.l isAgg5 rfl ((h.aO C).elem (i:=k) (vs:=[.int .u8 x.toNat]) (by omega) (dJ hx) 0 _ rfl) ?_;refine qD ?_;refine WL.e (kS (k:=(p*8+k)*1) (v:=.int .u8 (x.toNat:Int)) h sizeOf5 rfl rfl rfl (by omega)) ?_;rintro _ w h;rw[Nat.mul_one,J8,Nat.mul_comm p 8,NH hx (by omega)] at h;refine qD ?_;exact⟨k+1,⟨by omega,_,aD ⟨rfl,rfl,rfl,rfl,rfl,rfl,trivial⟩,h.to⟩,by show bs.length - (k+1)<bs.length - k;omega⟩
 refine W.exit ?_;refine W.seq ?_;have hke:k=bs.length:=by omega
 have ah7:qa s.d (8*p) (bs.take k)=(fh s p bs).d:=by rw[hke,List.take_length];rfl
 rw[ah7] at h;have hdd:(fh s p bs).d.length=s.d.length:=sG (by omega);refine go ?_;refine WL.e (bI (v:=.slice Zh s.d.length Zi) (h.aj (aX b [.int .i64 (s.N:Int),.slice ab s.d.length cb,.slice am m.length cm] 293)) sizeOf28 rfl rfl rfl rfl rfl) ?_;rintro _ w h;have h:On W0 (aX b [.int .i64 (s.N:Int),.slice Zh s.d.length Zi,.slice am m.length cm] 293::_) w:=h;refine qC ?_ (C:=NJ h (aB.to CM) (by omega) (by omega) (by omega));rintro _ w ⟨OT,H9,z58,mm,H7,rfl,h⟩;refine go ?_;refine WL.e (bI (v:=.slice OT mm.length H9) (h.aj (aX b [.int .i64 (s.N:Int),.slice Zh s.d.length Zi,.slice am m.length cm] 293)) sizeOf28 rfl rfl rfl rfl rfl) ?_;rintro _ w h;have h:On W0 (aX b [.int .i64 (s.N:Int),.slice Zh s.d.length Zi,.slice OT mm.length H9] 293::_) w:=h;refine qR ?_;have hx:=E8 (L:=L) (T:=293) (b:=b) (pc:=pc) (v1:=.slice Zh s.d.length Zi) (v2:=.slice OT mm.length H9) (mm:=mm) (N:=s.N) (Dh vi (by omega)) rfl rfl hdd (by omega) h.to;obtain⟨wQ,m7,h⟩:=hx;exact⟨wQ,m7,rfl,h⟩
theorem Cy{s:Sp}{pc:gR}(hlq:bs.length=16*q)(Sz:p+q≤s.N)(hq:q≤32)(h:On W0 (gY 293 b pc s::cO pc::L) w)(C:aB L (Bytes (.slice ax bs.length cx) bs)):Cs 242 [b,.int .i64 (p:Int),.slice ax bs.length cx] w fun v w'=>(∃lX,q9 pc lX∧bH s p q=bs.take (8*q)∧v=.tuple #[.int .i64 (-1),.int .i64 0]∧On W0 (gY 293 b lX (fh s p (bs.drop (8*q)))::cO lX::L) w')∨(∃i:Nat,i<8*q∧(bH s p q)[i]? ≠bs[i]? ∧(∀j,j<i→(bH s p q)[j]? =bs[j]?)∧v=.tuple #[.int .i64 (i:Int),.int .i64 0]∧On W0 (gY 293 b pc s::cO pc::L) w'):=by
 refine qO ?_;have fH:=aG;have ho:=kZ h;obtain⟨bv,mv,m,lf,h⟩:=ho;have RI:=lf;obtain⟨vi,Tx,hmv,yd⟩:=RI;have Ji:=vi;obtain⟨IA,NQ,Gu,Jh⟩:=Ji;have CB:aB (cO pc::L) (Bytes bv s.d):=aB.wI Tx;have CM:aB (cO pc::L) (Bytes mv m):=aB.wI hmv;have fB:=(h.aO CB).form;obtain⟨ab,cb,wV,Ga,VJ,_⟩:=fB;have fM:=(h.aO CM).form;obtain⟨am,cm,Ek,Ia,yw,_⟩:=fM;subst wV;subst Ek;have VK:=Cells.bounds (h.aO C);obtain⟨yg,IT⟩:=VK;have TD:bs.length / 8 / 2=q:=by omega
 have ja:(bH s p q).length=8*q:=by unfold bH;rw[List.length_take,List.length_drop];omega
 refine go ?_;refine WL.v (gM (m:=bs.length) (n:=8) rfl rfl (by omega) (by omega)) ?_;refine WL.v (gM (m:=bs.length / 8) (n:=2) rfl rfl (by omega) (by omega)) ?_;refine go ?_;refine WL.v (mz (m:=bs.length) (n:=16) rfl rfl (by omega)) ?_;refine WL.v (bY rfl rfl (by omega)) ?_;refine qC ?_ (C:=wP Gu h);rintro _ w ⟨hv,h⟩;rcases hv with⟨hv,_⟩|⟨_,dX⟩;rotate_left
 · exact absurd (show _ by omega) dX
 subst hv;refine qD ?_;refine W.loop (fun(k:Nat) env w=>k≤8*q∧∃j,env=eu j [(0,b),(1,.int .i64 (p:Int)),(2,.slice ax bs.length cx),(8,.int .i64 (q:Int)),(9,.int .i64 (k:Int))]∧(∀j,j<k→(bH s p q)[j]? =bs[j]?)∧On W0 (aX b [.int .i64 (s.N:Int),.slice ab s.d.length cb,.slice am m.length cm] 293::cO pc::L) w) (fun k=>8*q - k) (0) ?_ ?_
 · exact⟨Nat.zero_le _,_,aD ⟨rfl,rfl,rfl,(by show Value.int .i64 ((bs.length / 8 / 2:Nat):Int)=_;rw[TD]),rfl,trivial⟩,(fun j hj=>by omega),h⟩
 rintro k env w ⟨hk,j,rfl,vT,h⟩;refine go ?_;refine WL.v (dr (m:=q) (n:=8) rfl rfl (by omega)) ?_;refine qI (fun ou=> ?_) (fun ou=> ?_)
 ·
  refine W.skip ?_;refine W.seq ?_;have Ef:k<8*q:=by omega
  have hx:∃x,(bH s p q)[k]? =some x:=⟨(bH s p q)[k]'(by omega),by simp⟩;obtain⟨x,hx⟩:=hx
  have wW:s.d[p*8+k]? =some x:=by
    have Yk:=hx;unfold bH at Yk;rw[List.getElem?_take,if_pos Ef,List.getElem?_drop,Nat.mul_comm 8 p] at Yk;exact Yk
  have hy:∃y,bs[k]? =some y:=⟨bs[k]'(by omega),by simp⟩;obtain⟨y,hy⟩:=hy;have CC:=h.aO C;have ha:=CC.addr (by omega);obtain⟨bx,ox,hax⟩:=ha;subst hax;have CC:=h.aO CB;have ha:=CC.addr (by omega);obtain⟨bq,oq,B9⟩:=ha;subst B9;refine qG fun w h=> ?_;refine X.v (fun _=>(dr (m:=p) (n:=8) rfl rfl (by omega))) ?_;refine qN ?_;refine X.lc rfl ((h.aO CB).elem (i:=p*8+k) (vs:=[.int .u8 x.toNat]) (by omega) (dJ wW) 0 _ rfl) ?_;refine qD ?_;refine X.lc rfl ((h.aO C).elem (i:=k) (vs:=[.int .u8 y.toNat]) (by omega) (dJ hy) 0 _ rfl) ?_;refine qI (fun oM=> ?_) (fun oM=> ?_)
  · refine qR ?_;refine .inr ⟨k,Ef, ?_,vT,rfl,(eH lf h.g).to⟩;rw[hx,hy];intro hh;simp only[Option.some.injEq] at hh;subst hh;exact oM rfl
  refine qD ?_
  exact ⟨k + 1, ⟨by omega, _, aD ⟨rfl, rfl, rfl, rfl, rfl, trivial⟩, (fun j hj => by
    by_cases SW:j=k
    · subst SW;rw[hx,hy];congr 1;exact UInt8.toNat_inj.1 (by omega)
    exact vT j (by omega)), h⟩, by show 8 * q - (k + 1) < 8 * q - k; omega⟩
 refine W.exit ?_;refine W.seq ?_;have hke:k=8*q:=by omega
 have ny:bH s p q=bs.take (8*q):=by
   have:=Di (k:=8*q) (fun j hj=>vT j (by omega)) (by omega);exact this
 have hcg:=lR (k:=q*8) C (by omega) yg;obtain⟨a',c',eY,CC⟩:=hcg;rw[Nat.mul_comm q 8] at CC;rw[show(bs.drop (q*8)).length=(bs.drop (8*q)).length by rw[Nat.mul_comm]] at eY;have oA:(bs.drop (8*q)).length=8*q:=by rw[List.length_drop];omega
 refine go ?_;refine WL.v (dr (m:=q) (n:=8) rfl rfl (by omega)) ?_;refine WL.v (iP underlying28 sizeOf5 rfl rfl (by omega) eY) ?_;refine WL.e (ag call240 (yT (by omega) (by omega) (by omega) ((eH lf h.g)) CC)) ?_;rintro _ w ⟨wQ,m7,rfl,h⟩;refine qR ?_;exact .inl ⟨wQ,m7,ny,rfl,h⟩
theorem RJ{pc:gR}(uI:1≤n)(hn:n≤1024)(h:On W0 (cO pc::L) w):Cs 161 [.int .i64 (n:Int)] w fun v w'=>∃lX b,q9 pc lX∧v=.tuple #[.pointer (some ⟨b,0,none⟩),.int .i64 0]∧On W0 (gY 293 b lX (sH n)::cO lX::L) w':=by
 refine qO ?_;have fH:=aG;refine qE ?_;refine qT fun w h=> ?_;refine WT.p 2 rfl (fun w'=>(dr (m:=n) (n:=8) rfl rfl (by omega))) ?_;refine WT.m 4 rfl ?_;refine WT.two 3 5 (by kernel_rfl) ?_ ?_
 ·
  refine WT.ju 3 [] rfl (by kernel_rfl) (kR (bytes:=1) h (by rfl) (by rfl) underlying28 rfl rfl rfl rfl rfl (by omega) (by omega)) rfl rfl ?_;rintro _ w ⟨C6,rfl,h⟩;refine⟨trivial, ?_⟩;refine WT.e 5 [] rfl (ag call235 (DY (by omega) (by omega) h)) ?_;rintro _ w ⟨tu,kY,rfl,h⟩;refine⟨trivial, ?_⟩;refine WT.p 6 rfl (fun w'=>(aP (pl:=[(0,1),(1,1),(2,1)]) (out:=[.int .i64 _,.slice _ _ _,.slice _ _ _]) underlying293 zeroValue293 (fun w=>by kernel_rfl) rfl fz rfl)) ?_;refine WT.e 7 [] rfl (fc h rfl rfl) ?_;rintro _ w ⟨B7,rfl,h⟩;refine⟨trivial, ?_⟩;refine qU ?_;refine qR ?_;have eB:List.replicate (n*8) (Value.int .u8 0)=aL (List.replicate (8*n) 0):=by rw[Nat.mul_comm];simp[aL,tY]
  have lB:(List.replicate (8*n) (0:UInt8)).length=n*8:=by rw[List.length_replicate,Nat.mul_comm]
  have hx:=E8 (L:=L) (T:=293) (b:=B7) (pc:=pc) (v1:=.slice (some ⟨C6,0,none⟩) (n*8) (n*8)) (v2:=.slice tu (List.replicate ((n+7) / 8) (0:UInt8)).length kY) (mm:=List.replicate ((n+7) / 8) 0) (N:=n) (zH uI hn) rfl eB lB (by rw[List.length_replicate];omega) h.to;obtain⟨wQ,m7,h⟩:=hx;exact⟨wQ,B7,m7,rfl,h⟩
 refine WT.ju 5 [] rfl (by kernel_rfl) (ag call235 (DY (by omega) (by omega) h)) rfl rfl ?_;rintro _ w ⟨tu,kY,rfl,h⟩;refine⟨trivial, ?_⟩;refine WT.e 3 [] rfl (kR (bytes:=1) h (by rfl) (by rfl) underlying28 rfl rfl rfl rfl rfl (by omega) (by omega)) ?_;rintro _ w ⟨C6,rfl,h⟩;refine⟨trivial, ?_⟩;refine WT.p 6 rfl (fun w'=>(aP (pl:=[(0,1),(1,1),(2,1)]) (out:=[.int .i64 _,.slice _ _ _,.slice _ _ _]) underlying293 zeroValue293 (fun w=>by kernel_rfl) rfl fz rfl)) ?_;refine WT.e 7 [] rfl (fc h rfl rfl) ?_;rintro _ w ⟨B7,rfl,h⟩;refine⟨trivial, ?_⟩;refine qU ?_;refine qR ?_;have eB:List.replicate (n*8) (Value.int .u8 0)=aL (List.replicate (8*n) 0):=by rw[Nat.mul_comm];simp[aL,tY]
 have lB:(List.replicate (8*n) (0:UInt8)).length=n*8:=by rw[List.length_replicate,Nat.mul_comm]
 have hx:=E8 (L:=L) (T:=293) (b:=B7) (pc:=pc) (v1:=.slice (some ⟨C6,0,none⟩) (n*8) (n*8)) (v2:=.slice tu (List.replicate ((n+7) / 8) (0:UInt8)).length kY) (mm:=List.replicate ((n+7) / 8) 0) (N:=n) (zH uI hn) rfl eB lB (by rw[List.length_replicate];omega) h.to;obtain⟨wQ,m7,h⟩:=hx;exact⟨wQ,B7,m7,rfl,h⟩
end Go.Proofs.YtcplmndikhjehaaGreat
namespace Go.Proofs.YtcplmndikhjehaaGreat
open Go.Proofs.Tryz
open Go Go.Sl Go.Sl.BitM Go.Sl.zh Go.Sl.uf Go.Sl.eM Go.Sl.gW
set_option maxHeartbeats 0
set_option maxRecDepth 8000
variable{W0 w:World}{L F:List aC}
theorem RK(h:On W0 L w):Cs 162 [] w fun v w'=>∃b,v=.pointer (some ⟨b,0,none⟩)∧On W0 (aX b Gv.cells 305::L) w':=by
 refine qO ?_;refine go ?_;refine WL.v (aP (pl:=[(0,8),(8,1),(9,1),(10,1)]) (out:=[.int .u64 _,.int .u64 _,.int .u64 _,.int .u64 _,.int .u64 _,.int .u64 _,.int .u64 _,.int .u64 _,.int .i64 _,.int .i64 _,.int .u32 _]) underlying305 zeroValue305 (fun w=>by kernel_rfl) rfl fz rfl) ?_;refine gb fun b2 w h=> ?_;refine qR ?_;exact⟨_,rfl,h⟩
theorem Ka{b i:Nat}{t:Tb}{kind:Int}(hi:i<8)(hz:t.hold= -1)(h:On W0 (aX b t.cells 305::L) w):Cs 166 [b,.int .i64 (i:Int),.int .i64 kind] w fun v w'=>v=.bool true∧On W0 (aX b t.cells 305::L) w':=by
 refine qO ?_;refine go ?_;refine WL.q (cH rfl rfl) (fun ou=> ?_) (fun ou=> ?_)
 · refine qD ?_;refine qR ?_;exact⟨rfl,h⟩
 omega
theorem DZ{t:Tb}{i:Nat}{kind:Int}(hz:t.hold= -1):EC t i kind=true:=lT.2 (.inl (.inl (by omega)))
end Go.Proofs.YtcplmndikhjehaaGreat
namespace Go.Sl
open Go Go.Lib
section
variable{P:Program}{W0 w:World}{L L':List aC}{ρ:Operand→Value}{d:Option Nat}{ty:TypeId}{pos:String}{af:Array Edge}{g:Option (Nat×Bool)}
end
end Go.Sl
namespace Go.Proofs.YtcplmndikhjehaaGreat
open Go.Proofs.Tryz
open Go Go.Sl Go.Sl.BitM Go.Sl.zh Go.Sl.uf Go.Sl.eM Go.Sl.gW
set_option maxHeartbeats 0
set_option maxRecDepth 8000
variable{W0 w:World}{L F:List aC}
theorem ot{x y:Int}(h:On W0 L w):Cs 163 [.int .i64 x,.int .i64 y] w fun v w'=>v=rep 2 x y∧On W0 L w':=by
 refine qO ?_;refine gb fun b4 w h=> ?_;refine go ?_;refine WL.v (aP (pl:=[(0,1),(1,1),(2,1),(3,1),(4,1)]) (out:=[.int .i64 _,.int .i64 _,.int .i64 _,.slice _ _ _,.int .i64 _]) underlying38 zeroValue38 (fun w=>by kernel_rfl) rfl fz rfl) ?_;refine gs fun w h _=> ?_;refine go ?_;refine W.ret (bf.uA (vs:=[.int .i64 _,.int .i64 _,.int .i64 _,.slice _ _ _,.int .i64 _]) h results163 isAgg38 sizeOf38 rfl rfl rfl ?_);exact⟨rfl,h.tail⟩
theorem Vk{bu i:Nat}{u:Un}{pc:gR}(hi:i<8)(mw:(u.cA i).dN=[])(h:On W0 (m8 286 293 305 bu pc u::cO pc::L) w):Cs 164 [bu,.int .i64 (i:Int)] w fun v w'=>v=.tuple #[(plain 0 0 0).val (.slice none 0 0),.bool false]∧On W0 (m8 286 293 305 bu pc u::cO pc::L) w':=by
 refine qO ?_;have fH:=aG;have ho:=Ho h;obtain⟨bs,bt,xs,lf,h⟩:=ho;have hl8:=E9 lf;have hr:=gW.VP lf hi;obtain⟨x,hx,DS,cD⟩:=hr;have hcd:x.dN=(u.cA i).dN:=congrArg Gs.dN DS;have CW:aB (cO pc::L) (Cells 1 x.wv x.dN.length (cV x.dN)):=aB.wI cD.1;have fW:=(h.aO CW).form;obtain⟨aw,cw,hwv,IA,NQ,_⟩:=fW;have hgw:=Yq (bs:=bs) (bt:=bt) hl8 hx;rw[hwv] at hgw CW;rw[←hcd] at mw;refine gb fun b4 w h=> ?_;refine go ?_;refine WL.v (bg underlying281 sizeOf22 rfl rfl (by omega) (by omega)) ?_;refine WL.l isAgg22 rfl (h.aS hgw) ?_;refine qI (fun c2=> ?_) (fun c2=> ?_)
 · refine qS fun w h _=> ?_;refine go ?_;refine W.ret (bf.rX (vs:=[.int .i64 _,.int .i64 _,.int .i64 _,.slice _ _ _,.int .i64 _]) (v2:=.bool _) h results164 isAgg38 sizeOf38 rfl rfl rfl rfl ?_);exact⟨rfl,(uZ lf (((h.g.aj (aX bt u.t.cells 305)).aj (gY 293 bs pc u.s)).aj (aX bu (fZ bs bt xs) 286))).to⟩
 rw[mw] at c2;exact absurd rfl c2
theorem NK{b:Nat}{s:Sp}{pc:gR}{at_ n:Int}(h:On W0 (gY 293 b pc s::cO pc::L) w):Cs 238 [b,.int .i64 at_,.int .i64 n] w fun v w'=>((v=.bool true∧BT s at_ n)∨(v=.bool false∧¬BT s at_ n))∧On W0 (gY 293 b pc s::cO pc::L) w':=by
 have ho:=kZ h;obtain⟨bv,mv,m,lf,h⟩:=ho
 exact(wP lf.1.2.2.1 h).mono fun e w' he=>by
   obtain⟨v,he,hv⟩:=he;refine⟨v,he, ?_⟩;exact⟨hv.1,eH lf hv.2⟩
theorem va{bu:Nat}{u:Un}{pc:gR}{kind at_ n key new cz:Int}{force:Bool}{data:List UInt8}{ax:Option Addr}{cx:Nat}(xF:kind=2∨kind=3∨kind=6)(h:On W0 (m8 286 293 305 bu pc u::cO pc::L) w)(C:aB L (Bytes (.slice ax data.length cx) data))(hd:data.length≤1000000):Cs 169 [bu,(⟨kind,at_,n,data,key,new,cz,force⟩:Cm).val (.slice ax data.length cx)] w fun v w'=>∃lX s' r dv,runM u.s (⟨kind,at_,n,data,key,new,cz,force⟩:Cm)=(s',r)∧v=r.val dv∧q9 pc lX∧xK lX dv r.data∧On W0 (m8 286 293 305 bu lX (u.mH s')::cO lX::L) w':=by
 refine qO ?_;have vi:=(Hr h).2.2;have hN:=vi.2.2.1;have fH:=aG;have ho:=Ho h;obtain⟨bs,bt,xs,lf,h⟩:=ho;have hl8:=E9 lf;refine go ?_;refine WL.e (fc (l:=(⟨kind,at_,n,data,key,new,cz,force⟩:Cm).cells (.slice ax data.length cx)) h rfl rfl) ?_;rintro _ w ⟨b3,rfl,h⟩;have h:On W0 (aX b3 [.int .i64 kind,.int .i64 at_,.int .i64 n,.slice ax data.length cx,.int .u64 key,.int .u64 new,.int .i64 cz,.bool force] 32::_) w:=h;refine gb fun b4 w h=> ?_;refine qG fun w h=> ?_;refine X.e (ag call238 (NK ((h.aj (cO pc)).aj (gY 293 bs pc u.s)))) ?_;rintro _ w ⟨hv,h⟩;rcases hv with⟨rfl,eD⟩|⟨rfl,eD⟩
 ·
  refine X.v (fun _=>(cQ rfl)) ?_;refine go ?_;refine W.cs ?_;refine W.seq ?_;refine W.seq ?_;have X3:=eD;unfold BT at X3;have hp:=Int.eq_ofNat_of_zero_le (show 0≤at_ by omega);obtain⟨p,hp⟩:=hp;subst hp;have hq:=Int.eq_ofNat_of_zero_le (show 0≤n by omega);obtain⟨q,hq⟩:=hq;subst hq;refine qI (fun c9=> ?_) (fun c9=> ?_)
  · refine qG fun w h=> ?_;refine X.e (ag call239 (J9 (by omega) (by omega) (h.g.aj (gY 293 bs pc u.s)))) ?_;rintro _ w ⟨a33,rO,rfl,h⟩;refine go ?_;refine WL.v (aP (pl:=[(0,1),(1,1),(2,1),(3,1),(4,1)]) (out:=[.int .i64 _,.int .i64 _,.int .i64 _,.slice _ _ _,.int .i64 _]) underlying38 zeroValue38 (fun w=>by kernel_rfl) rfl fz rfl) ?_;refine gs fun w h _=> ?_;refine go ?_;refine W.ret (bf.uA (vs:=[.int .i64 _,.int .i64 _,.int .i64 _,.slice _ _ _,.int .i64 _]) h results169 isAgg38 sizeOf38 rfl rfl rfl ?_);have e2:kind=2:=c9;subst e2;have h:=Bw lf gS (((h.aj (aX bt u.t.cells 305)).aj (gY 293 bs pc u.s)).aj (aX bu (fZ bs bt xs) 286));have hf:=Hq (h.to:On W0 (bC (.slice a33 (bH u.s p q).length rO) (bH u.s p q)::m8 286 293 305 bu pc (u.mH u.s)::cO pc::L) _);obtain⟨wQ,m7,tP,h⟩:=hf;exact⟨wQ,u.s,A3 (bH u.s p q),_,DF rfl eD,rfl,m7,tP,h⟩
  refine qI (fun pW=> ?_) (fun pW=> ?_)
  ·
   refine go ?_;refine WL.v (dr (m:=q) (n:=8) rfl rfl (by omega)) ?_;refine qI (fun oM=> ?_) (fun oM=> ?_)
   · refine qC ?_ (C:=ot h);rintro _ w ⟨rfl,h⟩;refine gs fun w h _=> ?_;refine go ?_;refine W.ret (bf.uA (vs:=[.int .i64 _,.int .i64 _,.int .i64 _,.slice _ _ _,.int .i64 _]) h results169 isAgg38 sizeOf38 rfl rfl rfl ?_);have e3:kind=3:=pW;subst e3;have h:=Bw lf gS (((h.aj (aX bt u.t.cells 305)).aj (gY 293 bs pc u.s)).aj (aX bu (fZ bs bt xs) 286));exact⟨pc,u.s,plain 2 5 9216,.slice none 0 0,(uj eD (by omega)),rfl,gS,lf.2.2.2,h.to⟩
   refine qG fun w h=> ?_;refine X.e (ag call240 (yT (by omega) (by omega) (by omega) (h.g.aj (gY 293 bs pc u.s)) (aB.to C))) ?_;rintro _ w ⟨wQ,m7,rfl,h⟩;refine qS fun w h _=> ?_;refine go ?_;refine W.ret (bf.uA (vs:=[.int .i64 _,.int .i64 _,.int .i64 _,.slice _ _ _,.int .i64 _]) h results169 isAgg38 sizeOf38 rfl rfl rfl ?_);have e3:kind=3:=pW;subst e3;have h:=Bw lf m7 (((h.aj (aX bt u.t.cells 305)).aj (gY 293 bs wQ (fh u.s p data))).aj (aX bu (fZ bs bt xs) 286));exact⟨wQ,(fh u.s p data),plain 0 0 0,.slice none 0 0,(Bk eD (by omega)),rfl,m7,m7 _ lf.2.2.2,h.to⟩
  refine qI (fun CZ=> ?_) (fun CZ=> ?_)
  · omega
  refine qI (fun Fy=> ?_) (fun Fy=> ?_)
  ·
   refine go ?_;refine WL.v (dr (m:=2) (n:=q) rfl rfl (by omega)) ?_;refine WL.v (dr (m:=2*q) (n:=8) rfl rfl (by omega)) ?_;refine qI (fun Jt=> ?_) (fun Jt=> ?_)
   · refine qC ?_ (C:=ot h);rintro _ w ⟨rfl,h⟩;refine gs fun w h _=> ?_;refine go ?_;refine W.ret (bf.uA (vs:=[.int .i64 _,.int .i64 _,.int .i64 _,.slice _ _ _,.int .i64 _]) h results169 isAgg38 sizeOf38 rfl rfl rfl ?_);have e6:kind=6:=Fy;subst e6;have h:=Bw lf gS (((h.aj (aX bt u.t.cells 305)).aj (gY 293 bs pc u.s)).aj (aX bu (fZ bs bt xs) 286));exact⟨pc,u.s,plain 2 5 9216,.slice none 0 0,(yC eD (by omega)),rfl,gS,lf.2.2.2,h.to⟩
   refine qG fun w h=> ?_;refine X.e (ag call242 (Cy (q:=q) (by omega) (by omega) (by omega) (h.g.aj (gY 293 bs pc u.s)) (aB.to C))) ?_;rintro v88 w hv;rcases hv with⟨wQ,m7,ny,rfl,h⟩|⟨k,hk,Cc,zA,rfl,h⟩;rotate_left
   · refine qE ?_;refine gs fun w h _=> ?_;refine go ?_;refine W.ret (bf.uA (vs:=[.int .i64 _,.int .i64 _,.int .i64 _,.slice _ _ _,.int .i64 _]) h results169 isAgg38 sizeOf38 rfl rfl rfl ?_);have e6:kind=6:=Fy;subst e6;have h:=Bw lf gS (((h.aj (aX bt u.t.cells 305)).aj (gY 293 bs pc u.s)).aj (aX bu (fZ bs bt xs) 286));exact⟨pc,u.s,⟨2,14,7424,[],(k:Int)⟩,.slice none 0 0,((wj rfl eD (by omega)).trans (KU vi (by omega) (by omega) hk Cc zA)),rfl,gS,lf.2.2.2,h.to⟩
   refine qE ?_;refine gs fun w h _=> ?_;refine go ?_;refine W.ret (bf.uA (vs:=[.int .i64 _,.int .i64 _,.int .i64 _,.slice _ _ _,.int .i64 _]) h results169 isAgg38 sizeOf38 rfl rfl rfl ?_);have e6:kind=6:=Fy;subst e6;have h:=Bw lf m7 (((h.aj (aX bt u.t.cells 305)).aj (gY 293 bs wQ (fh u.s p (data.drop (8*q))))).aj (aX bu (fZ bs bt xs) 286));exact⟨wQ,(fh u.s p (data.drop (8*q))),plain 0 0 0,.slice none 0 0,((wj rfl eD (by omega)).trans (GV ny)),rfl,m7,m7 _ lf.2.2.2,h.to⟩
  omega
 refine qC ?_ (C:=ot h);rintro _ w ⟨rfl,h⟩;refine gs fun w h _=> ?_;refine go ?_;refine W.ret (bf.uA (vs:=[.int .i64 _,.int .i64 _,.int .i64 _,.slice _ _ _,.int .i64 _]) h results169 isAgg38 sizeOf38 rfl rfl rfl ?_);have h:=Bw lf gS (((h.aj (aX bt u.t.cells 305)).aj (gY 293 bs pc u.s)).aj (aX bu (fZ bs bt xs) 286));exact⟨pc,u.s,plain 2 5 8448,.slice none 0 0,(GU eD),rfl,gS,lf.2.2.2,h.to⟩
theorem RL{n:Nat}{pc:gR}(uI:1≤n)(hn:n≤1024)(h:On W0 (cO pc::L) w):Cs 104 [.int .i64 (n:Int)] w fun v w'=>∃lX bu,q9 pc lX∧v=.tuple #[.pointer (some ⟨bu,0,none⟩),.int .i64 0]∧On W0 (m8 286 293 305 bu lX (pE n)::cO lX::L) w':=by
 refine qO ?_;refine qC ?_ (C:=RJ (n:=n) uI hn h);rintro _ w ⟨wQ,b8,m7,rfl,h⟩;refine qE ?_;refine WL.e (ag call162 (RK h)) ?_;rintro _ w ⟨XQ,rfl,h⟩;refine WL.v (aP (pl:=[(0,1),(1,1),(2,8),(10,8),(18,8)]) (out:=[.pointer _,.pointer _,.slice _ _ _,.slice _ _ _,.slice _ _ _,.slice _ _ _,.slice _ _ _,.slice _ _ _,.slice _ _ _,.slice _ _ _,.int .u64 _,.int .u64 _,.int .u64 _,.int .u64 _,.int .u64 _,.int .u64 _,.int .u64 _,.int .u64 _,.slice _ _ _,.slice _ _ _,.slice _ _ _,.slice _ _ _,.slice _ _ _,.slice _ _ _,.slice _ _ _,.slice _ _ _]) underlying286 zeroValue286 (fun w=>by kernel_rfl) rfl fz rfl) ?_;refine gb fun VQ w h=> ?_;refine qR ?_;have h:On W0 (aX VQ (fZ b8 XQ (List.replicate 8 zRX)) 286::_) w:=h;have h1:=On.wH (show On W0 (Own 1 (.slice none 0 0) 0 []::cO wQ::gY 293 b8 wQ (sH n)::aX XQ Gv.cells 305::aX VQ (fZ b8 XQ (List.replicate 8 zRX)) 286::L) _ from(h.bB 1 none).to);have h2:=On.wH (h1.bB 6 none);have h3:=DL (lX:=(6,.slice none 0 0,0,[])::(1,.slice none 0 0,0,[])::wQ) (kH.trans kH) (h2.aj (gY 293 b8 wQ (sH n)));refine⟨_,VQ,m7.trans (kH.trans kH),rfl,uZ ⟨by rw[List.map_replicate];rfl,by show(List.replicate 8 _).length=8;rw[List.length_replicate],fun y hy=> ?_,List.mem_cons_of_mem _ (List.mem_cons_self ..)⟩ (((h3.aj (aX XQ Gv.cells 305)).aj (gY 293 b8 ((6,.slice none 0 0,0,[])::(1,.slice none 0 0,0,[])::wQ) (sH n))).aj (aX VQ (fZ b8 XQ (List.replicate 8 zRX)) 286))⟩;rw[List.mem_replicate] at hy;obtain⟨_,rfl⟩:=hy;exact⟨List.mem_cons_of_mem _ (List.mem_cons_self ..),List.mem_cons_self ..,fun d hd=>by cases hd⟩
theorem tL{pc:gR}{A:aC}{v:Value}{bs:List UInt8}(h:On W0 (A::cO pc::L) w)(hm:xK pc v bs):∃a c,v=.slice a bs.length c:=by
 have C:=h.reads (aB.wI hm).b;have hf:=C.form;obtain⟨a,c,hv,_⟩:=hf;exact⟨a,c,hv⟩
theorem Zj{bu:Nat}{u:Un}{pc:gR}{hh:Int}{kind at_ n key new cz:Int}{force:Bool}{data:List UInt8}{ax:Option Addr}{cx:Nat}(Ce:∀i,i<8→(u.cA i).dN=[])(N0:u.t.hold= -1)(xF:kind=2∨kind=3∨kind=6)(h:On W0 (m8 286 293 305 bu pc u::cO pc::L) w)(C:aB L (Bytes (.slice ax data.length cx) data))(hd:data.length≤1000000):Cs 105 [bu,.int .i64 hh,(⟨kind,at_,n,data,key,new,cz,force⟩:Cm).val (.slice ax data.length cx)] w fun v w'=>∃lX u' r dv,A6 u hh (⟨kind,at_,n,data,key,new,cz,force⟩:Cm)=(u',r)∧v=r.val dv∧q9 pc lX∧xK lX dv r.data∧On W0 (m8 286 293 305 bu lX u'::cO lX::L) w':=by
 refine qO ?_;have fH:=aG;have hu:=Hr h;obtain⟨mw,hg8,vi⟩:=hu;refine go ?_;refine WL.e (fc (l:=(⟨kind,at_,n,data,key,new,cz,force⟩:Cm).cells (.slice ax data.length cx)) h rfl rfl) ?_;rintro _ w ⟨b5,rfl,h⟩;have h:On W0 (aX b5 [.int .i64 kind,.int .i64 at_,.int .i64 n,.slice ax data.length cx,.int .u64 key,.int .u64 new,.int .i64 cz,.bool force] 32::_) w:=h;refine gb fun b6 w h=> ?_;refine go ?_;refine WL.q (cH rfl rfl) (fun BR=> ?_) (fun BR=> ?_)
 · refine qC ?_ (C:=ot h);rintro _ w ⟨rfl,h⟩;refine gs fun w h _=> ?_;refine go ?_;refine W.ret (bf.uA (vs:=[.int .i64 _,.int .i64 _,.int .i64 _,.slice _ _ _,.int .i64 _]) h results105 isAgg38 sizeOf38 rfl rfl rfl ?_);exact⟨pc,u,plain 2 5 8192,.slice none 0 0,vW (.inl (vU.2 (by omega))),rfl,gS,mw,h.to⟩
 refine go ?_;refine WL.q (eA rfl rfl) (fun Ic=> ?_) (fun Ic=> ?_)
 · refine qC ?_ (C:=ot h);rintro _ w ⟨rfl,h⟩;refine gs fun w h _=> ?_;refine go ?_;refine W.ret (bf.uA (vs:=[.int .i64 _,.int .i64 _,.int .i64 _,.slice _ _ _,.int .i64 _]) h results105 isAgg38 sizeOf38 rfl rfl rfl ?_);exact⟨pc,u,plain 2 5 8192,.slice none 0 0,vW (.inl (vU.2 (by omega))),rfl,gS,mw,h.to⟩
 refine qN ?_;refine WL.q (cH rfl rfl) (fun w9=> ?_) (fun w9=> ?_)
 · omega
 refine qI (fun c2=> ?_) (fun c2=> ?_)
 · omega
 refine W.skip ?_;refine W.seq ?_;refine W.seq ?_;have NW:=Int.eq_ofNat_of_zero_le (show 0≤hh by omega);obtain⟨i,NW⟩:=NW;subst NW;have hi:i<8:=by omega
 refine qI (fun c7=> ?_) (fun c7=> ?_)
 · omega
 refine qI (fun CS=> ?_) (fun CS=> ?_)
 ·
  refine qC ?_ (C:=Vk (i:=i) (u:=u) hi (Ce i hi) ((h.aj (cO pc)).aj (m8 286 293 305 bu pc u)));rintro _ w ⟨rfl,h⟩;have Ko:=Ce i hi;refine gb fun b9 w h=> ?_;refine gs fun w h _=> ?_;refine go ?_;refine W.cs ?_;refine qD ?_;have fH:=aG;have ho:=Ho (h.aj (m8 286 293 305 bu pc u));obtain⟨bs,bt,xs,lf,h⟩:=ho;have hl8:=E9 lf;refine qG fun w h=> ?_;refine X.e (ag call166 (Ka hi N0 (h.aj (aX bt u.t.cells 305)))) ?_;rintro _ w ⟨rfl,h⟩;have B9:=DZ (i:=i) (kind:=kind) N0;refine X.v (fun _=>(cQ rfl)) ?_;refine go ?_;refine W.cs ?_;refine W.seq ?_;refine W.seq ?_;have iT:((⟨kind,at_,n,data,key,new,cz,force⟩:Cm).kind=8∨(u.cA i).dN=[]):=.inr Ko;refine qI (fun w9=> ?_) (fun w9=> ?_)
  · omega
  refine qI (fun rO=> ?_) (fun rO=> ?_)
  · omega
  refine qI (fun NU=> ?_) (fun NU=> ?_)
  ·
   refine go ?_;refine W.zT (congrArg Value.bool (decide_eq_true NU)) ?_;refine W.seq ?_;have h:=uZ lf ((((h.aj (cO pc)).aj (aX bt u.t.cells 305)).aj (gY 293 bs pc u.s)).aj (aX bu (fZ bs bt xs) 286));refine qC ?_ (C:=va (bu:=bu) (u:=u) (pc:=pc) xF ((h.aj (cO pc)).aj (m8 286 293 305 bu pc u)) (aB.to C) hd);rintro _ w ⟨wQ,s',r',PT,heq,rfl,m7,tP,h⟩;have hq:=m7;have Zk:=tL h tP;obtain⟨ad,cd,oC⟩:=Zk;subst oC;refine gs fun w h _=> ?_;refine go ?_;refine W.ret (bf.uA (vs:=[.int .i64 _,.int .i64 _,.int .i64 _,.slice _ _ _,.int .i64 _]) h results105 isAgg38 sizeOf38 rfl rfl rfl ?_);have he:xz u i (⟨kind,at_,n,data,key,new,cz,force⟩:Cm)=(u.mH s',r'):=by rw[mK (by show 2≤kind;omega) (by show kind≤6;omega),heq]
   have hd:=(xA hi (show 1≤kind by omega) (show kind≤18 by omega) c7 iT (lT.1 B9)).trans he;exact⟨wQ,(u.mH s'),r',_,hd,rfl,m7,tP,h.to⟩
  refine qI (fun FA=> ?_) (fun FA=> ?_)
  ·
   refine go ?_;refine W.zT (congrArg Value.bool (decide_eq_true FA)) ?_;refine W.seq ?_;have h:=uZ lf ((((h.aj (cO pc)).aj (aX bt u.t.cells 305)).aj (gY 293 bs pc u.s)).aj (aX bu (fZ bs bt xs) 286));refine qC ?_ (C:=va (bu:=bu) (u:=u) (pc:=pc) xF ((h.aj (cO pc)).aj (m8 286 293 305 bu pc u)) (aB.to C) hd);rintro _ w ⟨wQ,s',r',PT,heq,rfl,m7,tP,h⟩;have hq:=m7;have Zk:=tL h tP;obtain⟨ad,cd,oC⟩:=Zk;subst oC;refine gs fun w h _=> ?_;refine go ?_;refine W.ret (bf.uA (vs:=[.int .i64 _,.int .i64 _,.int .i64 _,.slice _ _ _,.int .i64 _]) h results105 isAgg38 sizeOf38 rfl rfl rfl ?_);have he:xz u i (⟨kind,at_,n,data,key,new,cz,force⟩:Cm)=(u.mH s',r'):=by rw[mK (by show 2≤kind;omega) (by show kind≤6;omega),heq]
   have hd:=(xA hi (show 1≤kind by omega) (show kind≤18 by omega) c7 iT (lT.1 B9)).trans he;exact⟨wQ,(u.mH s'),r',_,hd,rfl,m7,tP,h.to⟩
  refine qI (fun c43=> ?_) (fun c43=> ?_)
  · omega
  refine qI (fun c46=> ?_) (fun c46=> ?_)
  · omega
  refine qI (fun M1=> ?_) (fun M1=> ?_)
  ·
   refine W.seq ?_;have h:=uZ lf ((((h.aj (cO pc)).aj (aX bt u.t.cells 305)).aj (gY 293 bs pc u.s)).aj (aX bu (fZ bs bt xs) 286));refine qC ?_ (C:=va (bu:=bu) (u:=u) (pc:=pc) xF ((h.aj (cO pc)).aj (m8 286 293 305 bu pc u)) (aB.to C) hd);rintro _ w ⟨wQ,s',r',PT,heq,rfl,m7,tP,h⟩;have hq:=m7;have Zk:=tL h tP;obtain⟨ad,cd,oC⟩:=Zk;subst oC;refine gs fun w h _=> ?_;refine go ?_;refine W.ret (bf.uA (vs:=[.int .i64 _,.int .i64 _,.int .i64 _,.slice _ _ _,.int .i64 _]) h results105 isAgg38 sizeOf38 rfl rfl rfl ?_);have he:xz u i (⟨kind,at_,n,data,key,new,cz,force⟩:Cm)=(u.mH s',r'):=by rw[mK (by show 2≤kind;omega) (by show kind≤6;omega),heq]
   have hd:=(xA hi (show 1≤kind by omega) (show kind≤18 by omega) c7 iT (lT.1 B9)).trans he;exact⟨wQ,(u.mH s'),r',_,hd,rfl,m7,tP,h.to⟩
  omega
 omega
end Go.Proofs.YtcplmndikhjehaaGreat
