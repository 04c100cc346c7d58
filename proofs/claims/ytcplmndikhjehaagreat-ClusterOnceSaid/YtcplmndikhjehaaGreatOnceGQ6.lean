/-
  Texts of a proof as one.
-/
import Derived.Test.YtcplmndikhjehaaGreatOnceGQ5
import Derived.Test.YtcplmndikhjehaaGreatOnceGQ2
import Derived.Test.YtcplmndikhjehaaGreatOnceGQ4
import Derived.Laws.Externs
import GoSem.Extern.MapsClone
import GoSem.Instr.MakeInterface
import GoSem.Instr.TypeAssert
set_option linter.unusedVariables false
set_option linter.unusedSimpArgs false
namespace Go.Proofs.YtcplmndikhjehaaGreat
open Go.Proofs.Tryz
open Go Go.Sl Go.Sl.eM Go.Sl.gW Go.Sl.kM Go.Sl.pe Go.Sl.pM Go.Sl.mG Go.Sl.pO Go.Sl.rH Go.Sl.pN Go.Sl.gU
open Go.Sl.oB (wr)
set_option maxHeartbeats 0
set_option maxRecDepth 8000
variable{L':List aC}{i:Nat}
variable{W0 w:World}{L F:List aC}
theorem SL{bs bd:Nat}{s:kJ}(H:On W0 (At (kK bd) bs s::L) w):∃(bt br:Nat) (g:ow.Rg) (d:dA.Dk),(SI d s.hd s.tn [] s.es g∧d.calls≤s.cn)∧
   On W0 (gA 152 bs bd bt br s.hd [] s.es::dM 204 bt bd 0 s.tn (mG.cK s.hd)::ow.dz 311 br bd g::dA.aQ 109 221 bd d::L) w:=by
 obtain⟨⟨bs',bt,br,g,d⟩,H⟩:=H.ex;obtain⟨⟨h1,h2,h3⟩,H⟩:=H.unpack;simp only[Value.pointer.injEq,Option.some.injEq,Addr.mk.injEq,and_true] at h1;subst h1;exact⟨bt,br,g,d,⟨h2,h3⟩,H⟩
theorem SM{bs bd bt br:Nat}{s:kJ}{g:ow.Rg}{d:dA.Dk}(h1:SI d s.hd s.tn [] s.es g)(h2:d.calls≤s.cn)
   (H:On W0 (gA 152 bs bd bt br s.hd [] s.es::dM 204 bt bd 0 s.tn (mG.cK s.hd)::ow.dz 311 br bd g::dA.aQ 109 221 bd d::L) w):On W0 (At (kK bd) bs s::L) w:=
 On.rT (bs,bt,br,g,d) (On.pack ⟨rfl,h1,h2⟩ H)
theorem iW{k:Kd}{v:Value}{x:k.α}[f:nL k L v x L'](h:On W0 L w):On W0 (At k v x::L') w:=h.imp f.h
theorem Yc{bs bd:Nat}{s:kJ}[f:nL (kK bd) L bs s L'](hf:mM s)(h:On W0 L w):Cs 112 [bs] w fun v w'=>v=.int .u64 (gu s:Int)∧On W0 (At (kK bd) bs s::L') w':=by
 have aA:=SL (iW (k:=kK bd) (v:=.pointer (some ⟨bs,0,none⟩)) h);obtain⟨bt,br,g,d,⟨hS,hc⟩,h⟩:=aA
 exact(ML (by have:=hf.1;omega) (by have:=hf.2;omega) h).mono fun e w' he=>by
   obtain⟨v,he,hv⟩:=he;refine⟨v,he, ?_⟩;obtain⟨hv,h⟩:=hv;exact⟨hv,SM (bt:=bt) (br:=br) hS hc h.to⟩
theorem zN{bs bd:Nat}{s:kJ}[f:nL (kK bd) L bs s L'](h:On W0 L w):Cs 291 [bs] w fun v w'=>v=.int .u64 (s.hd.bl:Int)∧On W0 (At (kK bd) bs s::L') w':=by
 have aA:=SL (iW (k:=kK bd) (v:=.pointer (some ⟨bs,0,none⟩)) h);obtain⟨bt,br,g,d,⟨hS,hc⟩,h⟩:=aA
 exact(Ey h).mono fun e w' he=>by
   obtain⟨v,he,hv⟩:=he;refine⟨v,he, ?_⟩;obtain⟨hv,h⟩:=hv;exact⟨hv,SM (bt:=bt) (br:=br) hS hc h.to⟩
theorem zO{bs bd:Nat}{s:kJ}[f:nL (kK bd) L bs s L']{x:En}(he:mY s i=some x)(hf:mM s)(h:On W0 L w):Cs 322 [bs,.int .u64 (i:Int)] w fun v w'=>∃a,v=.tuple #[.agg #[.int .u64 (x.idx:Int),.int .u64 (x.ep:Int),.slice a x.data.length x.data.length],.bool true]∧On W0 (bC (.slice a x.data.length x.data.length) x.data::At (kK bd) bs s::L') w':=by
 have aA:=SL (iW (k:=kK bd) (v:=.pointer (some ⟨bs,0,none⟩)) h);obtain⟨bt,br,g,d,⟨hS,hc⟩,h⟩:=aA;have hi:¬i≤s.hd.base:=by intro hi;unfold mY at he;rw[if_pos hi] at he;cases he
 have ZN:s.es[i - s.hd.base - 1]? =some x:=by unfold mY at he;rw[if_neg hi] at he;exact he
 exact(MM ZN (by omega) (by have:=hf.1;omega) (by have:=hf.2;omega) (hS.ens _ _ ZN).2.2 h).mono fun e w' he=>by
   obtain⟨v,he,hv⟩:=he;refine⟨v,he, ?_⟩;obtain⟨a,hv,h⟩:=hv;have h:=SM (bs:=bs) (bd:=bd) (bt:=bt) (br:=br) (L:=bC (.slice a x.data.length x.data.length) x.data::L') hS hc h.to;exact⟨a,hv,h.to⟩
theorem Nh{bs bd:Nat}{s:kJ}[f:nL (kK bd) L bs s L'](hi:i≤s.hd.base)(h:On W0 L w):Cs 322 [bs,.int .u64 (i:Int)] w fun v w'=>v=.tuple #[.agg #[.int .u64 0,.int .u64 0,.slice none 0 0],.bool false]∧On W0 (At (kK bd) bs s::L') w':=by
 have aA:=SL (iW (k:=kK bd) (v:=.pointer (some ⟨bs,0,none⟩)) h);obtain⟨bt,br,g,d,⟨hS,hc⟩,h⟩:=aA
 exact(MN hi h).mono fun e w' he=>by
   obtain⟨v,he,hv⟩:=he;refine⟨v,he, ?_⟩;obtain⟨hv,h⟩:=hv;exact⟨hv,SM (bt:=bt) (br:=br) hS hc h.to⟩
theorem E2{bs bd:Nat}{s:kJ}[f:nL (kK bd) L bs s L']{ep:Nat}{s':kJ}(hm:kG s ep=some s')(l5:s.hd.bl<ep)(h:On W0 L w):Cs 40 [bs,.int .u64 (ep:Int)] w fun v w'=>v=.int .i64 0∧On W0 (At (kK bd) bs s'::L') w':=by
 unfold kG at hm;rw[if_neg (by omega),if_neg (by omega)] at hm;have hg:=iZ hm;obtain⟨⟨vh,zf,Z6⟩,hs⟩:=hg;obtain rfl:=Option.some.inj hs;have aA:=SL (iW (k:=kK bd) (v:=.pointer (some ⟨bs,0,none⟩)) h);obtain⟨bt,br,g,d,⟨hS,hc⟩,h⟩:=aA
 exact(MK (b:=bd) (snap:=[]) (es:=s.es) (L:=ow.dz 311 br bd g::L') (bt:=bt) (br:=br) hS.cD hS.tw l5 vh zf (by omega) h.to).mono fun e w' he=>by
   obtain⟨v,he,hv⟩:=he;refine⟨v,he, ?_⟩;obtain⟨hv,h⟩:=hv;have hE:=hS.bl vh zf rfl;exact⟨hv,SM (s:=⟨{s.hd with bl:=ep},s.tn+1,s.es,s.cn+2⟩) (bt:=bt) (br:=br) hE.1 (by have:=hE.2;show _≤((s.cn+2:Nat):Int);omega) h.to⟩
theorem Yd{bs bd:Nat}{s:kJ}[f:nL (kK bd) L bs s L'](h:On W0 L w):Cs 40 [bs,.int .u64 (s.hd.bl:Int)] w fun v w'=>v=.int .i64 0∧On W0 (At (kK bd) bs s::L') w':=by
 refine qO ?_;have aA:=SL (iW (k:=kK bd) (v:=.pointer (some ⟨bs,0,none⟩)) h);obtain⟨bt,br,g,d,⟨hS,hc⟩,h⟩:=aA;have aA:=fY h;obtain⟨a1,c1,a2,c2,ws,aa,jE,ja,h⟩:=aA;refine qE ?_;refine qR ?_;exact⟨rfl,SM hS hc (nE (L:=dM 204 bt bd 0 s.tn (mG.cK s.hd)::ow.dz 311 br bd g::dA.aQ 109 221 bd d::L') (a1:=a1) (c1:=c1) (a2:=a2) (c2:=c2) jE ja h.to)⟩
theorem G9{bs bd:Nat}{s:kJ}[f:nL (kK bd) L bs s L']{x:En}{s':kJ}{ax:Option Addr}{cx:Nat}(hm:wu s x=some s')(C:aB L' (Bytes (.slice ax x.data.length cx) x.data))(h:On W0 L w):Cs 320 [bs,.agg #[.int .u64 (x.idx:Int),.int .u64 (x.ep:Int),.slice ax x.data.length cx]] w fun v w'=>v=.int .i64 0∧On W0 (At (kK bd) bs s'::L') w':=by
 unfold wu at hm;have hg:=iZ hm;obtain⟨⟨g1,g2,g3,g4,g5,g6,g7,g8⟩,hs⟩:=hg;obtain rfl:=Option.some.inj hs;have hi:x.idx=s.hd.base+1+s.es.length:=by rw[g1];unfold gu;omega
 have aA:=SL (iW (k:=kK bd) (v:=.pointer (some ⟨bs,0,none⟩)) h);obtain⟨bt,br,g,d,⟨hS,hc⟩,h⟩:=aA
 exact(Jg (b:=bd) (bt:=bt) (br:=br) hS hi g2 (by omega) g4 g5 (by omega) (by omega) h.to (show aB (dM 204 bt bd 0 s.tn (mG.cK s.hd)::L') _ from aB.to C)).mono fun e w' he=>by
   obtain⟨v,he,hv⟩:=he;refine⟨v,he, ?_⟩;obtain⟨hv,h⟩:=hv;have hS2:=hS.app hi (by omega) g2 (by omega) g4 (by omega) rfl;have hR:=hS.ri;have eD:((98+256:Nat):Int)≤d.n:=by rw[hS.n];decide
   have hl:=ow.p6 (place:=g.place) (number:=g.next) (aJ:=s.hd.aJ) (b:=mQ x) hS.live (by decide) eD (ow.bO (mQ x).length);have hf:=lQ hl.1;exact⟨hv,SM (bt:=bt) (br:=br) hS2 (by rw[hf.1];show(ow.pg _ _ _ _ _ _ _ _).calls+1≤_;rw[hl.2.2];show _≤((s.cn+1+ow.bO (mQ x).length:Nat):Int);omega) h.to⟩
variable{b bd bs bu ba self blocks bQ aW re rp rm count cZ dO dV oc cc ol cl:Nat}{oa ca:Option Addr}{vr vw v1 v2:Value}{now heard seen kept:Int}{known aH both:Bool}{s:kJ}{L0 L1:List aC}
theorem Qx[f0:FB L b (yJ self blocks bQ bd bs now oa ol oc ca cl cc bu aW re rp rm known ba heard aH count vr both vw seen v1 v2 cZ dO dV kept) 182 L0][f1:nL (kK bd) L0 bs s L1](h:On W0 L w):On W0 (aX b (yJ self blocks bQ bd bs now oa ol oc ca cl cc bu aW re rp rm known ba heard aH count vr both vw seen v1 v2 cZ dO dV kept) 182::At (kK bd) bs s::L1) w:=h.imp fun _ H=>(f0.h _ H).aI f1.h
theorem k9[f0:FB L b (yJ self blocks bQ bd bs now oa ol oc ca cl cc bu aW re rp rm known ba heard aH count vr both vw seen v1 v2 cZ dO dV kept) 182 L0][f1:nL (kK bd) L0 bs s L1](hf:mM s)(h:On W0 L w):Cs 284 [b] w fun v w'=>v=.int .u64 (gu s:Int)∧On W0 (aX b (yJ self blocks bQ bd bs now oa ol oc ca cl cc bu aW re rp rm known ba heard aH count vr both vw seen v1 v2 cZ dO dV kept) 182::At (kK bd) bs s::L1) w':=by
 refine qO ?_;have h:=Qx (b:=b) h;refine qC ?_ (C:=Yc (bd:=bd) hf h);rintro _ w ⟨rfl,h⟩;refine qR ?_;exact⟨rfl,h.to⟩
theorem m6[f0:FB L b (yJ self blocks bQ bd bs now oa ol oc ca cl cc bu aW re rp rm known ba heard aH count vr both vw seen v1 v2 cZ dO dV kept) 182 L0][f1:nL (kK bd) L0 bs s L1](h:On W0 L w):Cs 223 [b] w fun v w'=>v=.int .u64 (s.hd.bl:Int)∧On W0 (aX b (yJ self blocks bQ bd bs now oa ol oc ca cl cc bu aW re rp rm known ba heard aH count vr both vw seen v1 v2 cZ dO dV kept) 182::At (kK bd) bs s::L1) w':=by
 refine qO ?_;have h:=Qx (b:=b) h;refine qC ?_ (C:=zN (bd:=bd) h);rintro _ w ⟨rfl,h⟩;refine qR ?_;exact⟨rfl,h.to⟩
theorem q8[f0:FB L b (yJ self blocks bQ bd bs now oa ol oc ca cl cc bu aW re rp rm known ba heard aH count vr both vw seen v1 v2 cZ dO dV kept) 182 L0][f1:nL (kK bd) L0 bs s L1](h:On W0 L w):Cs 267 [b] w fun v w'=>v=.bool (decide (s.hd.bl=0))∧On W0 (aX b (yJ self blocks bQ bd bs now oa ol oc ca cl cc bu aW re rp rm known ba heard aH count vr both vw seen v1 v2 cZ dO dV kept) 182::At (kK bd) bs s::L1) w':=by
 refine qO ?_;have h:=Qx (b:=b) h;refine qC ?_ (C:=zN (bd:=bd) h);rintro _ w ⟨rfl,h⟩;refine qD ?_;refine qR ?_;exact⟨congrArg Value.bool (decide_eq_decide.2 (by omega)),h.to⟩
theorem K5[f0:FB L b (yJ self blocks bQ bd bs now oa ol oc ca cl cc bu aW re rp rm known ba heard aH count vr both vw seen v1 v2 cZ dO dV kept) 182 L0][f1:nL (kK bd) L0 bs s L1](hi:i≤1)(hrm:rm≤255)(h:On W0 L w):Cs 270 [b,.int .i64 (i:Int)] w fun v w'=>v=.bool (zo rm i)∧On W0 (aX b (yJ self blocks bQ bd bs now oa ol oc ca cl cc bu aW re rp rm known ba heard aH count vr both vw seen v1 v2 cZ dO dV kept) 182::At (kK bd) bs s::L1) w':=by
 refine qO ?_;have h:=Qx (b:=b) h;refine go ?_;refine WL.v (jb (m:=rm) (j:=i) rfl rfl (by show i≤64;omega)) ?_;refine WL.v (jc (m:=rm / 2^i) (n:=1) 1 rfl rfl (by have:=Nat.div_le_self rm (2^i);show _≤(9223372036854775807:Int);omega) (by decide) rfl) ?_;refine qD ?_;refine qR ?_;exact⟨congrArg Value.bool (decide_eq_decide.2 (by omega)),h.to⟩
theorem Ni[f0:FB L b (yJ self blocks bQ bd bs now oa ol oc ca cl cc bu aW re rp rm known ba heard aH count vr both vw seen v1 v2 cZ dO dV kept) 182 L0][f1:nL (kK bd) L0 bs s L1](hi:i≤s.hd.base)(h:On W0 L w):Cs 293 [b,.int .u64 (i:Int)] w fun v w'=>v=.int .u64 (jm s i:Int)∧On W0 (aX b (yJ self blocks bQ bd bs now oa ol oc ca cl cc bu aW re rp rm known ba heard aH count vr both vw seen v1 v2 cZ dO dV kept) 182::At (kK bd) bs s::L1) w':=by
 refine qO ?_;have h:=Qx (b:=b) h;refine qC ?_ (C:=Nh (bd:=bd) hi h);rintro _ w ⟨rfl,h⟩;refine gb fun b5 w h=> ?_;refine gs fun w h _=> ?_;refine qD ?_;refine qR ?_;have e0:jm s i=0:=by unfold jm mY;rw[if_pos hi]
 rw[e0];exact⟨rfl,h.to⟩
theorem Nj[f0:FB L b (yJ self blocks bQ bd bs now oa ol oc ca cl cc bu aW re rp rm known ba heard aH count vr both vw seen v1 v2 cZ dO dV kept) 182 L0][f1:nL (kK bd) L0 bs s L1]{x:En}(he:mY s i=some x)(hf:mM s)(h:On W0 L w):Cs 293 [b,.int .u64 (i:Int)] w fun v w'=>v=.int .u64 (jm s i:Int)∧On W0 (aX b (yJ self blocks bQ bd bs now oa ol oc ca cl cc bu aW re rp rm known ba heard aH count vr both vw seen v1 v2 cZ dO dV kept) 182::At (kK bd) bs s::L1) w':=by
 refine qO ?_;have h:=Qx (b:=b) h;refine qC ?_ (C:=zO (bd:=bd) he hf h);rintro _ w ⟨Mj,rfl,h⟩;refine gb fun b5 w h=> ?_;refine gs fun w h _=> ?_;refine qD ?_;refine qR ?_;have e0:jm s i=x.ep:=by unfold jm;rw[he]
 rw[e0];exact⟨rfl,h.to⟩
theorem nY[f0:FB L b (yJ self blocks bQ bd bs now oa ol oc ca cl cc bu aW re rp rm known ba heard aH count vr both vw seen v1 v2 cZ dO dV kept) 182 L0][f1:nL (kK bd) L0 bs s L1](hi:i≤gu s)(hf:mM s)(h:On W0 L w):Cs 293 [b,.int .u64 (i:Int)] w fun v w'=>v=.int .u64 (jm s i:Int)∧On W0 (aX b (yJ self blocks bQ bd bs now oa ol oc ca cl cc bu aW re rp rm known ba heard aH count vr both vw seen v1 v2 cZ dO dV kept) 182::At (kK bd) bs s::L1) w':=by
 by_cases hb:i≤s.hd.base
 · exact Ni hb h
 obtain⟨x,hx⟩:∃x,mY s i=some x:=by
   unfold mY;rw[if_neg hb];exact⟨_,List.getElem?_eq_getElem (by unfold gu at hi;omega)⟩
 exact Nj hx hf h
theorem E3[f0:FB L b (yJ self blocks bQ bd bs now oa ol oc ca cl cc bu aW re rp rm known ba heard aH count vr both vw seen v1 v2 cZ dO dV kept) 182 L0][f1:nL (kK bd) L0 bs s L1](hs:self≤1)(hrm:rm≤255)(h:On W0 L w):Cs 218 [b] w fun v w'=>v=.bool (zo rm (1 - self)||both)∧On W0 (aX b (yJ self blocks bQ bd bs now oa ol oc ca cl cc bu aW re rp rm known ba heard aH count vr both vw seen v1 v2 cZ dO dV kept) 182::At (kK bd) bs s::L1) w':=by
 refine qO ?_;have h:=Qx (b:=b) h;refine go ?_;refine WL.v (iD (m:=1) (n:=self) rfl rfl hs (by decide)) ?_;refine WL.e (ag call270 (K5 (by omega) hrm h)) ?_;rintro _ w ⟨hv,h⟩;have iG:=Bool.eq_false_or_eq_true (zo rm (1 - self));rcases iG with hq|hq<;>(rw[hq] at hv;subst hv)
 · refine qR ?_;rw[hq];exact⟨rfl,h.to⟩
 refine qR ?_;rw[hq];exact⟨rfl,h.to⟩
theorem Ye[f0:FB L b (yJ self blocks bQ bd bs now oa ol oc ca cl cc bu aW re rp rm known ba heard aH count vr both vw seen v1 v2 cZ dO dV kept) 182 L0][f1:nL (kK bd) L0 bs s L1](hs:self≤1)(hrm:rm≤255)(h:On W0 L w):Cs 288 [b] w fun v w'=>v=.bool (!(zo rm (1 - self)||both)&&decide (re=s.hd.bl))∧On W0 (aX b (yJ self blocks bQ bd bs now oa ol oc ca cl cc bu aW re rp rm known ba heard aH count vr both vw seen v1 v2 cZ dO dV kept) 182::At (kK bd) bs s::L1) w':=by
 refine qO ?_;have h:=Qx (b:=b) h;refine qT fun w h=> ?_;refine WT.e 1 [] rfl (ag call218 (E3 hs hrm h)) ?_;rintro _ w ⟨hv,h⟩;have iG:=Bool.eq_false_or_eq_true (zo rm (1 - self)||both);rcases iG with hq|hq<;>(rw[hq] at hv;subst hv)
 all_goals (refine⟨trivial, ?_⟩)
 · refine qU ?_;refine qR ?_;rw[hq];exact⟨rfl,h.to⟩
 refine qU ?_;refine WT.e 10 [true] rfl (ag call223 (m6 h)) ?_;rintro _ w ⟨rfl,h⟩;refine qW ?_;refine WT.p 11 rfl (fun w'=>(cL rfl rfl)) ?_;refine qU ?_;refine qR ?_;rw[hq];exact⟨congrArg Value.bool (decide_eq_decide.2 (by omega)),h.to⟩
theorem nin[f0:FB L b (yJ self blocks bQ bd bs now oa ol oc ca cl cc bu aW re rp rm known ba heard aH count vr both vw seen v1 v2 cZ dO dV kept) 182 L0][f1:nL (kK bd) L0 bs s L1]{mk rJ gv pJ eT ee gX:Nat}{mdv:Value}(h:On W0 L w):Cs 340 [b,.agg #[.int .i64 (mk:Int),.int .u64 (rJ:Int),.int .u64 (gv:Int),.int .u64 (pJ:Int),.int .u64 (eT:Int),.int .u64 (ee:Int),.int .u64 (gX:Int),mdv]] w fun v w'=>v=.bool (decide (dO≠0)&&decide (gv=cZ)&&decide (pJ=dO))∧On W0 (aX b (yJ self blocks bQ bd bs now oa ol oc ca cl cc bu aW re rp rm known ba heard aH count vr both vw seen v1 v2 cZ dO dV kept) 182::At (kK bd) bs s::L1) w':=by
 refine qO ?_;have h:=Qx (b:=b) h;refine gb fun b3 w h=> ?_;refine go ?_;refine W.ez Tryz.follows h (by kernel_rfl) fun w h=> ?_;refine go ?_;refine X.q (fun _=>(e7 rfl rfl)) (fun mP=> ?_) (fun mP=> ?_)
 ·
  refine go ?_;refine X.q (fun _=>(cL rfl rfl)) (fun CY=> ?_) (fun CY=> ?_)
  · refine qD ?_;refine qR ?_;exact⟨congrArg Value.bool (by grind),h.to⟩
  refine qR ?_;exact⟨congrArg Value.bool (by grind),h.to⟩
 refine qR ?_;exact⟨congrArg Value.bool (by grind),h.to⟩
theorem K6{bN:Nat}(h:On W0 L w):Cs 305 [bN,.int .i64 0] w fun v w'=>v=.bool true∧On W0 L w':=by
 refine qO ?_;refine go ?_;refine WL.v (bY rfl rfl rfl) ?_;refine qD ?_;refine qR ?_;exact⟨rfl,h⟩
end Go.Proofs.YtcplmndikhjehaaGreat
namespace Go.Proofs.YtcplmndikhjehaaGreat
open Go.Proofs.Tryz
open Go Go.Sl Go.Sl.eM Go.Sl.gW Go.Sl.kM Go.Sl.pe Go.Sl.pM Go.Sl.mG Go.Sl.pO Go.Sl.rH Go.Sl.pN Go.Sl.gU
open Go.Sl.oB (wr)
set_option maxHeartbeats 0
set_option maxRecDepth 8000
variable{L':List aC}{ep:Nat}{v:Value}
variable{W0 w:World}{L F:List aC}
class xN(p q:aE)(L:List aC)(L':outParam (List aC)):Prop where
 h:cI p q→∀h,Sat L h→Sat L' h
instance(priority:=10){p q:aE}:xN p q L L:=⟨fun _ _ h=>h⟩
instance(priority:=20){p q:aE}{A:aC}{L':List aC}[s:xN p q L L']:xN p q (A::L) (A::L'):=⟨fun k _ H=>H.aI (s.h k)⟩
theorem K7{α:Type}{A B:α→aC}(i:∀x h,A x h→B x h):∀(l:List α) (h:Hp),eE A l h→eE B l h
 |[],_,_=>trivial
 |x::l,h,⟨h1,h2,d,s1,s2,a,r⟩=>⟨h1,h2,d,s1,s2,i _ _ a,K7 i l h2 r⟩
theorem Qy{p q:aE}{TU TS TT b:Nat}{ms:List Nat}{u:Un}(k:cI p q)(h:Hp)(H:qb TU TS TT b p ms u h):qb TU TS TT b q ms u h:=by
 obtain⟨y,h1,s⟩:=H;refine⟨y,h1,s.aI fun _ s=>s.aI fun _ s=>s.aI fun _ s=>s.imp fun h H=>K7 (fun g h H=> ?_) _ h H⟩;obtain⟨⟨a,b,c⟩,s⟩:=H;exact⟨⟨a,b,fun x hx=>by obtain⟨r,dv,e1,e2,e3⟩:=c x hx;exact⟨r,dv,e1,e2,k.h _ e3⟩⟩,s⟩
theorem E4{p q:aE}{l:List Pk}(k:cI p q)(h:Hp)(H:At (yI p) v l h):At (yI q) v l h:=by
 obtain⟨x,⟨h1,h2⟩,s⟩:=H;exact⟨x,⟨h1,h2.mono k.h⟩,s⟩
theorem K8{p q:aE}{l:List xJ}(k:cI p q)(h:Hp)(H:At (G8 p) v l h):At (G8 q) v l h:=by
 obtain⟨x,⟨h1,h2⟩,s⟩:=H;exact⟨x,⟨h1,h2.mono k.h⟩,s⟩
theorem K9{p q:aE}{v:Value}{u:Un}(k:cI p q)(h:Hp)(H:At (Ih p) v u h):At (Ih q) v u h:=by
 obtain⟨x,h1,s⟩:=H;exact⟨x,h1,s.imp fun h H=>Qy k h H⟩
instance(priority:=100){p q:aE}{v:Value}{l:List Pk}{L':List aC}[s:xN p q L L']:xN p q (At (yI p) v l::L) (At (yI q) v l::L'):=⟨fun k _ H=>(H.aI (s.h k)).imp (E4 k)⟩
instance(priority:=100){p q:aE}{v:Value}{l:List xJ}{L':List aC}[s:xN p q L L']:xN p q (At (G8 p) v l::L) (At (G8 q) v l::L'):=⟨fun k _ H=>(H.aI (s.h k)).imp (K8 k)⟩
instance(priority:=100){p q:aE}{v:Value}{l:Un}{L':List aC}[s:xN p q L L']:xN p q (At (Ih p) v l::L) (At (Ih q) v l::L'):=⟨fun k _ H=>(H.aI (s.h k)).imp (K9 k)⟩
theorem grow{bs:List UInt8}{p:aE}{L1 L2:List aC}[f:DK L p L1][g:xN p ((v,bs)::p) L1 L2](h:On W0 (bC v bs::L) w):On W0 (aY ((v,bs)::p)::L2) w:=by
 have h2:=On.mU (h.imp fun _ H=>H.aI f.h);exact h2.imp fun _ H=>H.aI (g.h cI.cons)
theorem pkO{aa:aE}{l:List Pk}(H:On W0 (At (yI aa) v l::L) w):∃xo:List (Pk×Value),(xo.map (·.1)=l∧cW aa (·.data) xo)∧On W0 (Own 2 v l.length (xo.flatMap mW)::L) w:=by
 obtain⟨xo,H⟩:=H.ex;exact⟨xo,H.unpack⟩
theorem JL{aa:aE}{n:Nat}{l:List Pk}{xo:List (Pk×Value)}(h1:xo.map (·.1)=l)(h2:cW aa (·.data) xo)(hn:n=l.length)(H:On W0 (Own 2 v n (xo.flatMap mW)::L) w):On W0 (At (yI aa) v l::L) w:=by
 subst hn;exact On.rT xo (On.pack ⟨h1,h2⟩ H)
variable{b bd bs bu ba self blocks bQ aW re rp rm count cZ dO dV oc cc ol cl:Nat}{oa ca:Option Addr}{vr vw v1 v2:Value}{now heard seen kept:Int}{known aH both:Bool}{s:kJ}{L0 L1:List aC}
theorem Bt{b bd:Nat}{p0:aE}{vr:Value}{n n':Nd}[g:jY L b bd p0 vr n' L'](k:dF n){to:Int}{d:Dt}{ad:Option Addr}{dc:Nat}{n2:Nd}(hm:uo n to d=some n2)(h0:On W0 (bC (.slice ad d.bytes.length dc) d.bytes::L) w)(e:n'=n:=by rfl):Cs 144 [b,.int .i64 to,.slice ad d.bytes.length dc] w fun v w'=>On W0 (dZ b bd p0 vr n2::L') w':=by
 refine qO ?_;have hm:=iZ hm;obtain⟨hlen,hm⟩:=hm;have aA:=Option.some.inj hm;obtain rfl:=aA;have fH:=aG;have h:=bF (p0:=p0) (b:=b) e k h0;have aA:=gJ h;obtain⟨oa,oc,ca,cc,bs,bu,ba,vw,v1,v2,aa,k,sb,h⟩:=aA;have aA:=pkO (iW (k:=yI aa) (v:=.slice oa n.out.length oc) h);obtain⟨xo,⟨gy,uW⟩,h⟩:=aA;refine qD ?_;refine WL.e (aZ (zl:=[.int .i64 0,.slice none 0 0]) (out:=[.int .i64 _,.slice _ _ _]) h underlying100 sizeOf256 zeroValue256 (by decide) (by kernel_rfl) rfl rfl (by simp) fz rfl rfl (by simp[maxLen])) ?_;rintro _ w ⟨XQ,rfl,h⟩;refine WL.e (bU (bytes:=32) h.g rfl rfl (h.aR) underlying100 rfl rfl rfl rfl rfl (by omega) (by omega) (by simp[Value.oneCell'])) ?_;rintro _ w ⟨tu,kY,rfl,h⟩;refine gs fun w h _=> ?_;refine qR ?_;have h:=grow (h.aj (bC (.slice ad d.bytes.length dc) d.bytes));have sb2:=sb.trans (cI.cons (x:=((.slice ad d.bytes.length dc:Value),d.bytes)));have h:=h.aj (Own 2 (.slice tu (n.out.length+1) kY) (n.out.length+1) (xo.flatMap mW++[.int .i64 to,.slice ad d.bytes.length dc]));rw[show xo.flatMap mW++[.int .i64 to,.slice ad d.bytes.length dc]=(xo++[((⟨to,d⟩:Pk),(.slice ad d.bytes.length dc:Value))]).flatMap mW by simp[mW]] at h;have h:=JL (aa:=((.slice ad d.bytes.length dc:Value),d.bytes)::aa) (l:=n.out++[⟨to,d⟩]) (by rw[List.map_append,gy];rfl) ((uW.mono fun _ h=>List.mem_cons_of_mem _ h).snoc ⟨.inl (List.mem_cons_self ..),ad,dc,rfl⟩) (by simp) h;exact(bF (p0:=p0) (b:=b) (n:={n with out:=n.out++[⟨to,d⟩]}) rfl k h).to
theorem wG{b bd:Nat}{p0:aE}{vr:Value}{n n':Nd}[g:jY L b bd p0 vr n' L'](k:dF n){kind run by2 index prev com:Nat}{ep:Int}{data:List UInt8}{ax:Option Addr}{cx:Nat}{n2:Nd}(hm:yF n ⟨kind,0,run,by2,index,prev,com,data⟩=some n2)(C:aB L' (Bytes (.slice ax data.length cx) data))(h:On W0 L w)(e:n'=n:=by rfl):Cs 285 [b,.agg #[.int .i64 (kind:Int),.int .u64 ep,.int .u64 (run:Int),.int .u64 (by2:Int),.int .u64 (index:Int),.int .u64 (prev:Int),.int .u64 (com:Int),.slice ax data.length cx]] w fun v w'=>On W0 (dZ b bd p0 vr n2::L') w':=by
 refine qO ?_;have hm:=iZ hm;obtain⟨⟨cD,oA⟩,hm⟩:=hm;simp only[Qe,Ms.A9,Bool.and_eq_true,decide_eq_true_eq,List.all_eq_true] at cD;have oA:data.length≤1000:=oA;have h:=bF (p0:=p0) (b:=b) e k h;have aA:=gJ h;obtain⟨oa,oc,ca,cc,bs,bu,ba,vw,v1,v2,aa,k,sb,h⟩:=aA;refine gb fun b3 w h=> ?_;refine qC ?_ (C:=m6 h);rintro _ w ⟨rfl,h⟩;refine gs fun w h _=> ?_;refine qC ?_ (C:=Jv cD.1 cD.2 (by omega) h (aB.to C));rintro _ w ⟨a9,rfl,h⟩;refine qC ?_ (C:=Bt (p0:=p0) k hm h);rintro _ w h;refine qR ?_;exact h.to
section
variable{P:Program}{ρ:Operand→Value}{d:Option Nat}{ty:TypeId}{pos:String}{af:Array Edge}{g:Option (Nat×Bool)}
theorem Bu{t yt:TypeId}{x y:Operand}{m:Nat}(hx:ρ x=.int .u32 (m:Int))(hy:ρ y=.int .u32 1):(execOp ρ ⟨d,.binOp .add t x y yt,ty,pos,af,g⟩).run P w=.ok (.value (.int .u32 (((m+1) % 4294967296:Nat):Int))) w:=by
 rw[eU hx hy,show IntKind.u32.wrap ((m:Int)+1)=(((m+1) % 4294967296:Nat):Int) by simp[IntKind.wrap,IntKind.signed,IntKind.bits]]
theorem He{t yt:TypeId}{x y:Operand}{m j:Nat}(hx:ρ x=.int .u64 ((m*4294967296:Nat):Int))(hy:ρ y=.int .u64 (j:Int))(hm:m<4294967296)(hj:j<4294967296):(execOp ρ ⟨d,.binOp .or t x y yt,ty,pos,af,g⟩).run P w=.ok (.value (.int .u64 ((m*4294967296+j:Nat):Int))) w:=by
 have e:=Nat.shiftLeft_add_eq_or_of_lt (i:=32) hj m;rw[Nat.shiftLeft_eq] at e;have e2:m*4294967296+j=m*4294967296|||j:=e
 rw[e2];exact Kp hx hy (by show _≤(18446744073709551615:Int);omega) (by show _≤(18446744073709551615:Int);omega) (by rw[←e2];show _≤(18446744073709551615:Int);omega)
end
theorem E5{b bd:Nat}{p0:aE}{vr:Value}{n n':Nd}[g:jY L b bd p0 vr n' L'](k:dF n)(h:On W0 L w)(e:n'=n:=by rfl):Cs 82 [b] w fun v w'=>On W0 (dZ b bd p0 vr (mZ n)::L') w':=by
 refine qO ?_;have h:=bF (p0:=p0) (b:=b) e k h;have aA:=gJ h;obtain⟨oa,oc,ca,cc,bs,bu,ba,vw,v1,v2,aa,k,sb,h⟩:=aA;refine go ?_;refine WL.v (Bu (m:=n.dV) rfl rfl) ?_;refine qG fun w h=> ?_;refine X.v (fun _=>(fC (n:=(n.bQ:Int)) underlying58 underlying30 rfl (by show(0:Int)≤_;omega) (by have:=k.2.1;show _≤(18446744073709551615:Int);omega))) ?_;refine X.v (fun _=>(mq (m:=n.bQ) (j:=32) rfl rfl (by decide) (by have:=k.2.1;show _≤(18446744073709551615:Int);omega))) ?_;refine qD ?_;refine X.v (fun _=>(He (m:=n.bQ) (j:=(n.dV+1) % 4294967296) rfl rfl k.2.1 (Nat.mod_lt _ (by decide)))) ?_;refine qS fun w h _=> ?_;refine qR ?_;exact(bF (p0:=p0) (b:=b) (n:=mZ n) rfl k h).to
theorem Qz{b bd:Nat}{p0:aE}{vr:Value}{n n':Nd}[g:jY L b bd p0 vr n' L'](k:dF n){n2:Nd}(hm:Bp n=some n2)(h:On W0 L w)(e:n'=n:=by rfl):Cs 224 [b] w fun v w'=>On W0 (dZ b bd p0 vr n2::L') w':=by
 refine qO ?_;unfold Bp at hm;have hm:=iZ hm;obtain⟨hg,hm⟩:=hm;have h:=bF (p0:=p0) (b:=b) e k h;have aA:=gJ h;obtain⟨oa,oc,ca,cc,bs,bu,ba,vw,v1,v2,aa,k,sb,h⟩:=aA;refine qT fun w h=> ?_;refine WT.m 7 rfl ?_;refine WT.two 6 11 (by kernel_rfl) ?_ ?_
 ·
  refine WT.ju 6 [true] rfl (by kernel_rfl) (ag call284 (k9 hg.1 h)) rfl rfl ?_;rintro _ w ⟨rfl,h⟩;refine qW ?_;refine WT.two 8 11 (by kernel_rfl) ?_ ?_
  ·
   refine WT.ju 8 [true] rfl (by kernel_rfl) (ag call267 (q8 h)) rfl rfl ?_;rintro v11 w ⟨hv,h⟩;rw[decide_eq_false hg.2] at hv;subst hv;refine qW ?_;refine WT.two 9 11 (by kernel_rfl) ?_ ?_
   · refine WT.ju 9 [true] rfl (by kernel_rfl) (ag call292 (tE h)) rfl rfl ?_;rintro _ w ⟨rfl,h⟩;refine qW ?_;refine WT.p 10 rfl (fun w'=>(aP (pl:=[(0,1),(1,1),(2,1),(3,1),(4,1),(5,1),(6,1),(7,1)]) (out:=[.int .i64 ((6:Nat):Int),.int .u64 ((0:Nat):Int),.int .u64 ((n.cZ:Nat):Int),.int .u64 ((0:Nat):Int),.int .u64 ((cB n:Nat):Int),.int .u64 ((0:Nat):Int),.int .u64 ((0:Nat):Int),.slice none 0 0]) underlying341 zeroValue341 (fun w=>by kernel_rfl) rfl fz rfl)) ?_;refine WT.e 11 [true] rfl (bR h zeroValue341 rfl) ?_;rintro _ w ⟨b2,rfl,h⟩;refine qW ?_;refine WT.e 12 [false] rfl (bA h sizeOf341 rfl rfl rfl rfl rfl) ?_;rintro _ w h;refine⟨trivial, ?_⟩;refine qU ?_;refine WL.e (ag call293 (nY (Nat.le_refl _) hg.1 h)) ?_;rintro _ w ⟨rfl,h⟩;refine gs fun w h _=> ?_;refine qC ?_ (C:=wG (p0:=p0) k hm aB.rL h);rintro _ w h;refine qR ?_;exact h.to
   refine WT.ju 11 [true] rfl (by kernel_rfl) (bR h zeroValue341 rfl) rfl rfl ?_;rintro _ w ⟨b2,rfl,h⟩;refine qW ?_;refine WT.e 9 [true] rfl (ag call292 (tE h)) ?_;rintro _ w ⟨rfl,h⟩;refine qW ?_;refine WT.p 10 rfl (fun w'=>(aP (pl:=[(0,1),(1,1),(2,1),(3,1),(4,1),(5,1),(6,1),(7,1)]) (out:=[.int .i64 ((6:Nat):Int),.int .u64 ((0:Nat):Int),.int .u64 ((n.cZ:Nat):Int),.int .u64 ((0:Nat):Int),.int .u64 ((cB n:Nat):Int),.int .u64 ((0:Nat):Int),.int .u64 ((0:Nat):Int),.slice none 0 0]) underlying341 zeroValue341 (fun w=>by kernel_rfl) rfl fz rfl)) ?_;refine WT.e 12 [false] rfl (bA h sizeOf341 rfl rfl rfl rfl rfl) ?_;rintro _ w h;refine⟨trivial, ?_⟩;refine qU ?_;refine WL.e (ag call293 (nY (Nat.le_refl _) hg.1 h)) ?_;rintro _ w ⟨rfl,h⟩;refine gs fun w h _=> ?_;refine qC ?_ (C:=wG (p0:=p0) k hm aB.rL h);rintro _ w h;refine qR ?_;exact h.to
  refine WT.ju 11 [true] rfl (by kernel_rfl) (bR h zeroValue341 rfl) rfl rfl ?_;rintro _ w ⟨b2,rfl,h⟩;refine qW ?_;refine WT.e 8 [true] rfl (ag call267 (q8 h)) ?_;rintro v11 w ⟨hv,h⟩;rw[decide_eq_false hg.2] at hv;subst hv;refine qW ?_;refine WT.e 9 [true] rfl (ag call292 (tE h)) ?_;rintro _ w ⟨rfl,h⟩;refine qW ?_;refine WT.p 10 rfl (fun w'=>(aP (pl:=[(0,1),(1,1),(2,1),(3,1),(4,1),(5,1),(6,1),(7,1)]) (out:=[.int .i64 ((6:Nat):Int),.int .u64 ((0:Nat):Int),.int .u64 ((n.cZ:Nat):Int),.int .u64 ((0:Nat):Int),.int .u64 ((cB n:Nat):Int),.int .u64 ((0:Nat):Int),.int .u64 ((0:Nat):Int),.slice none 0 0]) underlying341 zeroValue341 (fun w=>by kernel_rfl) rfl fz rfl)) ?_;refine WT.e 12 [false] rfl (bA h sizeOf341 rfl rfl rfl rfl rfl) ?_;rintro _ w h;refine⟨trivial, ?_⟩;refine qU ?_;refine WL.e (ag call293 (nY (Nat.le_refl _) hg.1 h)) ?_;rintro _ w ⟨rfl,h⟩;refine gs fun w h _=> ?_;refine qC ?_ (C:=wG (p0:=p0) k hm aB.rL h);rintro _ w h;refine qR ?_;exact h.to
 refine WT.ju 11 [true] rfl (by kernel_rfl) (bR h zeroValue341 rfl) rfl rfl ?_;rintro _ w ⟨b2,rfl,h⟩;refine qW ?_;refine WT.e 6 [true] rfl (ag call284 (k9 hg.1 h)) ?_;rintro _ w ⟨rfl,h⟩;refine qW ?_;refine WT.e 8 [true] rfl (ag call267 (q8 h)) ?_;rintro v11 w ⟨hv,h⟩;rw[decide_eq_false hg.2] at hv;subst hv;refine qW ?_;refine WT.e 9 [true] rfl (ag call292 (tE h)) ?_;rintro _ w ⟨rfl,h⟩;refine qW ?_;refine WT.p 10 rfl (fun w'=>(aP (pl:=[(0,1),(1,1),(2,1),(3,1),(4,1),(5,1),(6,1),(7,1)]) (out:=[.int .i64 ((6:Nat):Int),.int .u64 ((0:Nat):Int),.int .u64 ((n.cZ:Nat):Int),.int .u64 ((0:Nat):Int),.int .u64 ((cB n:Nat):Int),.int .u64 ((0:Nat):Int),.int .u64 ((0:Nat):Int),.slice none 0 0]) underlying341 zeroValue341 (fun w=>by kernel_rfl) rfl fz rfl)) ?_;refine WT.e 12 [false] rfl (bA h sizeOf341 rfl rfl rfl rfl rfl) ?_;rintro _ w h;refine⟨trivial, ?_⟩;refine qU ?_;refine WL.e (ag call293 (nY (Nat.le_refl _) hg.1 h)) ?_;rintro _ w ⟨rfl,h⟩;refine gs fun w h _=> ?_;refine qC ?_ (C:=wG (p0:=p0) k hm aB.rL h);rintro _ w h;refine qR ?_;exact h.to
theorem E6{b bd:Nat}{p0:aE}{vr:Value}{n n':Nd}[g:jY L b bd p0 vr n' L'](k:dF n){n2:Nd}(hm:wA n=some n2)(h:On W0 L w)(e:n'=n:=by rfl):Cs 338 [b] w fun v w'=>On W0 (dZ b bd p0 vr n2::L') w':=by
 refine qO ?_;unfold wA at hm;have hm:=iZ hm;obtain⟨hg,hm⟩:=hm;have h:=bF (p0:=p0) (b:=b) e k h;have aA:=gJ h;obtain⟨oa,oc,ca,cc,bs,bu,ba,vw,v1,v2,aa,k,sb,h⟩:=aA;refine qT fun w h=> ?_;refine WT.e 12 [true,true] rfl (ag call284 (k9 hg h)) ?_;rintro _ w ⟨rfl,h⟩;refine qW ?_;refine WT.p 13 rfl (fun w'=>(aP (pl:=[(0,1),(1,1),(2,1),(3,1),(4,1),(5,1),(6,1),(7,1)]) (out:=[.int .i64 ((10:Nat):Int),.int .u64 ((0:Nat):Int),.int .u64 ((n.cZ:Nat):Int),.int .u64 ((n.dO:Nat):Int),.int .u64 ((cB n:Nat):Int),.int .u64 ((0:Nat):Int),.int .u64 ((0:Nat):Int),.slice none 0 0]) underlying341 zeroValue341 (fun w=>by kernel_rfl) rfl fz rfl)) ?_;refine WT.e 14 [false,false] rfl (ag call285 (wG (p0:=p0) (data:=[]) k hm aB.rL h)) ?_;rintro _ w h;refine⟨trivial, ?_⟩;refine WT.dn (bf.yW (bf.r0 results338 ?_));exact h.to
theorem Yf{b bd:Nat}{p0:aE}{vr:Value}{n n':Nd}[g:jY L b bd p0 vr n' L'](k:dF n)(l5:n.s.hd.bl≠0)(he:ep=n.s.hd.bl)(h:On W0 L w)(e:n'=n:=by rfl):Cs 339 [b,.int .u64 (ep:Int)] w fun v w'=>v=.bool true∧On W0 (dZ b bd p0 vr n::L') w':=by
 refine qO ?_;subst he;have h:=bF (p0:=p0) (b:=b) e k h;have aA:=gJ h;obtain⟨oa,oc,ca,cc,bs,bu,ba,vw,v1,v2,aa,k,sb,h⟩:=aA;refine qC ?_ (C:=zN (bd:=bd) h);rintro _ w ⟨rfl,h⟩;refine qE ?_;refine WL.e (ag call40 (Yd (bd:=bd) h)) ?_;rintro _ w ⟨rfl,h⟩;refine qC ?_ (C:=K6 h);rintro _ w ⟨rfl,h⟩;refine qR ?_;exact⟨rfl,(bF (p0:=p0) (b:=b) rfl k h).to⟩
theorem Yg{b bd:Nat}{p0:aE}{vr:Value}{n n':Nd}[g:jY L b bd p0 vr n' L'](k:dF n){s':kJ}(l5:n.s.hd.bl≠0)(he:n.s.hd.bl<ep)(hm:kG n.s ep=some s')(h:On W0 L w)(e:n'=n:=by rfl):Cs 339 [b,.int .u64 (ep:Int)] w fun v w'=>v=.bool true∧On W0 (dZ b bd p0 vr {n with s:=s'}::L') w':=by
 refine qO ?_;have h:=bF (p0:=p0) (b:=b) e k h;have aA:=gJ h;obtain⟨oa,oc,ca,cc,bs,bu,ba,vw,v1,v2,aa,k,sb,h⟩:=aA;refine qC ?_ (C:=zN (bd:=bd) h);rintro _ w ⟨rfl,h⟩;refine qE ?_;refine WL.e (ag call40 (E2 (bd:=bd) hm he h)) ?_;rintro _ w ⟨rfl,h⟩;refine qC ?_ (C:=K6 h);rintro _ w ⟨rfl,h⟩;refine qR ?_;exact⟨rfl,(bF (p0:=p0) (b:=b) (n:={n with s:=s'}) rfl k h).to⟩
theorem QA{b bd:Nat}{p0:aE}{vr:Value}{n n':Nd}[g:jY L b bd p0 vr n' L'](k:dF n){n2:Nd}(hm:Bq n ep=some n2)(h:On W0 L w)(e:n'=n:=by rfl):Cs 339 [b,.int .u64 (ep:Int)] w fun v w'=>v=.bool true∧On W0 (dZ b bd p0 vr n2::L') w':=by
 unfold Bq at hm;obtain⟨hg,hm⟩:=Ck hm;obtain⟨s',hs,rfl⟩:=q7 hm;have m7:=hs;unfold kG at hs;obtain⟨h1,hs⟩:=Ck hs;by_cases h2:ep=n.s.hd.bl
 · rw[if_pos h2] at hs
   obtain rfl:=Option.some.inj hs;exact Yf k hg h2 h e
 exact Yg k hg (by omega) m7 h e
end Go.Proofs.YtcplmndikhjehaaGreat
namespace Go.Proofs.YtcplmndikhjehaaGreat
open Go.Proofs.Tryz
open Go Go.Sl Go.Sl.eM Go.Sl.gW Go.Sl.kM Go.Sl.pe Go.Sl.pM Go.Sl.mG Go.Sl.pO Go.Sl.rH Go.Sl.pN Go.Sl.gU
open Go.Sl.oB (wr)
set_option maxHeartbeats 0
set_option maxRecDepth 8000
variable{L':List aC}{v:Value}
variable{W0 w:World}{L F:List aC}
theorem At.nil{k:Kd}{x:k.α}(a:∀h,k.P v x h)(h:Hp)(H:Sat L h):Sat (At k v x::L) h:=⟨fun _=>none,h,(fun _ _ _ e _=>by cases e),(fun _ _ e=>by cases e),Sub.refl _,a _,H⟩
theorem Hf{vr:Value}{o:Option rQ}{r:rQ}(hr:o=some r)(H:On W0 (At xM vr o::L) w):∃br,vr=.pointer (some ⟨br,0,none⟩)∧On W0 (aX br [.int .u64 (r.run:Int),.int .u64 (r.dO:Int),.bool true,.bool true,.bool r.lK,.int .u64 (r.oD:Int),.slice none 0 0,.int .u64 0] 354::L) w:=by
 subst hr;obtain⟨br,H⟩:=On.ex H;exact⟨br,H.unpack⟩
theorem QB{br:Nat}{o:Option rQ}{r:rQ}(hr:o=some r)(H:On W0 (At xM br o::L) w):On W0 (aX br [.int .u64 (r.run:Int),.int .u64 (r.dO:Int),.bool true,.bool true,.bool r.lK,.int .u64 (r.oD:Int),.slice none 0 0,.int .u64 0] 354::L) w:=by
 obtain⟨b2,e,H⟩:=Hf hr H;simp only[Value.pointer.injEq,Option.some.injEq,Addr.mk.injEq,and_true] at e;subst e;exact H
theorem La{n n2:Nd}{m:Ms}(h:yF n m=some n2):n2={n with out:=n2.out}:=by
 unfold yF uo at h;obtain⟨_,h⟩:=iZ h;obtain⟨_,h⟩:=iZ h;obtain rfl:=Option.some.inj h;rfl
theorem runN{vr:Value}{o:Option rQ}(hr:o=none)(H:On W0 (At xM vr o::L) w):vr=.pointer none∧On W0 L w:=by
 subst hr;exact On.unpack H
theorem aco{o:Option Ci}{r:Ci}(hr:o=some r)(H:On W0 (At rI v o::L) w):∃br,v=.pointer (some ⟨br,0,none⟩)∧On W0 (aX br [.int .u64 (r.e:Int),.int .i64 (r.p:Int),.int .i64 (r.m:Int)] 71::L) w:=by
 subst hr;obtain⟨br,H⟩:=On.ex H;exact⟨br,H.unpack⟩
theorem V7{o:Option Ci}(hr:o=none)(H:On W0 (At rI v o::L) w):v=.pointer none∧On W0 L w:=by
 subst hr;exact On.unpack H
instance(priority:=10):nL xM L (.pointer none) none L:=⟨At.nil fun _=>⟨rfl,trivial⟩⟩
instance(priority:=10):nL rI L (.pointer none) none L:=⟨At.nil fun _=>⟨rfl,trivial⟩⟩
instance(priority:=10):nL Cn L (.map none) none L:=⟨At.nil fun _=>⟨rfl,trivial⟩⟩
instance(priority:=10):nL uq L (.map none) none L:=⟨At.nil fun _=>⟨rfl,trivial⟩⟩
theorem Nl{A:aC}{h:Hp}(a:A h):Sat [A] h:=Sat.cons (h2:=fun _=>none) (fun _ _ _ _ e=>by cases e) (Sub.refl _) (fun _ _ e=>by cases e) a trivial
theorem Nm{k:Kd}{v:Value}{x:k.α}{A:aC}(i:∀h,A h→k.P v x h)(h:Hp)(H:Sat (A::L) h):Sat (At k v x::L) h:=H.imp i
instance(priority:=20){br run dO oD:Nat}{lK:Bool}{L':List aC}[f:FB L br [.int .u64 (run:Int),.int .u64 (dO:Int),.bool true,.bool true,.bool lK,.int .u64 (oD:Int),.slice none 0 0,.int .u64 0] 354 L']:nL xM L br (some ⟨run,dO,lK,oD⟩) L':=
 ⟨fun h H => by
 refine Nm (fun h a => ?_) h (f.h h H);exact ⟨br, rfl, Nl a⟩⟩
instance(priority:=20){br re rp rm:Nat}{L':List aC}[f:FB L br [.int .u64 (re:Int),.int .i64 (rp:Int),.int .i64 (rm:Int)] 71 L']:nL rI L br (some ⟨re,rp,rm⟩) L':=
 ⟨fun h H => by
 refine Nm (fun h a => ?_) h (f.h h H);exact ⟨br, rfl, Nl a⟩⟩
variable{b bd bs bu ba self blocks bQ aW re rp rm count cZ dO dV oc cc ol cl:Nat}{oa ca:Option Addr}{vr vw v1 v2:Value}{now heard seen kept:Int}{known aH both:Bool}{s:kJ}{L0 L1:List aC}
theorem Yh{b bd:Nat}{p0:aE}{vr:Value}{n n':Nd}[g:jY L b bd p0 vr n' L'](k:dF n){n2:Nd}(hm:EV n=some n2)(h:On W0 L w)(e:n'=n:=by rfl):Cs 217 [b] w fun v w'=>On W0 (dZ b bd p0 vr n2::L') w':=by
 refine qO ?_;unfold EV at hm;have dI:=cG hm;clear hm;obtain⟨r,hr,hm⟩:=dI;have hm:=Ck hm;obtain⟨hk,hm⟩:=hm;obtain⟨rr,rb,ra,oS⟩:=r;have aA:ra=false:=by simpa using hk
 obtain rfl:=aA;have aA:∃m:Nd,n={m with run:=some ⟨rr,rb,false,oS⟩}:=⟨n,by rw[←hr]⟩;obtain⟨m,rfl⟩:=aA;clear hr;have h:=bF (p0:=p0) (b:=b) e k h;have aA:=gJ h;obtain⟨oa,oc,ca,cc,bs,bu,ba,vw,v1,v2,aa,k,sb,h⟩:=aA;have aA:=Hf rfl (iW (v:=vr) h);obtain⟨br,rfl,h⟩:=aA;refine qD ?_;refine W.ez Tryz.follows h (by kernel_rfl) fun w h=> ?_;refine go ?_;refine X.v (fun _=>(fC (n:=0) underlying3 underlying30 rfl (by decide) (by decide))) ?_;refine go ?_;refine X.v (fun _=>(aP (pl:=[(0,1),(1,1),(2,1),(3,1),(4,1),(5,1),(6,1),(7,1)]) (out:=[.int .i64 ((7:Nat):Int),.int .u64 ((0:Nat):Int),.int .u64 ((rr:Nat):Int),.int .u64 ((rb:Nat):Int),.int .u64 ((0:Nat):Int),.int .u64 ((0:Nat):Int),.int .u64 ((m.aW:Nat):Int),.slice none 0 0]) underlying341 zeroValue341 (fun w=>by kernel_rfl) rfl fz rfl)) ?_;refine X.e (ag call285 (wG (p0:=p0) (data:=[]) k hm aB.rL h)) ?_;rintro _ w h;refine go ?_;refine W.loop (fun(_:Unit) env w=>∃j:Env,env=eu j [(2,br),(3,.int .i64 0)]∧On W0 (dZ b bd p0 br n2::L') w) (fun _=>0) (()) ?_ ?_
 · exact⟨_,aD ⟨rfl,rfl,trivial⟩,h.to⟩
 have EH:n2.run=some ⟨rr,rb,false,oS⟩:=by rw[La hm]
 rintro _ env w ⟨j,rfl,h⟩;have aA:=gJ h;obtain⟨oa,oc,ca,cc,bs,bu,ba,vw,v1,v2,aa,k,sb,h⟩:=aA;have h:=QB EH (iW (v:=.pointer (some ⟨br,0,none⟩)) h);refine qE ?_;refine qR ?_;exact(bF (p0:=p0) (b:=b) (by rw[←EH]) k h).to
theorem Yi{b bd:Nat}{p0:aE}{vr:Value}{n n':Nd}[g:jY L b bd p0 vr n' L'](k:dF n){n2:Nd}(hr:n.run=none)(hm:yH n=some n2)(h:On W0 L w)(e:n'=n:=by rfl):Cs 215 [b] w fun v w'=>On W0 (dZ b bd p0 vr n2::L') w':=by
 refine qO ?_;unfold yH UB at hm;rw[hr] at hm;have dI:=iZ hm;clear hm;obtain⟨hg,hm⟩:=dI;have h:=bF (p0:=p0) (b:=b) e k h;have aA:=gJ h;obtain⟨oa,oc,ca,cc,bs,bu,ba,vw,v1,v2,aa,k,sb,h⟩:=aA;refine W.cut (fun env w=>∃(j:Env) (b2:Nat),env=eu j [(0,b),(2,b2)]∧On W0 (aX b2 [.int .i64 ((11:Nat):Int),.int .u64 ((0:Nat):Int),.int .u64 ((0:Nat):Int),.int .u64 ((0:Nat):Int),.int .u64 ((cB n:Nat):Int),.int .u64 ((0:Nat):Int),.int .u64 ((n.aW:Nat):Int),.slice none 0 0] 341::dZ b bd p0 vr n::L') w) ?_ ?_
 ·
  refine qT fun w h=> ?_;refine WT.m 2 rfl ?_;refine WT.n 3 rfl rfl ?_;refine WT.f 4 10 rfl underlying182 rfl sizeOf30 rfl rfl ?_;refine WT.l 5 rfl isAgg30 rfl (h.aS rfl) ?_;refine WT.two 1 7 (by kernel_rfl) ?_ ?_
  · refine WT.ju 1 [true] rfl (by kernel_rfl) (ag call284 (k9 hg h)) rfl rfl ?_;rintro _ w ⟨rfl,h⟩;refine qW ?_;refine WT.p 6 rfl (fun w'=>(aP (pl:=[(0,1),(1,1),(2,1),(3,1),(4,1),(5,1),(6,1),(7,1)]) (out:=[.int .i64 ((11:Nat):Int),.int .u64 ((0:Nat):Int),.int .u64 ((0:Nat):Int),.int .u64 ((0:Nat):Int),.int .u64 ((cB n:Nat):Int),.int .u64 ((0:Nat):Int),.int .u64 ((n.aW:Nat):Int),.slice none 0 0]) underlying341 zeroValue341 (fun w=>by kernel_rfl) rfl fz rfl)) ?_;refine WT.e 7 [true] rfl (bR h zeroValue341 rfl) ?_;rintro _ w ⟨b2,rfl,h⟩;refine qW ?_;refine WT.e 8 [false] rfl (bA h sizeOf341 rfl rfl rfl rfl rfl) ?_;rintro _ w h;refine⟨trivial, ?_⟩;refine qU ?_;exact⟨_,b2,aD ⟨rfl,rfl,trivial⟩,(bF (p0:=p0) (b:=b) rfl k h).to⟩
  refine WT.ju 7 [true] rfl (by kernel_rfl) (bR h zeroValue341 rfl) rfl rfl ?_;rintro _ w ⟨b2,rfl,h⟩;refine qW ?_;refine WT.e 1 [true] rfl (ag call284 (k9 hg h)) ?_;rintro _ w ⟨rfl,h⟩;refine qW ?_;refine WT.p 6 rfl (fun w'=>(aP (pl:=[(0,1),(1,1),(2,1),(3,1),(4,1),(5,1),(6,1),(7,1)]) (out:=[.int .i64 ((11:Nat):Int),.int .u64 ((0:Nat):Int),.int .u64 ((0:Nat):Int),.int .u64 ((0:Nat):Int),.int .u64 ((cB n:Nat):Int),.int .u64 ((0:Nat):Int),.int .u64 ((n.aW:Nat):Int),.slice none 0 0]) underlying341 zeroValue341 (fun w=>by kernel_rfl) rfl fz rfl)) ?_;refine WT.e 8 [false] rfl (bA h sizeOf341 rfl rfl rfl rfl rfl) ?_;rintro _ w h;refine⟨trivial, ?_⟩;refine qU ?_;exact⟨_,b2,aD ⟨rfl,rfl,trivial⟩,(bF (p0:=p0) (b:=b) rfl k h).to⟩
 clear h;rintro env w ⟨j,b2,rfl,h⟩;have aA:=gJ (h.aj (dZ b bd p0 (vr) (n)));obtain⟨oa,oc,ca,cc,bs,bu,ba,vw,v1,v2,aa,k,sb,h⟩:=aA;have aA:=runN hr (iW (v:=vr) h);obtain⟨rfl,h⟩:=aA;refine qD ?_;refine WL.e (ag call285 (wG (p0:=p0) (data:=[]) k hm aB.rL h (by rw[←hr]))) ?_;rintro _ w h;refine qR ?_;exact h.to
theorem Yj{b bd:Nat}{p0:aE}{vr:Value}{n n':Nd}[g:jY L b bd p0 vr n' L'](k:dF n){n2:Nd}{r:rQ}(hr:n.run=some r)(hm:yH n=some n2)(h:On W0 L w)(e:n'=n:=by rfl):Cs 215 [b] w fun v w'=>On W0 (dZ b bd p0 vr n2::L') w':=by
 refine qO ?_;unfold yH UB at hm;rw[hr] at hm;have dI:=iZ hm;clear hm;obtain⟨hg,hm⟩:=dI;have h:=bF (p0:=p0) (b:=b) e k h;have aA:=gJ h;obtain⟨oa,oc,ca,cc,bs,bu,ba,vw,v1,v2,aa,k,sb,h⟩:=aA;refine W.cut (fun env w=>∃(j:Env) (b2:Nat),env=eu j [(0,b),(2,b2)]∧On W0 (aX b2 [.int .i64 ((11:Nat):Int),.int .u64 ((0:Nat):Int),.int .u64 ((0:Nat):Int),.int .u64 ((0:Nat):Int),.int .u64 ((cB n:Nat):Int),.int .u64 ((0:Nat):Int),.int .u64 ((n.aW:Nat):Int),.slice none 0 0] 341::dZ b bd p0 vr n::L') w) ?_ ?_
 ·
  refine qT fun w h=> ?_;refine WT.m 2 rfl ?_;refine WT.n 3 rfl rfl ?_;refine WT.f 4 10 rfl underlying182 rfl sizeOf30 rfl rfl ?_;refine WT.l 5 rfl isAgg30 rfl (h.aS rfl) ?_;refine WT.two 1 7 (by kernel_rfl) ?_ ?_
  · refine WT.ju 1 [true] rfl (by kernel_rfl) (ag call284 (k9 hg h)) rfl rfl ?_;rintro _ w ⟨rfl,h⟩;refine qW ?_;refine WT.p 6 rfl (fun w'=>(aP (pl:=[(0,1),(1,1),(2,1),(3,1),(4,1),(5,1),(6,1),(7,1)]) (out:=[.int .i64 ((11:Nat):Int),.int .u64 ((0:Nat):Int),.int .u64 ((0:Nat):Int),.int .u64 ((0:Nat):Int),.int .u64 ((cB n:Nat):Int),.int .u64 ((0:Nat):Int),.int .u64 ((n.aW:Nat):Int),.slice none 0 0]) underlying341 zeroValue341 (fun w=>by kernel_rfl) rfl fz rfl)) ?_;refine WT.e 7 [true] rfl (bR h zeroValue341 rfl) ?_;rintro _ w ⟨b2,rfl,h⟩;refine qW ?_;refine WT.e 8 [false] rfl (bA h sizeOf341 rfl rfl rfl rfl rfl) ?_;rintro _ w h;refine⟨trivial, ?_⟩;refine qU ?_;exact⟨_,b2,aD ⟨rfl,rfl,trivial⟩,(bF (p0:=p0) (b:=b) rfl k h).to⟩
  refine WT.ju 7 [true] rfl (by kernel_rfl) (bR h zeroValue341 rfl) rfl rfl ?_;rintro _ w ⟨b2,rfl,h⟩;refine qW ?_;refine WT.e 1 [true] rfl (ag call284 (k9 hg h)) ?_;rintro _ w ⟨rfl,h⟩;refine qW ?_;refine WT.p 6 rfl (fun w'=>(aP (pl:=[(0,1),(1,1),(2,1),(3,1),(4,1),(5,1),(6,1),(7,1)]) (out:=[.int .i64 ((11:Nat):Int),.int .u64 ((0:Nat):Int),.int .u64 ((0:Nat):Int),.int .u64 ((0:Nat):Int),.int .u64 ((cB n:Nat):Int),.int .u64 ((0:Nat):Int),.int .u64 ((n.aW:Nat):Int),.slice none 0 0]) underlying341 zeroValue341 (fun w=>by kernel_rfl) rfl fz rfl)) ?_;refine WT.e 8 [false] rfl (bA h sizeOf341 rfl rfl rfl rfl rfl) ?_;rintro _ w h;refine⟨trivial, ?_⟩;refine qU ?_;exact⟨_,b2,aD ⟨rfl,rfl,trivial⟩,(bF (p0:=p0) (b:=b) rfl k h).to⟩
 clear h;rintro env w ⟨j,b2,rfl,h⟩;have aA:=gJ (h.aj (dZ b bd p0 (vr) (n)));obtain⟨oa,oc,ca,cc,bs,bu,ba,vw,v1,v2,aa,k,sb,h⟩:=aA;have aA:=Hf hr (iW (v:=vr) h);obtain⟨br,rfl,h⟩:=aA;refine qD ?_;refine qT fun w h=> ?_;refine WT.l 3 rfl isAgg30 rfl (h.aS rfl) ?_;refine qU ?_;refine WT.e 9 [true,false] rfl (bI (v:=.int .u64 _) h sizeOf30 rfl rfl rfl rfl rfl) ?_;rintro _ w h
 try simp only[Nat.zero_add,Nat.add_zero,List.set_cons_zero,List.set_cons_succ] at h
 refine qW ?_;refine qU ?_;refine WT.e 11 [false] rfl (bI (v:=.int .u64 _) h sizeOf30 rfl rfl rfl rfl rfl) ?_;rintro _ w h
 try simp only[Nat.zero_add,Nat.add_zero,List.set_cons_zero,List.set_cons_succ] at h
 refine⟨trivial, ?_⟩;refine qU ?_;refine WL.e (ag call285 (wG (p0:=p0) (data:=[]) k hm aB.rL h (by rw[←hr]))) ?_;rintro _ w h;refine qR ?_;exact h.to
theorem V8{b bd:Nat}{p0:aE}{vr:Value}{n n':Nd}[g:jY L b bd p0 vr n' L'](k:dF n){n2:Nd}(hm:yH n=some n2)(h:On W0 L w)(e:n'=n:=by rfl):Cs 215 [b] w fun v w'=>On W0 (dZ b bd p0 vr n2::L') w':=by
 cases hr:n.run with
 |none=>exact Yi k hr hm h e
 |some r=>exact Yj k hr hm h e
theorem Hg{b bd:Nat}{p0:aE}{vr:Value}{n n':Nd}[g:jY L b bd p0 vr n' L'](k:dF n){i:Nat}{n2:Nd}(hm:nX n i=some n2)(h:On W0 L w)(e:n'=n:=by rfl):Cs 286 [b,.int .u64 (i:Int)] w fun v w'=>On W0 (dZ b bd p0 vr n2::L') w':=by
 refine qO ?_;unfold nX at hm;have dI:=cG hm;clear hm;obtain⟨r,hr,hm⟩:=dI;have dI:=iZ hm;clear hm;obtain⟨hg,hm⟩:=dI;have dI:=cG hm;clear hm;obtain⟨x,hx,hm⟩:=dI;obtain⟨vh,zf,Z6⟩:=hg;obtain⟨rr,rb,ra,oS⟩:=r;have aA:∃m:Nd,n={m with run:=some ⟨rr,rb,ra,oS⟩}:=⟨n,by rw[←hr]⟩;obtain⟨m,rfl⟩:=aA;clear hr
 have eC:i≤gu m.s∧x.data.length≤900∧x.ep<uT:=by
   have wW:=hx;unfold mY at wW;have aA:=Ck wW;obtain⟨h1,h2⟩:=aA;have h3:=(List.getElem?_eq_some_iff.1 h2).1;have h4:=List.all_eq_true.1 Z6 x (List.mem_of_getElem? h2);simp only[Bool.and_eq_true,decide_eq_true_eq] at h4;exact⟨by unfold gu;show i≤_;have:i - m.s.hd.base - 1<m.s.es.length:=h3;omega,h4⟩
 obtain⟨KT,Yk,hx4⟩:=eC;have hg4:=vh.1;have hg5:=vh.2;have fH:=aG;have h:=bF (p0:=p0) (b:=b) e k h;have aA:=gJ h;obtain⟨oa,oc,ca,cc,bs,bu,ba,vw,v1,v2,aa,k,sb,h⟩:=aA;have aA:=Hf rfl (iW (v:=vr) h);obtain⟨br,rfl,h⟩:=aA;refine qC ?_ (C:=zO (bd:=bd) hx vh h);rintro _ w ⟨a12,rfl,h⟩;refine gb fun b4 w h=> ?_;refine gs fun w h _=> ?_;refine qD ?_;refine qT fun w h=> ?_;refine WT.l 8 rfl isAgg30 rfl (h.aS rfl) ?_;refine qU ?_;refine WT.p 20 rfl (fun w'=>(vA (k:=.u64) (m:=i) (n:=1) rfl rfl zf (by unfold gu at KT;have:m.s.hd.base+m.s.es.length<4000000000000000000:=hg4;show _≤(18446744073709551615:Int);omega))) ?_;refine WT.m 22 rfl ?_;refine WT.n 23 rfl rfl ?_;refine WT.f 24 10 rfl underlying182 rfl sizeOf30 rfl rfl ?_;refine WT.l 25 rfl isAgg30 rfl (h.aS rfl) ?_;refine WT.f 26 1 rfl underlying217 rfl sizeOf30 rfl rfl ?_;refine WT.l 27 rfl isAgg30 rfl (h.aS rfl) ?_;refine WT.f 29 2 rfl underlying217 rfl sizeOf28 rfl rfl ?_;refine WT.l 30 rfl isAgg28 rfl (h.aS rfl) ?_;refine WT.e 21 [true,true,true,true,true,true,true] rfl (ag call293 (nY (by show i - 1≤gu m.s;omega) vh h)) ?_;rintro _ w ⟨rfl,h⟩;refine qW ?_;refine WT.e 28 [true,false,true,true,true,true,true] rfl (ag call78 (dm (n:=8) (bs:=[]) h aB.rL (by decide) (by decide) hx4 (by decide))) ?_;rintro _ w ⟨VO,rfl,h⟩;refine qW ?_;refine WT.e 31 [false,true,true,true,true,true] rfl (bU (bytes:=1) h rfl rfl (h.aR) underlying28 rfl rfl rfl rfl rfl (by rw[List.nil_append,aT];omega) (by rw[List.nil_append,aT];omega) cR) ?_;rintro v48 w ⟨a48,c48,acp,h⟩;have aA:∃Q,Q=be x.ep 8++x.data:=⟨_,rfl⟩;obtain⟨Q,hQ⟩:=aA;have e2:aL ([]++be x.ep 8)++aL x.data=aL Q:=by rw[hQ];exact(List.map_append ..).symm
 have e3:([]++be x.ep 8:List UInt8).length+x.data.length=Q.length:=by rw[hQ,List.nil_append,List.length_append]
 rw[e3] at acp;rw[e2,e3] at h;subst acp;rw[←hQ] at hm;refine qW ?_;refine WT.p 32 rfl (fun w'=>(aP (pl:=[(0,1),(1,1),(2,1),(3,1),(4,1),(5,1),(6,1),(7,1)]) (out:=[.int .i64 ((9:Nat):Int),.int .u64 ((0:Nat):Int),.int .u64 ((rr:Nat):Int),.int .u64 ((rb:Nat):Int),.int .u64 ((i:Nat):Int),.int .u64 ((jm m.s (i - 1):Nat):Int),.int .u64 ((m.aW:Nat):Int),.slice a48 Q.length c48]) underlying341 zeroValue341 (fun w=>by kernel_rfl) rfl fz rfl)) ?_;refine WT.e 33 [false,false,false,false,false] rfl (ag call285 (wG (p0:=p0) k hm (aB.cF) h)) ?_;rintro _ w h;refine⟨trivial, ?_⟩;refine WT.dn (bf.yW (bf.r0 results286 ?_));exact h.to
theorem JM{b:Nat}{m:Ig}(H:On W0 (At E1 (.map (some b)) m::L) w):(∀x∈m.1,x.2.1=.bool true)∧On W0 (bV b .u64 m.1 m.2::L) w:=by
 obtain⟨b2,H⟩:=On.ex H;obtain⟨⟨e,h1⟩,H⟩:=H.unpack;simp only[Value.map.injEq,Option.some.injEq] at e;subst e;exact⟨h1,H⟩
theorem iA{b:Nat}{m:Ig}(h1:∀x∈m.1,x.2.1=.bool true)(H:On W0 (bV b .u64 m.1 m.2::L) w):On W0 (At E1 (.map (some b)) m::L) w:=H.imp fun _ s=>by
 refine Nm (fun h a=> ?_) _ s;exact⟨b,⟨rfl,h1⟩,Nl a⟩
theorem QC{l:List KV}{k:Int}{ck:Nat}(h:∀x∈l,x.2.1=.bool true):∀x∈iR l k (.bool true) ck,x.2.1=.bool true:=fun x hx=>by
 unfold iR at hx;split at hx
 · obtain⟨y,hy,rfl⟩:=List.mem_map.1 hx
   split
   · rfl
   exact h y hy
 rcases List.mem_append.1 hx with hx|hx
 · exact h x hx
 rw[List.mem_singleton.1 hx]
theorem Yl{b bd:Nat}{p0:aE}{vr:Value}{n n':Nd}[g:jY L b bd p0 vr n' L'](k:dF n){x re rp rm:Nat}{n2:Nd}(hp:rp≤255)(hq:rm≤255)(hm:Qt n x ⟨re,rp,rm⟩=some n2)(h:On W0 L w)(e:n'=n:=by rfl):Cs 222 [b,.int .u64 (x:Int),.agg #[.int .u64 ((re:Nat):Int),.int .i64 ((rp:Nat):Int),.int .i64 ((rm:Nat):Int)]] w fun v w'=>On W0 (dZ b bd p0 vr n2::L') w':=by
 refine qO ?_;unfold Qt at hm;have dI:=iZ hm;clear hm;obtain⟨hg,hm⟩:=dI;obtain⟨vh,zf⟩:=hg;have h:=bF (p0:=p0) (b:=b) e k h;have aA:=gJ h;obtain⟨oa,oc,ca,cc,bs,bu,ba,vw,v1,v2,aa,k,sb,h⟩:=aA;have aA:=JM (iW (v:=.map (some ba)) h);obtain⟨hta,h⟩:=aA;refine gb fun b5 w h=> ?_;refine qG fun w h=> ?_;refine X.e (jI (v:=.bool true) (h.aj (bV ba .u64 n.asked.1 n.asked.2)) underlying170 underlying30 rfl rfl rfl) ?_;rintro _ w h;have h:=iA (m:=(iR n.asked.1 (re:Int) (.bool true) n.asked.2,fV n.asked.1 (re:Int) n.asked.2)) (QC hta) h;refine qC ?_ (C:=Uz zf vh (by omega) (by omega) h);rintro _ w ⟨tu,rfl,h⟩;refine qC ?_ (C:=Bt (p0:=p0) (by exact k) hm h);rintro _ w h;refine qR ?_;exact h.to
theorem V9{b bd:Nat}{p0:aE}{vr:Value}{n n':Nd}[g:jY L b bd p0 vr n' L'](k:dF n){mm:Nat}{n2:Nd}(H7:mm≤3)(hm:K2 n mm=some n2)(h:On W0 L w)(e:n'=n:=by rfl):Cs 287 [b,.int .i64 (mm:Int)] w fun v w'=>On W0 (dZ b bd p0 vr n2::L') w':=by
 refine qO ?_;unfold K2 at hm;have hm:=Ck hm;obtain⟨hg,hm⟩:=hm
 have hr:n.want=none:=by
   cases hw:n.want with
   |none=>rfl
   |some x=>rw[hw] at hm;cases hm
 rw[hr] at hm;simp only at hm;have hm:=iZ hm;obtain⟨zf,hm⟩:=hm;have zf:n.iB.e+1<18446744073709551616:=zf;have hg:n.iB.e=n.s.hd.bl:=by simpa using hg
 have h:=bF (p0:=p0) (b:=b) e k h;have aA:=gJ h;obtain⟨oa,oc,ca,cc,bs,bu,ba,vw,v1,v2,aa,k,sb,h⟩:=aA;have aA:=V7 hr (iW (v:=vw) h);obtain⟨rfl,h⟩:=aA;refine qT fun w h=> ?_;refine WT.e 6 [true] rfl (ag call223 (m6 h)) ?_;rintro _ w ⟨rfl,h⟩;refine qW ?_;refine WT.p 7 rfl (fun w'=>bY rfl rfl (by omega)) ?_;refine qU ?_;refine qG fun w h=> ?_;refine X.v (fun _=>(cT (k:=.u64) (m:=n.iB.e) (n:=1) rfl rfl (by show _≤(18446744073709551615:Int);omega))) ?_;refine qB fun b43 w h=> ?_;refine gs fun w h _=> ?_;refine go ?_;refine W.ez Tryz.follows h (by kernel_rfl) fun w h=> ?_;refine qC ?_ (C:=Yl (p0:=p0) (n:={n with want:=some ⟨n.iB.e+1,n.self,mm⟩}) k (by have:=k.1;omega) (by omega) hm h);rintro _ w h;refine qR ?_;exact h.to
theorem acr{b bd:Nat}{p0:aE}{vr:Value}{n n':Nd}[g:jY L b bd p0 vr n' L'](k:dF n){n2:Nd}(hm:Qu n=some n2)(h:On W0 L w)(e:n'=n:=by rfl):Cs 219 [b] w fun v w'=>On W0 (dZ b bd p0 vr n2::L') w':=by
 refine qO ?_;unfold Qu at hm;have h:=bF (p0:=p0) (b:=b) e k h;have aA:=gJ h;obtain⟨oa,oc,ca,cc,bs,bu,ba,vw,v1,v2,aa,k,sb,h⟩:=aA;refine go ?_;refine WL.v (mq (m:=1) (j:=n.self) rfl rfl (by have:=k.1;show n.self≤64;omega) (by have h1:=k.1;have h2:n.self=0∨n.self=1:=(by omega);rcases h2 with e|e<;>(rw[e];decide))) ?_;refine WL.e (ag call287 (V9 (p0:=p0) k (by have h1:=k.1;have h2:n.self=0∨n.self=1:=(by omega);rcases h2 with e|e<;>(rw[e];decide)) (by rw[Nat.one_mul];exact hm) h)) ?_;rintro _ w h;refine qR ?_;exact h.to
end Go.Proofs.YtcplmndikhjehaaGreat
namespace Go.Proofs.YtcplmndikhjehaaGreat
open Go.Proofs.Tryz
open Go Go.Sl Go.Sl.eM Go.Sl.gW Go.Sl.kM Go.Sl.pe Go.Sl.pM Go.Sl.mG Go.Sl.pO Go.Sl.rH Go.Sl.pN Go.Sl.gU
open Go.Sl.oB (wr)
set_option maxHeartbeats 0
set_option maxRecDepth 8000
variable{L':List aC}{ax:Option Addr}{cx floor id:Nat}{data dU:List UInt8}{fresh jZ:Bool}{host info uX tK jo uY jq ke rc rk st:Int}{odv v:Value}
variable{W0 w:World}{L F:List aC}
theorem JN:jT Tryz.prog 393 .i64 .u64:=⟨⟨_,_,underlying393,by decide,by decide,rfl,rfl,underlying3,underlying30,isAgg3,isAgg30⟩,by kernel_rfl⟩
theorem Hh{o:Option Cj}{m:Cj}(hr:o=some m)(H:On W0 (At Cn v o::L) w):∃b,v=.map (some b)∧On W0 (eS b .i64 .u64 m.1 m.2::L) w:=by
 subst hr;obtain⟨b,H⟩:=On.ex H;exact⟨b,H.unpack⟩
theorem Hi{o:Option Cj}{m:Cj}(hr:o=some m)(H:On W0 (At uq v o::L) w):∃b,(v=.map (some b)∧∀x∈m.1,x.2.1=.bool true)∧On W0 (eS b .i64 .u64 m.1 m.2::L) w:=by
 subst hr;obtain⟨b,H⟩:=On.ex H;exact⟨b,H.unpack⟩
theorem qq{b:Nat}{m:Cj}(H:On W0 (eS b .i64 .u64 m.1 m.2::L) w):On W0 (At Cn (.map (some b)) (some m)::L) w:=H.imp fun _ s=>by
 refine Nm (fun h a=> ?_) _ s;exact⟨b,rfl,Nl a⟩
theorem qu{b:Nat}{m:Cj}(h1:∀x∈m.1,x.2.1=.bool true)(H:On W0 (eS b .i64 .u64 m.1 m.2::L) w):On W0 (At uq (.map (some b)) (some m)::L) w:=H.imp fun _ s=>by
 refine Nm (fun h a=> ?_) _ s;exact⟨b,⟨rfl,h1⟩,Nl a⟩
theorem QD{l:List KS}{p:Int×Int}(h:∀x∈l,x.2.1=.bool true):(kD l p).getD (.bool false)=.bool (kD l p).isSome:=by
 unfold kD;cases hf:l.find? fun x=>x.1==p with
 |none=>rfl
 |some x=>exact h x (List.mem_of_find?_eq_some hf)
theorem UD{l:List KS}{p:Int×Int}(h:∀x∈l,x.2.1=.bool true):∀x∈rP l p,x.2.1=.bool true:=fun x hx=>h x (List.mem_of_mem_eraseP hx)
theorem QE{o:Option Ci}(H:On W0 (At rI v o::L) w):(o=none∧v=.pointer none∧On W0 L w)∨(∃r bw,o=some r∧v=.pointer (some ⟨bw,0,none⟩)∧On W0 (aX bw [.int .u64 (r.e:Int),.int .i64 (r.p:Int),.int .i64 (r.m:Int)] 71::L) w):=by
 cases o with
 |none=>exact .inl ⟨rfl,V7 rfl H⟩
 |some r=>obtain⟨bw,e,H⟩:=aco rfl H;exact .inr ⟨r,bw,rfl,e,H⟩
theorem SN{n:Nd}{r:rQ}{a:Bool}(hr:n.run=some r)(hk:r.lK=a):({n with run:=some ⟨r.run,r.dO,a,r.oD⟩}:Nd)=n:=by subst hk;rw[←hr]
theorem ahh{n:Nd}{r:rQ}{a:Bool}{x:Ci}(hr:n.run=some r)(hk:r.lK=a)(hw:n.want=some x):({n with run:=some ⟨r.run,r.dO,a,r.oD⟩,want:=some x}:Nd)=n:=by subst hk;rw[←hr,←hw]
theorem Lb{n n2:Nd}{to:Int}{d:Dt}(h:uo n to d=some n2):n2={n with out:=n2.out}:=by
 unfold uo at h;obtain⟨_,h⟩:=iZ h;obtain rfl:=Option.some.inj h;rfl
variable{b bd bs bu ba self blocks bQ aW re rp rm count cZ dO dV oc cc ol cl:Nat}{oa ca:Option Addr}{vr vw v1 v2:Value}{now heard seen kept:Int}{known aH both:Bool}{s:kJ}{L0 L1:List aC}
theorem Ym{b bd:Nat}{p0:aE}{vr:Value}{n n':Nd}[g:jY L b bd p0 vr n' L'](k:dF n)(hr:n.run=none)(h:On W0 L w)(e:n'=n:=by rfl):Cs 221 [b] w fun v w'=>On W0 (dZ b bd p0 vr n::L') w':=by
 refine qO ?_;have h:=bF (p0:=p0) (b:=b) e k h;have aA:=gJ h;obtain⟨oa,oc,ca,cc,bs,bu,ba,vw,v1,v2,aa,k,sb,h⟩:=aA;have aA:=runN hr (iW (v:=vr) h);obtain⟨rfl,h⟩:=aA;refine qT fun w h=> ?_;refine WT.p 1 rfl (fun w'=>(fq underlying172 rfl rfl)) ?_;refine qU ?_;refine qR ?_;exact(bF (p0:=p0) (b:=b) (by rw[←hr]) k h).to
theorem Yn{b bd:Nat}{p0:aE}{vr:Value}{n n':Nd}[g:jY L b bd p0 vr n' L'](k:dF n){r:rQ}{n2:Nd}(hr:n.run=some r)(hm:yG n=some n2)(h:On W0 L w)(e:n'=n:=by rfl):Cs 221 [b] w fun v w'=>On W0 (dZ b bd p0 vr n2::L') w':=by
 refine qO ?_;unfold yG at hm;rw[hr] at hm;have dI:=iZ hm;clear hm;obtain⟨hg,hm⟩:=dI;have h:=bF (p0:=p0) (b:=b) e k h;have aA:=gJ h;obtain⟨oa,oc,ca,cc,bs,bu,ba,vw,v1,v2,aa,k,sb,h⟩:=aA;have aA:=Hf hr (iW (v:=vr) h);obtain⟨br,rfl,h⟩:=aA;refine qT fun w h=> ?_;refine WT.p 1 rfl (fun w'=>(fq underlying172 rfl rfl)) ?_;refine WT.m 2 rfl ?_;refine WT.m 3 rfl ?_;refine WT.n 4 rfl rfl ?_;refine WT.f 5 4 rfl underlying354 rfl sizeOf4 rfl rfl ?_;have iG:=Bool.eq_false_or_eq_true r.lK;rcases iG with hk|hk<;>rw[hk] at h
 ·
  refine qU ?_;refine WT.e 14 [true,false] rfl (ag call284 (k9 hg h)) ?_;rintro _ w ⟨rfl,h⟩;refine qW ?_;refine WT.dec 15 rfl (by kernel_rfl) (fun w'=>(cL rfl rfl)) rfl rfl (fun wX=> ?_) (fun wX=> ?_)
  ·
   refine qU ?_;refine WT.e 19 [false] rfl (ag call288 (Ye k.1 k.2.2.2 h)) ?_;rintro v27 w ⟨hv,h⟩;have iG:=Bool.eq_false_or_eq_true (Qs n);rcases iG with hq|hq<;>(rw[show(!(zo n.iB.m (1 - n.self)||n.both)&&decide (n.iB.e=n.s.hd.bl))=_ from hq] at hv;subst hv)
   all_goals (refine⟨trivial, ?_⟩)
   ·
    refine qU ?_;have iG:=QE (iW (v:=vw) h);rcases iG with⟨hw,rfl,h⟩|⟨x,bw,hw,rfl,h⟩
    · refine WT.p 27 rfl (fun w'=>(gz underlying173 rfl rfl)) ?_;refine WT.p 28 rfl (fun w'=>(kj rfl)) ?_;refine WT.dn ?_;refine qS fun w h _=> ?_;refine gs fun w h _=> ?_;refine go ?_;refine WL.e (ag call287 (V9 (p0:=p0) (n:={n with run:=some r,both:=true,seen:=n.now}) k (by decide) (by rw[if_pos ⟨hk,by show r.oD=gu n.s;omega,hq,by rw[hw];rfl⟩] at hm;exact hm) h (by obtain⟨rr,rb,ra,rm⟩:=r;simp only at hk;subst hk;rw[←hw]))) ?_;rintro _ w h;refine qR ?_;exact h.to
    refine WT.p 27 rfl (fun w'=>(gz underlying173 rfl rfl)) ?_;refine qU ?_;refine qR ?_;rw[if_neg (fun q=>absurd q.2.2.2 (by rw[hw];exact Bool.false_ne_true))] at hm;have aA:=Option.some.inj hm;obtain rfl:=aA;exact(bF (p0:=p0) (b:=b) (ahh hr hk hw) k h).to
   refine qU ?_;refine qR ?_;rw[if_neg (fun q=>absurd q.2.2.1 (by rw[hq];decide))] at hm;have aA:=Option.some.inj hm;obtain rfl:=aA;exact(bF (p0:=p0) (b:=b) (SN hr hk) k h).to
  refine qU ?_;refine qR ?_;rw[if_neg (fun q=>wX (congrArg _ q.2.1))] at hm;have aA:=Option.some.inj hm;obtain rfl:=aA;exact(bF (p0:=p0) (b:=b) (SN hr hk) k h).to
 refine qU ?_;refine qR ?_;rw[if_neg (fun q=>absurd q.1 (by rw[hk];decide))] at hm;have aA:=Option.some.inj hm;obtain rfl:=aA;exact(bF (p0:=p0) (b:=b) (SN hr hk) k h).to
theorem QF{b bd:Nat}{p0:aE}{vr:Value}{n n':Nd}[g:jY L b bd p0 vr n' L'](k:dF n)(hp:n.aH=false)(h:On W0 L w)(e:n'=n:=by rfl):Cs 336 [b,.agg #[.int .i64 host,.int .u64 (id:Int),.int .u64 (floor:Int),.int .i64 tK,.int .i64 uX,.int .i64 uY,odv,.int .u64 jo,.int .u64 jq,.int .i64 ke,.bool jZ],.agg #[.int .i64 st,.int .i64 rk,.int .i64 rc,.slice ax data.length cx,.int .i64 info],.bool fresh] w fun v w'=>On W0 (dZ b bd p0 vr n::L') w':=by
 refine qO ?_;have h:=bF (p0:=p0) (b:=b) e k h;have aA:=gJ h;obtain⟨oa,oc,ca,cc,bs,bu,ba,vw,v1,v2,aa,k,sb,h⟩:=aA;refine gb fun b5 w h=> ?_;refine gb fun b6 w h=> ?_;refine qB fun b8 w h=> ?_;refine gs fun w h _=> ?_;refine gw ?_;refine W.seq ?_;refine W.seq ?_;rw[hp] at h;refine qD ?_;refine qR ?_;exact(bF (p0:=p0) (b:=b) (by rw[←hp]) k h).to
theorem QG{b bd:Nat}{p0:aE}{vr:Value}{n n':Nd}[g:jY L b bd p0 vr n' L'](k:dF n){n2:Nd}(hp:n.aH=true)(hm:tI n ⟨host,id,floor,⟨tK,uX,uY,dU,jo,jq,ke,jZ⟩⟩ ⟨st,rk,rc,data,info⟩ fresh=some n2)(C:aB L' (Bytes (.slice ax data.length cx) data))(h:On W0 L w)(e:n'=n:=by rfl):Cs 336 [b,.agg #[.int .i64 host,.int .u64 (id:Int),.int .u64 (floor:Int),.int .i64 tK,.int .i64 uX,.int .i64 uY,odv,.int .u64 jo,.int .u64 jq,.int .i64 ke,.bool jZ],.agg #[.int .i64 st,.int .i64 rk,.int .i64 rc,.slice ax data.length cx,.int .i64 info],.bool fresh] w fun v w'=>On W0 (dZ b bd p0 vr n2::L') w':=by
 refine qO ?_;unfold tI at hm;rw[if_pos hp] at hm;have dI:=cG hm;clear hm;obtain⟨wt,hw,hm⟩:=dI;have dI:=cG hm;clear hm;obtain⟨lg,hl,hm⟩:=dI;have hm:=q7 hm;obtain⟨n3,hm,hn⟩:=hm;have aA:∃m:Nd,n={m with aH:=true,wait:=some wt,log:=some lg}:=⟨n,by rw[←hp,←hw,←hl]⟩;obtain⟨m,rfl⟩:=aA;clear hp hw hl;have h:=bF (p0:=p0) (b:=b) e k h;have aA:=gJ h;obtain⟨oa,oc,ca,cc,bs,bu,ba,vw,v1,v2,aa,k,sb,h⟩:=aA;have aA:=Hi rfl (iW (v:=v1) h);obtain⟨b1,⟨rfl,ht⟩,h⟩:=aA;have aA:=Hh rfl (iW (v:=v2) h);obtain⟨b2,rfl,h⟩:=aA;refine gb fun b5 w h=> ?_;refine gb fun b6 w h=> ?_;refine qB fun b8 w h=> ?_;refine gs fun w h _=> ?_;refine go ?_;refine WL.v (cQ rfl) ?_;refine go ?_;refine W.cs ?_;refine W.cut (fun env w=>∃(j:Env) (bk:Nat) (n3:Nd),env=eu j [(0,b),(8,bk)]∧(n3.wait=some wt∧n3.log=some lg∧{n3 with wait:=some (rP wt.1 (dS host id),wt.2),log:=some (rP lg.1 (dS host id),lg.2)}=n2)∧On W0 (aX bk [.int .i64 host,.int .u64 (id:Int)] 393::dZ b bd p0 vr n3::L') w) ?_ ?_
 ·
  refine qG fun w h=> ?_;refine X.e (Nf (p:=(dS host id)) JN (h.aj (eS b1 .i64 .u64 wt.1 wt.2)) underlying174 zeroValue4 rfl rfl (QD ht)) ?_;rintro v25 w ⟨hv,h⟩;have iG:=Bool.eq_false_or_eq_true (kD wt.1 (dS host id)).isSome;rcases iG with hq|hq<;>(rw[hq] at hv;subst hv)
  ·
   refine gw ?_;have iG:=Bool.eq_false_or_eq_true fresh;rcases iG with hf|hf<;>subst hf
   · refine qD ?_;rw[if_pos ⟨hq,.inl rfl⟩] at hm;unfold G5 at hm;have hm:=iZ hm;obtain⟨⟨oA,zI⟩,hm⟩:=hm;have oA:data.length≤100000:=oA;have zI:id<18446744073709551616:=zI;have h:=qu ht h.g;have h:=qq (h.aj (eS b2 .i64 .u64 lg.1 lg.2));refine qT fun w h=> ?_;refine WT.l 2 rfl isAgg3 rfl (h.aS rfl) ?_;refine WT.p 3 rfl (fun w'=>(eU (k:=.i64) rfl rfl)) ?_;refine qU ?_;refine WT.l 5 rfl isAgg3 rfl (h.aS rfl) ?_;refine WT.f 6 1 rfl underlying388 rfl sizeOf30 rfl rfl ?_;refine WT.l 7 rfl isAgg30 rfl (h.aS rfl) ?_;refine WT.gF (vs:=[.int .i64 _,.int .i64 _,.int .i64 _,.slice _ _ _,.int .i64 _]) 8 rfl (by kernel_rfl) isAgg38 sizeOf38 rfl rfl (h.fR (n:=5) rfl) rfl rfl ?_;refine WT.e 9 [false,false,false,true] rfl (ag call275 (q5 zI (by decide) (by decide) (by omega) h (aB.to C))) ?_;rintro _ w ⟨a43,rfl,h⟩;refine qW ?_;refine WT.e 10 [false] rfl (ag call144 (Bt (p0:=p0) (d:=.JC ⟨host,id,⟨st,rk,rc,data,info⟩,true,0⟩) (by exact k) hm h)) ?_;rintro _ w h;refine⟨trivial, ?_⟩;refine qU ?_;have e3:=Lb hm;exact⟨_,b8,n3,aD ⟨rfl,rfl,trivial⟩,⟨by rw[e3],by rw[e3],hn⟩,h.to⟩
   refine qI (fun c7=> ?_) (fun c7=> ?_)
   · rw[if_pos ⟨hq,.inr c7⟩] at hm;unfold G5 at hm;have hm:=iZ hm;obtain⟨⟨oA,zI⟩,hm⟩:=hm;have oA:data.length≤100000:=oA;have zI:id<18446744073709551616:=zI;have h:=qu ht h.g;have h:=qq (h.aj (eS b2 .i64 .u64 lg.1 lg.2));refine qT fun w h=> ?_;refine WT.l 2 rfl isAgg3 rfl (h.aS rfl) ?_;refine WT.p 3 rfl (fun w'=>(eU (k:=.i64) rfl rfl)) ?_;refine qU ?_;refine WT.l 5 rfl isAgg3 rfl (h.aS rfl) ?_;refine WT.f 6 1 rfl underlying388 rfl sizeOf30 rfl rfl ?_;refine WT.l 7 rfl isAgg30 rfl (h.aS rfl) ?_;refine WT.gF (vs:=[.int .i64 _,.int .i64 _,.int .i64 _,.slice _ _ _,.int .i64 _]) 8 rfl (by kernel_rfl) isAgg38 sizeOf38 rfl rfl (h.fR (n:=5) rfl) rfl rfl ?_;refine WT.e 9 [false,false,false,true] rfl (ag call275 (q5 zI (by decide) (by decide) (by omega) h (aB.to C))) ?_;rintro _ w ⟨a43,rfl,h⟩;refine qW ?_;refine WT.e 10 [false] rfl (ag call144 (Bt (p0:=p0) (d:=.JC ⟨host,id,⟨st,rk,rc,data,info⟩,true,0⟩) (by exact k) hm h)) ?_;rintro _ w h;refine⟨trivial, ?_⟩;refine qU ?_;have e3:=Lb hm;exact⟨_,b8,n3,aD ⟨rfl,rfl,trivial⟩,⟨by rw[e3],by rw[e3],hn⟩,h.to⟩
   refine qD ?_;rw[if_neg (fun q=>q.2.elim Bool.false_ne_true c7)] at hm;have aA:=Option.some.inj hm;obtain rfl:=aA;have h:=qu ht h.g;have h:=qq (h.aj (eS b2 .i64 .u64 lg.1 lg.2));exact⟨_,b8,_,aD ⟨rfl,rfl,trivial⟩,⟨rfl,rfl,hn⟩,(bF (p0:=p0) (b:=b) rfl k h).to⟩
  refine go ?_;refine X.v (fun _=>(lP rfl)) ?_;refine go ?_;refine W.cs ?_;rw[if_neg (fun q=>absurd q.1 (by rw[hq];exact Bool.false_ne_true))] at hm;have aA:=Option.some.inj hm;obtain rfl:=aA;have h:=qu ht h.g;have h:=qq (h.aj (eS b2 .i64 .u64 lg.1 lg.2));exact⟨_,b8,_,aD ⟨rfl,rfl,trivial⟩,⟨rfl,rfl,hn⟩,(bF (p0:=p0) (b:=b) rfl k h).to⟩
 clear h hm hn k sb ht;rintro env w ⟨j,bk,n3,rfl,⟨hw,hl,hn⟩,h⟩;have aA:∃m3:Nd,n3={m3 with wait:=some wt,log:=some lg}:=⟨n3,by rw[←hw,←hl]⟩;obtain⟨m3,rfl⟩:=aA;clear hw hl;subst hn;have aA:=gJ (h.aj (dZ b bd p0 (vr) ({m3 with wait:=some wt,log:=some lg})));obtain⟨oa,oc,ca,cc,bs,bu,ba,vw,v1,v2,aa,k,sb,h⟩:=aA;have aA:=Hi rfl (iW (v:=v1) h);obtain⟨b1,⟨rfl,ht⟩,h⟩:=aA;have aA:=Hh rfl (iW (v:=v2) h);obtain⟨b2,rfl,h⟩:=aA;refine qG fun w h=> ?_;refine X.e (yE (p:=(dS host id)) JN (h.aj (eS b1 .i64 .u64 wt.1 wt.2)) rfl rfl underlying174 rfl rfl) ?_;rintro _ w h;refine qG fun w h=> ?_;refine X.e (yE (p:=(dS host id)) JN (h.aj (eS b2 .i64 .u64 lg.1 lg.2)) rfl rfl underlying175 rfl rfl) ?_;rintro _ w h;refine qR ?_;have h:=qu (m:=(rP wt.1 (dS host id),wt.2)) (UD ht) (h.aj (eS b1 .i64 .u64 (rP wt.1 (dS host id)) wt.2));have h:=qq (m:=(rP lg.1 (dS host id),lg.2)) (h.aj (eS b2 .i64 .u64 (rP lg.1 (dS host id)) lg.2));exact(bF (p0:=p0) (b:=b) (n:={m3 with wait:=some (rP wt.1 (dS host id),wt.2),log:=some (rP lg.1 (dS host id),lg.2)}) rfl k h).to
theorem UE{b bd:Nat}{p0:aE}{vr:Value}{n n':Nd}[g:jY L b bd p0 vr n' L'](k:dF n){n2:Nd}(hm:tI n ⟨host,id,floor,⟨tK,uX,uY,dU,jo,jq,ke,jZ⟩⟩ ⟨st,rk,rc,data,info⟩ fresh=some n2)(C:aB L' (Bytes (.slice ax data.length cx) data))(h:On W0 L w)(e:n'=n:=by rfl):Cs 336 [b,.agg #[.int .i64 host,.int .u64 (id:Int),.int .u64 (floor:Int),.int .i64 tK,.int .i64 uX,.int .i64 uY,odv,.int .u64 jo,.int .u64 jq,.int .i64 ke,.bool jZ],.agg #[.int .i64 st,.int .i64 rk,.int .i64 rc,.slice ax data.length cx,.int .i64 info],.bool fresh] w fun v w'=>On W0 (dZ b bd p0 vr n2::L') w':=by
 cases hp:n.aH with
 |true=>exact QG k hp hm C h e
 | false=>
   unfold tI at hm;rw[hp] at hm;obtain rfl:=Option.some.inj hm;exact QF k hp h e
end Go.Proofs.YtcplmndikhjehaaGreat
namespace Go.Proofs.YtcplmndikhjehaaGreat
open Go.Proofs.Tryz
open Go Go.Sl Go.Sl.eM Go.Sl.gW Go.Sl.kM Go.Sl.pe Go.Sl.pM Go.Sl.mG Go.Sl.pO Go.Sl.rH Go.Sl.pN Go.Sl.gU
open Go.Sl.oB (wr)
set_option maxHeartbeats 0
set_option maxRecDepth 8000
variable{L':List aC}
variable{W0 w:World}{L F:List aC}
theorem E7{bs bd:Nat}{s:kJ}[f:nL (kK bd) L bs s L'](h:On W0 L w):Cs 122 [bs] w fun v w'=>∃a,v=.tuple #[.int .u64 (s.hd.base:Int),.slice a 0 0]∧On W0 (At (kK bd) bs s::L') w':=by
 have aA:=SL (iW (k:=kK bd) (v:=.pointer (some ⟨bs,0,none⟩)) h);obtain⟨bt,br,g,d,⟨hS,hc⟩,h⟩:=aA
 exact(Pz (by decide) h).mono fun e w' he=>by
   obtain⟨v,he,hv⟩:=he;refine⟨v,he, ?_⟩;obtain⟨a,hv,h⟩:=hv;have h:=SM (bs:=bs) (bd:=bd) (bt:=bt) (br:=br) (L:=L') hS hc h.to;exact⟨a,hv,h⟩
theorem unO{aa:aE}{bu:Nat}{u:Un}(H:On W0 (At (Ih aa) bu u::L) w):∃ms,On W0 (qb 236 321 323 bu aa ms u::L) w:=by
 obtain⟨⟨b2,ms⟩,H⟩:=On.ex H;obtain⟨e,H⟩:=H.unpack;simp only[Value.pointer.injEq,Option.some.injEq,Addr.mk.injEq,and_true] at e;subst e;exact⟨ms,H⟩
theorem unC{aa:aE}{bu:Nat}{ms:List Nat}{u:Un}(H:On W0 (qb 236 321 323 bu aa ms u::L) w):On W0 (At (Ih aa) bu u::L) w:=H.imp fun _ s=>by
 refine Nm (fun h a=> ?_) _ s;exact⟨(bu,ms),rfl,Nl a⟩
theorem nZ{p q:aE}{L2:List aC}[g:xN p q L L2](k:cI p q)(h:On W0 L w):On W0 L2 w:=h.imp fun _ H=>g.h k _ H
theorem cmO{aa:aE}{v:Value}{l:List xJ}(H:On W0 (At (G8 aa) v l::L) w):∃xo:List (xJ×Value),(xo.map (·.1)=l∧cW aa (·.c.data) xo)∧On W0 (Own 11 v l.length (xo.flatMap tW)::L) w:=by
 obtain⟨xo,H⟩:=On.ex H;exact⟨xo,H.unpack⟩
theorem Yo{aa:aE}{v:Value}{n:Nat}{l:List xJ}{xo:List (xJ×Value)}(h1:xo.map (·.1)=l)(h2:cW aa (·.c.data) xo)(hn:n=l.length)(H:On W0 (Own 11 v n (xo.flatMap tW)::L) w):On W0 (At (G8 aa) v l::L) w:=by
 subst hn;exact On.rT xo (On.pack ⟨h1,h2⟩ H)
theorem yK{u:Un}(h:quiet u=true):small 0 u∧u.t.hold= -1∧∀i,∀x∈(u.cA i).done,x.2.data.length≤1000000:=by
 unfold quiet at h;rw[Bool.and_eq_true,decide_eq_true_eq] at h
 have hg:∀i,(u.cA i).dN=[]∧∀x∈(u.cA i).done,x.2.data.length≤1000:=fun i=>by
   unfold Un.cA;by_cases hi:i<u.g.length
   · have hm:u.g.getD i ⟨[],0,[]⟩∈u.g:=by rw[List.getD_eq_getElem?_getD,List.getElem?_eq_getElem hi];exact List.getElem_mem hi
     have:=List.all_eq_true.1 h.2 _ hm;simp only[Bool.and_eq_true,List.isEmpty_iff,List.all_eq_true,decide_eq_true_eq] at this;exact this
   rw[List.getD_eq_getElem?_getD,List.getElem?_eq_none (by omega)];exact⟨rfl,fun x hx=>by cases hx⟩
 refine⟨fun i _=>(by rw[(hg i).1];exact Nat.zero_le _),h.1,fun i x hx=>Nat.le_trans ((hg i).2 x hx) (by decide)⟩
variable{b bd bs bu ba self blocks bQ aW re rp rm count cZ dO dV oc cc ol cl:Nat}{oa ca:Option Addr}{vr vw v1 v2:Value}{now heard seen kept:Int}{known aH both:Bool}{s:kJ}{L0 L1:List aC}
theorem QH{b bd:Nat}{p0:aE}{vr:Value}{n n':Nd}[g:jY L b bd p0 vr n' L'](k:dF n){n2:Nd}(hm:wB n=some n2)(h:On W0 L w)(e:n'=n:=by rfl):Cs 337 [b] w fun v w'=>On W0 (dZ b bd p0 vr n2::L') w':=by
 refine qO ?_;unfold wB at hm;have dI:=iZ hm;clear hm;obtain⟨hg,hm⟩:=dI;obtain⟨vh,zf,hb⟩:=hg;have aA:=Option.some.inj hm;obtain rfl:=aA;have h:=bF (p0:=p0) (b:=b) e k h;have aA:=gJ h;obtain⟨oa,oc,ca,cc,bs,bu,ba,vw,v1,v2,aa,k,sb,h⟩:=aA;refine qC ?_ (C:=E7 (bd:=bd) h);rintro _ w ⟨NT,rfl,h⟩;refine go ?_;refine WL.v (vA (k:=.u64) (m:=n.aW) (n:=n.s.hd.base) rfl rfl vh (by have hb:n.aW<18446744073709551616:=hb;show _≤(18446744073709551615:Int);omega)) ?_;refine WL.v (vo rfl rfl (by omega)) ?_;refine qD ?_;refine qR ?_;exact(bF (p0:=p0) (b:=b) rfl k h).to
theorem UF{b bd:Nat}{p0:aE}{vr:Value}{n n':Nd}[g:jY L b bd p0 vr n' L'](k:dF n){to:Nat}{n2 n3:Nd}(hm:uU (to - n.aW) n to=some n3)(hc:wB n3=some n2)(hto:to<uT)(h:On W0 L w)(e:n'=n:=by rfl):Cs 307 [b,.int .u64 (to:Int)] w fun v w'=>On W0 (dZ b bd p0 vr n2::L') w':=by
 refine qO ?_;have h:=bF (p0:=p0) (b:=b) e k h;have aA:=gJ h;obtain⟨oa,oc,ca,cc,bs,bu,ba,vw,v1,v2,aa,k,sb,h⟩:=aA;refine go ?_;refine W.loop (fun(q:Nat×Nd) env w=>uU q.1 q.2 to=some n3∧∃j:Env,env=eu j [(0,b),(1,.int .u64 (to:Int))]∧On W0 (dZ b bd p0 vr q.2::L') w) (fun q=>q.1) ((to - n.aW,n)) ?_ ?_
 · exact⟨hm,_,aD ⟨rfl,rfl,trivial⟩,(bF (p0:=p0) (b:=b) rfl k h).to⟩
 clear h k sb hm;rintro ⟨f,n1⟩ env w ⟨hm,j,rfl,h⟩;simp only at hm h;have aA:=gJ h.g;obtain⟨oa,oc,ca,cc,bs,bu,ba,vw,v1,v2,aa,k,sb,h⟩:=aA;refine qI (fun c5=> ?_) (fun c5=> ?_)
 ·
  have aA:∃g,f=g+1:=by
    cases f with
    |zero=>exact absurd (Ck hm).1 (by omega)
    |succ g=>exact⟨g,rfl⟩
  obtain⟨f,rfl⟩:=aA;unfold uU at hm;rw[if_pos (by omega)] at hm;have dI:=iZ hm;clear hm;obtain⟨hg,hm⟩:=dI;obtain⟨cD,ny⟩:=hg;have dI:=cG hm;clear hm;obtain⟨x,hx,hm⟩:=dI;have dI:=cG hm;clear hm;obtain⟨n4,ki,hm⟩:=dI
  have eC:x.data.length≤900:=by
    have wW:=hx;unfold mY at wW;have aA:=Ck wW;obtain⟨_,h2⟩:=aA;have h4:=List.all_eq_true.1 ny x (List.mem_of_getElem? h2);simpa using h4
  unfold V6 at ki;have ki:=iZ ki;obtain⟨⟨Co,H8,FK⟩,ki⟩:=ki;have FK:n1.aW+1<18446744073709551616:=FK;have fH:=aG;refine W.skip ?_;refine W.block ?_;refine W.cut (fun env w=>∃(j:Env) (b4:Nat) (ae:Option Addr),env=eu j [(0,b),(1,.int .u64 (to:Int)),(4,b4),(5,.bool true)]∧On W0 (aX b4 [.int .u64 (x.idx:Int),.int .u64 (x.ep:Int),.slice ae x.data.length x.data.length] 217::bC (.slice ae x.data.length x.data.length) x.data::dZ b bd p0 vr n1::L') w) ?_ ?_
  ·
   refine qT fun w h=> ?_;refine WT.p 8 rfl (fun w'=>(cT (k:=.u64) (m:=n1.aW) (n:=1) rfl rfl (by show _≤(18446744073709551615:Int);omega))) ?_;refine WT.two 9 13 (by kernel_rfl) ?_ ?_
   · refine WT.ju 9 [false,false] rfl (by kernel_rfl) (ag call322 (zO (bd:=bd) hx cD h)) rfl rfl ?_;rintro _ w ⟨ae,rfl,h⟩;refine⟨trivial, ?_⟩;refine qU ?_;refine WT.e 13 [] rfl (bR h zeroValue217 rfl) ?_;rintro _ w ⟨b4,rfl,h⟩;refine⟨trivial, ?_⟩;refine WT.e 14 [] rfl (bA h sizeOf217 rfl rfl rfl rfl rfl) ?_;rintro _ w h;refine⟨trivial, ?_⟩;refine qU ?_;exact⟨_,b4,ae,aD ⟨rfl,rfl,rfl,rfl,trivial⟩,(bF (p0:=p0) (b:=b) rfl k h).to⟩
   refine WT.ju 13 [true,true] rfl (by kernel_rfl) (bR h zeroValue217 rfl) rfl rfl ?_;rintro _ w ⟨b4,rfl,h⟩;refine qW ?_;refine WT.e 9 [false,false] rfl (ag call322 (zO (bd:=bd) hx cD h)) ?_;rintro _ w ⟨ae,rfl,h⟩;refine⟨trivial, ?_⟩;refine qU ?_;refine WT.e 14 [] rfl (bA h sizeOf217 rfl rfl rfl rfl rfl) ?_;rintro _ w h;refine⟨trivial, ?_⟩;refine qU ?_;exact⟨_,b4,ae,aD ⟨rfl,rfl,rfl,rfl,trivial⟩,(bF (p0:=p0) (b:=b) rfl k h).to⟩
  clear h k sb;rintro env w ⟨j,b4,ae,rfl,h⟩;have aA:=gJ (h.aj (dZ b bd p0 (vr) (n1)));obtain⟨oa,oc,ca,cc,bs,bu,ba,vw,v1,v2,aa,k,sb,h⟩:=aA;refine qD ?_;refine WL.v (cT (k:=.u64) (m:=n1.aW) (n:=1) rfl rfl (by show _≤(18446744073709551615:Int);omega)) ?_;refine gs fun w h _=> ?_;refine qC ?_ (C:=sJ (F:=[bC (.slice ae x.data.length x.data.length) x.data]) (by omega) h (aB.cF));rintro v40 w ⟨o,ac,vj,hv,ho,r7,h⟩;rw[Co] at hv;rw[←ho Co] at ki;obtain⟨ajm,SO,ofl,⟨SP,cat,Hj,iL,sS,sU,sV,sW⟩⟩:=o;simp only at r7;have ki:=cG ki;obtain⟨y,hy,ki⟩:=ki;unfold K1 at hy;have hy:=iZ hy;obtain⟨⟨hq,NW,hh8,xF,oA⟩,ahi⟩:=hy;have aA:=Int.eq_ofNat_of_zero_le NW;obtain⟨i,rfl⟩:=aA;have V1:i<8:=by have hh8:(i:Int)<8:=hh8;omega
  have oA:iL.length≤1000:=oA;have hqs:=yK hq;obtain⟨Nn,m7,QI⟩:=hqs;simp only[Od.cells,Cm.cells,List.cons_append,List.nil_append] at hv;subst hv;refine gb fun b6 w h=> ?_;refine gs fun w h _=> ?_;refine go ?_;refine WL.v (cQ rfl) ?_;refine go ?_;refine W.cs ?_;refine W.cut (fun env w=>∃(j:Env) (b6 b7:Nat) (ad:Option Addr) (cd:Nat) (u2:Un) (r:Rp) (fresh:Bool),qc n1.unit i (SO:Int) (ofl:Int) ⟨SP,cat,Hj,iL,sS,sU,sV,sW⟩=(u2,r,fresh)∧env=eu j [(0,b),(1,.int .u64 (to:Int)),(6,b6),(7,b7),(8,.bool fresh)]∧On W0 (aX b6 [.int .i64 (i:Int),.int .u64 (SO:Int),.int .u64 (ofl:Int),.int .i64 SP,.int .i64 cat,.int .i64 Hj,.slice ac iL.length vj,.int .u64 sS,.int .u64 sU,.int .i64 sV,.bool sW] 388::aX b7 [.int .i64 r.st,.int .i64 r.key,.int .i64 r.code,.slice ad r.data.length cd,.int .i64 r.info] 38::bC (.slice ad r.data.length cd) r.data::bC (.slice ac iL.length vj) iL::dZ b bd p0 vr {n1 with aW:=n1.aW+1,unit:=u2}::L') w) ?_ ?_
  ·
   have hun:=unO (iW (k:=Ih aa) (v:=.pointer (some ⟨bu,0,none⟩)) h);obtain⟨ms,h⟩:=hun;refine qT fun w h=> ?_;refine WT.l 5 rfl isAgg3 rfl (h.aS rfl) ?_;refine WT.f 6 1 rfl underlying388 rfl sizeOf30 rfl rfl ?_;refine WT.l 7 rfl isAgg30 rfl (h.aS rfl) ?_;refine WT.f 8 2 rfl underlying388 rfl sizeOf30 rfl rfl ?_;refine WT.l 9 rfl isAgg30 rfl (h.aS rfl) ?_;refine WT.f 10 3 rfl underlying388 rfl sizeOf32 rfl rfl ?_;refine WT.gF (vs:=[.int .i64 _,.int .i64 _,.int .i64 _,.slice _ _ _,.int .u64 _,.int .u64 _,.int .i64 _,.bool _]) 11 rfl (by kernel_rfl) isAgg32 sizeOf32 rfl rfl (h.fR (n:=8) rfl) rfl rfl ?_;refine WT.two 12 16 (by kernel_rfl) ?_ ?_
   · refine WT.ju 12 [false,false,false,false,false] rfl (by kernel_rfl) (ag call277 (sP V1 xF Nn m7 (QI i) ((h.aj (aY aa)).aj (qb 236 321 323 bu aa ms n1.unit)) (aB.cF) (by omega))) rfl rfl ?_;rintro _ w ⟨u2,r,fresh,dv,Wa,cg,JO,rfl,N1,h⟩;have ET:=Own.form h;obtain⟨ad,cd,oC,_⟩:=ET;subst oC;have lF:cI aa cg:=⟨N1⟩;have sb2:=sb.trans lF;have h:=unC (h.aj (qb 236 321 323 bu cg Wa u2));have h:=nZ lF h;refine⟨trivial, ?_⟩;refine qU ?_;refine WT.e 16 [] rfl (bR h zeroValue38 rfl) ?_;rintro _ w ⟨b7,rfl,h⟩;refine⟨trivial, ?_⟩;refine WT.e 17 [] rfl (bA h sizeOf38 rfl rfl rfl rfl rfl) ?_;rintro _ w h;refine⟨trivial, ?_⟩;refine qU ?_;exact⟨_,b6,b7,ad,cd,u2,r,fresh,JO,aD ⟨rfl,rfl,rfl,rfl,rfl,trivial⟩,(bF (p0:=p0) (b:=b) (n:={n1 with aW:=n1.aW+1,unit:=u2}) rfl k h).to⟩
   refine WT.ju 16 [true,true,true,true,true] rfl (by kernel_rfl) (bR h zeroValue38 rfl) rfl rfl ?_;rintro _ w ⟨b7,rfl,h⟩;refine⟨⟨(h.fR (n:=8) rfl),h.aS rfl,h.aS rfl,h.aS rfl,h.aS rfl,trivial⟩, ?_⟩;refine WT.e 12 [false,false,false,false,false] rfl (ag call277 (sP V1 xF Nn m7 (QI i) ((h.aj (aY aa)).aj (qb 236 321 323 bu aa ms n1.unit)) (aB.cF) (by omega))) ?_;rintro _ w ⟨u2,r,fresh,dv,Wa,cg,JO,rfl,N1,h⟩;have ET:=Own.form h;obtain⟨ad,cd,oC,_⟩:=ET;subst oC;have lF:cI aa cg:=⟨N1⟩;have sb2:=sb.trans lF;have h:=unC (h.aj (qb 236 321 323 bu cg Wa u2));have h:=nZ lF h;refine⟨trivial, ?_⟩;refine qU ?_;refine WT.e 17 [] rfl (bA h sizeOf38 rfl rfl rfl rfl rfl) ?_;rintro _ w h;refine⟨trivial, ?_⟩;refine qU ?_;exact⟨_,b6,b7,ad,cd,u2,r,fresh,JO,aD ⟨rfl,rfl,rfl,rfl,rfl,trivial⟩,(bF (p0:=p0) (b:=b) (n:={n1 with aW:=n1.aW+1,unit:=u2}) rfl k h).to⟩
  clear h k sb;rintro env w ⟨j,b6,b7,ad,cd,u2,r,fresh,JO,rfl,h⟩;have aA:=Option.some.inj ahi;obtain rfl:=aA;simp only[Int.toNat_natCast] at ki;rw[JO] at ki;simp only at ki;have aA:=gJ (h.aj (dZ b bd p0 (vr) ({n1 with aW:=n1.aW+1,unit:=u2})));obtain⟨oa,oc,ca,cc,bs,bu,ba,vw,v1,v2,aa,k,sb,h⟩:=aA;refine W.cut (fun env w=>∃(j:Env) (n5:Nd),tI n5 ⟨(i:Int),SO,ofl,⟨SP,cat,Hj,iL,sS,sU,sV,sW⟩⟩ r fresh=some n4∧env=eu j [(0,b),(1,.int .u64 (to:Int)),(6,b6),(7,b7),(8,.bool fresh)]∧On W0 (aX b6 [.int .i64 (i:Int),.int .u64 (SO:Int),.int .u64 (ofl:Int),.int .i64 SP,.int .i64 cat,.int .i64 Hj,.slice ac iL.length vj,.int .u64 sS,.int .u64 sU,.int .i64 sV,.bool sW] 388::aX b7 [.int .i64 r.st,.int .i64 r.key,.int .i64 r.code,.slice ad r.data.length cd,.int .i64 r.info] 38::bC (.slice ad r.data.length cd) r.data::dZ b bd p0 vr n5::L') w) ?_ ?_
  ·
   refine qI (fun CZ=> ?_) (fun CZ=> ?_)
   ·
    have amf:({n1 with aW:=n1.aW+1,unit:=u2}:Nd).bD.length≤1000:=H8;have aA:=cmO (iW (k:=G8 aa) (v:=.slice ca n1.bD.length cc) h);obtain⟨xo,⟨gy,uW⟩,h⟩:=aA;refine qT fun w h=> ?_;refine WT.l 10 rfl isAgg3 rfl (h.aS rfl) ?_;refine WT.f 11 1 rfl underlying388 rfl sizeOf30 rfl rfl ?_;refine WT.l 12 rfl isAgg30 rfl (h.aS rfl) ?_;refine WT.f 13 3 rfl underlying388 rfl sizeOf32 rfl rfl ?_;refine WT.gF (vs:=[.int .i64 _,.int .i64 _,.int .i64 _,.slice _ _ _,.int .u64 _,.int .u64 _,.int .i64 _,.bool _]) 14 rfl (by kernel_rfl) isAgg32 sizeOf32 rfl rfl (h.fR (n:=8) rfl) rfl rfl ?_;refine WT.p 15 rfl (fun w'=>(aP (pl:=[(0,1),(1,1),(2,1),(3,8)]) (out:=[.int .u64 _,.int .i64 _,.int .u64 _,.int .i64 _,.int .i64 _,.int .i64 _,.slice _ _ _,.int .u64 _,.int .u64 _,.int .i64 _,.bool _]) underlying253 zeroValue253 (fun w=>by kernel_rfl) rfl fz rfl)) ?_;refine WT.e 16 [false,false,false,false,true] rfl (aZ (zl:=[.int .u64 0,.int .i64 0,.int .u64 0,.int .i64 0,.int .i64 0,.int .i64 0,.slice none 0 0,.int .u64 0,.int .u64 0,.int .i64 0,.bool false]) (out:=[.int .u64 _,.int .i64 _,.int .u64 _,.int .i64 _,.int .i64 _,.int .i64 _,.slice _ _ _,.int .u64 _,.int .u64 _,.int .i64 _,.bool _]) h underlying171 sizeOf253 zeroValue253 (by decide) (by kernel_rfl) rfl rfl (by simp) fz rfl rfl (by simp[maxLen])) ?_;rintro _ w ⟨b78,rfl,h⟩;refine qW ?_;refine WT.e 17 [false] rfl (bU (bytes:=104) h.g rfl rfl (h.aR) underlying171 rfl rfl rfl rfl rfl (by omega) (by omega) (by simp[Value.oneCell'])) ?_;rintro _ w ⟨a79,c79,rfl,h⟩;refine⟨trivial, ?_⟩;refine qU ?_;refine WT.e 20 [] rfl (bI (v:=.slice _ _ _) h sizeOf171 rfl rfl rfl rfl rfl) ?_;rintro _ w h
    try simp only[Nat.zero_add,Nat.add_zero,List.set_cons_zero,List.set_cons_succ] at h
    refine⟨trivial, ?_⟩;refine qU ?_;have h:=grow (h.aj (bC (.slice ac iL.length vj:Value) iL));have sb2:=sb.trans (cI.cons (x:=((.slice ac iL.length vj:Value),iL)));have h:=h.aj (Own 11 (.slice a79 (n1.bD.length+1) c79) (n1.bD.length+1) (xo.flatMap tW++[.int .u64 ((n1.aW+1:Nat):Int),.int .i64 (i:Int),.int .u64 (SO:Int),.int .i64 SP,.int .i64 cat,.int .i64 Hj,.slice ac iL.length vj,.int .u64 sS,.int .u64 sU,.int .i64 sV,.bool sW]));rw[show xo.flatMap tW++[.int .u64 ((n1.aW+1:Nat):Int),.int .i64 (i:Int),.int .u64 (SO:Int),.int .i64 SP,.int .i64 cat,.int .i64 Hj,.slice ac iL.length vj,.int .u64 sS,.int .u64 sU,.int .i64 sV,.bool sW]=(xo++[((⟨n1.aW+1,(i:Int),SO,⟨SP,cat,Hj,iL,sS,sU,sV,sW⟩⟩:xJ),(.slice ac iL.length vj:Value))]).flatMap tW by simp[tW,Cm.cells]] at h;have h:=Yo (l:=n1.bD++[(⟨n1.aW+1,(i:Int),SO,⟨SP,cat,Hj,iL,sS,sU,sV,sW⟩⟩:xJ)]) (by rw[List.map_append,gy];rfl) ((uW.mono fun _ h=>List.mem_cons_of_mem _ h).snoc ⟨.inl (List.mem_cons_self ..),ac,vj,rfl⟩) (by simp) h;rw[if_pos CZ] at ki;exact⟨_,{n1 with aW:=n1.aW+1,unit:=u2,bD:=n1.bD++[(⟨n1.aW+1,(i:Int),SO,⟨SP,cat,Hj,iL,sS,sU,sV,sW⟩⟩:xJ)]},ki,aD ⟨rfl,rfl,rfl,rfl,rfl,trivial⟩,(bF (p0:=p0) (b:=b) (n:={n1 with aW:=n1.aW+1,unit:=u2,bD:=n1.bD++[(⟨n1.aW+1,(i:Int),SO,⟨SP,cat,Hj,iL,sS,sU,sV,sW⟩⟩:xJ)]}) rfl k h).to⟩
   refine qD ?_;rw[if_neg (by rw[CZ];exact Bool.false_ne_true)] at ki;exact⟨_,{n1 with aW:=n1.aW+1,unit:=u2},ki,aD ⟨rfl,rfl,rfl,rfl,rfl,trivial⟩,(bF (p0:=p0) (b:=b) rfl k h).to⟩
  clear h k sb ki;rintro env w ⟨j,n5,ki,rfl,h⟩;have aA:=BV (b:=b) (bd:=bd) (p0:=p0) (vr:=vr) (n:=n5) h;obtain⟨k,h⟩:=aA;refine qC ?_ (C:=UE (p0:=p0) (by exact k) ki (aB.cF) h);rintro _ w h;refine gw ?_;exact⟨(f,n4),⟨hm,_,aD ⟨rfl,rfl,trivial⟩,h.to⟩,Nat.lt_succ_self _⟩
 refine W.exit ?_;have aA:=JK (by omega) hm;obtain rfl:=aA;refine qC ?_ (C:=QH (p0:=p0) k hc h);rintro _ w h;refine qR ?_;exact h.to
theorem Bv{b bd:Nat}{p0:aE}{vr:Value}{n n':Nd}[g:jY L b bd p0 vr n' L'](k:dF n){to:Nat}{n2:Nd}(hm:applyN n to=some n2)(hto:to<uT)(h:On W0 L w)(e:n'=n:=by rfl):Cs 307 [b,.int .u64 (to:Int)] w fun v w'=>On W0 (dZ b bd p0 vr n2::L') w':=by
 obtain⟨n3,hm,hc⟩:=cG hm;exact UF k hm hc hto h e
end Go.Proofs.YtcplmndikhjehaaGreat
namespace Go.Sl.gW
open Go Go.Sl Go.Sl.BitM Go.Sl.zh Go.Sl.uf Go.Sl.eM
section
variable{W0 w:World}{L:List aC}
end
end Go.Sl.gW
namespace Go.Sl.gW
open Go Go.Sl Go.Sl.BitM Go.Sl.zh Go.Sl.uf Go.Sl.eM
variable{n:Nat}
abbrev gR:=List (Nat×Value×Nat×List Value)
def cO(pc:gR):aC:=fun h=>∀p∈pc,Cells p.1 p.2.1 p.2.2.1 p.2.2.2 h
abbrev xK(pc:gR)(v:Value)(bs:List UInt8):Prop:=(1,v,bs.length,aL bs)∈pc
section
variable{W0 w:World}{L:List aC}{pc lX:gR}
theorem On.Yp(H:On W0 L w):On W0 (cO []::L) w:=H.new fun _ _ h=>by cases h
theorem On.wH{size:Nat}{v:Value}{xs:List Value}(H:On W0 (Own size v n xs::cO pc::L) w):On W0 (cO ((size,v,n,xs)::pc)::L) w:=
 H.merge fun h k l s1 s2 a b p hp=>by
   rcases List.mem_cons.1 hp with rfl|hp
   · exact jV _ _ _ _ _ _ s1 a.cells
   exact jV _ _ _ _ _ _ s2 (b p hp)
theorem aB.wI{size:Nat}{v:Value}{xs:List Value}(h:(size,v,n,xs)∈pc):aB (cO pc::L) (Cells size v n xs):=aB.head (jV _ _ _ _) fun _ H=>H _ h
end
def q9(pc lX:gR):Prop:=∀p∈pc,p∈lX
theorem gS{pc:gR}:q9 pc pc:=fun p h=>h
theorem kH{pc:gR}{x:Nat×Value×Nat×List Value}:q9 pc (x::pc):=fun p h=>List.mem_cons_of_mem _ h
theorem q9.trans{a b c:gR}(h1:q9 a b)(h2:q9 b c):q9 a c:=fun p h=>h2 p (h1 p h)
def gY(T b:Nat)(pc:gR)(s:Sp):aC:=Ex fun(x:Value×Value×List UInt8)=>Pack (Fz s∧xK pc x.1 s.d∧xK pc x.2.1 x.2.2∧x.2.2.length≤1000)
 [aX b [.int .i64 (s.N:Int),x.1,x.2.1] T]
section
variable{W0 w:World}{L:List aC}{T b:Nat}{s:Sp}{pc lX:gR}
theorem kZ(H:On W0 (gY T b pc s::L) w):∃bv mv m,(Fz s∧xK pc bv s.d∧xK pc mv m∧m.length≤1000)∧On W0 (aX b [.int .i64 (s.N:Int),bv,mv] T::L) w:=by
 obtain⟨⟨bv,mv,m⟩,H⟩:=H.ex;obtain⟨h1,H⟩:=H.unpack;exact⟨bv,mv,m,h1,H⟩
theorem eH{bv mv:Value}{m:List UInt8}(h1:Fz s∧xK pc bv s.d∧xK pc mv m∧m.length≤1000)(H:On W0 (aX b [.int .i64 (s.N:Int),bv,mv] T::L) w):On W0 (gY T b pc s::L) w:=
 On.rT (bv,mv,m) (On.pack h1 H)
theorem DL(hs:q9 pc lX)(H:On W0 (gY T b pc s::L) w):On W0 (gY T b lX s::L) w:=by
 obtain⟨bv,mv,m,⟨h1,h2,h3,h4⟩,H⟩:=kZ H;exact eH ⟨h1,hs _ h2,hs _ h3,h4⟩ H
theorem E8{v1 v2:Value}{N:Nat}{mm:List UInt8}{xs:List Value}(hw:Fz s)(hN:s.N=N)(hx:xs=aL s.d)(hd:s.d.length=n)(hm:mm.length≤1000)(H:On W0 (Own 1 v1 n xs::Own 1 v2 mm.length (aL mm)::cO pc::aX b [.int .i64 (N:Int),v1,v2] T::L) w):
   ∃lX,q9 pc lX∧On W0 (gY T b lX s::cO lX::L) w:=by
 subst hd;subst hN;subst hx;have H1:On W0 (Own 1 v2 mm.length (aL mm)::cO pc::Own 1 v1 s.d.length (aL s.d)::aX b [.int .i64 (s.N:Int),v1,v2] T::L) w:=H.to;have H2:=On.wH H1;have H3:On W0 (Own 1 v1 s.d.length (aL s.d)::cO ((1,v2,mm.length,aL mm)::pc)::aX b [.int .i64 (s.N:Int),v1,v2] T::L) w:=H2.to;have H4:=On.wH H3;have H5:On W0 (aX b [.int .i64 (s.N:Int),v1,v2] T::cO ((1,v1,s.d.length,aL s.d)::(1,v2,mm.length,aL mm)::pc)::L) w:=H4.to;exact⟨_,kH.trans kH,eH ⟨hw,List.mem_cons_self ..,List.mem_cons_of_mem _ (List.mem_cons_self ..),hm⟩ H5⟩
end
structure DX where
 id:Int
 r:Rp
 v:Value
def DX.cells(d:DX):List Value:=.int .u64 d.id::d.r.cells d.v
def DX.out(d:DX):Int×Rp:=(d.id,d.r)
structure RX where
 dN:List Int
 floor:Int
 D:List DX
 wv:Value
 dv:Value
def RX.s(x:RX):Gs:=⟨x.dN,x.floor,x.D.map DX.out⟩
def zRX:RX:=⟨[],0,[],.slice none 0 0,.slice none 0 0⟩
def UG(pc:gR)(x:RX):Prop:=(1,x.wv,x.dN.length,cV x.dN)∈pc∧(6,x.dv,x.D.length,x.D.flatMap DX.cells)∈pc∧∀d∈x.D,xK pc d.v d.r.data
abbrev fZ(bs bt:Nat)(xs:List RX):List Value:=.pointer (some ⟨bs,0,none⟩)::bt::(xs.map RX.wv++(xs.map (fun x=> .int .u64 x.floor)++xs.map RX.dv))
def m8(TU TS TT bu:Nat)(pc:gR)(u:Un):aC:=Ex fun(x:Nat×Nat×List RX)=>Pack (x.2.2.map RX.s=u.g∧u.g.length=8∧(∀y∈x.2.2,UG pc y)∧xK pc (.slice none 0 0) [])
 [aX bu (fZ x.1 x.2.1 x.2.2) TU,gY TS x.1 pc u.s,aX x.2.1 u.t.cells TT]
theorem Hl{pc lX:gR}{x:RX}(hs:q9 pc lX)(h:UG pc x):UG lX x:=⟨hs _ h.1,hs _ h.2.1,fun d hd=>hs _ (h.2.2 d hd)⟩
section
variable{W0 w:World}{L:List aC}{TU TS TT bu bs bt:Nat}{pc lX:gR}{u:Un}{xs:List RX}{x x':RX}{i:Nat}
theorem Ho(H:On W0 (m8 TU TS TT bu pc u::L) w):∃bs bt xs,(xs.map RX.s=u.g∧u.g.length=8∧(∀y∈xs,UG pc y)∧xK pc (.slice none 0 0) [])∧On W0 (aX bu (fZ bs bt xs) TU::gY TS bs pc u.s::aX bt u.t.cells TT::L) w:=by
 obtain⟨⟨b1,b2,xs⟩,H⟩:=H.ex;obtain⟨h1,H⟩:=H.unpack;exact⟨b1,b2,xs,h1,H⟩
theorem uZ(h1:xs.map RX.s=u.g∧u.g.length=8∧(∀y∈xs,UG pc y)∧xK pc (.slice none 0 0) [])(H:On W0 (aX bu (fZ bs bt xs) TU::gY TS bs pc u.s::aX bt u.t.cells TT::L) w):On W0 (m8 TU TS TT bu pc u::L) w:=
 On.rT (bs,bt,xs) (On.pack h1 H)
theorem Np(hs:q9 pc lX)(H:On W0 (m8 TU TS TT bu pc u::L) w):On W0 (m8 TU TS TT bu lX u::L) w:=by
 obtain⟨bs,bt,xs,⟨h1,h2,h3,h4⟩,H⟩:=Ho H;have H1:On W0 (gY TS bs pc u.s::aX bu (fZ bs bt xs) TU::aX bt u.t.cells TT::L) w:=H.to;have H2:=DL hs H1;have H3:On W0 (aX bu (fZ bs bt xs) TU::gY TS bs lX u.s::aX bt u.t.cells TT::L) w:=H2.to;exact uZ ⟨h1,h2,fun y hy=>Hl hs (h3 y hy),hs _ h4⟩ H3
theorem E9(h:xs.map RX.s=u.g∧u.g.length=8∧(∀y∈xs,UG pc y)∧xK pc (.slice none 0 0) []):xs.length=8:=by rw[←h.2.1,←h.1,List.length_map]
theorem VP(h:xs.map RX.s=u.g∧u.g.length=8∧(∀y∈xs,UG pc y)∧xK pc (.slice none 0 0) [])(hi:i<8):∃x,xs[i]? =some x∧x.s=u.cA i∧UG pc x:=by
 have hl:=E9 h;refine⟨xs[i]'(by omega),by simp, ?_,h.2.2.1 _ (List.getElem_mem _)⟩;unfold Un.cA;rw[←h.1,List.getD_eq_getElem?_getD,List.getElem?_map,List.getElem?_eq_getElem (by omega)];rfl
theorem Yq(hl:xs.length=8)(hx:xs[i]? =some x):(fZ bs bt xs)[0+2+((i:Nat):Int).toNat*1]? =some x.wv:=by
 have hi:=(List.getElem?_eq_some_iff.1 hx).1;rw[show 0+2+((i:Nat):Int).toNat*1=i+1+1 by simp;omega];show(xs.map RX.wv++_)[i]? =_;rw[List.getElem?_append_left (by rw[List.length_map];omega),List.getElem?_map,hx];rfl
theorem Bw{s':Sp}(lf:xs.map RX.s=u.g∧u.g.length=8∧(∀y∈xs,UG pc y)∧xK pc (.slice none 0 0) [])(hs:q9 pc lX)(H:On W0 (aX bu (fZ bs bt xs) TU::gY TS bs lX s'::aX bt u.t.cells TT::L) w):On W0 (m8 TU TS TT bu lX (u.mH s')::L) w:=
 uZ (u:=u.mH s') ⟨lf.1,lf.2.1,fun y hy=>Hl hs (lf.2.2.1 y hy),hs _ lf.2.2.2⟩ H
theorem Hq{a:Option Addr}{c:Nat}{ys:List UInt8}(H:On W0 (bC (.slice a ys.length c) ys::m8 TU TS TT bu pc u::cO pc::L) w):∃lX,q9 pc lX∧xK lX (.slice a ys.length c) ys∧On W0 (m8 TU TS TT bu lX u::cO lX::L) w:=by
 have H1:On W0 (Own 1 (.slice a ys.length c) ys.length (aL ys)::cO pc::m8 TU TS TT bu pc u::L) w:=H.to;have H2:=On.wH H1;have H3:On W0 (m8 TU TS TT bu pc u::cO ((1,.slice a ys.length c,ys.length,aL ys)::pc)::L) w:=H2.to;exact⟨_,kH,List.mem_cons_self ..,Np kH H3⟩
theorem Hr(H:On W0 (m8 TU TS TT bu pc u::L) w):xK pc (.slice none 0 0) []∧u.g.length=8∧Fz u.s:=by
 obtain⟨bs,bt,xs,lf,H⟩:=Ho H;have H1:On W0 (gY TS bs pc u.s::aX bu (fZ bs bt xs) TU::aX bt u.t.cells TT::L) w:=H.to;obtain⟨bv,mv,m,h1,_⟩:=kZ H1;exact⟨lf.2.2.2,lf.2.1,h1.1⟩
end
end Go.Sl.gW
namespace Go.Sl.gW
open Go Go.Sl Go.Sl.BitM Go.Sl.zh Go.Sl.uf Go.Sl.eM
set_option linter.unusedSectionVars false
section
variable{W0 w:World}{L:List aC}{aa aN:aE}
end
end Go.Sl.gW
namespace Go.Sl.gW
open Go Go.Sl Go.Sl.BitM Go.Sl.zh Go.Sl.uf Go.Sl.eM
set_option linter.unusedSectionVars false
section
variable{bs bt i k:Nat}{gs wk:List GX}{g g':GX}
theorem UH(hk:gs.length=i):cE (jX bs bt gs (k+1)) (0+2+((i:Nat):Int).toNat*3) g'.row=jX bs bt (gs++[g']) k:=by
 rw[show 0+2+((i:Nat):Int).toNat*3=i*3+1+1 by simp;omega];have hr:(gs.flatMap GX.row).length=i*3:=by rw[mI];omega
 unfold cE;show _::_::((gs.flatMap GX.row++(List.replicate (k+1) EF).flatten).take (i*3))++g'.row++((gs.flatMap GX.row++(List.replicate (k+1) EF).flatten).drop (i*3+3))=_::_::((gs++[g']).flatMap GX.row++(List.replicate k EF).flatten);rw[List.take_append_of_le_length (by omega),List.take_of_length_le (by omega),List.drop_append,List.drop_of_length_le (by omega),hr,show i*3+3 - i*3=3 by omega,List.replicate_succ,List.flatten_cons,List.nil_append,List.flatMap_append];show _::_::(gs.flatMap GX.row++g'.row)++_=_;rw[List.cons_append,List.cons_append];simp[EF]
theorem ahk(hk:gs.length=i):Nat.ble (0+2+((i:Nat):Int).toNat*3+3) (jX bs bt gs (k+1)).length=true:=by
 rw[Nat.ble_eq];show _≤(gs.flatMap GX.row++(List.replicate (k+1) EF).flatten).length+1+1;rw[List.length_append,mI,List.replicate_succ,List.flatten_cons,List.length_append];show _≤3*gs.length+(3+_)+1+1;simp;omega
theorem JP(h:gs[k]? =some g)(e:wk.map (·.s)=(gs.take k).map (·.s))(es:g'.s=g.s):(wk++[g']).map (·.s)=(gs.take (k+1)).map (·.s):=by
 rw[List.take_add_one,h,List.map_append,List.map_append,e];show _++[g'.s]=_++[g.s];rw[es]
end
section
variable{W0 w:World}{L:List aC}{TU TS TT bu bs bt:Nat}{pc lX:gR}{u:Un}{xs:List RX}
end
end Go.Sl.gW
namespace Go.Sl
open Go
variable{x:Operand}
section
variable{P:Program}{W0 w:World}{L:List aC}{ρ:Operand→Value}{d:Option Nat}{ty:TypeId}{pos:String}{af:Array Edge}{g:Option (Nat×Bool)}
theorem Fc{t kt et:TypeId}{v:Value}(hU:P.underlying t=some (.map kt et))(hx:ρ x=v):
   (execOp ρ ⟨d,.makeInterface t x,ty,pos,af,g⟩).run P w=.ok (.value (.iface t v)) w:=by
 simp[execOp,Instr.makeInterface,run_underlying hU,hx]
theorem Cq{t xt kt et:TypeId}{v:Value}(hU:P.underlying t=some (.map kt et))(hx:ρ x=.iface t v):
   (execOp ρ ⟨d,.typeAssert x xt t false,ty,pos,af,g⟩).run P w=.ok (.value v) w:=by
 simp[execOp,Instr.typeAssert,run_underlying hU,hx]
theorem Hs{t kt et:TypeId}{a:Option Nat}(hU:P.underlying t=some (.map kt et))(n:Nat):(Op.equalIn (n+1) t (.map a) (.map none)).run P w=.ok a.isNone w:=by
 cases a<;>simp[Op.equalIn,run_underlying hU]
theorem Cr{t yt kt et:TypeId}{y:Operand}{a:Option Nat}(hU:P.underlying t=some (.map kt et))(hx:ρ x=.map a)(hy:ρ y=.map none):
   (execOp ρ ⟨d,.binOp .eql t x y yt,ty,pos,af,g⟩).run P w=.ok (.value (.bool a.isNone)) w:=by
 have:=Hs (w:=w) (a:=a) hU 9999;simp[execOp,eqGuard,hx,hy,binOp,Op.equal,Op.maxDepth,this]
theorem Fe{env:Env}{f:FuncId}{fn:Func}{t b:Nat}{kd:IntKind}{kvs:List KV}{ck:Nat}{qK:Array TypeId}(H:On W0 (bV b kd kvs ck::L) w)
   (hf : P.funcs[f]? = some fn) (acv : (fn.name == "runtime.NumGoroutine") = false) (hb : fn.body.isNone = true) (Qh : Extern.findNext fn = none) (he : Extern.find fn = some Extern.MapsClone.clone) (hx : cN env x = .iface t (.map (some b))) :
   nr P (cN env) ⟨d,.call {callee:=.value (.func f),args:=#[x],argTypes:=qK},ty,pos,af,g⟩ w (fun v w'=>∃b',v=.iface t (.map (some b'))∧On W0 (bV b' kd kvs ck::bV b kd kvs ck::L) w'):=by
 have IT:=On.jH H;have fe:=IT.1;have se:(getObj b).run P w=.ok (jy kd kvs ck) w:=MapKept.run_getObj_map (by exact IT.2);unfold jy at se;refine .inl ⟨.iface t (.map (some w.heap.size)),w.alloc (jy kd kvs ck), ?_,_,rfl,On.Ao fe (H.alloc _)⟩;have hn:(newObj (jy kd kvs ck)).run P w=.ok w.heap.size (w.alloc (jy kd kvs ck)):=rfl;unfold jy at hn⊢
 have H8:(Extern.MapsClone.clone #[.iface t (.map (some b))]).run P w=.ok (.iface t (.map (some w.heap.size))) (w.alloc (.map (kvs.map (qV kd)).toArray ck)):=by
   have e : Extern.MapsClone.clone #[.iface t (.map (some b))] = (getObj b >>= fun o => match o with
     | .map entries clock=>(newObj (.map entries clock)>>=fun n=>pure (.iface t (.map (some n))))
     | _ => stuck "maps.clone: a map expected") := rfl
   rw[e];simp[se,hn]
 have hr:=run_callFunc_extern hf acv hb Qh he #[.iface t (.map (some b))] w;rw[H8] at hr;have hfn:cN env (.func f)=.func (.func f) #[] #[]:=rfl;simp only[Result.andThen_ok] at hr;simp[execOp,resolve,Deferred.ofValue,invoke,hx,hfn,hr]
end
end Go.Sl
namespace Go.Proofs.YtcplmndikhjehaaGreat
open Go.Proofs.Tryz
open Go Go.Sl Go.Sl.BitM Go.Sl.zh Go.Sl.uf Go.Sl.eM Go.Sl.gW
set_option maxHeartbeats 0
set_option maxRecDepth 8000
variable{b:Nat}
variable{W0 w:World}{L F:List aC}
theorem JQ{ao:Option Addr}{cap:Nat}{bs:List UInt8}(h:On W0 L w)(C:aB L (Bytes (.slice ao bs.length cap) bs))(hn:bs.length≤140737488355328):
   Cs 342 [.slice ao bs.length cap] w fun v w'=>∃a c,v=.slice a bs.length c∧On W0 (bC (.slice a bs.length c) bs::L) w':=by
 refine qO ?_;have aA:=(h.reads C).form;obtain⟨ao',LC,hv,vg,rz,jK⟩:=aA;simp only[Value.slice.injEq] at hv;obtain⟨rfl,_,rfl⟩:=hv;have hl:=aG;refine qD ?_;refine WL.v (iF underlying318 rfl rfl) ?_;refine qI (fun c2=> ?_) (fun c2=> ?_)
 · refine qR ?_;have h0:cap=0:=jK (by simpa using c2);have hb:bs=[]:=List.eq_nil_of_length_eq_zero (by omega);subst hb;exact⟨none,0,rfl,h.bB 1 none⟩
 refine qD ?_;refine WL.e (aZ (out:=[]) h underlying318 sizeOf5 zeroValue5 (by decide) (by simp) rfl rfl (by simp) trivial rfl rfl (by simp[maxLen])) ?_;rintro _ w ⟨b5,rfl,h⟩;refine qD ?_;refine WL.e (mj (bytes:=1) h rfl rfl (h.aO C) underlying318 rfl rfl rfl rfl rfl (by omega) (by omega) cR) ?_;rintro _ w ⟨a,c,rfl,h⟩;refine qR ?_;exact⟨_,_,rfl,h⟩
theorem QJ{s:Sp}(h:On W0 (mR 321 b s::L) w):Cs 313 [b] w fun v w'=>∃b',v=.pointer (some ⟨b',0,none⟩)∧On W0 (mR 321 b' s::mR 321 b s::L) w':=by
 refine qO ?_;have aA:=mC h;obtain⟨gd,od,cd,am,cm,hw,h⟩:=aA;have vi:=hw;obtain⟨IA,NQ,Gu,Jh⟩:=hw;rw[←IA] at h;refine qD ?_;refine qT fun w h=> ?_;refine WT.l 3 rfl isAgg3 rfl (h.aS rfl) ?_;refine qU ?_;refine WT.m 9 rfl ?_;refine WT.n 10 rfl rfl ?_;refine WT.f 11 2 rfl underlying321 rfl sizeOf318 rfl rfl ?_;refine WT.l 12 rfl isAgg318 rfl (h.aS rfl) ?_;refine WT.e 8 [true,false,true] rfl (ag call34 (bG h (aB.cF) (by omega))) ?_;rintro _ w ⟨NT,ou,rfl,h⟩;refine qW ?_;refine WT.e 13 [false,true] rfl (ag call342 (JQ h (aB.cF) (by omega))) ?_;rintro _ w ⟨KI,oM,rfl,h⟩;refine qW ?_;refine WT.p 14 rfl (fun w'=>(aP (pl:=[(0,1),(1,1),(2,1)]) (out:=[.int .i64 _,.slice _ _ _,.slice _ _ _]) underlying321 zeroValue321 (fun w=>by kernel_rfl) rfl fz rfl)) ?_;refine WT.e 15 [false] rfl (fc h rfl rfl) ?_;rintro _ w ⟨TA,rfl,h⟩;refine⟨trivial, ?_⟩;refine qU ?_;refine qR ?_;have h:=h.aj (Own 1 (.slice NT s.d.length ou) s.d.length (aL s.d));have ha:=Own.addr h (by omega);obtain⟨b2,o2,ha⟩:=ha;subst ha;rw[IA] at h;have h:=fX vi (((h.aj (Own 1 (.slice am s.m.length cm) s.m.length (aL s.m))).aj (Own 1 (.slice (some ⟨gd,od,none⟩) (8*s.N) cd) (8*s.N) (aL s.d))).aj (aX b [.int .i64 (s.N:Int),.slice (some ⟨gd,od,none⟩) (8*s.N) cd,.slice am s.m.length cm] 321));have h:=fX vi (((h.aj (Own 1 (.slice KI s.m.length oM) s.m.length (aL s.m))).aj (Own 1 (.slice (some ⟨b2,o2,none⟩) (8*s.N) ou) (8*s.N) (aL s.d))).aj (aX TA [.int .i64 (s.N:Int),.slice (some ⟨b2,o2,none⟩) (8*s.N) ou,.slice KI s.m.length oM] 321));exact⟨TA,rfl,h.to⟩
theorem QK{t:Tb}(h:On W0 (aX b t.cells 323::L) w):Cs 314 [b] w fun v w'=>∃b',v=.pointer (some ⟨b',0,none⟩)∧On W0 (aX b' t.cells 323::aX b t.cells 323::L) w':=by
 refine enter func314 rfl ntmps314 rfl (W.sr (WL.z (W.sr (WL.m ?_))));refine qD ?_;refine WL.v (CJ (vs:=[.int .u64 _,.int .u64 _,.int .u64 _,.int .u64 _,.int .u64 _,.int .u64 _,.int .u64 _,.int .u64 _,.int .i64 _,.int .i64 _,.int .u32 _]) h isAgg323 sizeOf323 rfl rfl rfl) ?_;refine WL.e (bR h zeroValue323 rfl) ?_;rintro _ w ⟨b3,rfl,h⟩;refine WL.e (bA h sizeOf323 rfl rfl rfl rfl rfl) ?_;rintro _ w h;refine qR ?_;have h:On W0 (aX b3 t.cells 323::aX b t.cells 323::L) _:=h;exact⟨_,rfl,h⟩
theorem Nq{ck:Nat}{kvs:List KV}(h:On W0 (bV b .u64 kvs ck::L) w):Cs 316 [.map (some b)] w fun v w'=>∃b',v=.map (some b')∧On W0 (bV b' .u64 kvs ck::bV b .u64 kvs ck::L) w':=by
 refine enter func316 rfl ntmps316 rfl (W.sr (WL.z (W.seq (W.sr ?_))));refine qD ?_;refine WL.v (Cr underlying231 rfl rfl) ?_;refine WL.nil ?_;refine W.cs ?_;refine qD ?_;refine WL.v (Fc underlying231 rfl) ?_;refine WL.e (Fe h func343 (by kernel_rfl) (by kernel_rfl) (by kernel_rfl) (by kernel_rfl) rfl) ?_;rintro _ w ⟨b7,rfl,h⟩;refine WL.v (Cq underlying231 rfl) ?_;refine qR ?_;exact⟨b7,rfl,h⟩
end Go.Proofs.YtcplmndikhjehaaGreat
namespace Go.Proofs.YtcplmndikhjehaaGreat
open Go.Proofs.Tryz
open Go Go.Sl Go.Sl.BitM Go.Sl.zh Go.Sl.uf Go.Sl.eM Go.Sl.gW
set_option maxHeartbeats 0
set_option maxRecDepth 8000
variable{W0 w:World}{L F:List aC}
theorem Ht{bu:Nat}{u:Un}{aa:aE}{ms:List Nat}(hsm:small 999000 u)(h:On W0 (qb 236 321 323 bu aa ms u::L) w):Cs 276 [bu] w fun v w'=>∃b' ms',v=.pointer (some ⟨b',0,none⟩)∧On W0 (qb 236 321 323 b' aa ms' u::qb 236 321 323 bu aa ms u::L) w':=by
 refine qO ?_;have fH:=aG;have aA:=yy h;obtain⟨bs,bt,gs,hm,hl,h⟩:=aA;have hgl:gs.length=8:=by rw[←hl,←hm.1,List.length_map]
 have hrl:(gs.flatMap GX.row).length=24:=by rw[mI,hgl]
 have ahl:((dg bs bt gs).drop (0+2)).take 24=gs.flatMap GX.row:=by show(gs.flatMap GX.row).take 24=_;exact List.take_of_length_le (by omega)
 refine qT fun w h=> ?_;refine WT.l 3 rfl isAgg226 rfl (h.aS rfl) ?_;refine WT.m 5 rfl ?_;refine WT.n 6 rfl rfl ?_;refine WT.f 7 1 rfl underlying236 rfl sizeOf229 rfl rfl ?_;refine WT.l 8 rfl isAgg229 rfl (h.aS rfl) ?_;refine WT.e 4 [true,false] rfl (ag call313 (QJ (h.aj (mR 321 bs u.s)))) ?_;rintro _ w ⟨GY,rfl,h⟩;refine qW ?_;refine WT.e 9 [false] rfl (ag call314 (QK (h.aj (aX bt u.t.cells 323)))) ?_;rintro _ w ⟨BU,rfl,h⟩;refine⟨trivial, ?_⟩;refine WT.p 10 rfl (fun w'=>(aP (pl:=[(0,1),(1,1),(2,24)]) (out:=[.pointer _,.pointer _,.slice _ _ _,.int .u64 _,.map _,.slice _ _ _,.int .u64 _,.map _,.slice _ _ _,.int .u64 _,.map _,.slice _ _ _,.int .u64 _,.map _,.slice _ _ _,.int .u64 _,.map _,.slice _ _ _,.int .u64 _,.map _,.slice _ _ _,.int .u64 _,.map _,.slice _ _ _,.int .u64 _,.map _]) underlying236 zeroValue236 (fun w=>by kernel_rfl) rfl fz rfl)) ?_;refine WT.e 11 [] rfl (fc h rfl rfl) ?_;rintro _ w ⟨B7,rfl,h⟩;refine⟨trivial, ?_⟩;refine qU ?_;refine WL.v (CJ (vs:=gs.flatMap GX.row) h isAgg234 sizeOf234 rfl ahl hrl) ?_;refine go ?_;refine W.loop (fun(k:Nat) env w=>k≤8∧∃(j:Env) (wk:List GX),wk.map (·.s)=(gs.take k).map (·.s)∧env=eu j [(3,B7),(21,.agg (gs.flatMap GX.row).toArray),(22,.int .i64 (k:Int))]∧On W0 (aX B7 (jX GY BU wk (8 - k)) 236::eE (gE aa) wk::mR 321 GY u.s::aX BU u.t.cells 323::aX bu (dg bs bt gs) 236::mR 321 bs u.s::aX bt u.t.cells 323::eE (gE aa) gs::L) w) (fun k=>8 - k) (0) ?_ ?_
 · have h:On W0 (eE (gE aa) []::aX B7 (jX GY BU [] (8 - 0)) 236::_) w:=eE.nil h
   exact⟨Nat.zero_le _,_,[],rfl,aD ⟨rfl,rfl,rfl,trivial⟩,h.to⟩
 rintro k env w ⟨hk8,j,wk,Yr,rfl,h⟩;have acy:wk.length=k:=by have:=congrArg List.length Yr;simp only[List.length_map,List.length_take] at this;omega
 refine qI (fun c6=> ?_) (fun c6=> ?_)
 ·
  refine W.skip ?_;refine W.seq ?_;have N2:k<8:=by omega
  have Db:=ED hm hl N2;obtain⟨g,hg,GS⟩:=Db;have SE:=hsm k N2;rw[←GS] at SE;have NZ:k<gs.length:=by omega
  have FM:=aF GX.row 3 (fun _=>rfl) gs _ _ hg;have h8k:8 - k=8 - (k+1)+1:=by omega
  rw[h8k] at h;have h:=eE.open hg (h.aj (eE (gE aa) gs));have hog:=KL h;obtain⟨cD,h⟩:=hog;refine go ?_;refine WL.v (Ca (size:=3) (i:=k) (vs:=[.slice g.a g.s.dN.length g.c,.int .u64 g.s.floor,.map (some g.mb)]) underlying234 sizeOf233 isAgg233 rfl rfl N2 FM) ?_;refine gb fun b5 w h=> ?_;refine Sl.gs fun w h _=> ?_;refine qT fun w h=> ?_;refine WT.l 3 rfl isAgg22 rfl (h.aS rfl) ?_;refine WT.f 5 1 rfl underlying233 rfl sizeOf30 rfl rfl ?_;refine WT.l 6 rfl isAgg30 rfl (h.aS rfl) ?_;refine WT.f 7 2 rfl underlying233 rfl sizeOf231 rfl rfl ?_;refine WT.l 8 rfl isAgg231 rfl (h.aS rfl) ?_;refine WT.n 11 rfl rfl ?_;refine WT.f 12 2 rfl underlying236 rfl sizeOf234 rfl rfl ?_;refine WT.e 4 [true,true,false] rfl (ag call315 (GL h (aB.cF) (by omega))) ?_;rintro _ w ⟨KG,SH,rfl,h⟩;refine qW ?_;refine WT.e 9 [false,true] rfl (ag call316 (Nq (h.aj (bV g.mb .u64 g.kvs g.ck)))) ?_;rintro _ w ⟨Hu,rfl,h⟩;refine qW ?_;refine WT.p 10 rfl (fun w'=>(aP (pl:=[(0,1),(1,1),(2,1)]) (out:=[.slice _ _ _,.int .u64 _,.map _]) underlying233 zeroValue233 (fun w=>by kernel_rfl) rfl fz rfl)) ?_;refine WT.p 13 rfl (fun w'=>(bg underlying234 sizeOf233 rfl rfl (by omega) (by omega))) ?_;refine WT.e 14 [false] rfl (uz (h.aj (aX B7 (jX GY BU wk (8 - (k+1)+1)) 236)) sizeOf233 rfl rfl rfl rfl (ahk acy) (fun k _ _=>vt k)) ?_;rintro _ w h;have hns:=UH (bs:=GY) (bt:=BU) (k:=8 - (k+1)) (g':=(⟨g.s,KG,SH,Hu,g.ck,g.kvs⟩:GX)) acy;rw[show cE (jX GY BU wk (8 - (k+1)+1)) (0+2+((k:Nat):Int).toNat*3) [.slice KG g.s.dN.length SH,.int .u64 g.s.floor,.map (some Hu)]=jX GY BU (wk++[(⟨g.s,KG,SH,Hu,g.ck,g.kvs⟩:GX)]) (8 - (k+1)) from hns] at h;refine⟨trivial, ?_⟩;refine qU ?_;refine qD ?_;have h:=eE.close NZ (pF cD (((h.aj (eE (gE aa) (gs.eraseIdx k))).aj (bV g.mb .u64 g.kvs g.ck)).aj (mV g)));rw[iH hg] at h;have h:=pF (g:=(⟨g.s,KG,SH,Hu,g.ck,g.kvs⟩:GX)) cD ((h.aj (bV Hu .u64 g.kvs g.ck)).aj (Own 1 (.slice KG g.s.dN.length SH) g.s.dN.length (cV g.s.dN)));have h:=eE.push ((h.aj (eE (gE aa) wk)).aj (gE aa (⟨g.s,KG,SH,Hu,g.ck,g.kvs⟩:GX)));exact⟨k+1,⟨by omega,_,wk++[(⟨g.s,KG,SH,Hu,g.ck,g.kvs⟩:GX)],JP hg Yr rfl,aD ⟨rfl,rfl,rfl,trivial⟩,h.to⟩,by show 8 - (k+1)<8 - k;omega⟩
 refine qR ?_;have aA:k=8:=by omega
 obtain rfl:=aA;have e8:(gs.take 8).map (·.s)=u.g:=by rw[List.take_of_length_le (by omega)];exact hm.1
 have en:jX GY BU wk (8 - 8)=dg GY BU wk:=by show _::_::(wk.flatMap GX.row++[])=_;rw[List.append_nil]
 rw[en] at h;have h:=iw hm hl ((((h.aj (eE (gE aa) gs)).aj (aX bt u.t.cells 323)).aj (mR 321 bs u.s)).aj (aX bu (dg bs bt gs) 236));have h:=iw ⟨Yr.trans e8,rfl⟩ hl ((((h.aj (eE (gE aa) wk)).aj (aX BU u.t.cells 323)).aj (mR 321 GY u.s)).aj (aX B7 (dg GY BU wk) 236));exact⟨B7,wk.map (·.mb),rfl,h.to⟩
end Go.Proofs.YtcplmndikhjehaaGreat
namespace Go.Proofs.YtcplmndikhjehaaGreat
open Go.Proofs.Tryz
open Go Go.Sl Go.Sl.eM Go.Sl.gW Go.Sl.kM Go.Sl.pe Go.Sl.pM Go.Sl.mG Go.Sl.pO Go.Sl.rH Go.Sl.pN Go.Sl.gU
open Go.Sl.oB (wr)
set_option maxHeartbeats 0
set_option maxRecDepth 8000
variable{W0 w:World}{L F:List aC}
section
variable{P:Program}{ρ:Operand→Value}{d:Option Nat}{ty:TypeId}{pos:String}{af:Array Edge}{g:Option (Nat×Bool)}
theorem Hv{qK:Array TypeId}{x y:Operand}{k:IntKind}{m n:Nat}(hx:ρ x=.int k (m:Int))(hy:ρ y=.int k (n:Int)):(execOp ρ ⟨d,.call {callee:=.builtin .max,args:=#[x,y],argTypes:=qK},ty,pos,af,g⟩).run P w=.ok (.value (.int k ((max m n:Nat):Int))) w:=by
 rw[Aj hx hy,show max (m:Int) (n:Int)=((max m n:Nat):Int) by omega]
theorem wJ{qK:Array TypeId}{x y:Operand}{k:IntKind}{m n:Nat}(hx:ρ x=.int k (m:Int))(hy:ρ y=.int k (n:Int)):(execOp ρ ⟨d,.call {callee:=.builtin .min,args:=#[x,y],argTypes:=qK},ty,pos,af,g⟩).run P w=.ok (.value (.int k ((min m n:Nat):Int))) w:=by
 rw[vB hx hy,show min (m:Int) (n:Int)=((min m n:Nat):Int) by omega]
end
theorem DM{vr:Value}{o:Option rQ}(H:On W0 (At xM vr o::L) w):(o=none∧vr=.pointer none∧On W0 L w)∨(∃r br,o=some r∧vr=.pointer (some ⟨br,0,none⟩)∧On W0 (aX br [.int .u64 (r.run:Int),.int .u64 (r.dO:Int),.bool true,.bool true,.bool r.lK,.int .u64 (r.oD:Int),.slice none 0 0,.int .u64 0] 354::L) w):=by
 cases o with
 |none=>exact .inl ⟨rfl,runN rfl H⟩
 |some r=>obtain⟨br,e,H⟩:=Hf rfl H;exact .inr ⟨r,br,rfl,e,H⟩
theorem JR{n n2:Nd}{i:Nat}(h:nX n i=some n2):n2={n with out:=n2.out}:=by
 unfold nX at h;obtain⟨_,_,h⟩:=cG h;obtain⟨_,h⟩:=iZ h;obtain⟨_,_,h⟩:=cG h;exact La h
variable{b bd bs bu ba self blocks bQ aW re rp rm count cZ dO dV oc cc ol cl:Nat}{oa ca:Option Addr}{vr vw v1 v2:Value}{now heard seen kept:Int}{known aH both:Bool}{s:kJ}{L0 L1:List aC}
theorem Hw{b bd:Nat}{p0:aE}{vr:Value}{n n':Nd}{L':List aC}[g:jY L b bd p0 vr n' L'](k:dF n){fr:Nat}{n2:Nd}(hm:qj n fr=some n2)(h:On W0 L w)(e:n'=n:=by rfl):Cs 216 [b,.int .u64 (fr:Int)] w fun v w'=>On W0 (dZ b bd p0 vr n2::L') w':=by
 refine qO ?_;unfold qj at hm;have dI:=cG hm;clear hm;obtain⟨r,hr,hm⟩:=dI;have dI:=iZ hm;clear hm;obtain⟨hg,hm⟩:=dI;obtain⟨vh,zf⟩:=hg;obtain⟨rr,rb,ra,oS⟩:=r;have zf:oS+9<18446744073709551616:=zf;have aA:∃m:Nd,n={m with run:=some ⟨rr,rb,ra,oS⟩}:=⟨n,by rw[←hr]⟩;obtain⟨m,rfl⟩:=aA;clear hr;have hl:cB m<5000000000000000000:=by have:=vh.1;unfold cB gu;simp only at this;omega
 have h:=bF (p0:=p0) (b:=b) e k h;have aA:=gJ h;obtain⟨oa,oc,ca,cc,bs,bu,ba,vw,v1,v2,aa,k,sb,h⟩:=aA;have aA:=Hf rfl (iW (v:=vr) h);obtain⟨br,rfl,h⟩:=aA;refine go ?_;refine WL.v (cT (k:=.u64) (m:=oS) (n:=1) rfl rfl (by show _≤(18446744073709551615:Int);omega)) ?_;refine WL.v (Hv (m:=fr) (n:=oS+1) rfl rfl) ?_;refine go ?_;refine W.loop (fun(q:Nat×Nd×Nat) env w=>(sR q.1 ({q.2.1 with run:=some ⟨rr,rb,ra,oS⟩}) q.2.2 (min (cB m) (oS+8))=some n2∧cB q.2.1=cB m∧mM q.2.1.s)∧∃(i:Nat) (j:Env),q.2.2=i∧env=eu j [(0,b),(4,br),(5,.int .u64 (i:Int))]∧On W0 (dZ b bd p0 br ({q.2.1 with run:=some ⟨rr,rb,ra,oS⟩})::L') w) (fun q=>q.1) ((9,m,max fr (oS+1))) ?_ ?_
 · exact⟨⟨hm,rfl,vh⟩,_,_,rfl,aD ⟨rfl,rfl,rfl,trivial⟩,(bF (p0:=p0) (b:=b) rfl k h).to⟩
 clear h k sb hm;rintro ⟨f,n1,i⟩ env w ⟨⟨hm,Eg,vh⟩,i1,j,hi,rfl,h⟩;simp only at hm h Eg vh hi;subst hi;have aA:=gJ h.g;obtain⟨oa,oc,ca,cc,bs,bu,ba,vw,v1,v2,aa,k,sb,h⟩:=aA;have h:=QB rfl (iW (v:=.pointer (some ⟨br,0,none⟩)) h);refine qT fun w h=> ?_;refine WT.m 3 rfl ?_;refine WT.n 4 rfl rfl ?_;refine WT.f 5 5 rfl underlying354 rfl sizeOf30 rfl rfl ?_;refine WT.l 6 rfl isAgg30 rfl (h.aS rfl) ?_;refine WT.p 7 rfl (fun w'=>(cT (k:=.u64) (m:=oS) (n:=8) rfl rfl (by show _≤(18446744073709551615:Int);omega))) ?_;refine WT.e 2 [true] rfl (ag call284 (k9 vh h)) ?_;rintro _ w ⟨rfl,h⟩;refine qW ?_;refine WT.p 8 rfl (fun w'=>(wJ (m:=cB n1) (n:=oS+8) rfl rfl)) ?_;refine WT.p 9 rfl (fun w'=>(jR rfl rfl)) ?_;refine qU ?_;refine W.lN rfl (fun c5=> ?_) (fun c5=> ?_)
 ·
  have aA:∃g,f=g+1:=by
    cases f with
    |zero=>exact absurd (Ck hm).1 (by omega)
    |succ g=>exact⟨g,rfl⟩
  obtain⟨f,rfl⟩:=aA;unfold sR at hm;rw[if_pos (by omega)] at hm;have dI:=cG hm;clear hm;obtain⟨n4,he,hm⟩:=dI;have e4:=JR he;have aA:∃m3:Nd,n4={m3 with run:=some ⟨rr,rb,ra,oS⟩}∧m3.s=n1.s:=⟨n4,by rw[e4],by rw[e4]⟩;obtain⟨n3,rfl,QI⟩:=aA;clear e4;refine qC ?_ (C:=Hg (p0:=p0) (i:=i) k he h);rintro _ w h;refine go ?_;refine WL.v (cT (k:=.u64) (m:=i) (n:=1) rfl rfl (by show _≤(18446744073709551615:Int);omega)) ?_;refine gw ?_;exact⟨(f,n3,i+1),⟨⟨hm,(congrArg gu QI).trans Eg,by rw[QI];exact vh⟩,_,_,rfl,aD ⟨rfl,rfl,rfl,trivial⟩,h.to⟩,Nat.lt_succ_self _⟩
 have hm:{n1 with run:=some ⟨rr,rb,ra,oS⟩}=n2:=by
   cases f<;>(unfold sR at hm;rw[if_neg (by omega)] at hm;exact Option.some.inj hm)
 subst hm;refine qR ?_;exact(bF (p0:=p0) (b:=b) rfl k h).to
theorem qv{b bd:Nat}{p0:aE}{vr:Value}{n n':Nd}{L':List aC}[g:jY L b bd p0 vr n' L'](k:dF n){n2:Nd}(hm:jQ n=some n2)(h:On W0 L w)(e:n'=n:=by rfl):Cs 306 [b] w fun v w'=>On W0 (dZ b bd p0 vr n2::L') w':=by
 refine qO ?_;unfold jQ at hm;have dI:=iZ hm;clear hm;obtain⟨hg,hm⟩:=dI;have h:=bF (p0:=p0) (b:=b) e k h;have aA:=gJ h;obtain⟨oa,oc,ca,cc,bs,bu,ba,vw,v1,v2,aa,k,sb,h⟩:=aA;refine qC ?_ (C:=k9 (bd:=bd) hg h);rintro _ w ⟨rfl,h⟩;refine qC ?_ (C:=E3 (bd:=bd) k.1 k.2.2.2 h);rintro v6 w ⟨hv,h⟩;have iG:=Bool.eq_false_or_eq_true (tJ n);rcases iG with hq|hq<;>(rw[show(zo n.iB.m (1 - n.self)||n.both)=_ from hq] at hv;subst hv)
 ·
  refine qD ?_;have iG:=DM (iW (v:=vr) h);rcases iG with⟨hw,rfl,h⟩|⟨r,br,hw,rfl,h⟩
  · refine qD ?_;refine qR ?_;rw[if_pos hq,hw] at hm;have aA:=Option.some.inj hm;obtain rfl:=aA;exact(bF (p0:=p0) (b:=b) (by rw[←hw]) k h).to
  refine WL.v (gz underlying172 rfl rfl) ?_;refine gw ?_;obtain⟨rr,rb,ra,oS⟩:=r;simp only at h;rcases ra with _|_
  · refine qD ?_;refine qR ?_;rw[if_pos hq,hw] at hm;have aA:=Option.some.inj hm;obtain rfl:=aA;exact(bF (p0:=p0) (b:=b) (SN hw rfl) k h).to
  refine qD ?_;refine WL.v (wJ (m:=cB n) (n:=oS) rfl rfl) ?_;refine qC ?_ (C:=Bv (p0:=p0) (to:=min (cB n) oS) k (by rw[if_pos hq,hw] at hm;exact hm) (by unfold cB at*;have h1:=hg.1;unfold gu;show _<(18446744073709551616:Nat);omega) h (SN hw rfl));rintro _ w h;refine qR ?_;exact h.to
 refine qC ?_ (C:=Bv (p0:=p0) (to:=cB n) k (by rw[if_neg (by rw[hq];exact Bool.false_ne_true)] at hm;exact hm) (by unfold cB at*;have h1:=hg.1;unfold gu;show _<(18446744073709551616:Nat);omega) h);rintro _ w h;refine qR ?_;exact h.to
end Go.Proofs.YtcplmndikhjehaaGreat
namespace Go.Proofs.YtcplmndikhjehaaGreat
open Go.Proofs.Tryz
open Go Go.Sl Go.Sl.eM Go.Sl.gW Go.Sl.kM Go.Sl.pe Go.Sl.pM Go.Sl.mG Go.Sl.pO Go.Sl.rH Go.Sl.pN Go.Sl.gU
open Go.Sl.oB (wr)
set_option maxHeartbeats 0
set_option maxRecDepth 8000
variable{W0 w:World}{L F:List aC}
theorem wK{o:Od}(h:Cb o=true):o.id<18446744073709551616∧o.floor<18446744073709551616∧∃a b:Nat,o.c.key=(a:Int)∧o.c.new=(b:Int)∧a<18446744073709551616∧b<18446744073709551616:=by
 simp only[Cb,Bool.and_eq_true,decide_eq_true_eq] at h;obtain⟨⟨⟨⟨⟨⟨⟨⟨⟨⟨_,h1⟩,h2⟩,_⟩,_⟩,_⟩,h3⟩,h4⟩,h5⟩,h6⟩,_⟩:=h;obtain⟨a,ha⟩:=Int.eq_ofNat_of_zero_le h3;obtain⟨b,hb⟩:=Int.eq_ofNat_of_zero_le h5;exact⟨h1,h2,a,b,ha,hb,by omega,by omega⟩
theorem Lc{m:Cj}{k:Int×Int}(h:sH m k=true):kD m.1 k=none∧∀x∈m.1,x.2.2<m.2:=by
 simp only[sH,Bool.and_eq_true,Option.isNone_iff_eq_none,List.all_eq_true,decide_eq_true_eq] at h;exact h
theorem UJ{m:Cj}{k:Int×Int}(h:∀x∈m.1,x.2.1=.bool true):∀x∈(tV m k (.bool true)).1,x.2.1=.bool true:=fun x hx=>by
 rcases List.mem_append.1 hx with hx|hx
 · exact h x hx
 rw[List.mem_singleton.1 hx]
variable{b bd bs bu ba self blocks bQ aW re rp rm count cZ dO dV oc cc ol cl:Nat}{oa ca:Option Addr}{vr vw v1 v2:Value}{now heard seen kept:Int}{known aH both:Bool}{s:kJ}{L0 L1:List aC}
theorem UK{b bd:Nat}{p0:aE}{vr:Value}{n n':Nd}{L':List aC}[g:jY L b bd p0 vr n' L'](k:dF n){host tK uX uY ke:Int}{id floor jo jq:Nat}{jZ:Bool}{dU:List UInt8}{ax:Option Addr}{cx:Nat}{n2:Nd}(hm:EZ n (dS host id) ⟨host,id,floor,⟨tK,uX,uY,dU,(jo:Int),(jq:Int),ke,jZ⟩⟩=some n2)(C:aB L' (Bytes (.slice ax dU.length cx) dU))(h:On W0 L w)(e:n'=n:=by rfl):Cs 278 [b,.agg #[.int .i64 host,.int .u64 (id:Int)],.agg #[.int .i64 host,.int .u64 (id:Int),.int .u64 (floor:Int),.int .i64 tK,.int .i64 uX,.int .i64 uY,.slice ax dU.length cx,.int .u64 (jo:Int),.int .u64 (jq:Int),.int .i64 ke,.bool jZ]] w fun v w'=>On W0 (dZ b bd p0 vr n2::L') w':=by
 refine qO ?_;unfold EZ at hm;have dI:=cG hm;clear hm;obtain⟨wt,hw,hm⟩:=dI;have dI:=cG hm;clear hm;obtain⟨lg,hl,hm⟩:=dI;have dI:=iZ hm;clear hm;obtain⟨hg,hm⟩:=dI;obtain⟨cD,NV,S7,Co,oA⟩:=hg;have oA:dU.length≤1000:=oA;have dI:=cG hm;clear hm;obtain⟨s2,hs,hm⟩:=dI;have Co:=wK Co;obtain⟨zI,ua,ak,an,hak,han,Cc,zA⟩:=Co;have hak:jo=ak:=Int.ofNat.inj hak;have han:jq=an:=Int.ofNat.inj han;rw[←hak] at Cc;rw[←han] at zA;clear hak han;have NV:=Lc NV;obtain⟨ahm,ahn⟩:=NV;have S7:=Lc S7;obtain⟨aho,ahp⟩:=S7;have aA:∃m:Nd,n={m with wait:=some wt,log:=some lg}:=⟨n,by rw[←hw,←hl]⟩;obtain⟨m,rfl⟩:=aA;clear hw hl;have zE:cB m+1<5000000000000000000:=by have:=cD.1;unfold cB gu;simp only at this;omega
 have aA:∃Q,Q=GB ⟨host,id,floor,⟨tK,uX,uY,dU,(jo:Int),(jq:Int),ke,jZ⟩⟩:=⟨_,rfl⟩;obtain⟨Q,hQ⟩:=aA;have hs:wu m.s ⟨cB m+1,lW m,GB ⟨host,id,floor,⟨tK,uX,uY,dU,(jo:Int),(jq:Int),ke,jZ⟩⟩⟩=some s2:=hs;rw[←hQ] at hs;have h:=bF (p0:=p0) (b:=b) e k h;have aA:=gJ h;obtain⟨oa,oc,ca,cc,bs,bu,ba,vw,v1,v2,aa,k,sb,h⟩:=aA;have aA:=Hi rfl (iW (v:=v1) h);obtain⟨b1,⟨rfl,ht⟩,h⟩:=aA;have aA:=Hh rfl (iW (v:=v2) h);obtain⟨b2,rfl,h⟩:=aA;refine gb fun b4 w h=> ?_;refine gb fun b5 w h=> ?_;refine gw ?_;refine W.cut (fun env w=>∃(j:Env) (b4 b6:Nat) (tu:Option Addr) (kY:Nat),env=eu j [(0,b),(4,b4),(6,b6)]∧On W0 (aX b4 [.int .i64 host,.int .u64 (id:Int)] 393::aX b6 [.int .u64 ((cB m+1:Nat):Int),.int .u64 (lW m:Int),.slice tu Q.length kY] 217::bC (.slice tu Q.length kY) Q::dZ b bd p0 vr {m with wait:=some wt,log:=some lg}::L') w) ?_ ?_
 ·
  refine qT fun w h=> ?_;refine WT.m 3 rfl ?_;refine WT.gF (vs:=[.int .i64 _,.int .u64 _,.int .u64 _,.int .i64 _,.int .i64 _,.int .i64 _,.slice _ _ _,.int .u64 _,.int .u64 _,.int .i64 _,.bool _]) 5 rfl (by kernel_rfl) isAgg388 sizeOf388 rfl rfl (h.fR (n:=11) rfl) rfl rfl ?_;refine WT.two 1 8 (by kernel_rfl) ?_ ?_
  ·
   refine WT.ju 1 [true] rfl (by kernel_rfl) (ag call284 (k9 cD h)) rfl rfl ?_;rintro _ w ⟨rfl,h⟩;refine⟨⟨(h.fR (n:=11) rfl),trivial⟩, ?_⟩;refine WT.p 2 rfl (fun w'=>(cT (k:=.u64) (m:=cB m) (n:=1) rfl rfl (by show _≤(18446744073709551615:Int);omega))) ?_;refine WT.two 4 8 (by kernel_rfl) ?_ ?_
   ·
    refine WT.ju 4 [true] rfl (by kernel_rfl) (ag call223 (m6 h)) rfl rfl ?_;rintro _ w ⟨rfl,h⟩;refine⟨⟨(h.fR (n:=11) rfl),trivial⟩, ?_⟩;refine WT.two 6 8 (by kernel_rfl) ?_ ?_
    · refine WT.ju 6 [false] rfl (by kernel_rfl) (ag call283 (nV zI ua Cc zA (by omega) h (aB.to C))) rfl rfl ?_;rintro v15 w ⟨tu,kY,Bx,h⟩;rw[←hQ] at Bx h;subst Bx;refine⟨trivial, ?_⟩;refine WT.p 7 rfl (fun w'=>(aP (pl:=[(0,1),(1,1),(2,1)]) (out:=[.int .u64 _,.int .u64 _,.slice _ _ _]) underlying217 zeroValue217 (fun w=>by kernel_rfl) rfl fz rfl)) ?_;refine WT.e 8 [] rfl (bR h zeroValue217 rfl) ?_;rintro _ w ⟨b6,rfl,h⟩;refine⟨trivial, ?_⟩;refine WT.e 9 [] rfl (bA h sizeOf217 rfl rfl rfl rfl rfl) ?_;rintro _ w h;refine⟨trivial, ?_⟩;refine qU ?_;have h:=qu ht (h.aj (eS b1 .i64 .u64 wt.1 wt.2));have h:=qq (h.aj (eS b2 .i64 .u64 lg.1 lg.2));exact⟨_,b4,b6,tu,kY,aD ⟨rfl,rfl,rfl,trivial⟩,(bF (p0:=p0) (b:=b) rfl k h).to⟩
    refine WT.ju 8 [true] rfl (by kernel_rfl) (bR h zeroValue217 rfl) rfl rfl ?_;rintro _ w ⟨b6,rfl,h⟩;refine⟨⟨(h.fR (n:=11) rfl),trivial⟩, ?_⟩;refine WT.e 6 [false] rfl (ag call283 (nV zI ua Cc zA (by omega) h (aB.to C))) ?_;rintro v15 w ⟨tu,kY,Bx,h⟩;rw[←hQ] at Bx h;subst Bx;refine⟨trivial, ?_⟩;refine WT.p 7 rfl (fun w'=>(aP (pl:=[(0,1),(1,1),(2,1)]) (out:=[.int .u64 _,.int .u64 _,.slice _ _ _]) underlying217 zeroValue217 (fun w=>by kernel_rfl) rfl fz rfl)) ?_;refine WT.e 9 [] rfl (bA h sizeOf217 rfl rfl rfl rfl rfl) ?_;rintro _ w h;refine⟨trivial, ?_⟩;refine qU ?_;have h:=qu ht (h.aj (eS b1 .i64 .u64 wt.1 wt.2));have h:=qq (h.aj (eS b2 .i64 .u64 lg.1 lg.2));exact⟨_,b4,b6,tu,kY,aD ⟨rfl,rfl,rfl,trivial⟩,(bF (p0:=p0) (b:=b) rfl k h).to⟩
   refine WT.ju 8 [true] rfl (by kernel_rfl) (bR h zeroValue217 rfl) rfl rfl ?_;rintro _ w ⟨b6,rfl,h⟩;refine⟨⟨(h.fR (n:=11) rfl),trivial⟩, ?_⟩;refine WT.e 4 [true] rfl (ag call223 (m6 h)) ?_;rintro _ w ⟨rfl,h⟩;refine⟨⟨(h.fR (n:=11) rfl),trivial⟩, ?_⟩;refine WT.e 6 [false] rfl (ag call283 (nV zI ua Cc zA (by omega) h (aB.to C))) ?_;rintro v15 w ⟨tu,kY,Bx,h⟩;rw[←hQ] at Bx h;subst Bx;refine⟨trivial, ?_⟩;refine WT.p 7 rfl (fun w'=>(aP (pl:=[(0,1),(1,1),(2,1)]) (out:=[.int .u64 _,.int .u64 _,.slice _ _ _]) underlying217 zeroValue217 (fun w=>by kernel_rfl) rfl fz rfl)) ?_;refine WT.e 9 [] rfl (bA h sizeOf217 rfl rfl rfl rfl rfl) ?_;rintro _ w h;refine⟨trivial, ?_⟩;refine qU ?_;have h:=qu ht (h.aj (eS b1 .i64 .u64 wt.1 wt.2));have h:=qq (h.aj (eS b2 .i64 .u64 lg.1 lg.2));exact⟨_,b4,b6,tu,kY,aD ⟨rfl,rfl,rfl,trivial⟩,(bF (p0:=p0) (b:=b) rfl k h).to⟩
  refine WT.ju 8 [true] rfl (by kernel_rfl) (bR h zeroValue217 rfl) rfl rfl ?_;rintro _ w ⟨b6,rfl,h⟩;refine⟨⟨(h.fR (n:=11) rfl),trivial⟩, ?_⟩;refine WT.e 1 [true] rfl (ag call284 (k9 cD h)) ?_;rintro _ w ⟨rfl,h⟩;refine⟨⟨(h.fR (n:=11) rfl),trivial⟩, ?_⟩;refine WT.p 2 rfl (fun w'=>(cT (k:=.u64) (m:=cB m) (n:=1) rfl rfl (by show _≤(18446744073709551615:Int);omega))) ?_;refine WT.e 4 [true] rfl (ag call223 (m6 h)) ?_;rintro _ w ⟨rfl,h⟩;refine⟨⟨(h.fR (n:=11) rfl),trivial⟩, ?_⟩;refine WT.e 6 [false] rfl (ag call283 (nV zI ua Cc zA (by omega) h (aB.to C))) ?_;rintro v15 w ⟨tu,kY,Bx,h⟩;rw[←hQ] at Bx h;subst Bx;refine⟨trivial, ?_⟩;refine WT.p 7 rfl (fun w'=>(aP (pl:=[(0,1),(1,1),(2,1)]) (out:=[.int .u64 _,.int .u64 _,.slice _ _ _]) underlying217 zeroValue217 (fun w=>by kernel_rfl) rfl fz rfl)) ?_;refine WT.e 9 [] rfl (bA h sizeOf217 rfl rfl rfl rfl rfl) ?_;rintro _ w h;refine⟨trivial, ?_⟩;refine qU ?_;have h:=qu ht (h.aj (eS b1 .i64 .u64 wt.1 wt.2));have h:=qq (h.aj (eS b2 .i64 .u64 lg.1 lg.2));exact⟨_,b4,b6,tu,kY,aD ⟨rfl,rfl,rfl,trivial⟩,(bF (p0:=p0) (b:=b) rfl k h).to⟩
 clear h k sb ht;rintro env w ⟨j,b4,b6,tu,kY,rfl,h⟩;have aA:=gJ (h.aj (dZ b bd p0 (vr) ({m with wait:=some wt,log:=some lg})));obtain⟨oa,oc,ca,cc,bs,bu,ba,vw,v1,v2,aa,k,sb,h⟩:=aA;have aA:=Hi rfl (iW (v:=v1) h);obtain⟨b1,⟨rfl,ht⟩,h⟩:=aA;have aA:=Hh rfl (iW (v:=v2) h);obtain⟨b2,rfl,h⟩:=aA;refine go ?_;refine W.ez Tryz.follows h (by kernel_rfl) fun w h=> ?_;refine qC ?_ (C:=G9 (bd:=bd) hs (aB.cF) h);rintro _ w ⟨rfl,h⟩;refine go ?_;refine WL.v (gL rfl rfl rfl) ?_;refine go ?_;refine W.ct ?_;refine W.skip ?_;refine W.cut (fun env w=>∃(j:Env) (b4 b6:Nat) (tu:Option Addr) (kY:Nat),env=eu j [(0,b),(6,b6)]∧On W0 (aX b6 [.int .u64 ((cB m+1:Nat):Int),.int .u64 (lW m:Int),.slice tu Q.length kY] 217::dZ b bd p0 vr {m with s:=s2,wait:=some (tV wt (dS host id) (.bool true)),log:=some (tV lg (dS host id) (.int .u64 ((cB m+1:Nat):Int)))}::L') w) ?_ ?_
 · refine W.draw Tryz.follows h (fun w h=> ?_);refine WT.m 0 rfl ?_;refine WT.n 1 rfl rfl ?_;refine WT.f 2 21 rfl underlying182 rfl sizeOf177 rfl rfl ?_;refine WT.f 3 4 rfl underlying177 rfl sizeOf174 rfl rfl ?_;refine WT.l 4 rfl isAgg174 rfl (h.aS rfl) ?_;refine WT.gF (vs:=[.int .i64 _,.int .u64 _]) 5 rfl (by kernel_rfl) isAgg393 sizeOf393 rfl rfl (h.fR (n:=2) rfl) rfl rfl ?_;refine WT.m 6 rfl ?_;refine WT.n 7 rfl rfl ?_;refine WT.f 8 21 rfl underlying182 rfl sizeOf177 rfl rfl ?_;refine WT.f 9 5 rfl underlying177 rfl sizeOf175 rfl rfl ?_;refine WT.l 10 rfl isAgg175 rfl (h.aS rfl) ?_;refine WT.gF (vs:=[.int .i64 _,.int .u64 _]) 11 rfl (by kernel_rfl) isAgg393 sizeOf393 rfl rfl (h.fR (n:=2) rfl) rfl rfl ?_;refine qU ?_;refine WT.l 13 rfl isAgg30 rfl (h.aS rfl) ?_;refine WT.e 14 [true,true,false,false,false] rfl (uk JN (h.aj (eS b1 .i64 .u64 wt.1 wt.2)) ahm underlying174 zeroValue4 rfl rfl) ?_;rintro _ w ⟨rfl,h⟩;refine⟨⟨h.aS rfl,(h.fR (n:=2) rfl),trivial⟩, ?_⟩;refine qU ?_;refine WT.e 16 [true,true] rfl (um (v:=.bool true) h.g ahn rfl rfl rfl) ?_;rintro _ w h;refine⟨⟨h.aS rfl,(h.fR (n:=2) rfl),trivial⟩, ?_⟩;refine WT.e 17 [true,false] rfl (uk JN (h.aj (eS b2 .i64 .u64 lg.1 lg.2)) aho underlying175 zeroValue30 rfl rfl) ?_;rintro _ w ⟨rfl,h⟩;refine qW ?_;refine qU ?_;refine WT.e 19 [false] rfl (um (v:=.int .u64 ((cB m+1:Nat):Int)) h.g ahp rfl rfl rfl) ?_;rintro _ w h;have h:=qu (UJ ht) (h.aj (eS b1 .i64 .u64 (wt.1++[((dS host id),.bool true,wt.2)]) (wt.2+1)));have h:=qq (m:=tV lg (dS host id) (.int .u64 ((cB m+1:Nat):Int))) (h.aj (eS b2 .i64 .u64 (lg.1++[((dS host id),.int .u64 ((cB m+1:Nat):Int),lg.2)]) (lg.2+1)));refine⟨trivial, ?_⟩;refine qU ?_;exact⟨_,b4,b6,tu,kY,aD ⟨rfl,rfl,trivial⟩,(bF (p0:=p0) (b:=b) (n:={m with s:=s2,wait:=some (tV wt (dS host id) (.bool true)),log:=some (tV lg (dS host id) (.int .u64 ((cB m+1:Nat):Int)))}) rfl k h).to⟩
 clear h k sb ht;rintro env w ⟨j,b4,b6,tu,kY,rfl,h⟩;have aA:=gJ (h.aj (dZ b bd p0 (vr) ({m with s:=s2,wait:=some (tV wt (dS host id) (.bool true)),log:=some (tV lg (dS host id) (.int .u64 ((cB m+1:Nat):Int)))})));obtain⟨oa,oc,ca,cc,bs,bu,ba,vw,v1,v2,aa,k,sb,h⟩:=aA;refine qG fun w h=> ?_;have iG:=(DM (iW (v:=vr) h)).symm;rcases iG with⟨⟨rr,rb,ra,oS⟩,br,hw,rfl,h⟩|⟨hw,rfl,h⟩
 ·
  have hw:m.run=some ⟨rr,rb,ra,oS⟩:=hw;have aA:∃m2:Nd,m={m2 with run:=some ⟨rr,rb,ra,oS⟩}:=⟨m,by rw[←hw]⟩;obtain⟨m,rfl⟩:=aA;clear hw;have hm:((if oS+8<uT then(if ra=true∧cB m+1≤oS+8 then nX {m with s:=s2,wait:=some (tV wt (dS host id) (.bool true)),log:=some (tV lg (dS host id) (.int .u64 ((cB m+1:Nat):Int))),run:=some ⟨rr,rb,ra,oS⟩} (cB m+1) else some {m with s:=s2,wait:=some (tV wt (dS host id) (.bool true)),log:=some (tV lg (dS host id) (.int .u64 ((cB m+1:Nat):Int))),run:=some ⟨rr,rb,ra,oS⟩}) else none).bind jQ)=some n2:=hm;refine X.v (fun _=>(fq underlying172 rfl rfl)) ?_;refine gw ?_;have Sx:=cG hm;obtain⟨n3,Ek,hma⟩:=Sx;have hmc:=iZ Ek;obtain⟨hmt,Z7⟩:=hmc;clear hm Ek;have hmt:oS+8<18446744073709551616:=hmt;have amk:cB m+1<5000000000000000000:=zE;clear cD zE hs;have iG:=Bool.eq_false_or_eq_true ra;rcases iG with rfl|rfl
  ·
   refine qD ?_;refine X.v (fun _=>(cT (k:=.u64) (m:=oS) (n:=8) rfl rfl (by show _≤(18446744073709551615:Int);omega))) ?_;refine qI (fun CY=> ?_) (fun CY=> ?_)
   · refine qC ?_ (C:=Hg (p0:=p0) k (by rw[if_pos ⟨rfl,Int.ofNat_le.1 CY⟩] at Z7;exact Z7) h);clear k;rintro _ w h;have aA:=BV (b:=b) (bd:=bd) (p0:=p0) (vr:=.pointer (some ⟨br,0,none⟩)) (n:=n3) h;obtain⟨k,h⟩:=aA;refine qC ?_ (C:=qv (p0:=p0) (by exact k) hma h);rintro _ w h;refine qR ?_;exact h.to
   refine qC ?_ (C:=qv (p0:=p0) k (by rw[if_neg (fun q=>CY (Int.ofNat_le.2 q.2))] at Z7;obtain rfl:=Option.some.inj Z7;exact hma) h);rintro _ w h;refine qR ?_;exact h.to
  refine qC ?_ (C:=qv (p0:=p0) k (by rw[if_neg (fun q=>Bool.false_ne_true q.1)] at Z7;obtain rfl:=Option.some.inj Z7;exact hma) h);rintro _ w h;refine qR ?_;exact h.to
 have hw:m.run=none:=hw;have aA:∃m2:Nd,m={m2 with run:=none}:=⟨m,by rw[←hw]⟩;obtain⟨m,rfl⟩:=aA;clear hw;have hm:((some {m with s:=s2,wait:=some (tV wt (dS host id) (.bool true)),log:=some (tV lg (dS host id) (.int .u64 ((cB m+1:Nat):Int))),run:=none}).bind jQ)=some n2:=hm;refine qC ?_ (C:=qv (p0:=p0) k hm h);rintro _ w h;refine qR ?_;exact h.to
end Go.Proofs.YtcplmndikhjehaaGreat
namespace Go.Proofs.YtcplmndikhjehaaGreat
open Go.Proofs.Tryz
open Go Go.Sl Go.Sl.eM Go.Sl.gW Go.Sl.kM Go.Sl.pe Go.Sl.pM Go.Sl.mG Go.Sl.pO Go.Sl.rH Go.Sl.pN Go.Sl.gU
open Go.Sl.oB (wr)
set_option maxHeartbeats 0
set_option maxRecDepth 8000
variable{L':List aC}{ax:Option Addr}{cx pJ gX rJ eT mk ee gv:Nat}{mdata:List UInt8}
variable{W0 w:World}{L F:List aC}
theorem Fg{n n2:Nd}{e:Nat}(h:Bq n e=some n2):n.s.hd.bl≠0:=by
 unfold Bq at h;exact(Ck h).1
theorem Ys{k:Nat}{α:Type}{a b c:Option α}{x:α}(h:(if k=7 then a else if k=9 then b else if k=11 then c else none)=some x):(k=7∧a=some x)∨(k=9∧b=some x)∨(k=11∧c=some x):=by
 by_cases h7:k=7
 · rw[if_pos h7] at h;exact .inl ⟨h7,h⟩
 rw[if_neg h7] at h;by_cases h9:k=9
 · rw[if_pos h9] at h;exact .inr (.inl ⟨h9,h⟩)
 rw[if_neg h9] at h;exact .inr (.inr (iZ h))
variable{b bd bs bu ba self blocks bQ aW re rp rm count cZ dO dV oc cc ol cl:Nat}{oa ca:Option Addr}{vr vw v1 v2:Value}{now heard seen kept:Int}{known aH both:Bool}{s:kJ}{L0 L1:List aC}
theorem acz{b bd:Nat}{p0:aE}{vr:Value}{n n':Nd}[g:jY L b bd p0 vr n' L'](k:dF n){n2:Nd}(hm:K3 n ⟨mk,rJ,gv,pJ,eT,ee,gX,mdata⟩=some n2)(h:On W0 L w)(e:n'=n:=by rfl):Cs 309 [b,.agg #[.int .i64 (mk:Int),.int .u64 (rJ:Int),.int .u64 (gv:Int),.int .u64 (pJ:Int),.int .u64 (eT:Int),.int .u64 (ee:Int),.int .u64 (gX:Int),.slice ax mdata.length cx]] w fun v w'=>On W0 (dZ b bd p0 vr n2::L') w':=by
 refine qO ?_;unfold K3 at hm;have dI:=iZ hm;clear hm;obtain⟨hg,hm⟩:=dI;obtain⟨h1,h2,h3,h4,h5⟩:=hg;have h1:gv=n.cZ:=h1;have h2:pJ≠0:=h2;have h3:n.dO≠pJ:=h3;have h5:ee=0:=h5;have dI:=cG hm;clear hm;obtain⟨n3,hr,hm⟩:=dI;have l5:=Fg hr;have h:=bF (p0:=p0) (b:=b) e k h;have aA:=gJ h;obtain⟨oa,oc,ca,cc,bs,bu,ba,vw,v1,v2,aa,k,sb,h⟩:=aA;refine gb fun b3 w h=> ?_;refine go ?_;refine W.ez Tryz.follows h (by kernel_rfl) fun w h=> ?_;refine go ?_;refine X.v (fun _=>(bY rfl rfl (by omega))) ?_;refine go ?_;refine X.v (fun _=>(iE rfl rfl (by omega))) ?_;refine qD ?_;refine W.ez Tryz.follows h (by kernel_rfl) fun w h=> ?_;refine go ?_;refine X.v (fun _=>(iE rfl rfl (by omega))) ?_;refine qN ?_;refine WL.v (bY rfl rfl (by omega)) ?_;refine go ?_;refine WL.v (eV rfl rfl (by omega)) ?_;refine qD ?_;refine W.ez Tryz.follows h (by kernel_rfl) fun w h=> ?_;refine gs fun w h _=> ?_;refine gs fun w h _=> ?_;refine qE ?_;refine WL.e (ag call267 (q8 h)) ?_;rintro vb w ⟨hv,h⟩;rw[decide_eq_false (show ¬_=0 from l5)] at hv;subst hv;refine qC ?_ (C:=QA (p0:=p0) (n:={n with dO:=pJ,kept:=n.now}) (by exact k) hr h);clear k;rintro _ w ⟨rfl,h⟩;refine WL.v (cQ rfl) ?_;refine WL.pf ?_;refine go ?_;refine W.cs ?_;have aA:=BV (b:=b) (bd:=bd) (p0:=p0) (vr:=vr) (n:=n3) h;obtain⟨k,h⟩:=aA;refine qC ?_ (C:=E6 (p0:=p0) (by exact k) hm h);rintro _ w h;refine qR ?_;exact h.to
theorem Yt{b bd:Nat}{p0:aE}{vr:Value}{n n':Nd}[g:jY L b bd p0 vr n' L'](k:dF n){n2:Nd}(hm:EY n ⟨mk,rJ,gv,pJ,eT,ee,gX,mdata⟩=some n2)(C:aB L' (Bytes (.slice ax mdata.length cx) mdata))(h:On W0 L w)(e:n'=n:=by rfl):Cs 311 [b,.agg #[.int .i64 (mk:Int),.int .u64 (rJ:Int),.int .u64 (gv:Int),.int .u64 (pJ:Int),.int .u64 (eT:Int),.int .u64 (ee:Int),.int .u64 (gX:Int),.slice ax mdata.length cx]] w fun v w'=>On W0 (dZ b bd p0 vr n2::L') w':=by
 refine qO ?_;unfold EY at hm;have h:=bF (p0:=p0) (b:=b) e k h;have aA:=gJ h;obtain⟨oa,oc,ca,cc,bs,bu,ba,vw,v1,v2,aa,k,sb,h⟩:=aA;refine gb fun b3 w h=> ?_;refine qC ?_ (C:=nin (bd:=bd) h);rintro v w ⟨hv,h⟩;have iG:=Bool.eq_false_or_eq_true (xK n ⟨mk,rJ,gv,pJ,eT,ee,gX,mdata⟩);rcases iG with hq|hq<;>(rw[show(decide (n.dO≠0)&&decide (gv=n.cZ)&&decide (pJ=n.dO))=_ from hq] at hv;subst hv)
 ·
  rw[if_neg (by rw[hq];exact Bool.noConfusion)] at hm;have dI:=cG hm;clear hm;obtain⟨n3,hr,hm⟩:=dI;have l5:=Fg hr;refine qC ?_ (C:=q8 (bd:=bd) h);rintro vb w ⟨hv,h⟩;rw[decide_eq_false (show ¬_=0 from l5)] at hv;subst hv;refine qC ?_ (C:=QA (p0:=p0) (n:=n) (by exact k) hr h);clear k;rintro _ w ⟨rfl,h⟩;refine WL.v (cQ rfl) ?_;refine WL.pf ?_;refine go ?_;refine W.cs ?_;refine W.seq ?_;have dI:=iZ hm;clear hm;obtain⟨hg,hm⟩:=dI;obtain⟨cD,hd8,hix,Cu⟩:=hg;have hd8:8≤mdata.length:=hd8;have hix:eT=cB n3+1:=hix;have Cu:ee=sQ n3 (cB n3):=Cu;have dI:=cG hm;clear hm;obtain⟨s2,hs,hm⟩:=dI;have hm:=iZ hm;obtain⟨vH,hm⟩:=hm;have dI:=cG hm;clear hm;obtain⟨n6,ha,hm⟩:=dI;have hfm:=(h.aO C).form;obtain⟨_,_,Qj,hfc,_⟩:=hfm;simp only[Value.slice.injEq] at Qj;obtain⟨_,_,rfl⟩:=Qj;have Aw:cB n3<5000000000000000000:=by have:=cD.1;unfold cB gu;omega
  have aA:=gJ h.g;obtain⟨oa,oc,ca,cc,bs,bu,ba,vw,v1,v2,aa,k,sb,h⟩:=aA;refine gs fun w h _=> ?_;refine qC ?_ (C:=jS (at_:=0) (n:=8) (bs:=mdata) h (aB.to C));rintro _ w hg;rcases hg with⟨_,hv,h⟩|⟨dX,_,_⟩;rotate_left
  · exact absurd (show _ by omega) dX
  have hv:_=Value.tuple #[.int .u64 (uJ (mdata.take 8):Int),.bool true]:=hv;subst hv;refine qT fun w h=> ?_;refine WT.e 5 [true] rfl (ag call284 (k9 cD h)) ?_;rintro _ w ⟨rfl,h⟩;refine qW ?_;refine WT.p 6 rfl (fun w'=>(cT (k:=.u64) (m:=cB n3) (n:=1) rfl rfl (by show _≤(18446744073709551615:Int);omega))) ?_;refine WT.p 7 rfl (fun w'=>gL rfl rfl (by omega)) ?_;refine qU ?_;refine WT.e 14 [true,false] rfl (ag call284 (k9 cD h)) ?_;rintro _ w ⟨rfl,h⟩;refine qW ?_;refine WT.e 15 [true] rfl (ag call293 (nY (Nat.le_refl _) cD h)) ?_;rintro _ w ⟨rfl,h⟩;refine qW ?_;refine WT.p 16 rfl (fun w'=>gL rfl rfl (by rw[Cu])) ?_;refine qU ?_;have aA:=kr C hfc hd8 (Nat.le_refl _);obtain⟨KI,oM,eY,gD⟩:=aA;have Xo:(mdata.drop 8).take (mdata.length - 8)=mdata.drop 8:=List.take_of_length_le (by rw[List.length_drop];exact Nat.le_refl _);rw[Xo] at eY gD;refine qG fun w h=> ?_;refine X.v (fun _=>(iP (l:=8) underlying28 sizeOf5 rfl rfl hd8 eY)) ?_;refine X.v (fun _=>(aP (pl:=[(0,1),(1,1),(2,1)]) (out:=[.int .u64 _,.int .u64 _,.slice _ _ _]) underlying217 zeroValue217 (fun w=>by kernel_rfl) rfl fz rfl)) ?_;refine X.e (ag call320 (G9 (bd:=bd) (x:=(⟨eT,uJ (mdata.take 8),mdata.drop 8⟩:En)) (ax:=KI) (cx:=oM) hs (aB.to gD) h)) ?_;rintro _ w ⟨rfl,h⟩;refine go ?_;refine WL.v (gL rfl rfl rfl) ?_;refine go ?_;refine W.ct ?_;refine go ?_;refine W.ct ?_;refine W.skip ?_;refine W.seq ?_;refine W.draw Tryz.follows h (fun w h=> ?_);refine WT.m 0 rfl ?_;refine WT.f 1 6 rfl underlying341 rfl sizeOf30 rfl rfl ?_;refine WT.l 2 rfl isAgg30 rfl (h.aS rfl) ?_;refine WT.m 3 rfl ?_;refine WT.e 4 [true] rfl (ag call284 (k9 (bd:=bd) (s:=s2) vH h)) ?_;rintro _ w ⟨rfl,h⟩;refine qW ?_;refine WT.p 5 rfl (fun w'=>(wJ (m:=gX) (n:=gu s2) rfl rfl)) ?_;refine WT.e 6 [false] rfl (ag call307 (Bv (p0:=p0) (n:={n3 with s:=s2,kept:=n3.now}) (to:=min gX (gu s2)) k ha (by have:=vH.1;unfold gu;show _<(18446744073709551616:Nat);omega) h)) ?_;clear k;rintro _ w h;have aA:=BV (b:=b) (bd:=bd) (p0:=p0) (vr:=vr) (n:=n6) h;obtain⟨k,h⟩:=aA;have aA:=gJ (h.aj (dZ b bd p0 (vr) (n6)));obtain⟨oa,oc,ca,cc,bs,bu,ba,vw,v1,v2,aa,k,sb,h⟩:=aA;refine⟨trivial, ?_⟩;refine WT.dn ?_;refine go ?_;refine WL.v (cQ rfl) ?_;refine go ?_;refine W.ct ?_;refine go ?_;refine WL.e (ag call338 (E6 (p0:=p0) k hm h)) ?_;rintro _ w h;refine go ?_;refine bf.yW (bf.r0 results311 ?_);exact h.to
 refine WL.v (cQ rfl) ?_;refine go ?_;refine WL.pt ?_;refine go ?_;refine WL.pt ?_;refine go ?_;refine WL.pt ?_;refine go ?_;refine W.ct ?_;refine W.ret (bf.r0 results311 ?_);rw[if_pos hq] at hm;have aA:=Option.some.inj hm;obtain rfl:=aA;exact(bF (p0:=p0) (b:=b) (n:=n) rfl k h).to
theorem UL{b bd:Nat}{p0:aE}{vr:Value}{n n':Nd}[g:jY L b bd p0 vr n' L'](k:dF n){n2:Nd}(hm:zM n ⟨mk,rJ,gv,pJ,eT,ee,gX,mdata⟩=some n2)(h:On W0 L w)(e:n'=n:=by rfl):Cs 312 [b,.agg #[.int .i64 (mk:Int),.int .u64 (rJ:Int),.int .u64 (gv:Int),.int .u64 (pJ:Int),.int .u64 (eT:Int),.int .u64 (ee:Int),.int .u64 (gX:Int),.slice ax mdata.length cx]] w fun v w'=>On W0 (dZ b bd p0 vr n2::L') w':=by
 refine qO ?_;unfold zM at hm;have h:=bF (p0:=p0) (b:=b) e k h;have aA:=gJ h;obtain⟨oa,oc,ca,cc,bs,bu,ba,vw,v1,v2,aa,k,sb,h⟩:=aA;refine gb fun b3 w h=> ?_;refine go ?_;refine WL.q (e7 rfl rfl) (fun zx=> ?_) (fun zx=> ?_)
 ·
  refine go ?_;refine WL.e (ag call340 (nin (bd:=bd) h)) ?_;rintro v w ⟨hv,h⟩;have iG:=Bool.eq_false_or_eq_true (xK n ⟨mk,rJ,gv,pJ,eT,ee,gX,mdata⟩);rcases iG with hq|hq<;>(rw[show(decide (n.dO≠0)&&decide (gv=n.cZ)&&decide (pJ=n.dO))=_ from hq] at hv;subst hv)
  · refine WL.v (cQ rfl) ?_;refine WL.pt ?_;refine go ?_;refine W.cf ?_;refine W.seq ?_;rw[if_neg (fun q=>absurd q.2 (by rw[hq];exact Bool.noConfusion)),if_neg (by omega)] at hm;have dI:=cG hm;clear hm;obtain⟨n3,hr,hm⟩:=dI;have l5:=Fg hr;refine go ?_;refine WL.v (iE rfl rfl (by omega)) ?_;refine go ?_;refine W.cf ?_;refine go ?_;refine WL.e (ag call267 (q8 (bd:=bd) h)) ?_;rintro vb w ⟨hv,h⟩;rw[decide_eq_false (show ¬_=0 from l5)] at hv;subst hv;refine WL.pf ?_;refine go ?_;refine WL.e (ag call339 (QA (p0:=p0) (n:=n) (by exact k) hr h)) ?_;clear k;rintro _ w ⟨rfl,h⟩;refine WL.v (cQ rfl) ?_;refine WL.pf ?_;refine go ?_;refine W.cf ?_;refine W.seq ?_;have dI:=iZ hm;clear hm;obtain⟨hg,hm⟩:=dI;have dI:=cG hm;clear hm;obtain⟨n6,ha,hm⟩:=dI;have aA:=gJ (h.aj (dZ b bd p0 (vr) (n3)));obtain⟨oa,oc,ca,cc,bs,bu,ba,vw,v1,v2,aa,k,sb,h⟩:=aA;refine gs fun w h _=> ?_;refine go ?_;refine W.draw Tryz.follows h (fun w h=> ?_);refine WT.m 0 rfl ?_;refine WT.f 1 6 rfl underlying341 rfl sizeOf30 rfl rfl ?_;refine WT.l 2 rfl isAgg30 rfl (h.aS rfl) ?_;refine WT.m 3 rfl ?_;refine WT.e 4 [true] rfl (ag call284 (k9 (bd:=bd) hg h)) ?_;rintro _ w ⟨rfl,h⟩;refine qW ?_;refine WT.p 5 rfl (fun w'=>(wJ (m:=gX) (n:=cB n3) rfl rfl)) ?_;refine WT.e 6 [false] rfl (ag call307 (Bv (p0:=p0) (n:={n3 with kept:=n3.now}) (to:=min gX (cB n3)) k ha (by have:=hg.1;unfold cB gu;show _<(18446744073709551616:Nat);omega) h)) ?_;clear k;rintro _ w h;have aA:=BV (b:=b) (bd:=bd) (p0:=p0) (vr:=vr) (n:=n6) h;obtain⟨k,h⟩:=aA;have aA:=gJ (h.aj (dZ b bd p0 (vr) (n6)));obtain⟨oa,oc,ca,cc,bs,bu,ba,vw,v1,v2,aa,k,sb,h⟩:=aA;refine⟨trivial, ?_⟩;refine WT.dn ?_;refine go ?_;refine WL.v (cQ rfl) ?_;refine go ?_;refine W.ct ?_;refine go ?_;refine WL.e (ag call338 (E6 (p0:=p0) k hm h)) ?_;rintro _ w h;refine go ?_;refine bf.yW (bf.r0 results312 ?_);exact h.to
  refine WL.v (cQ rfl) ?_;refine WL.pt ?_;refine go ?_;refine W.ct ?_;refine go ?_;refine WL.e (ag call82 (E5 (p0:=p0) k h)) ?_;clear k;rintro _ w h;have aA:=BV (b:=b) (bd:=bd) (p0:=p0) (vr:=vr) (n:=(mZ n)) h;obtain⟨k,h⟩:=aA;refine go ?_;refine WL.e (ag call224 (Qz (p0:=p0) k (by rw[if_pos ⟨by omega,hq⟩] at hm;exact hm) h)) ?_;rintro _ w h;refine go ?_;refine bf.yW (bf.r0 results312 ?_);exact h.to
 have zx:¬((n.dO:Nat):Int)≠0:=zx;refine go ?_;refine WL.pf ?_;refine go ?_;refine W.cf ?_;refine go ?_;refine WL.v (gL rfl rfl (by omega)) ?_;refine go ?_;refine W.ct ?_;refine W.ret (bf.r0 results312 ?_);rw[if_neg (fun q=>zx (by have:=q.1;omega)),if_pos (by omega)] at hm;have aA:=Option.some.inj hm;obtain rfl:=aA;exact(bF (p0:=p0) (b:=b) (n:=n) rfl k h).to
theorem ahr{b bd:Nat}{p0:aE}{vr:Value}{n n':Nd}[g:jY L b bd p0 vr n' L'](k:dF n){n2:Nd}(hm:UC n ⟨mk,rJ,gv,pJ,eT,ee,gX,mdata⟩=some n2)(C:aB L' (Bytes (.slice ax mdata.length cx) mdata))(h:On W0 L w)(e:n'=n:=by rfl):Cs 273 [b,.agg #[.int .i64 (mk:Int),.int .u64 (rJ:Int),.int .u64 (gv:Int),.int .u64 (pJ:Int),.int .u64 (eT:Int),.int .u64 (ee:Int),.int .u64 (gX:Int),.slice ax mdata.length cx]] w fun v w'=>On W0 (dZ b bd p0 vr n2::L') w':=by
 refine qO ?_;unfold UC at hm;have hm:=Ck hm;obtain⟨hg,hm⟩:=hm
 have hp:n.aH=false:=by
   cases e:n.aH
   · rfl
   exact absurd (.inr e) hg
 have hk:(mk=7∧K3 {n with heard:=n.now} ⟨mk,rJ,gv,pJ,eT,ee,gX,mdata⟩=some n2)∨(mk=9∧EY {n with heard:=n.now} ⟨mk,rJ,gv,pJ,eT,ee,gX,mdata⟩=some n2)∨(mk=11∧zM {n with heard:=n.now} ⟨mk,rJ,gv,pJ,eT,ee,gX,mdata⟩=some n2):=Ys hm;have B1:¬rJ<n.s.hd.bl:=fun q=>hg (.inl q);have h:=bF (p0:=p0) (b:=b) e k h;have aA:=gJ h;obtain⟨oa,oc,ca,cc,bs,bu,ba,vw,v1,v2,aa,k,sb,h⟩:=aA;refine gb fun b3 w h=> ?_;refine gw ?_;refine W.seq ?_;refine W.block ?_;refine W.seq ?_;rw[hp] at h;refine W.draw Tryz.follows h (fun w h=> ?_);refine WT.f 0 1 rfl underlying341 rfl sizeOf30 rfl rfl ?_;refine WT.l 1 rfl isAgg30 rfl (h.aS rfl) ?_;refine WT.m 2 rfl ?_;refine WT.e 3 [true] rfl (ag call223 (m6 (bd:=bd) h)) ?_;rintro _ w ⟨rfl,h⟩;refine qW ?_;refine WT.p 4 rfl (fun w'=>dB rfl rfl (by omega)) ?_;refine WT.a 5 rfl ?_;refine WT.dn ?_;refine W.cf ?_;refine go ?_;refine W.cf ?_;refine gs fun w h _=> ?_;refine go ?_;refine WL.v (cL rfl rfl) ?_;refine go ?_;refine W.lN rfl (fun BR=> ?_) (fun BR=> ?_)
 · refine go ?_;refine WL.e (ag call309 (acz (p0:=p0) (n:={n with heard:=n.now}) k (by rcases hk with⟨q,e⟩|⟨q,e⟩|⟨q,e⟩;exact e;all_goals omega) h (by rw[←hp]))) ?_;rintro _ w h;refine go ?_;refine bf.yW (bf.r0 results273 ?_);exact h.to
 refine go ?_;refine WL.v (iE rfl rfl (by omega)) ?_;refine go ?_;refine W.cf ?_;refine go ?_;refine WL.v (cL rfl rfl) ?_;refine go ?_;refine W.lN rfl (fun Jt=> ?_) (fun Jt=> ?_)
 · refine go ?_;refine WL.e (ag call311 (Yt (p0:=p0) (n:={n with heard:=n.now}) k (by rcases hk with⟨q,e⟩|⟨q,e⟩|⟨q,e⟩;omega;exact e;omega) (aB.to C) h (by rw[←hp]))) ?_;rintro _ w h;refine go ?_;refine bf.yW (bf.r0 results273 ?_);exact h.to
 refine go ?_;refine WL.v (gL rfl rfl (by omega)) ?_;refine go ?_;refine W.ct ?_;refine go ?_;refine WL.e (ag call312 (UL (p0:=p0) (n:={n with heard:=n.now}) k (by rcases hk with⟨q,e⟩|⟨q,e⟩|⟨q,e⟩;omega;omega;exact e) h (by rw[←hp]))) ?_;rintro _ w h;refine go ?_;refine bf.yW (bf.r0 results273 ?_);exact h.to
end Go.Proofs.YtcplmndikhjehaaGreat
namespace Go.Proofs.YtcplmndikhjehaaGreat
open Go.Proofs.Tryz
open Go Go.Sl Go.Sl.eM Go.Sl.gW Go.Sl.kM Go.Sl.pe Go.Sl.pM Go.Sl.mG Go.Sl.pO Go.Sl.rH Go.Sl.pN Go.Sl.gU
open Go.Sl.oB (wr)
set_option maxHeartbeats 0
set_option maxRecDepth 8000
variable{L':List aC}{ax:Option Addr}{cx pJ gX rJ eT mk ee gv:Nat}{mdata:List UInt8}
variable{W0 w:World}{L F:List aC}
variable{b bd bs bu ba self blocks bQ aW re rp rm count cZ dO dV oc cc ol cl:Nat}{oa ca:Option Addr}{vr vw v1 v2:Value}{now heard seen kept:Int}{known aH both:Bool}{s:kJ}{L0 L1:List aC}
theorem QL{b bd:Nat}{p0:aE}{vr:Value}{n n':Nd}[g:jY L b bd p0 vr n' L'](k:dF n){n2:Nd}(hm:yG n=some n2)(h:On W0 L w)(e:n'=n:=by rfl):Cs 221 [b] w fun v w'=>On W0 (dZ b bd p0 vr n2::L') w':=by
 cases hr:n.run with
 | none=>
   unfold yG at hm;rw[hr] at hm;obtain rfl:=Option.some.inj hm;exact Ym k hr h e
 |some r=>exact Yn k hr hm h e
theorem acA{b bd:Nat}{p0:aE}{vr:Value}{n n':Nd}[g:jY L b bd p0 vr n' L'](k:dF n)(hp:n.aH=false)(h:On W0 L w)(e:n'=n:=by rfl):Cs 272 [b,.agg #[.int .i64 (mk:Int),.int .u64 (rJ:Int),.int .u64 (gv:Int),.int .u64 (pJ:Int),.int .u64 (eT:Int),.int .u64 (ee:Int),.int .u64 (gX:Int),.slice ax mdata.length cx]] w fun v w'=>On W0 (dZ b bd p0 vr n::L') w':=by
 refine qO ?_;have aA:∃m:Nd,n={m with aH:=false}:=⟨n,by rw[←hp]⟩;obtain⟨m,rfl⟩:=aA;clear hp;have h:=bF (p0:=p0) (b:=b) e k h;have aA:=gJ h;obtain⟨oa,oc,ca,cc,bs,bu,ba,vw,v1,v2,aa,k,sb,h⟩:=aA;refine gb fun b3 w h=> ?_;refine qT fun w h=> ?_;refine qR ?_;exact(bF (p0:=p0) (b:=b) rfl k h).to
theorem acB{b bd:Nat}{p0:aE}{vr:Value}{n n':Nd}[g:jY L b bd p0 vr n' L'](k:dF n){r:rQ}{n2:Nd}(hr:n.run=some r)(hm:Ng n ⟨mk,rJ,gv,pJ,eT,ee,gX,mdata⟩=some n2)(h:On W0 L w)(e:n'=n:=by rfl):Cs 272 [b,.agg #[.int .i64 (mk:Int),.int .u64 (rJ:Int),.int .u64 (gv:Int),.int .u64 (pJ:Int),.int .u64 (eT:Int),.int .u64 (ee:Int),.int .u64 (gX:Int),.slice ax mdata.length cx]] w fun v w'=>On W0 (dZ b bd p0 vr n2::L') w':=by
 refine qO ?_;unfold Ng at hm;rw[hr] at hm;have dI:=iZ hm;clear hm;obtain⟨hg,hm⟩:=dI;have dI:=cG hm;clear hm;obtain⟨n3,ha,hm⟩:=dI;have dI:=cG hm;clear hm;obtain⟨n4,he,hm⟩:=dI;obtain⟨rr,rb,ra,oS⟩:=r;obtain⟨cD,hp,h3,h4,h5,h6,h7⟩:=hg;have h3:gv=rr:=h3;have h4:pJ=rb:=h4;have h5:eT≤cB n:=h5;have h6:eT+9<18446744073709551616:=h6;have h7:oS+9<18446744073709551616:=h7;have aA:∃m:Nd,n={m with aH:=true,run:=some ⟨rr,rb,ra,oS⟩}:=⟨n,by rw[←hp,←hr]⟩;obtain⟨m,rfl⟩:=aA;clear hr hp;have h5:eT≤cB m:=h5;have ha:jQ {m with aH:=true,run:=some ⟨rr,rb,true,max oS eT⟩,seen:=m.now}=some n3:=ha;have he:qj n3 ((if ra=true then oS+8 else eT)+1)=some n4:=he;have h:=bF (p0:=p0) (b:=b) e k h;have aA:=gJ h;obtain⟨oa,oc,ca,cc,bs,bu,ba,vw,v1,v2,aa,k,sb,h⟩:=aA;have aA:=Hf rfl (iW (v:=vr) h);obtain⟨br,rfl,h⟩:=aA;refine gb fun b3 w h=> ?_;refine qT fun w h=> ?_;refine WT.p 7 rfl (fun w'=>(gz underlying172 rfl rfl)) ?_;refine qU ?_;refine WT.l 15 rfl isAgg30 rfl (h.aS rfl) ?_;refine WT.p 16 rfl (fun w'=>bY rfl rfl (by show(gv:Int)=(rr:Int);omega)) ?_;refine qU ?_;refine WT.p 25 rfl (fun w'=>bY rfl rfl (by show(pJ:Int)=(rb:Int);omega)) ?_;refine qU ?_;refine WT.e 38 [true,false,false,false,false,false,false] rfl (ag call284 (k9 cD h)) ?_;rintro _ w ⟨rfl,h⟩;refine qW ?_;refine WT.p 39 rfl (fun w'=>eV rfl rfl (by show ¬((eT:Int)>((cB m:Nat):Int));omega)) ?_;refine qU ?_;refine WL.v (cT (k:=.u64) (m:=oS) (n:=8) rfl rfl (by show _≤(18446744073709551615:Int);omega)) ?_;refine gw ?_;refine W.cut (fun env w=>∃(j:Env) (b3:Nat),env=eu j [(0,b),(3,b3),(4,br),(5,.int .u64 ((if ra=true then oS+8 else eT):Nat))]∧On W0 (aX b3 [.int .i64 (mk:Int),.int .u64 (rJ:Int),.int .u64 (gv:Int),.int .u64 (pJ:Int),.int .u64 (eT:Int),.int .u64 (ee:Int),.int .u64 (gX:Int),.slice ax mdata.length cx] 341::dZ b bd p0 br {m with aH:=true,run:=some ⟨rr,rb,ra,oS⟩}::L') w) ?_ ?_
 ·
  refine qI (fun c8=> ?_) (fun c8=> ?_)
  · refine qD ?_;exact⟨_,b3,aD ⟨rfl,rfl,rfl,congrArg (fun z:Nat=>Value.int .u64 (z:Int)) ((if_neg (by simpa using c8)).symm),trivial⟩,(bF (p0:=p0) (b:=b) rfl k h).to⟩
  refine qD ?_;exact⟨_,b3,aD ⟨rfl,rfl,rfl,congrArg (fun z:Nat=>Value.int .u64 (z:Int)) ((if_pos (by simpa using c8)).symm),trivial⟩,(bF (p0:=p0) (b:=b) rfl k h).to⟩
 clear h k sb;rintro env w ⟨j,b3,rfl,h⟩;have aA:=gJ (h.aj (dZ b bd p0 br ({m with aH:=true,run:=some ⟨rr,rb,ra,oS⟩})));obtain⟨oa,oc,ca,cc,bs,bu,ba,vw,v1,v2,aa,k,sb,h⟩:=aA;have h:=QB rfl (iW (v:=.pointer (some ⟨br,0,none⟩)) h);have ho:(if ra=true then oS+8 else eT)+1<18446744073709551616:=by split<;>omega
 have aA:∃x,x=(if ra=true then oS+8 else eT):=⟨_,rfl⟩;obtain⟨old,hold⟩:=aA;rw[←hold] at he ho;rw[←hold];refine qG fun w h=> ?_;refine X.v (fun _=>(Hv (m:=oS) (n:=eT) rfl rfl)) ?_;refine gs fun w h _=> ?_;refine gs fun w h _=> ?_;refine gs fun w h _=> ?_;refine gs fun w h _=> ?_;refine qC ?_ (C:=qv (p0:=p0) (n:={m with aH:=true,run:=some ⟨rr,rb,true,max oS eT⟩,seen:=m.now}) k ha h);clear k;rintro _ w h;have aA:=BV (b:=b) (bd:=bd) (p0:=p0) (vr:=.pointer (some ⟨br,0,none⟩)) (n:=n3) h;obtain⟨k,h⟩:=aA;have aA:=gJ h.g;obtain⟨oa,oc,ca,cc,bs,bu,ba,vw,v1,v2,aa,k,sb,h⟩:=aA;refine qD ?_;refine WL.v (cT (k:=.u64) (m:=old) (n:=1) rfl rfl (by show _≤(18446744073709551615:Int);omega)) ?_;refine WL.e (ag call216 (Hw (p0:=p0) k he h)) ?_;clear k;rintro _ w h;have aA:=BV (b:=b) (bd:=bd) (p0:=p0) (vr:=.pointer (some ⟨br,0,none⟩)) (n:=n4) h;obtain⟨k,h⟩:=aA;refine qC ?_ (C:=QL (p0:=p0) k hm h);rintro _ w h;refine qR ?_;exact h.to
theorem ahs{b bd:Nat}{p0:aE}{vr:Value}{n n':Nd}[g:jY L b bd p0 vr n' L'](k:dF n){n2:Nd}(hm:Ng n ⟨mk,rJ,gv,pJ,eT,ee,gX,mdata⟩=some n2)(h:On W0 L w)(e:n'=n:=by rfl):Cs 272 [b,.agg #[.int .i64 (mk:Int),.int .u64 (rJ:Int),.int .u64 (gv:Int),.int .u64 (pJ:Int),.int .u64 (eT:Int),.int .u64 (ee:Int),.int .u64 (gX:Int),.slice ax mdata.length cx]] w fun v w'=>On W0 (dZ b bd p0 vr n2::L') w':=by
 cases hr:n.run with
 | none=>
   unfold Ng at hm;rw[hr] at hm;obtain⟨hp,hm⟩:=iZ hm;obtain rfl:=Option.some.inj hm;exact acA k hp h e
 |some r=>exact acB k hr hm h e
theorem acC[f0:FB L b (yJ self blocks bQ bd bs now oa ol oc ca cl cc bu aW re rp rm known ba heard aH count vr both vw seen v1 v2 cZ dO dV kept) 182 L0][f1:nL (kK bd) L0 bs s L1]{i ep:Nat}(hf:mM s)(h1:s.hd.base≤i)(h2:i≤gu s)(h3:jm s i=ep)(h:On W0 L w):Cs 308 [b,.int .u64 (i:Int),.int .u64 (ep:Int)] w fun v w'=>v=.bool true∧On W0 (aX b (yJ self blocks bQ bd bs now oa ol oc ca cl cc bu aW re rp rm known ba heard aH count vr both vw seen v1 v2 cZ dO dV kept) 182::At (kK bd) bs s::L1) w':=by
 refine qO ?_;have h:=Qx (b:=b) h;refine qC ?_ (C:=E7 (bd:=bd) h);rintro _ w ⟨Xf,rfl,h⟩;refine qE ?_;refine WL.e (ag call284 (k9 hf h)) ?_;rintro _ w ⟨rfl,h⟩;refine qE ?_;refine WL.e (ag call293 (nY h2 hf h)) ?_;rintro _ w ⟨rfl,h⟩;refine qE ?_;refine qR ?_;exact⟨rfl,h.to⟩
theorem DN{b bd:Nat}{p0:aE}{vr:Value}{n n':Nd}[g:jY L b bd p0 vr n' L'](k:dF n)(h:On W0 L w)(e:n'=n:=by rfl):Cs 220 [b] w fun v w'=>On W0 (dZ b bd p0 vr n::L') w':=by
 refine qO ?_;have h:=bF (p0:=p0) (b:=b) e k h;have aA:=gJ h;obtain⟨oa,oc,ca,cc,bs,bu,ba,vw,v1,v2,aa,k,sb,h⟩:=aA;refine qD ?_;have iG:=DM (iW (v:=vr) h);rcases iG with⟨hw,rfl,h⟩|⟨r,br,hw,rfl,h⟩
 · refine qD ?_;refine qR ?_;exact(bF (p0:=p0) (b:=b) (by rw[←hw]) k h).to
 refine qD ?_;refine qR ?_;exact(bF (p0:=p0) (b:=b) (SN hw rfl) k h).to
theorem UM{b bd:Nat}{p0:aE}{vr:Value}{n n':Nd}[g:jY L b bd p0 vr n' L'](k:dF n)(hp:n.aH=false)(h:On W0 L w)(e:n'=n:=by rfl):Cs 271 [b,.agg #[.int .i64 (mk:Int),.int .u64 (rJ:Int),.int .u64 (gv:Int),.int .u64 (pJ:Int),.int .u64 (eT:Int),.int .u64 (ee:Int),.int .u64 (gX:Int),.slice ax mdata.length cx]] w fun v w'=>∃By,On W0 (dZ b bd p0 By n::L') w':=by
 refine qO ?_;have aA:∃m:Nd,n={m with aH:=false}:=⟨n,by rw[←hp]⟩;obtain⟨m,rfl⟩:=aA;clear hp;have h:=bF (p0:=p0) (b:=b) e k h;have aA:=gJ h;obtain⟨oa,oc,ca,cc,bs,bu,ba,vw,v1,v2,aa,k,sb,h⟩:=aA;refine gb fun b3 w h=> ?_;refine qD ?_;refine qR ?_;exact⟨vr,(bF (p0:=p0) (b:=b) rfl k h).to⟩
theorem UN{b bd:Nat}{p0:aE}{vr:Value}{n n':Nd}[g:jY L b bd p0 vr n' L'](k:dF n){n2:Nd}(hp:n.aH=true)(hm:xL n ⟨mk,rJ,gv,pJ,eT,ee,gX,mdata⟩=some n2)(h:On W0 L w)(e:n'=n:=by rfl):Cs 271 [b,.agg #[.int .i64 (mk:Int),.int .u64 (rJ:Int),.int .u64 (gv:Int),.int .u64 (pJ:Int),.int .u64 (eT:Int),.int .u64 (ee:Int),.int .u64 (gX:Int),.slice ax mdata.length cx]] w fun v w'=>∃By,On W0 (dZ b bd p0 By n2::L') w':=by
 refine qO ?_;unfold xL at hm;rw[if_neg (by rw[hp];exact Bool.noConfusion)] at hm;have dI:=Ck hm;clear hm;obtain⟨B1,hm⟩:=dI;have dI:=iZ hm;clear hm;obtain⟨hg,hm⟩:=dI;obtain⟨cD,rz,hft,hrn⟩:=hg;have aA:∃m:Nd,n={m with aH:=true}:=⟨n,by rw[←hp]⟩;obtain⟨m,rfl⟩:=aA;clear hp;have B1:¬m.s.hd.bl<rJ:=B1;have rz:gX=0:=rz;have hft:(decide (m.s.hd.base≤eT)&&decide (eT≤gu m.s)&&decide (jm m.s eT=ee))=true:=hft;simp only[Bool.and_eq_true,decide_eq_true_eq] at hft;obtain⟨⟨hf1,hf2⟩,hf3⟩:=hft;have hm:EV {m with aH:=true,count:=(m.count+1) % 4294967296,run:=some ⟨gv,m.bQ*4294967296+(m.count+1) % 4294967296,false,0⟩}=some n2:=hm;have h:=bF (p0:=p0) (b:=b) e k h;have aA:=gJ h;obtain⟨oa,oc,ca,cc,bs,bu,ba,vw,v1,v2,aa,k,sb,h⟩:=aA;refine gb fun b3 w h=> ?_;refine gw ?_;refine W.cut (fun env w=>∃(j:Env) (b3:Nat) (Ld:Value),env=eu j [(0,b),(3,b3)]∧On W0 (aX b3 [.int .i64 (mk:Int),.int .u64 (rJ:Int),.int .u64 (gv:Int),.int .u64 (pJ:Int),.int .u64 (eT:Int),.int .u64 (ee:Int),.int .u64 (gX:Int),.slice ax mdata.length cx] 341::dZ b bd p0 Ld {m with aH:=true}::L') w) ?_ ?_
 ·
  refine qD ?_;refine qT fun w h=> ?_;refine WT.e 3 [true] rfl (ag call223 (m6 h)) ?_;rintro _ w ⟨rfl,h⟩;refine qW ?_;refine WT.p 4 rfl (fun w'=>eV rfl rfl (by show ¬((rJ:Int)>((m.s.hd.bl:Nat):Int));omega)) ?_;refine qU ?_;refine qG fun w h=> ?_;have iG:=(DM (iW (v:=vr) h)).symm;rcases iG with⟨r,br,hw,rfl,h⟩|⟨hw,rfl,h⟩
  ·
   have l5:r.run≠gv:=by
     have acD:=hrn;rw[hw] at acD;exact of_decide_eq_true acD
   refine qN ?_;refine X.v (fun _=>(iE rfl rfl (by omega))) ?_;refine X.v (fun _=>(kj rfl)) ?_;refine go ?_;refine W.cs ?_;exact⟨_,b3,br,aD ⟨rfl,rfl,trivial⟩,(bF (p0:=p0) (b:=b) (SN hw rfl) k h).to⟩
  refine X.v (fun _=>(fq underlying172 rfl rfl)) ?_;refine go ?_;refine X.v (fun _=>(lP rfl)) ?_;refine go ?_;refine W.cs ?_;exact⟨_,b3,.pointer none,aD ⟨rfl,rfl,trivial⟩,(bF (p0:=p0) (b:=b) (by rw[←hw]) k h).to⟩
 clear h k sb;rintro env w ⟨j,b3,Ld,rfl,h⟩;have aA:=gJ (h.aj (dZ b bd p0 (Ld) ({m with aH:=true})));obtain⟨oa,oc,ca,cc,bs,bu,ba,vw,v1,v2,aa,k,sb,h⟩:=aA;refine go ?_;refine WL.v (Bu (m:=m.count) rfl rfl) ?_;refine gs fun w h _=> ?_;refine qT fun w h=> ?_;refine WT.p 7 rfl (fun w'=>(fC (n:=(m.bQ:Int)) underlying58 underlying30 rfl (by show(0:Int)≤_;omega) (by have:m.bQ<4294967296:=k.2.1;show _≤(18446744073709551615:Int);omega))) ?_;refine WT.p 8 rfl (fun w'=>(mq (m:=m.bQ) (j:=32) rfl rfl (by decide) (by have:m.bQ<4294967296:=k.2.1;show _≤(18446744073709551615:Int);omega))) ?_;refine qU ?_;refine WT.p 13 rfl (fun w'=>(fC (n:=(((m.count+1) % 4294967296:Nat):Int)) underlying58 underlying30 rfl (by show(0:Int)≤_;omega) (by show _≤(18446744073709551615:Int);omega))) ?_;refine WT.p 14 rfl (fun w'=>(He (m:=m.bQ) (j:=(m.count+1) % 4294967296) rfl rfl k.2.1 (Nat.mod_lt _ (by decide)))) ?_;refine qU ?_;refine WT.p 17 rfl (fun w'=>gL rfl rfl (by omega)) ?_;refine qU ?_;refine WT.e 24 [false,false,false,true,true,true] rfl (ag call308 (acC cD hf1 hf2 hf3 h)) ?_;rintro _ w ⟨rfl,h⟩;refine qW ?_;refine qU ?_;refine WT.p 26 rfl (fun w'=>(aP (pl:=[(0,1),(1,1),(2,1),(3,1),(4,1),(5,1),(6,1),(7,1)]) (out:=[.int .u64 _,.int .u64 _,.bool _,.bool _,.bool _,.int .u64 _,.slice _ _ _,.int .u64 _]) underlying354 zeroValue354 (fun w=>by kernel_rfl) rfl fz rfl)) ?_;refine WT.e 27 [false,false,false] rfl (fc h rfl rfl) ?_;rintro _ w ⟨b75,rfl,h⟩;refine⟨trivial, ?_⟩;refine qU ?_;refine WT.e 31 [] rfl (bI (v:=.pointer _) h sizeOf172 rfl rfl rfl rfl rfl) ?_;rintro _ w h
 try simp only[Nat.zero_add,Nat.add_zero,List.set_cons_zero,List.set_cons_succ] at h
 refine⟨trivial, ?_⟩;refine WT.dn ?_;refine qS fun w h _=> ?_;refine qC ?_ (C:=Yh (p0:=p0) (n:={m with aH:=true,count:=(m.count+1) % 4294967296,run:=some ⟨gv,m.bQ*4294967296+(m.count+1) % 4294967296,false,0⟩}) k hm h);rintro _ w h;refine qR ?_;exact⟨b75,h.to⟩
theorem Yu{b bd:Nat}{p0:aE}{vr:Value}{n n':Nd}[g:jY L b bd p0 vr n' L'](k:dF n){n2:Nd}(hm:xL n ⟨mk,rJ,gv,pJ,eT,ee,gX,mdata⟩=some n2)(h:On W0 L w)(e:n'=n:=by rfl):Cs 271 [b,.agg #[.int .i64 (mk:Int),.int .u64 (rJ:Int),.int .u64 (gv:Int),.int .u64 (pJ:Int),.int .u64 (eT:Int),.int .u64 (ee:Int),.int .u64 (gX:Int),.slice ax mdata.length cx]] w fun v w'=>∃By,On W0 (dZ b bd p0 By n2::L') w':=by
 cases hp:n.aH with
 | false=>
   unfold xL at hm;rw[if_pos hp] at hm;obtain rfl:=Option.some.inj hm;exact UM k hp h e
 |true=>exact UN k hp hm h e
end Go.Proofs.YtcplmndikhjehaaGreat
namespace Go.Proofs.YtcplmndikhjehaaGreat
open Go.Proofs.Tryz
open Go Go.Sl Go.Sl.eM Go.Sl.gW Go.Sl.kM Go.Sl.pe Go.Sl.pM Go.Sl.mG Go.Sl.pO Go.Sl.rH Go.Sl.pN Go.Sl.gU
open Go.Sl.oB (wr)
set_option maxHeartbeats 0
set_option maxRecDepth 8000
variable{L':List aC}{ep qe qm qp:Nat}
variable{W0 w:World}{L F:List aC}
section
variable{P:Program}{ρ:Operand→Value}{d:Option Nat}{ty:TypeId}{pos:String}{af:Array Edge}{g:Option (Nat×Bool)}
theorem xO{t kt et b:Nat}{q kd:IntKind}{k:Int}{x y:Operand}{z v:Value}{kvs:List KV}{ck:Nat}(H:On W0 (bV b kd kvs ck::L) w)(hU:P.underlying t=some (.map kt et))(hK:P.underlying kt=some (.int q))(hZ:∀w,(zeroValue et).run P w=.ok z w)(hx:ρ x=.map (some b))(hy:ρ y=.int kd k)
   (hv:(dL kvs k).getD z=v):nr P ρ ⟨d,.lookup t x y false,ty,pos,af,g⟩ w (fun v' w'=>v'=v∧On W0 (bV b kd kvs ck::L) w'):=
 .inl ⟨v,w,gZ H.jH.2 hU hK hZ hx hy hv,rfl,H⟩
end
theorem DO{l:List KV}{k:Int}(h:∀x∈l,x.2.1=.bool true):(dL l k).getD (.bool false)=.bool (dL l k).isSome:=by
 unfold dL;cases hf:l.find? fun x=>x.1==k with
 |none=>rfl
 |some x=>exact h x (List.mem_of_find?_eq_some hf)
variable{b bd bs bu ba self blocks bQ aW re rp rm count cZ dO dV oc cc ol cl:Nat}{oa ca:Option Addr}{vr vw v1 v2:Value}{now heard seen kept:Int}{known aH both:Bool}{s:kJ}{L0 L1:List aC}
theorem Yv{b bd:Nat}{p0:aE}{vr:Value}{n n':Nd}[g:jY L b bd p0 vr n' L'](k:dF n){s2:kJ}{n2:Nd}(hs:kG n.s ep=some s2)(dW:n.s.hd.bl<ep)(hp:n.aH=true)(hm:(jQ {n with s:=s2,both:=false,want:=none,seen:=n.now}).bind yG=some n2)(h:On W0 L w)(e:n'=n:=by rfl):Cs 269 [b,.int .u64 (ep:Int)] w fun v w'=>On W0 (dZ b bd p0 vr n2::L') w':=by
 refine qO ?_;have dI:=cG hm;clear hm;obtain⟨n3,ha,hm⟩:=dI;have aA:∃m:Nd,n={m with aH:=true}:=⟨n,by rw[←hp]⟩;obtain⟨m,rfl⟩:=aA;clear hp;have ha:jQ {m with aH:=true,s:=s2,both:=false,want:=none,seen:=m.now}=some n3:=ha;have h:=bF (p0:=p0) (b:=b) e k h;have aA:=gJ h;obtain⟨oa,oc,ca,cc,bs,bu,ba,vw,v1,v2,aa,k,sb,h⟩:=aA;refine qC ?_ (C:=E2 (bd:=bd) hs dW h);rintro _ w ⟨rfl,h⟩;refine qC ?_ (C:=K6 h);rintro _ w ⟨rfl,h⟩;refine qS fun w h _=> ?_;refine gs fun w h _=> ?_;refine gs fun w h _=> ?_;refine qC ?_ (C:=qv (p0:=p0) (n:={m with aH:=true,s:=s2,both:=false,want:=none,seen:=m.now}) k ha h);clear k;rintro _ w h;have aA:=BV (b:=b) (bd:=bd) (p0:=p0) (vr:=vr) (n:=n3) h;obtain⟨k,h⟩:=aA;refine qC ?_ (C:=DN (p0:=p0) k h);rintro _ w h;refine qC ?_ (C:=QL (p0:=p0) k hm h);rintro _ w h;refine qR ?_;exact h.to
theorem Yw{b bd:Nat}{p0:aE}{vr:Value}{n n':Nd}[g:jY L b bd p0 vr n' L'](k:dF n){s2:kJ}{n2:Nd}(hs:kG n.s ep=some s2)(dW:n.s.hd.bl<ep)(hp:n.aH=false)(cD:mM s2)(hm:(applyN (mZ {n with s:=s2,aH:=true,run:=none,both:=false,want:=none,seen:=n.now,wait:=some ([],0),log:=some ([],0)}) (gu s2)).bind yH=some n2)(h:On W0 L w)(e:n'=n:=by rfl):Cs 269 [b,.int .u64 (ep:Int)] w fun v w'=>∃By,On W0 (dZ b bd p0 By n2::L') w':=by
 refine qO ?_;have dI:=cG hm;clear hm;obtain⟨n3,ha,hm⟩:=dI;have aA:∃m:Nd,n={m with aH:=false}:=⟨n,by rw[←hp]⟩;obtain⟨m,rfl⟩:=aA;clear hp;have ha:applyN (mZ {m with aH:=true,s:=s2,run:=none,both:=false,want:=none,seen:=m.now,wait:=some ([],0),log:=some ([],0)}) (gu s2)=some n3:=ha;have h:=bF (p0:=p0) (b:=b) e k h;have aA:=gJ h;obtain⟨oa,oc,ca,cc,bs,bu,ba,vw,v1,v2,aa,k,sb,h⟩:=aA;refine qC ?_ (C:=E2 (bd:=bd) hs dW h);rintro _ w ⟨rfl,h⟩;refine qC ?_ (C:=K6 h);rintro _ w ⟨rfl,h⟩;refine qS fun w h _=> ?_;refine gs fun w h _=> ?_;refine gs fun w h _=> ?_;refine qS fun w h _=> ?_;refine go ?_;refine WL.e (wq .i64 .u64 h) ?_;rintro _ w ⟨b47,rfl,h⟩;refine WL.e (wq .i64 .u64 h) ?_;rintro _ w ⟨b48,rfl,h⟩;refine qS fun w h _=> ?_;refine gw ?_;refine W.seq ?_;have h:=qu (m:=([],0)) (fun x hx=>by cases hx) (h.aj (eS b47 .i64 .u64 [] 0));have h:=qq (m:=([],0)) (h.aj (eS b48 .i64 .u64 [] 0));refine qC ?_ (C:=E5 (p0:=p0) (n:={m with aH:=true,s:=s2,run:=none,both:=false,want:=none,seen:=m.now,wait:=some ([],0),log:=some ([],0)}) k h);clear k;rintro _ w h;have aA:=BV (b:=b) (bd:=bd) (p0:=p0) (vr:=.pointer none) (n:=(mZ {m with aH:=true,s:=s2,run:=none,both:=false,want:=none,seen:=m.now,wait:=some ([],0),log:=some ([],0)})) h;obtain⟨k,h⟩:=aA;have aA:=gJ h.g;obtain⟨oa,oc,ca,cc,bs,bu,ba,vw,v1,v2,aa,k,sb,h⟩:=aA;refine qC ?_ (C:=k9 cD h);rintro _ w ⟨rfl,h⟩;refine qC ?_ (C:=Bv (p0:=p0) k ha (by have:=cD.1;unfold gu;show _<(18446744073709551616:Nat);omega) h);clear k;rintro _ w h;have aA:=BV (b:=b) (bd:=bd) (p0:=p0) (vr:=.pointer none) (n:=n3) h;obtain⟨k,h⟩:=aA;refine qC ?_ (C:=V8 (p0:=p0) k hm h);rintro _ w h;refine qR ?_;exact⟨.pointer none,h.to⟩
theorem Wb{b bd:Nat}{p0:aE}{vr:Value}{n n':Nd}[g:jY L b bd p0 vr n' L'](k:dF n){n2:Nd}(hm:G6 n ep=some n2)(dW:n.s.hd.bl<ep)(h:On W0 L w)(e:n'=n:=by rfl):Cs 269 [b,.int .u64 (ep:Int)] w fun v w'=>∃By,On W0 (dZ b bd p0 By n2::L') w':=by
 unfold G6 at hm;obtain⟨s2,hs,hm⟩:=cG hm;cases hp:n.aH with
 | true=>
   rw[if_pos hp] at hm
   exact(Yv k hs dW hp hm h e).mono fun x w' he=>by
     obtain⟨v,he,hv⟩:=he;exact⟨v,he,vr,hv⟩
 | false=>
   rw[if_neg (by rw[hp];exact Bool.noConfusion)] at hm;obtain⟨cD,hm⟩:=iZ hm;exact Yw k hs dW hp cD hm h e
theorem UO{b bd:Nat}{p0:aE}{vr:Value}{n n':Nd}[g:jY L b bd p0 vr n' L'](k:dF n){n2:Nd}(Z8:qp≤255)(TW:qm≤255)(hm:uV n ⟨qe,qp,qm⟩=some n2)(hp:n.aH=true)(h:On W0 L w)(e:n'=n:=by rfl):Cs 201 [b,.agg #[.int .u64 (qe:Int),.int .i64 (qp:Int),.int .i64 (qm:Int)]] w fun v w'=>∃By,On W0 (dZ b bd p0 By n2::L') w':=by
 refine qO ?_;have aA:∃m:Nd,n={m with aH:=true}:=⟨n,by rw[←hp]⟩;obtain⟨m,rfl⟩:=aA;clear hp;unfold uV at hm;have dI:=Ck hm;clear hm;obtain⟨F7,hm⟩:=dI;have dI:=Ck hm;clear hm;obtain⟨l5,hm⟩:=dI;have l5:m.s.hd.bl≠0:=l5;have F7:¬(m.known=true∧qe<m.iB.e):=F7;have aA:∃x,x=(decide (qp=m.self)&&(dL m.asked.1 (qe:Int)).isSome):=⟨_,rfl⟩;obtain⟨cZ,UP⟩:=aA;have h:=bF (p0:=p0) (b:=b) e k h;have aA:=gJ h;obtain⟨oa,oc,ca,cc,bs,bu,ba,vw,v1,v2,aa,k,sb,h⟩:=aA;refine gb fun b3 w h=> ?_;refine gw ?_;refine W.cut (fun env w=>∃(j:Env) (b3:Nat),env=eu j [(0,b),(3,b3)]∧On W0 (aX b3 [.int .u64 (qe:Int),.int .i64 (qp:Int),.int .i64 (qm:Int)] 71::dZ b bd p0 vr {m with aH:=true}::L') w) ?_ ?_
 ·
  refine go ?_;refine W.ez Tryz.follows h (by kernel_rfl) fun w h=> ?_;refine X.v (fun _=>run_move) ?_;refine X.v (fun _=>(jv rfl)) ?_;refine X.v (fun _=>(fm 16 underlying182 rfl sizeOf4 rfl rfl)) ?_;refine X.lo h rfl ?_;refine X.b (fun _=>run_move) (fun c9=> ?_) (fun c9=> ?_)
  · refine go ?_;refine X.v (fun _=>(dB rfl rfl (fun q=>F7 ⟨c9,by have q:(qe:Int)<((m.iB.e:Nat):Int):=q;omega⟩))) ?_;refine X.v (fun _=>(kj rfl)) ?_;refine go ?_;refine W.cs ?_;exact⟨_,b3,aD ⟨rfl,rfl,trivial⟩,(bF (p0:=p0) (b:=b) rfl k h).to⟩
  refine go ?_;refine X.v (fun _=>(lP rfl)) ?_;refine go ?_;refine W.cs ?_;exact⟨_,b3,aD ⟨rfl,rfl,trivial⟩,(bF (p0:=p0) (b:=b) rfl k h).to⟩
 clear h k sb;rintro env w ⟨j,b3,rfl,h⟩;have aA:=gJ (h.aj (dZ b bd p0 (vr) ({m with aH:=true})));obtain⟨oa,oc,ca,cc,bs,bu,ba,vw,v1,v2,aa,k,sb,h⟩:=aA;refine gs fun w h _=> ?_;refine gs fun w h _=> ?_;refine gw ?_;refine W.cut (fun env w=>∃(j:Env) (b3:Nat),env=eu j [(0,b),(3,b3),(4,.bool cZ)]∧On W0 (aX b3 [.int .u64 (qe:Int),.int .i64 (qp:Int),.int .i64 (qm:Int)] 71::dZ b bd p0 vr {m with aH:=true,iB:=⟨qe,qp,qm⟩,known:=true}::L') w) ?_ ?_
 ·
  have k:dF {m with aH:=true,iB:=⟨qe,qp,qm⟩,known:=true}:=⟨k.1,k.2.1,Z8,TW⟩;refine W.ez Tryz.follows h (by kernel_rfl) fun w h=> ?_;refine go ?_;refine X.q (fun _=>(cL rfl rfl)) (fun zx=> ?_) (fun zx=> ?_)
  ·
   refine go ?_;refine X.e (xO (JM (iW h)).2 underlying170 underlying30 zeroValue4 rfl rfl (DO (JM (iW (v:=.map (some ba)) h)).1)) ?_;have hta:=(JM (iW (v:=.map (some ba)) h)).1;rintro v40 w ⟨hv,h⟩;have h:=iA hta h;have iG:=Bool.eq_false_or_eq_true (dL m.asked.1 (qe:Int)).isSome;rcases iG with hq|hq<;>(rw[hq] at hv;subst hv)
   · refine qC ?_ (C:=q8 h);rintro vb w ⟨hv,h⟩;rw[decide_eq_false (show ¬_=0 from l5)] at hv;subst hv;refine qD ?_;exact⟨_,b3,aD ⟨rfl,rfl,congrArg Value.bool (by rw[UP,decide_eq_true (show qp=m.self from Int.ofNat.inj zx),hq];rfl),trivial⟩,(bF (p0:=p0) (b:=b) rfl k h).to⟩
   refine qD ?_;exact⟨_,b3,aD ⟨rfl,rfl,congrArg Value.bool (by rw[UP,decide_eq_true (show qp=m.self from Int.ofNat.inj zx),hq];rfl),trivial⟩,(bF (p0:=p0) (b:=b) rfl k h).to⟩
  refine qD ?_;exact⟨_,b3,aD ⟨rfl,rfl,congrArg Value.bool (by rw[UP,decide_eq_false (show ¬qp=m.self from fun q=>zx (congrArg Int.ofNat q))];rfl),trivial⟩,(bF (p0:=p0) (b:=b) rfl k h).to⟩
 clear h k sb;rintro env w ⟨j,b3,rfl,h⟩;have aA:=gJ (h.aj (dZ b bd p0 (vr) ({m with aH:=true,iB:=⟨qe,qp,qm⟩,known:=true})));obtain⟨oa,oc,ca,cc,bs,bu,ba,vw,v1,v2,aa,k,sb,h⟩:=aA;refine qD ?_;have hm:(if true=true∧qe≤m.s.hd.bl then some {m with aH:=true,iB:=⟨qe,qp,qm⟩,known:=true} else if true=true∧(decide (qp=m.self)&&(dL m.asked.1 (qe:Int)).isSome)=false then none else if(decide (qp=m.self)&&(dL m.asked.1 (qe:Int)).isSome)=true∧m.s.hd.bl<qe then G6 {m with aH:=true,iB:=⟨qe,qp,qm⟩,known:=true} qe else none)=some n2:=hm;rw[←UP] at hm;refine qT fun w h=> ?_;refine WT.l 6 rfl isAgg30 rfl (h.aS rfl) ?_;refine qU ?_;refine WT.e 8 [true,false] rfl (ag call223 (m6 h)) ?_;rintro _ w ⟨rfl,h⟩;refine qW ?_;refine WT.p 9 rfl (fun w'=>(jR rfl rfl)) ?_;refine qU ?_;refine W.lN rfl (fun c9=> ?_) (fun c9=> ?_)
 · refine qR ?_;rw[if_pos ⟨rfl,Int.ofNat_le.1 c9⟩] at hm;have aA:=Option.some.inj hm;obtain rfl:=aA;exact⟨vr,(bF (p0:=p0) (b:=b) rfl k h).to⟩
 refine W.seq ?_;rw[if_neg (fun q=>c9 (Int.ofNat_le.2 q.2))] at hm;have dI:=Ck hm;clear hm;obtain⟨hmt,hm⟩:=dI;have aA:cZ=true:=eq_true_of_ne_false (fun q=>hmt ⟨rfl,q⟩);obtain rfl:=aA;have dI:=iZ hm;clear hm;obtain⟨⟨_,dW⟩,hm⟩:=dI;refine qD ?_;refine qT fun w h=> ?_;refine WT.l 3 rfl isAgg30 rfl (h.aS rfl) ?_;refine qU ?_;refine WT.e 5 [true] rfl (ag call223 (m6 h)) ?_;rintro _ w ⟨rfl,h⟩;refine qW ?_;refine WT.p 6 rfl (fun w'=>zZ rfl rfl (by show(qe:Int)>((m.s.hd.bl:Nat):Int);omega)) ?_;refine WT.p 7 rfl (fun w'=>(kj rfl)) ?_;refine WT.a 8 rfl ?_;refine WT.dn ?_;refine qC ?_ (C:=Wb (p0:=p0) k hm dW h);rintro _ w ⟨Ld,h⟩;refine qR ?_;exact⟨Ld,h.to⟩
theorem UQ{b bd:Nat}{p0:aE}{vr:Value}{n n':Nd}[g:jY L b bd p0 vr n' L'](k:dF n){n2:Nd}(Z8:qp≤255)(TW:qm≤255)(hm:uV n ⟨qe,qp,qm⟩=some n2)(hp:n.aH=false)(h:On W0 L w)(e:n'=n:=by rfl):Cs 201 [b,.agg #[.int .u64 (qe:Int),.int .i64 (qp:Int),.int .i64 (qm:Int)]] w fun v w'=>∃By,On W0 (dZ b bd p0 By n2::L') w':=by
 refine qO ?_;have aA:∃m:Nd,n={m with aH:=false}:=⟨n,by rw[←hp]⟩;obtain⟨m,rfl⟩:=aA;clear hp;unfold uV at hm;have dI:=Ck hm;clear hm;obtain⟨F7,hm⟩:=dI;have dI:=Ck hm;clear hm;obtain⟨l5,hm⟩:=dI;have l5:m.s.hd.bl≠0:=l5;have F7:¬(m.known=true∧qe<m.iB.e):=F7;have aA:∃x,x=(decide (qp=m.self)&&(dL m.asked.1 (qe:Int)).isSome):=⟨_,rfl⟩;obtain⟨cZ,UP⟩:=aA;have h:=bF (p0:=p0) (b:=b) e k h;have aA:=gJ h;obtain⟨oa,oc,ca,cc,bs,bu,ba,vw,v1,v2,aa,k,sb,h⟩:=aA;refine gb fun b3 w h=> ?_;refine gw ?_;refine W.cut (fun env w=>∃(j:Env) (b3:Nat),env=eu j [(0,b),(3,b3)]∧On W0 (aX b3 [.int .u64 (qe:Int),.int .i64 (qp:Int),.int .i64 (qm:Int)] 71::dZ b bd p0 vr {m with aH:=false}::L') w) ?_ ?_
 ·
  refine go ?_;refine W.ez Tryz.follows h (by kernel_rfl) fun w h=> ?_;refine X.v (fun _=>run_move) ?_;refine X.v (fun _=>(jv rfl)) ?_;refine X.v (fun _=>(fm 16 underlying182 rfl sizeOf4 rfl rfl)) ?_;refine X.lo h rfl ?_;refine X.b (fun _=>run_move) (fun c9=> ?_) (fun c9=> ?_)
  · refine go ?_;refine X.v (fun _=>(dB rfl rfl (fun q=>F7 ⟨c9,by have q:(qe:Int)<((m.iB.e:Nat):Int):=q;omega⟩))) ?_;refine X.v (fun _=>(kj rfl)) ?_;refine go ?_;refine W.cs ?_;exact⟨_,b3,aD ⟨rfl,rfl,trivial⟩,(bF (p0:=p0) (b:=b) rfl k h).to⟩
  refine go ?_;refine X.v (fun _=>(lP rfl)) ?_;refine go ?_;refine W.cs ?_;exact⟨_,b3,aD ⟨rfl,rfl,trivial⟩,(bF (p0:=p0) (b:=b) rfl k h).to⟩
 clear h k sb;rintro env w ⟨j,b3,rfl,h⟩;have aA:=gJ (h.aj (dZ b bd p0 (vr) ({m with aH:=false})));obtain⟨oa,oc,ca,cc,bs,bu,ba,vw,v1,v2,aa,k,sb,h⟩:=aA;refine gs fun w h _=> ?_;refine gs fun w h _=> ?_;refine gw ?_;refine W.cut (fun env w=>∃(j:Env) (b3:Nat),env=eu j [(0,b),(3,b3),(4,.bool cZ)]∧On W0 (aX b3 [.int .u64 (qe:Int),.int .i64 (qp:Int),.int .i64 (qm:Int)] 71::dZ b bd p0 vr {m with aH:=false,iB:=⟨qe,qp,qm⟩,known:=true}::L') w) ?_ ?_
 ·
  have k:dF {m with aH:=false,iB:=⟨qe,qp,qm⟩,known:=true}:=⟨k.1,k.2.1,Z8,TW⟩;refine W.ez Tryz.follows h (by kernel_rfl) fun w h=> ?_;refine go ?_;refine X.q (fun _=>(cL rfl rfl)) (fun zx=> ?_) (fun zx=> ?_)
  ·
   refine go ?_;refine X.e (xO (JM (iW h)).2 underlying170 underlying30 zeroValue4 rfl rfl (DO (JM (iW (v:=.map (some ba)) h)).1)) ?_;have hta:=(JM (iW (v:=.map (some ba)) h)).1;rintro v40 w ⟨hv,h⟩;have h:=iA hta h;have iG:=Bool.eq_false_or_eq_true (dL m.asked.1 (qe:Int)).isSome;rcases iG with hq|hq<;>(rw[hq] at hv;subst hv)
   · refine qC ?_ (C:=q8 h);rintro vb w ⟨hv,h⟩;rw[decide_eq_false (show ¬_=0 from l5)] at hv;subst hv;refine qD ?_;exact⟨_,b3,aD ⟨rfl,rfl,congrArg Value.bool (by rw[UP,decide_eq_true (show qp=m.self from Int.ofNat.inj zx),hq];rfl),trivial⟩,(bF (p0:=p0) (b:=b) rfl k h).to⟩
   refine qD ?_;exact⟨_,b3,aD ⟨rfl,rfl,congrArg Value.bool (by rw[UP,decide_eq_true (show qp=m.self from Int.ofNat.inj zx),hq];rfl),trivial⟩,(bF (p0:=p0) (b:=b) rfl k h).to⟩
  refine qD ?_;exact⟨_,b3,aD ⟨rfl,rfl,congrArg Value.bool (by rw[UP,decide_eq_false (show ¬qp=m.self from fun q=>zx (congrArg Int.ofNat q))];rfl),trivial⟩,(bF (p0:=p0) (b:=b) rfl k h).to⟩
 clear h k sb;rintro env w ⟨j,b3,rfl,h⟩;have aA:=gJ (h.aj (dZ b bd p0 (vr) ({m with aH:=false,iB:=⟨qe,qp,qm⟩,known:=true})));obtain⟨oa,oc,ca,cc,bs,bu,ba,vw,v1,v2,aa,k,sb,h⟩:=aA;refine qD ?_;have hm:(if(decide (qp=m.self)&&(dL m.asked.1 (qe:Int)).isSome)=true∧m.s.hd.bl<qe then G6 {m with aH:=false,iB:=⟨qe,qp,qm⟩,known:=true} qe else EW {m with aH:=false,iB:=⟨qe,qp,qm⟩,known:=true} qe qp)=some n2:=hm;rw[←UP] at hm;refine W.draw Tryz.follows h (fun w h=> ?_);refine WT.m 0 rfl ?_;refine WT.n 1 rfl rfl ?_;refine WT.f 2 19 rfl underlying182 rfl sizeOf4 rfl rfl ?_;refine WT.l 3 rfl isAgg4 rfl (h.aS rfl) ?_;refine WT.m 4 rfl ?_;refine WT.skip 5 rfl (by kernel_rfl) rfl rfl ?_;refine WT.skip 6 rfl (by kernel_rfl) rfl rfl ?_;refine WT.skip 7 rfl (by kernel_rfl) rfl rfl ?_;refine WT.skip 8 rfl (by kernel_rfl) rfl rfl ?_;refine WT.skip 9 rfl (by kernel_rfl) rfl rfl ?_;refine WT.p 10 rfl (fun w'=>(lP rfl)) ?_;refine WT.a 11 rfl ?_;refine WT.dn ?_;refine W.cf ?_;refine go ?_;refine WL.pf ?_;refine go ?_;refine W.cf ?_;refine W.cut (fun env w=>∃(j:Env) (b3:Nat),env=eu j [(0,b),(3,b3),(70,.bool (decide (cZ=true∧m.s.hd.bl<qe)))]∧On W0 (aX b3 [.int .u64 (qe:Int),.int .i64 (qp:Int),.int .i64 (qm:Int)] 71::dZ b bd p0 vr {m with aH:=false,iB:=⟨qe,qp,qm⟩,known:=true}::L') w) ?_ ?_
 ·
  refine W.draw Tryz.follows h (fun w h=> ?_);refine WT.m 0 rfl ?_;have iG:=Bool.eq_false_or_eq_true cZ;rcases iG with rfl|rfl
  · refine qU ?_;refine WT.l 3 rfl isAgg30 rfl (h.aS rfl) ?_;refine qU ?_;refine WT.e 5 [true] rfl (ag call223 (m6 h)) ?_;rintro _ w ⟨rfl,h⟩;refine qW ?_;refine WT.p 6 rfl (fun w'=>(iU rfl rfl)) ?_;refine qU ?_;exact⟨_,b3,aD ⟨rfl,rfl,congrArg Value.bool (decide_eq_decide.2 ⟨fun q=>by have:=q.2;show(qe:Int)>((m.s.hd.bl:Nat):Int);omega,fun q=>⟨rfl,by have q:(qe:Int)>((m.s.hd.bl:Nat):Int):=q;omega⟩⟩).symm,trivial⟩,(bF (p0:=p0) (b:=b) rfl k h).to⟩
  refine qU ?_;exact⟨_,b3,aD ⟨rfl,rfl,congrArg Value.bool (decide_eq_false fun q=>Bool.noConfusion q.1).symm,trivial⟩,(bF (p0:=p0) (b:=b) rfl k h).to⟩
 clear h k sb;rintro env w ⟨j,b3,rfl,h⟩;have aA:=gJ (h.aj (dZ b bd p0 (vr) ({m with aH:=false,iB:=⟨qe,qp,qm⟩,known:=true})));obtain⟨oa,oc,ca,cc,bs,bu,ba,vw,v1,v2,aa,k,sb,h⟩:=aA;refine qI (fun kY=> ?_) (fun kY=> ?_)
 · refine qC ?_ (C:=Wb (p0:=p0) k (by rw[if_pos kY] at hm;exact hm) kY.2 h);rintro _ w ⟨Ld,h⟩;refine qR ?_;exact⟨Ld,h.to⟩
 refine W.sr ?_;refine gw ?_;rw[if_neg kY] at hm;refine W.cf ?_;refine W.cut (fun env w=>∃(j:Env) (b3:Nat),env=eu j [(0,b),(3,b3),(88,.bool (decide (zo qm m.self=true∧0<qe∧(qp=m.self∨10≤wr (m.now - m.heard)))))]∧On W0 (aX b3 [.int .u64 (qe:Int),.int .i64 (qp:Int),.int .i64 (qm:Int)] 71::dZ b bd p0 vr {m with aH:=false,iB:=⟨qe,qp,qm⟩,known:=true}::L') w) ?_ ?_
 ·
  refine W.ez Tryz.follows h (by kernel_rfl) fun w h=> ?_;refine qC ?_ (C:=K5 k.1 k.2.2.2 h);rintro v94 w ⟨hv,h⟩;have iG:=Bool.eq_false_or_eq_true (zo qm m.self);rcases iG with hq|hq<;>(rw[show zo _ m.self=_ from hq] at hv;subst hv)
  ·
   refine qC ?_ (C:=q8 h);rintro vb w ⟨hv,h⟩;rw[decide_eq_false (show ¬_=0 from l5)] at hv;subst hv;refine qN ?_;refine X.q (fun _=>(iU rfl rfl)) (fun Nr=> ?_) (fun Nr=> ?_)
   ·
    refine qN ?_;refine X.q (fun _=>(cL rfl rfl)) (fun Yx=> ?_) (fun Yx=> ?_)
    · refine qD ?_;exact⟨_,b3,aD ⟨rfl,rfl,congrArg Value.bool (decide_eq_true ⟨hq,(by have q:=Nr;have q:(qe:Int)>0:=q;omega),.inl (Int.ofNat.inj Yx)⟩).symm,trivial⟩,(bF (p0:=p0) (b:=b) rfl k h).to⟩
    refine go ?_;refine X.v (fun _=>(iC rfl rfl)) ?_;refine qD ?_;exact⟨_,b3,aD ⟨rfl,rfl,congrArg Value.bool (decide_eq_decide.2 ⟨fun q=>q.2.2.elim (fun e=>absurd (congrArg Int.ofNat e) Yx) id,fun q=>⟨hq,(by have q:=Nr;have q:(qe:Int)>0:=q;omega),.inr q⟩⟩).symm,trivial⟩,(bF (p0:=p0) (b:=b) rfl k h).to⟩
   refine qD ?_;exact⟨_,b3,aD ⟨rfl,rfl,congrArg Value.bool (decide_eq_false fun q=>Nr (by show(qe:Int)>0;have:=q.2.1;omega)).symm,trivial⟩,(bF (p0:=p0) (b:=b) rfl k h).to⟩
  refine qD ?_;exact⟨_,b3,aD ⟨rfl,rfl,congrArg Value.bool (decide_eq_false fun q=>Bool.noConfusion (hq.symm.trans q.1)).symm,trivial⟩,(bF (p0:=p0) (b:=b) rfl k h).to⟩
 clear h k sb;rintro env w ⟨j,b3,rfl,h⟩;have aA:=gJ (h.aj (dZ b bd p0 (vr) ({m with aH:=false,iB:=⟨qe,qp,qm⟩,known:=true})));obtain⟨oa,oc,ca,cc,bs,bu,ba,vw,v1,v2,aa,k,sb,h⟩:=aA;refine qI (fun BR=> ?_) (fun BR=> ?_)
 ·
  unfold EW at hm;rw[if_pos BR] at hm;have dI:=iZ hm;clear hm;obtain⟨hg,hm⟩:=dI;have hg:qe+1<18446744073709551616:=hg;have acE:m.self=0∨m.self=1:=by have:m.self≤1:=k.1;omega
  have hpw:1*2^m.self≤255:=by rcases acE with e|e<;>(rw[e];decide)
  refine qG fun w h=> ?_;refine X.v (fun _=>(cT (k:=.u64) (m:=qe) (n:=1) rfl rfl (by show _≤(18446744073709551615:Int);omega))) ?_;refine go ?_;refine X.v (fun _=>(mq (m:=1) (j:=m.self) rfl rfl (by show m.self≤64;omega) (by rcases acE with e|e<;>(rw[e];decide)))) ?_;refine qC ?_ (C:=Yl (p0:=p0) (rp:=m.self) k (by omega) hpw (by rw[Nat.one_mul];exact hm) h);rintro _ w h;refine qR ?_;exact⟨vr,h.to⟩
 refine qR ?_;unfold EW at hm;rw[if_neg BR] at hm;have aA:=Option.some.inj hm;obtain rfl:=aA;exact⟨vr,(bF (p0:=p0) (b:=b) rfl k h).to⟩
theorem Yy{b bd:Nat}{p0:aE}{vr:Value}{n n':Nd}[g:jY L b bd p0 vr n' L'](k:dF n){n2:Nd}(Z8:qp≤255)(TW:qm≤255)(hm:uV n ⟨qe,qp,qm⟩=some n2)(h:On W0 L w)(e:n'=n:=by rfl):Cs 201 [b,.agg #[.int .u64 (qe:Int),.int .i64 (qp:Int),.int .i64 (qm:Int)]] w fun v w'=>∃By,On W0 (dZ b bd p0 By n2::L') w':=by
 cases hp:n.aH with
 |true=>exact UO k Z8 TW hm hp h e
 |false=>exact UQ k Z8 TW hm hp h e
end Go.Proofs.YtcplmndikhjehaaGreat
namespace Go.Sl.pN
open Go Go.Sl Go.Sl.eM Go.Sl.gU Go.Sl.gW Go.Sl.kM Go.Sl.pe Go.Sl.pM
variable{f:Bool}{t:List UInt8}
theorem jr(x:List UInt8):(eX (dR x)).2=0:=by rw[xh]
theorem kf(x:List UInt8):gp (dR x)=x:=by
 unfold gp;rw[if_pos (jr x),gm];unfold dR;rw[show x.length+4 - 4=x.length by omega];exact List.take_left
theorem lq{n v:Nat}(h:v<256^n):nF n (be v n++t,f)=(v,(t,f)):=by
 unfold nF;simp only;rw[if_pos (by rw[List.length_append,aT];omega),List.take_left' (aT v n),List.drop_left' (aT v n),sw h]
theorem Le{c:UInt8}:nF 1 (c::t,f)=(c.toNat,(t,f)):=by
 unfold nF;simp only;rw[if_pos (by simp)];simp[uJ]
theorem UR{x:Int}(h1: -9223372036854775808≤x)(h2:x≤9223372036854775807):s64 (u64 x)=x:=by
 unfold s64 u64;simp only[IntKind.wrap,IntKind.signed,IntKind.bits];simp;omega
theorem pK{x:Int}(h:zk x=true):Ds (be (u64 x) 8++t,f)=(x,(t,f)):=by
 unfold zk at h;simp only[Bool.and_eq_true,decide_eq_true_eq] at h;unfold Ds;rw[lq (by have:=q4 x;show _<(18446744073709551616:Nat);omega)];simp only[UR h.1 h.2]
theorem QM{b:Bool}:KP (be (tQ b) 1++t,f)=(b,(t,f)):=by
 unfold KP;rw[lq (by cases b<;>decide)];cases b<;>simp[tQ]
theorem QN{m:Ms}(h:Qe m=true):xD (SF m)=some m:=by
 simp only[Qe,Ms.A9,Bool.and_eq_true,decide_eq_true_eq,List.all_eq_true,List.mem_cons,List.not_mem_nil,or_false,forall_eq_or_imp,forall_eq] at h;obtain⟨hk,h1,h2,h3,h4,h5,h6⟩:=h;unfold xD SF;rw[kf]
 have e:XH ([UInt8.ofNat m.kind]++iJ m.A9++m.data)=(m,(m.data,false)):=by
   unfold XH iJ Ms.A9;simp only[List.flatMap_cons,List.flatMap_nil,List.append_nil,List.append_assoc,List.cons_append,List.nil_append,Le];rw[lq h1,lq h2,lq h3,lq h4,lq h5,lq h6];simp only[UInt8.toNat_ofNat'];rw[Nat.mod_eq_of_lt hk]
 rw[e];exact if_pos ⟨jr _,rfl⟩
theorem JS{e p m:Nat}(h:GN e p m=true):oQ (zj e p m)=some (e,p,m):=by
 simp only[GN,Bool.and_eq_true,Bool.or_eq_true,decide_eq_true_eq] at h;obtain⟨he,hr⟩:=h;have he:e<256^8:=he;have hl:([5]++dw e p m:List UInt8)[0]? =some 5:=rfl;unfold oQ zj;rw[kf,if_pos ⟨jr _,hl⟩];show EL (dw e p m)=_;have h8:mF (dw e p m) 8=p∧mF (dw e p m) 9=m:=⟨KA (by omega),KB (by omega)⟩;unfold EL;rw[h8.1,h8.2,Es he,if_pos ⟨eG e p m,by unfold bK;omega⟩]
theorem Fh{o:Od}(h:Cb o=true):EJ (GB o)=(o,(o.c.data,false)):=by
 obtain⟨host,id,floor,⟨kind,at_,n,data,key,new,cz,force⟩⟩:=o;simp only[Cb,Bool.and_eq_true,decide_eq_true_eq] at h;obtain⟨⟨⟨⟨⟨⟨⟨⟨⟨⟨h0,h1⟩,h2⟩,h3⟩,h4⟩,h5⟩,h6⟩,h7⟩,h8⟩,h9⟩,Ux⟩:=h;have hk:key.toNat<256^8:=by show _<(18446744073709551616:Nat);omega
 have hn:new.toNat<256^8:=by show _<(18446744073709551616:Nat);omega
 unfold EJ GB iJ Od.A9;simp only[List.flatMap_cons,List.flatMap_nil,List.append_nil,List.append_assoc];rw[pK h0];simp only;rw[lq h1];simp only;rw[lq h2];simp only;rw[pK h3];simp only;rw[pK h4];simp only;rw[pK h5];simp only;rw[lq hk];simp only;rw[lq hn];simp only;rw[pK Ux];simp only;rw[QM];simp only;rw[Int.toNat_of_nonneg h6,Int.toNat_of_nonneg h8]
theorem Hx{o:Od}(h:Cb o=true):xC (GB o)=(decide (0≤o.host)&&decide (o.host<8)):=by
 unfold xC;rw[Fh h];rfl
theorem QO{a:An}(h:Qf a=true):gp (vY a)=[2]++be (u64 a.host) 8++be a.id 8++be (tQ a.done) 1++be (u64 (a.hint+1)) 1++iJ [u64 a.r.st,u64 a.r.key,u64 a.r.code,u64 a.r.info]++a.r.data∧XG (gp (vY a))=(2,a,(a.r.data,false)):=by
 have e0:=kf ([2]++be (u64 a.host) 8++be a.id 8++be (tQ a.done) 1++be (u64 (a.hint+1)) 1++iJ [u64 a.r.st,u64 a.r.key,u64 a.r.code,u64 a.r.info]++a.r.data);refine⟨e0, ?_⟩;unfold vY;rw[e0];obtain⟨host,id,⟨st,key,code,data,info⟩,done,hint⟩:=a;simp only[Qf,Bool.and_eq_true,decide_eq_true_eq] at h;obtain⟨⟨⟨⟨⟨⟨⟨h0,h1⟩,h2⟩,h3⟩,h4⟩,h5⟩,h6⟩,h7⟩:=h;have hh:u64 (hint+1)<256^1:=by unfold u64;show _<256;omega
 unfold XG iJ;simp only[List.flatMap_cons,List.flatMap_nil,List.append_nil,List.append_assoc,List.cons_append,List.nil_append,Le];rw[pK h0];simp only;rw[lq h1];simp only;rw[QM];simp only;rw[lq hh];simp only;rw[pK h2];simp only;rw[pK h3];simp only;rw[pK h4];simp only;rw[pK h5];simp only;have e:((u64 (hint+1):Nat):Int) - 1=hint:=by unfold u64;omega
 rw[e];rfl
theorem JT{a:An}(h:Qf a=true):iV (vY a)=JD (.JC a):=by
 obtain⟨_,e⟩:=QO h;have e1:P3 (vY a)=a:=by unfold P3;rw[e]
 have hh:a.hint≤1:=by
   simp only[Qf,Bool.and_eq_true,decide_eq_true_eq] at h;exact h.2
 have ho:Jp (vY a):=⟨jr _,by rw[e],by rw[e],by rw[e1];exact hh⟩;unfold iV JD;rw[if_pos ho,e1]
theorem Dt.nG(d:Dt):d.bytes.length=d.len:=by
 cases d with
 |ms m=>simp[Dt.bytes,Dt.len,SF,gm,iy,Ms.A9];omega
 |get=>rfl
 |Uj x e p m=>simp[Dt.bytes,Dt.len,GM,gm,eG,aT]
 |iB e p m=>simp[Dt.bytes,Dt.len,zj,gm,eG]
 |JB o=>simp[Dt.bytes,Dt.len,zi,GB,gm,iy,Od.A9,aT];omega
 |JC a=>simp[Dt.bytes,Dt.len,vY,gm,iy,aT];omega
end Go.Sl.pN
