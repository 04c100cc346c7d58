/-
  Texts of a proof as one.
-/
import Derived.Test.YtcplmndikhjehaaGreatOnceGQ3
import Derived.Test.YtcplmndikhjehaaGreatOnceGQ2
import Derived.Test.YtcplmndikhjehaaGreatOnceGQ1
set_option linter.unusedVariables false
set_option linter.unusedSimpArgs false
namespace Go.Proofs.YtcplmndikhjehaaGreat
open Go.Proofs.Tryz
open Go Go.Sl Go.Sl.eM Go.Sl.dA Go.Sl.gU Go.Sl.ow Go.Sl.mG
set_option maxHeartbeats 0
set_option maxRecDepth 8000
variable{ax:Option Addr}{b bs bt cx n:Nat}{lv sv vr:Value}
variable{W0 w:World}{L F:List aC}
theorem Dg{hd:Hd}(o:hd.ok)(h:On W0 L w):Cs 68 [(.agg #[.int .u64 (hd.bl:Int),.int .u32 (hd.aJ:Int),.int .i64 (hd.cY:Int),.int .u64 (hd.base:Int),.int .i64 (hd.size:Int),.int .u64 (hd.first:Int),.int .i64 (hd.place:Int)])] w fun v w'=>∃a,v=.slice a (cK hd).length (cK hd).length∧On W0 (bC (.slice a (cK hd).length (cK hd).length) (cK hd)::L) w':=by
 refine qO ?_;obtain⟨o1,o2,o3,o4,o5,o6,o7⟩:=o;refine gb fun b1 w h=> ?_;refine qT fun w h=> ?_;refine WT.l 1 rfl isAgg30 rfl (h.aS rfl) ?_;refine WT.f 3 1 rfl underlying144 rfl sizeOf58 rfl rfl ?_;refine WT.l 4 rfl isAgg58 rfl (h.aS rfl) ?_;refine WT.p 5 rfl (fun w'=>(fC underlying58 underlying30 rfl (by show(0:Int)≤_;omega) (by show _≤(18446744073709551615:Int);omega))) ?_;refine WT.f 7 2 rfl underlying144 rfl sizeOf3 rfl rfl ?_;refine WT.l 8 rfl isAgg3 rfl (h.aS rfl) ?_;refine WT.p 9 rfl (fun w'=>(fC underlying3 underlying30 rfl (by show(0:Int)≤_;omega) (by show _≤(18446744073709551615:Int);omega))) ?_;refine WT.e 2 [true,true,false] rfl (ag call78 (dm (n:=8) (bs:=[]) h (aB.rL) (by decide) (by decide) (by omega) (by first|decide|(rw[show[].length=0 from by simp only[List.length_append,aT,List.length_nil]];decide)))) ?_;rintro _ w ⟨a6,rfl,h⟩;refine qW ?_;refine WT.e 6 [true,false] rfl (ag call78 (dm (n:=4) h (aB.cF) (by decide) (by decide) (by omega) (by first|decide|(rw[show(([]:List UInt8)++be hd.bl 8).length=8 from by simp only[List.length_append,aT,List.length_nil]];decide)))) ?_;rintro _ w ⟨sA,rfl,h⟩;refine qW ?_;refine WT.e 10 [false] rfl (ag call78 (dm (n:=1) h (aB.cF) (by decide) (by decide) (by omega) (by first|decide|(rw[show((([]:List UInt8)++be hd.bl 8)++be hd.aJ 4).length=12 from by simp only[List.length_append,aT,List.length_nil]];decide)))) ?_;rintro _ w ⟨Xf,rfl,h⟩;refine⟨trivial, ?_⟩;refine qU ?_;refine qT fun w h=> ?_;refine WT.f 4 4 rfl underlying144 rfl sizeOf3 rfl rfl ?_;refine WT.l 5 rfl isAgg3 rfl (h.aS rfl) ?_;refine WT.p 6 rfl (fun w'=>(fC underlying3 underlying30 rfl (by show(0:Int)≤_;omega) (by show _≤(18446744073709551615:Int);omega))) ?_;refine WT.e 3 [true,false] rfl (ag call78 (dm (n:=8) h (aB.cF) (by decide) (by decide) (by omega) (by first|decide|(rw[show(((([]:List UInt8)++be hd.bl 8)++be hd.aJ 4)++be hd.cY 1).length=13 from by simp only[List.length_append,aT,List.length_nil]];decide)))) ?_;rintro _ w ⟨Mj,rfl,h⟩;refine qW ?_;refine WT.e 7 [false] rfl (ag call78 (dm (n:=4) h (aB.cF) (by decide) (by decide) (by omega) (by first|decide|(rw[show((((([]:List UInt8)++be hd.bl 8)++be hd.aJ 4)++be hd.cY 1)++be hd.base 8).length=21 from by simp only[List.length_append,aT,List.length_nil]];decide)))) ?_;rintro _ w ⟨a22,rfl,h⟩;refine⟨trivial, ?_⟩;refine qU ?_;refine qT fun w h=> ?_;refine WT.f 4 6 rfl underlying144 rfl sizeOf3 rfl rfl ?_;refine WT.l 5 rfl isAgg3 rfl (h.aS rfl) ?_;refine WT.p 6 rfl (fun w'=>(fC underlying3 underlying30 rfl (by show(0:Int)≤_;omega) (by show _≤(18446744073709551615:Int);omega))) ?_;refine WT.e 3 [true,false] rfl (ag call78 (dm (n:=8) h (aB.cF) (by decide) (by decide) (by omega) (by first|decide|(rw[show(((((([]:List UInt8)++be hd.bl 8)++be hd.aJ 4)++be hd.cY 1)++be hd.base 8)++be hd.size 4).length=25 from by simp only[List.length_append,aT,List.length_nil]];decide)))) ?_;rintro _ w ⟨a26,rfl,h⟩;refine qW ?_;refine WT.e 7 [false] rfl (ag call78 (dm (n:=2) h (aB.cF) (by decide) (by decide) (by omega) (by first|decide|(rw[show((((((([]:List UInt8)++be hd.bl 8)++be hd.aJ 4)++be hd.cY 1)++be hd.base 8)++be hd.size 4)++be hd.first 8).length=33 from by simp only[List.length_append,aT,List.length_nil]];decide)))) ?_;rintro _ w ⟨KG,rfl,h⟩;refine⟨trivial, ?_⟩;refine qU ?_;refine qR ?_;have h2:On W0 (bC (.slice KG (cK hd).length (cK hd).length) (cK hd)::_) w:=h;exact⟨KG,rfl,h2.to⟩
theorem qZ{b1 b4 q x:Nat}{B:List UInt8}(h1:1≤n)(h8:n≤8)(eD:q+n≤B.length)(hB:B.length≤1000)(hx:bM B q n=x)(C:aB L (Bytes (.slice ax B.length cx) B))(h:On W0 (aX b1 [.slice ax B.length cx] 28::aX b4 [.int .i64 (q:Int)] 3::L) w):Cs 108 [.int .i64 (n:Int),b1,b4] w fun v w'=>v=.int .u64 (x:Int)∧On W0 (aX b1 [.slice ax B.length cx] 28::aX b4 [.int .i64 ((q+n:Nat):Int)] 3::L) w':=by
 refine qO ?_;refine qC ?_ (C:=jS h (aB.to C));rintro _ w hg;rcases hg with⟨_,hv,h⟩|⟨dX,_,_⟩;rotate_left
 · exact absurd (show _ by omega) dX
 have hv:_=Value.tuple #[.int .u64 (bM B q n:Int),.bool true]:=hv;rw[hx] at hv;subst hv;refine qN ?_;refine gs fun w h _=> ?_;refine qR ?_;exact⟨rfl,h⟩
theorem Pv{hd:Hd}(o:hd.ok)(hn:n=(cK hd).length)(h:On W0 L w)(C:aB L (Cells 1 (.slice ax n cx) n (aL (cK hd)))):Cs 65 [.slice ax n cx] w fun v w'=>v=.tuple #[(.agg #[.int .u64 (hd.bl:Int),.int .u32 (hd.aJ:Int),.int .i64 (hd.cY:Int),.int .u64 (hd.base:Int),.int .i64 (hd.size:Int),.int .u64 (hd.first:Int),.int .i64 (hd.place:Int)]),.bool true]∧On W0 L w':=by
 refine qO ?_;subst hn;have hf:=Gk o;obtain⟨f1,f2,f3,f4,f5,f6,f7⟩:=hf;obtain⟨o1,o2,o3,o4,o5,o6,o7⟩:=o;have nj:=bX hd;refine gb fun b1 w h=> ?_;refine gb fun b2 w h=> ?_;refine go ?_;refine WL.v (bY rfl rfl (by rw[nj];rfl)) ?_;refine qB fun b4 w h=> ?_;refine gs fun w h _=> ?_;refine qD ?_;refine WL.e (jf rfl call108 rfl (qZ (n:=8) (by decide) (by decide) (by rw[bX];decide) (by rw[bX];decide) f1 (aB.to C) (h.g.aj (aX b1 [.slice ax (cK hd).length cx] 28)))) ?_;rintro _ w ⟨rfl,h⟩;have h:On W0 (aX b1 [.slice ax (cK hd).length cx] 28::aX b4 [.int .i64 ((8:Nat):Int)] 3::_) w:=h;refine go ?_;refine WL.e (jf rfl call108 rfl (qZ (n:=4) (by decide) (by decide) (by rw[bX];decide) (by rw[bX];decide) f2 (aB.to C) h.g)) ?_;rintro _ w ⟨rfl,h⟩;have h:On W0 (aX b1 [.slice ax (cK hd).length cx] 28::aX b4 [.int .i64 ((12:Nat):Int)] 3::_) w:=h;refine qD ?_;refine WL.e (jf rfl call108 rfl (qZ (n:=1) (by decide) (by decide) (by rw[bX];decide) (by rw[bX];decide) f3 (aB.to C) h.g)) ?_;rintro _ w ⟨rfl,h⟩;have h:On W0 (aX b1 [.slice ax (cK hd).length cx] 28::aX b4 [.int .i64 ((13:Nat):Int)] 3::_) w:=h;refine qD ?_;refine WL.e (jf rfl call108 rfl (qZ (n:=8) (by decide) (by decide) (by rw[bX];decide) (by rw[bX];decide) f4 (aB.to C) h.g)) ?_;rintro _ w ⟨rfl,h⟩;have h:On W0 (aX b1 [.slice ax (cK hd).length cx] 28::aX b4 [.int .i64 ((21:Nat):Int)] 3::_) w:=h;refine go ?_;refine WL.e (jf rfl call108 rfl (qZ (n:=4) (by decide) (by decide) (by rw[bX];decide) (by rw[bX];decide) f5 (aB.to C) h.g)) ?_;rintro _ w ⟨rfl,h⟩;have h:On W0 (aX b1 [.slice ax (cK hd).length cx] 28::aX b4 [.int .i64 ((25:Nat):Int)] 3::_) w:=h;refine qD ?_;refine WL.e (jf rfl call108 rfl (qZ (n:=8) (by decide) (by decide) (by rw[bX];decide) (by rw[bX];decide) f6 (aB.to C) h.g)) ?_;rintro _ w ⟨rfl,h⟩;have h:On W0 (aX b1 [.slice ax (cK hd).length cx] 28::aX b4 [.int .i64 ((33:Nat):Int)] 3::_) w:=h;refine go ?_;refine WL.e (jf rfl call108 rfl (qZ (n:=2) (by decide) (by decide) (by rw[bX];decide) (by rw[bX];decide) f7 (aB.to C) h.g)) ?_;rintro _ w ⟨rfl,h⟩;have h:On W0 (aX b1 [.slice ax (cK hd).length cx] 28::aX b4 [.int .i64 ((35:Nat):Int)] 3::_) w:=h;refine qD ?_;refine gb fun b6 w h=> ?_;refine gs fun w h _=> ?_;refine go ?_;refine W.draw Tryz.follows h (fun w h=> ?_);refine WT.gF (vs:=[.int .u64 _,.int .u32 _,.int .i64 _,.int .u64 _,.int .i64 _,.int .u64 _,.int .i64 _]) 0 rfl (by kernel_rfl) isAgg144 sizeOf144 rfl rfl (h.fR (n:=7) rfl) rfl rfl ?_;refine WT.f 1 2 rfl underlying144 rfl sizeOf3 rfl rfl ?_;refine WT.l 2 rfl isAgg3 rfl (h.aS rfl) ?_;refine WT.p 3 rfl (fun w'=>vo rfl rfl (by omega)) ?_;refine WT.m 4 rfl ?_;refine WT.f 5 4 rfl underlying144 rfl sizeOf3 rfl rfl ?_;refine WT.l 6 rfl isAgg3 rfl (h.aS rfl) ?_;refine WT.p 7 rfl (fun w'=>vo rfl rfl (by omega)) ?_;refine WT.p 8 rfl (fun w'=>(kj rfl)) ?_;refine WT.e 9 [true,false,false] rfl (bA h sizeOf144 rfl rfl rfl rfl rfl) ?_;rintro _ w h;refine qW ?_;refine WT.a 10 rfl ?_;refine WT.dn ?_;refine W.ret (bf.rX (vs:=[.int .u64 _,.int .u32 _,.int .i64 _,.int .u64 _,.int .i64 _,.int .u64 _,.int .i64 _]) (v2:=.bool _) h results65 isAgg144 sizeOf144 rfl rfl rfl rfl ?_);exact⟨rfl,h.to⟩
theorem Pw{aJ:Nat}(hl:aJ<2147483648)(h:On W0 L w):Cs 67 [.int .u32 (aJ:Int)] w fun v w'=>v=.int .u64 ((aJ*2^32:Nat):Int)∧On W0 L w':=by
 refine qO ?_;refine qD ?_;refine WL.v (mq (k:=.u64) (m:=aJ) (j:=32) rfl rfl (by show _≤64;decide) (by show _≤(18446744073709551615:Int);omega)) ?_;refine qR ?_;exact⟨rfl,h⟩
theorem Jf{d:Dk}(nj:∀k,bL d k=List.replicate 512 0)(hl:Live d)(hn:d.n=354)(hc:d.calls≤1000000)(h:On W0 (aQ 109 221 b d::L) w):Cs 38 [b] w fun v w'=>v=.int .i64 0∧∃d',Live d'∧d'.n=354∧d'.calls=d.calls+3∧vN d' 0 1 (cK (⟨0,1,0,0,0,4294967296,0⟩:Hd))∧(∀k:Nat,2≤k→bL d' ((k:Nat):Int)=List.replicate 512 0)∧On W0 (aQ 109 221 b d'::L) w':=by
 refine qO ?_;have eD:zb d 0:=⟨Int.le_refl 0,by rw[hn];decide⟩;have hoi:(⟨0,1,0,0,0,4294967296,0⟩:Hd).ok:=⟨by decide,by decide,by decide,by decide,by decide,by decide,by decide⟩;refine qC ?_ (C:=nS h);rintro _ w ⟨rfl,h⟩;refine qE ?_;refine WL.e (ag call64 (MF (IY hl.st eD nj) (by omega) h)) ?_;rintro _ w ⟨rfl,h⟩;refine qE ?_;refine WL.e (ag call67 (Pw (aJ:=1) (by decide) h)) ?_;rintro _ w ⟨rfl,h⟩;refine qC ?_ (C:=Dg (hd:=(⟨0,1,0,0,0,4294967296,0⟩:Hd)) hoi h);rintro _ w ⟨a33,rfl,h⟩;refine qC ?_ (C:=Dd ⟨by omega,by rw[hl.cJ];decide⟩ (by omega) (h.aj (aQ 109 221 b d)) (aB.cF));rintro v34 w ⟨abk,h⟩;have aA:=Jc (v:=cK (⟨0,1,0,0,0,4294967296,0⟩:Hd)) hl hn (by rw[bX];decide);obtain⟨e1,l1,n1,c1,T1,r1⟩:=aA;rw[e1] at abk;subst abk;refine qR ?_;exact⟨rfl,_,l1,n1,c1,T1,(fun k hk=>by rw[r1 k hk];exact nj _),h.to⟩
theorem abl{tn:Nat}{d:Dk}{val nv:List UInt8}(I:vN d 0 tn val)(zD:tn+1<256^8)(za:nv.length≤488)(gH:d.calls≤1000000000)(h:On W0 (dM 204 bt b 0 tn val::aQ 109 221 b d::L) w)(C:aB L (Bytes (.slice ax nv.length cx) nv)):Cs 110 [bt,.slice ax nv.length cx] w fun v w'=>v=.int .i64 0∧On W0 (dM 204 bt b 0 (tn+1) nv::aQ 109 221 b (ff d 0 tn nv).2::L) w':=(Po ⟨by omega,by rw[I.live.cJ];decide⟩ ⟨Int.le_refl 0,by decide⟩ zD h C).mono fun e w' he=>by
 obtain⟨v,he,hv⟩:=he;refine⟨v,he, ?_⟩;obtain⟨hv,h⟩:=hv;obtain⟨e1,_⟩:=vP I zD za;rw[e1] at hv;rw[if_pos e1,if_pos e1] at h;exact⟨hv,h⟩
theorem Px{w_:Nat}{hd:Hd}{d:Dk}{s:List UInt8}(hS:xx d w_ s)(hw:w_≤1)(zB:s.length≤24576)(hs:mB d=0)(hn:d.n=354)(h:On W0 (aX bs [b,bt,vr,.int .u64 (hd.bl:Int),.int .u32 (hd.aJ:Int),.int .i64 (hd.cY:Int),.int .u64 (hd.base:Int),.int .i64 (hd.size:Int),.int .u64 (hd.first:Int),.int .i64 (hd.place:Int),sv,lv] 152::aQ 109 221 b d::L) w):Cs 69 [bs,.int .i64 (w_:Int),.int .i64 (s.length:Int)] w fun v w'=>∃a,v=.tuple #[.slice a s.length s.length,.int .i64 0]∧On W0 (bC (.slice a s.length s.length) s::aX bs [b,bt,vr,.int .u64 (hd.bl:Int),.int .u32 (hd.aJ:Int),.int .i64 (hd.cY:Int),.int .u64 (hd.base:Int),.int .i64 (hd.size:Int),.int .u64 (hd.first:Int),.int .i64 (hd.place:Int),sv,lv] 152::aQ 109 221 b d::L) w':=by
 refine qO ?_;have fH:=aG;refine go ?_;refine W.loop (fun(i:Nat) env w=>i≤48∧∃(j:Env) (ao:Option Addr) (co:Nat) (out z:List UInt8),out.length=i*512∧out=s.take (i*512)++z∧(i*512≤s.length→z=[])∧env=eu j [(0,bs),(1,.int .i64 (w_:Int)),(2,.int .i64 (s.length:Int)),(6,.slice none 0 0),(7,.int .i64 0),(8,.slice ao out.length co),(9,.int .i64 (i:Nat))]∧On W0 (bC (.slice ao out.length co) out::aX bs [b,bt,vr,.int .u64 (hd.bl:Int),.int .u32 (hd.aJ:Int),.int .i64 (hd.cY:Int),.int .u64 (hd.base:Int),.int .i64 (hd.size:Int),.int .u64 (hd.first:Int),.int .i64 (hd.place:Int),sv,lv] 152::aQ 109 221 b d::L) w) (fun i=>49 - i) (0) ?_ ?_
 · have h:=h.bB 1 none
   exact⟨Nat.zero_le _,_,none,0,[],[],rfl,rfl,fun _=>rfl,aD ⟨rfl,rfl,rfl,rfl,rfl,rfl,rfl,trivial⟩,h⟩
 rintro i env w ⟨hi,j,ao,co,out,z,r7,ZG,hoz,rfl,h⟩;have aA:=Own.bounds h;obtain⟨hco,_⟩:=aA;refine qI (fun c9=> ?_) (fun c9=> ?_)
 ·
  refine W.exit ?_;refine W.seq ?_;have B1:s.length≤out.length:=by omega
  have agk:out.take s.length=s:=by
    rw[ZG,List.take_of_length_le (l:=s) (by omega)];exact List.take_left
  have h:=Own.front h B1;rw[Nat.mul_one] at h;have e4:(aL out).take s.length=aL s:=by unfold aL;rw[←List.map_take,agk]
  rw[e4] at h;refine go ?_;refine WL.v (rW underlying28 sizeOf5 rfl rfl (by omega)) ?_;refine WL.e (ag call33 (cU h)) ?_;rintro _ w ⟨rfl,h⟩;refine qR ?_;exact⟨ao,rfl,h⟩
 refine W.skip ?_;refine W.seq ?_;have dW:i*512<s.length:=by omega
 have akS:i<48:=by omega
 refine go ?_;refine WL.v (dr (m:=w_) (n:=48) rfl rfl (by omega)) ?_;refine WL.v (gK (m:=2) (n:=w_*48) rfl rfl (by omega)) ?_;refine qN ?_;refine WL.e (ag call106 (tC hs ⟨by omega,by rw[hn];omega⟩ (h.aj (aQ 109 221 b d)))) ?_;rintro _ w ⟨bq,rfl,h⟩;rw[hS i dW] at h;refine qE ?_;refine WL.e (bU (bytes:=1) h rfl rfl (h.aR) underlying28 rfl rfl rfl rfl rfl (by omega) (by omega) cR) ?_;rintro _ w ⟨a36,Xn,rfl,h⟩;refine qD ?_;have aA:=Jb ZG hoz dW;obtain⟨z',hz1,hz2⟩:=aA;have ua:=ye (bH s i);have e2:aL out++aL (full (bH s i))=aL (out++full (bH s i)):=(List.map_append ..).symm;have e3:out.length+512=(out++full (bH s i)).length:=by rw[List.length_append,ua]
 rw[e2,e3] at h;exact⟨i+1,⟨by omega,_,a36,Xn,out++full (bH s i),z',by rw[List.length_append,ua,r7];omega,hz1,hz2,aD ⟨rfl,rfl,rfl,rfl,rfl,congrArg (fun k=>Value.slice a36 k Xn) e3,rfl,trivial⟩,h.to⟩,by show 49 - (i+1)<49 - i;omega⟩
theorem KH{tn:Nat}{hd nh:Hd}{d:Dk}{val:List UInt8}(o:nh.ok)(I:vN d 0 tn val)(zD:tn+1<256^8)(gH:d.calls≤1000000000)(h:On W0 (aX bs [b,bt,vr,.int .u64 (hd.bl:Int),.int .u32 (hd.aJ:Int),.int .i64 (hd.cY:Int),.int .u64 (hd.base:Int),.int .i64 (hd.size:Int),.int .u64 (hd.first:Int),.int .i64 (hd.place:Int),sv,lv] 152::dM 204 bt b 0 tn val::aQ 109 221 b d::L) w):Cs 70 [bs,(.agg #[.int .u64 (nh.bl:Int),.int .u32 (nh.aJ:Int),.int .i64 (nh.cY:Int),.int .u64 (nh.base:Int),.int .i64 (nh.size:Int),.int .u64 (nh.first:Int),.int .i64 (nh.place:Int)])] w fun v w'=>v=.int .i64 0∧On W0 (aX bs [b,bt,vr,.int .u64 (nh.bl:Int),.int .u32 (nh.aJ:Int),.int .i64 (nh.cY:Int),.int .u64 (nh.base:Int),.int .i64 (nh.size:Int),.int .u64 (nh.first:Int),.int .i64 (nh.place:Int),sv,lv] 152::dM 204 bt b 0 (tn+1) (cK nh)::aQ 109 221 b (ff d 0 tn (cK nh)).2::L) w':=by
 refine qO ?_;refine gb fun b3 w h=> ?_;refine go ?_;refine W.draw Tryz.follows h (fun w h=> ?_);refine WT.m 0 rfl ?_;refine WT.n 1 rfl rfl ?_;refine WT.f 2 1 rfl underlying152 rfl sizeOf140 rfl rfl ?_;refine WT.l 3 rfl isAgg140 rfl (h.aS rfl) ?_;refine WT.gF (vs:=[.int .u64 _,.int .u32 _,.int .i64 _,.int .u64 _,.int .i64 _,.int .u64 _,.int .i64 _]) 4 rfl (by kernel_rfl) isAgg144 sizeOf144 rfl rfl (h.fR (n:=7) rfl) rfl rfl ?_;refine WT.e 5 [false,true] rfl (ag call68 (Dg o h)) ?_;rintro _ w ⟨NT,rfl,h⟩;refine qW ?_;refine WT.e 6 [false] rfl (ag call110 (abl I zD (by rw[bX];decide) gH ((h.aj (aQ 109 221 b d)).aj (dM 204 bt b 0 tn val)) (aB.cF))) ?_;rintro _ w ⟨rfl,h⟩;refine⟨trivial, ?_⟩;refine qU ?_;refine WL.v (bY rfl rfl rfl) ?_;refine qS fun w h _=> ?_;refine qR ?_;exact⟨rfl,h.to⟩
theorem vQ{c:Nat}{a:Option Addr}{hd:Hd}(hb:hd.base+n<18446744073709551616)(hn:n≤1000000)(h:On W0 (aX bs [b,bt,vr,.int .u64 (hd.bl:Int),.int .u32 (hd.aJ:Int),.int .i64 (hd.cY:Int),.int .u64 (hd.base:Int),.int .i64 (hd.size:Int),.int .u64 (hd.first:Int),.int .i64 (hd.place:Int),sv,.slice a n c] 152::L) w):Cs 112 [bs] w fun v w'=>v=.int .u64 ((hd.base+n:Nat):Int)∧On W0 (aX bs [b,bt,vr,.int .u64 (hd.bl:Int),.int .u32 (hd.aJ:Int),.int .i64 (hd.cY:Int),.int .u64 (hd.base:Int),.int .i64 (hd.size:Int),.int .u64 (hd.first:Int),.int .i64 (hd.place:Int),sv,.slice a n c] 152::L) w':=by
 refine qO ?_;refine qG fun w h=> ?_;refine X.v (fun _=>(cT (k:=.u64) (m:=hd.base) (n:=n) rfl rfl (Int.ofNat_le.2 (show _≤18446744073709551615 by omega)))) ?_;refine qR ?_;exact⟨rfl,h⟩
theorem Gm{lvj:Nat}{hd:Hd}{d:Dk}{es:List En}(o:hd.ok)(hp:hd.place<256)(oK:hd.first≤4000000000000000000)(J:JI d hd.first hd.place lvj (es.map mQ))(hlv:lvj≤hd.aJ)(hE:∀(j:Nat) (e:En),es[j]? =some e→e.idx=hd.base+1+j∧e.ep<256^8∧e.data.length≤2048)(hb:hd.base+es.length<9000000000000000000)(hs:mB d=0)(hn:d.n=354)(h:On W0 (aX bs [b,bt,vr,.int .u64 (hd.bl:Int),.int .u32 (hd.aJ:Int),.int .i64 (hd.cY:Int),.int .u64 (hd.base:Int),.int .i64 (hd.size:Int),.int .u64 (hd.first:Int),.int .i64 (hd.place:Int),sv,lv] 152::aQ 109 221 b d::L) w):Cs 71 [bs] w fun v w'=>v=.int .i64 0∧∃(br:Nat) (al:Option Addr) (cl:Nat) (ws:List EX) (aa:aE),ws.map (·.1)=es∧AX aa ws∧On W0 (aX bs [b,bt,br,.int .u64 (hd.bl:Int),.int .u32 (hd.aJ:Int),.int .i64 (hd.cY:Int),.int .u64 (hd.base:Int),.int .i64 (hd.size:Int),.int .u64 (hd.first:Int),.int .i64 (hd.place:Int),sv,.slice al es.length cl] 152::Own 3 (.slice al es.length cl) es.length (ws.flatMap EX.row)::aY aa::dz 311 br b (rE (tD 98 256 hd.first hd.place hd.aJ) (es.map mQ))::aQ 109 221 b d::L) w':=by
 refine qO ?_;obtain⟨o1,o2,o3,o4,o5,o6,o7⟩:=o;have fH:=aG;have yd:(es.map mQ).length=es.length:=List.length_map ..;have aA:=J.chain hlv;obtain⟨lz,hlz,hCz⟩:=aA;have Xg:=jN lz;rw[←sF,hlz] at Xg;have hju:=J.used;have zE:lz.length=es.length:=by have:=congrArg List.length hlz;rw[List.length_map,yd] at this;exact this
 have hle:es.length≤256:=by omega
 refine go ?_;refine W.ez Tryz.follows h (by kernel_rfl) fun w h=> ?_;refine qC ?_ (C:=MD hlz hCz (by decide) (by decide) (by decide) hp oK o2 hs (by rw[hn];decide) (h.aj (aQ 109 221 b d)));rintro v32 w ⟨br,az,abn,h⟩;rw[yd] at abn;subst abn;refine go ?_;refine WL.v (bY rfl rfl rfl) ?_;refine qS fun w h _=> ?_;refine gs fun w h _=> ?_;refine gw ?_;refine W.seq ?_;refine W.label ?_;refine W.seq ?_;refine W.seq ?_;have aA:=Pa (h.aj (AP az (es.map mQ).length (es.map mQ)));obtain⟨wz,Py,hwz,hpz,h⟩:=aA;rw[yd] at h;have h:=(h.bB 3 none).Ac;refine go ?_;refine W.loop (fun(k:Nat) env w=>k≤es.length∧∃(j:Env) (al:Option Addr) (cl:Nat) (ws:List EX) (aa:aE),ws.map (·.1)=es.take k∧AX aa ws∧env=eu j [(0,bs),(46,.slice az es.length es.length),(47,.int .i64 (es.length:Int)),(48,.int .i64 (k:Nat))]∧On W0 (aX bs [b,bt,br,.int .u64 (hd.bl:Int),.int .u32 (hd.aJ:Int),.int .i64 (hd.cY:Int),.int .u64 (hd.base:Int),.int .i64 (hd.size:Int),.int .u64 (hd.first:Int),.int .i64 (hd.place:Int),sv,.slice al k cl] 152::Own 3 (.slice al k cl) k (ws.flatMap EX.row)::aY aa::Own 1 (.slice az es.length es.length) es.length (wz.map (·.1))::aY Py::dz 311 br b (rE (tD 98 256 hd.first hd.place hd.aJ) (es.map mQ))::aQ 109 221 b d::L) w) (fun k=>es.length - k) (0) ?_ ?_
 · have h0:On W0 (aX bs [b,bt,br,.int .u64 (hd.bl:Int),.int .u32 (hd.aJ:Int),.int .i64 (hd.cY:Int),.int .u64 (hd.base:Int),.int .i64 (hd.size:Int),.int .u64 (hd.first:Int),.int .i64 (hd.place:Int),sv,.slice none 0 0] 152::Own 3 (.slice none 0 0) 0 []::aY []::Own 1 (.slice az es.length es.length) es.length (wz.map (·.1))::aY Py::dz 311 br b (rE (tD 98 256 hd.first hd.place hd.aJ) (es.map mQ))::aQ 109 221 b d::L) w:=h.to
   exact⟨Nat.zero_le _,_,none,0,[],[],rfl,(fun x hx=>by cases hx),aD ⟨rfl,rfl,rfl,rfl,trivial⟩,h0⟩
 clear h;rintro k env w ⟨hk,j,al,cl,ws,aa,jE,ja,rfl,h⟩;refine qI (fun pW=> ?_) (fun pW=> ?_)
 ·
  refine W.skip ?_;refine W.seq ?_;refine W.block ?_;refine W.seq ?_;have zA:k<es.length:=by omega
  have aA:∃e,es[k]? =some e:=⟨es[k]'zA,List.getElem?_eq_getElem _⟩;obtain⟨e,he⟩:=aA;have aA:=hE k e he;obtain⟨hE1,hE2,hE3⟩:=aA;have heb:(es.map mQ)[k]? =some (mQ e):=by rw[List.getElem?_map,he];rfl
  have aA:=Pm hwz hpz heb;obtain⟨vq,hvq,hvp⟩:=aA;have agm:=hvp.form (h.aj (aY Py));obtain⟨aq,cq,hqv,hqc,_⟩:=agm;subst hqv;have gq:=hvp.eN (L:=[]);have ago:=Own.addr (h.aj (Own 1 (.slice az es.length es.length) es.length (wz.map (·.1)))) (by omega);obtain⟨bz1,oz1,haz⟩:=ago;subst haz;have V1:e.idx<256^8:=by show e.idx<18446744073709551616;omega
  have aA:=MG V1 hE2;obtain⟨g1,g2,g3⟩:=aA;have nj:=uP e;refine qD ?_;refine WL.l isAgg28 rfl ((h.aR (v:=.slice (some ⟨bz1,oz1,none⟩) es.length es.length)).elem (i:=k) (vs:=[.slice aq (mQ e).length cq]) (by omega) (TM hvq) 0 _ rfl) ?_;refine qC ?_ (C:=jS (at_:=((0:Nat):Int)) (n:=((8:Nat):Int)) h (aB.to gq));rintro _ w hg;rcases hg with⟨_,hv,h⟩|⟨dX,_,_⟩;rotate_left
  · exact absurd (show _ by omega) dX
  have hv:_=Value.tuple #[.int .u64 (bM (mQ e) 0 8:Int),.bool true]:=hv;rw[g1] at hv;subst hv;refine qC ?_ (C:=jS (at_:=((8:Nat):Int)) (n:=((8:Nat):Int)) h (aB.to gq));rintro _ w hg;rcases hg with⟨_,hv,h⟩|⟨dX,_,_⟩;rotate_left
  · exact absurd (show _ by omega) dX
  have hv:_=Value.tuple #[.int .u64 (bM (mQ e) 8 8:Int),.bool true]:=hv;rw[g2] at hv;subst hv;refine qC ?_ (C:=vQ (by omega) (by omega) h);rintro _ w ⟨rfl,h⟩;refine WL.v (cT (k:=.u64) (m:=hd.base+k) (n:=1) rfl rfl (Int.ofNat_le.2 (show _≤18446744073709551615 by omega))) ?_;refine WL.v (bY rfl rfl (by rw[hE1];omega)) ?_;refine WL.pf ?_;refine go ?_;refine W.cs ?_;have aA:=kr (l:=16) gq hqc (by omega) (Nat.le_refl _);obtain⟨KI,oM,eY,gD⟩:=aA;have Xo:((mQ e).drop 16).take ((mQ e).length - 16)=e.data:=by rw[List.take_of_length_le (by rw[List.length_drop];exact Nat.le_refl _),g3]
  rw[Xo] at eY gD;refine qT fun w h=> ?_;refine WT.p 8 rfl (fun w'=>(iP (l:=16) underlying28 sizeOf5 rfl rfl (by omega) eY)) ?_;refine WT.e 9 [true] rfl (ag call34 (bG h (aB.to gD) (by omega))) ?_;rintro _ w ⟨a80,c80,rfl,h⟩;refine qW ?_;refine WT.p 10 rfl (fun w'=>(aP (pl:=[(0,1),(1,1),(2,1)]) (out:=[.int .u64 _,.int .u64 _,.slice _ _ _]) underlying217 zeroValue217 (fun w=>by kernel_rfl) rfl fz rfl)) ?_;refine WT.e 11 [true] rfl (aZ (zl:=[.int .u64 0,.int .u64 0,.slice none 0 0]) (out:=[.int .u64 _,.int .u64 _,.slice _ _ _]) h underlying150 sizeOf217 zeroValue217 (by decide) (by kernel_rfl) rfl rfl (by simp) fz rfl rfl (by simp[maxLen])) ?_;rintro _ w ⟨b82,rfl,h⟩;refine qW ?_;refine WT.e 12 [false] rfl (bU (bytes:=40) h rfl rfl (h.aR) underlying150 rfl rfl rfl rfl rfl (by omega) (by omega) (by simp[Value.oneCell'])) ?_;rintro _ w ⟨a83,c83,rfl,h⟩;refine⟨trivial, ?_⟩;refine qU ?_;refine WT.e 15 [] rfl (bI (v:=.slice _ _ _) h sizeOf150 rfl rfl rfl rfl rfl) ?_;rintro _ w h
  try simp only[Nat.zero_add,Nat.add_zero,List.set_cons_zero,List.set_cons_succ] at h
  refine⟨trivial, ?_⟩;refine WT.dn ?_;refine qD ?_;have vJ:=Gl (e:=e) (v:=.slice a80 e.data.length c80) jE ja rfl;obtain⟨q1,q2,q3⟩:=vJ;have ht:es.take (k+1)=es.take k++[e]:=by rw[List.take_add_one,he];rfl
  have h2:=On.mU ((h.aj (aY aa)).aj (bC (.slice a80 e.data.length c80) e.data));exact⟨k+1,⟨by omega,_,a83,c83,ws++[(e,.slice a80 e.data.length c80)],(.slice a80 e.data.length c80,e.data)::aa,by rw[ht];exact q1,q2,aD ⟨rfl,rfl,rfl,rfl,trivial⟩,(by rw[q3];exact h2.to)⟩,by show es.length - (k+1)<es.length - k;omega⟩
 refine qR ?_;have aA:k=es.length:=by omega
 obtain rfl:=aA;rw[List.take_length] at jE;exact⟨rfl,br,al,cl,ws,aa,jE,ja,h.to⟩
end Go.Proofs.YtcplmndikhjehaaGreat
namespace Go.Proofs.YtcplmndikhjehaaGreat
open Go.Proofs.Tryz
open Go Go.Sl Go.Sl.eM Go.Sl.dA Go.Sl.gU Go.Sl.ow Go.Sl.mG
set_option maxHeartbeats 0
set_option maxRecDepth 8000
variable{b br bs bt tn:Nat}{snap:List UInt8}
variable{W0 w:World}{L F:List aC}
theorem TQ{w_ n:Nat}{hd:Hd}{vr sv lv:Value}{d:Dk}{s:List UInt8}(S7:s.length=n)(hS:xx d w_ s)(hw:w_≤1)(zB:s.length≤24576)(hs:mB d=0)(hn:d.n=354)(h:On W0 (aX bs [b,bt,vr,.int .u64 (hd.bl:Int),.int .u32 (hd.aJ:Int),.int .i64 (hd.cY:Int),.int .u64 (hd.base:Int),.int .i64 (hd.size:Int),.int .u64 (hd.first:Int),.int .i64 (hd.place:Int),sv,lv] 152::aQ 109 221 b d::L) w):Cs 69 [bs,.int .i64 (w_:Int),.int .i64 (n:Int)] w fun v w'=>∃a,v=.tuple #[.slice a s.length s.length,.int .i64 0]∧On W0 (bC (.slice a s.length s.length) s::aX bs [b,bt,vr,.int .u64 (hd.bl:Int),.int .u32 (hd.aJ:Int),.int .i64 (hd.cY:Int),.int .u64 (hd.base:Int),.int .i64 (hd.size:Int),.int .u64 (hd.first:Int),.int .i64 (hd.place:Int),sv,lv] 152::aQ 109 221 b d::L) w':=by
 subst S7
 exact(Px hS hw zB hs hn h).mono fun e w' he=>by
   obtain⟨v,he,hv⟩:=he;refine⟨v,he, ?_⟩;exact hv
theorem Gn{lvj:Nat}{d:Dk}{hd:Hd}{es:List En}(I:vN d 0 tn (cK hd))(o:hd.ok)(hp:hd.place<256)(CH:snap.length=hd.size)(hS:xx d hd.cY snap)(J:JI d hd.first hd.place lvj (es.map mQ))(hlv:lvj≤hd.aJ+1)(hE:∀(j:Nat) (e:En),es[j]? =some e→e.idx=hd.base+1+j∧e.ep<256^8∧e.data.length≤2048)(hn:d.n=354)(oK:hd.first≤4000000000000000000)(hb:hd.base+es.length<9000000000000000000)(Pj:hd.aJ+1<4294967296)(Je:tn+1<256^8)(gH:d.calls≤1000000000)(h:On W0 (aQ 109 221 b d::L) w):Cs 39 [b] w fun v w'=>∃bs bt br,v=.tuple #[.pointer (some ⟨bs,0,none⟩),.int .i64 0]∧On W0 (gA 152 bs b bt br {hd with aJ:=hd.aJ+1} snap es::dM 204 bt b 0 (tn+1) (cK {hd with aJ:=hd.aJ+1})::dz 311 br b (rE (tD 98 256 hd.first hd.place (hd.aJ+1)) (es.map mQ))::aQ 109 221 b (ff d 0 tn (cK {hd with aJ:=hd.aJ+1})).2::L) w':=by
 refine qO ?_;have o2:=o;obtain⟨o_1,o_2,o_3,o_4,o_5,o_6,o_7⟩:=o2;have hpa:=vP (v2:=cK {hd with aJ:=hd.aJ+1}) I Je (by rw[bX];decide);obtain⟨e3,l3,f3,n3,c3,T3,r3⟩:=hpa;have on:({hd with aJ:=hd.aJ+1}:Hd).ok:=⟨o_1,Pj,o_3,o_4,o_5,o_6,o_7⟩;refine qC ?_ (C:=nS h);rintro _ w ⟨rfl,h⟩;refine qE ?_;refine WL.e (ag call64 (Ja I (by omega) h)) ?_;rintro _ w ⟨bt,rfl,h⟩;refine qE ?_;refine WL.e (ag call66 (Gj (by rw[bX];decide) h)) ?_;rintro _ w ⟨a24,rfl,h⟩;refine qC ?_ (C:=Pv o rfl h (aB.cF));rintro _ w ⟨rfl,h⟩;refine gb fun b6 w h=> ?_;refine gs fun w h _=> ?_;refine qD ?_;refine gb fun ZM w h=> ?_;refine qC ?_ (C:=TQ (bs:=ZM) (bt:=bt) (hd:=hd) (vr:=.pointer none) (sv:=.slice none 0 0) (lv:=.slice none 0 0) CH hS o_3 (by omega) I.live.st hn ((h.aj (aQ 109 221 b d)).aj (aX ZM [b,bt,.pointer none,.int .u64 (hd.bl:Int),.int .u32 (hd.aJ:Int),.int .i64 (hd.cY:Int),.int .u64 (hd.base:Int),.int .i64 (hd.size:Int),.int .u64 (hd.first:Int),.int .i64 (hd.place:Int),.slice none 0 0,.slice none 0 0] 152)));rintro _ w ⟨V2,rfl,h⟩;refine gs fun w h _=> ?_;refine qE ?_;refine WL.v (cT (k:=.u32) (m:=hd.aJ) (n:=1) rfl rfl (by show _≤(4294967295:Int);omega)) ?_;refine gs fun w h _=> ?_;refine qC ?_ (C:=KH (bs:=ZM) (b:=b) (bt:=bt) (tn:=tn) (hd:=hd) (nh:={hd with aJ:=hd.aJ+1}) (vr:=.pointer none) (sv:=.slice V2 snap.length snap.length) (lv:=.slice none 0 0) (d:=d) (val:=cK hd) on I Je gH (((h.aj (aQ 109 221 b d)).aj (dM 204 bt b 0 tn (cK hd))).aj (aX ZM [b,bt,.pointer none,.int .u64 (hd.bl:Int),.int .u32 (hd.aJ:Int),.int .i64 (hd.cY:Int),.int .u64 (hd.base:Int),.int .i64 (hd.size:Int),.int .u64 (hd.first:Int),.int .i64 (hd.place:Int),.slice V2 snap.length snap.length,.slice none 0 0] 152)));rintro _ w ⟨rfl,h⟩;refine qE ?_;refine WL.e (ag call71 (Gm on hp oK (J.same fun q hq=>r3 _ (by omega)) hlv hE hb l3.st (n3.trans hn) ((h.aj (aQ 109 221 b (ff d 0 tn (cK {hd with aJ:=hd.aJ+1})).2)).aj (aX ZM [b,bt,.pointer none,.int .u64 ({hd with aJ:=hd.aJ+1}.bl:Int),.int .u32 ({hd with aJ:=hd.aJ+1}.aJ:Int),.int .i64 ({hd with aJ:=hd.aJ+1}.cY:Int),.int .u64 ({hd with aJ:=hd.aJ+1}.base:Int),.int .i64 ({hd with aJ:=hd.aJ+1}.size:Int),.int .u64 ({hd with aJ:=hd.aJ+1}.first:Int),.int .i64 ({hd with aJ:=hd.aJ+1}.place:Int),.slice V2 snap.length snap.length,.slice none 0 0] 152)))) ?_;rintro _ w ⟨rfl,br,al,cl,ws,aa,jE,ja,h⟩;refine qE ?_;refine qR ?_;exact⟨ZM,bt,br,rfl,nE (a1:=V2) (c1:=snap.length) (a2:=al) (c2:=cl) jE ja h.to⟩
theorem Jg{d:Dk}{hd:Hd}{es:List En}{g:Rg}{e:En}{ax:Option Addr}{cx:Nat}(S:SI d hd tn snap es g)(hi:e.idx=hd.base+1+es.length)(hp:e.ep<256^8)(Ss:e.data.length≤2048)(nN:jB (es.map mQ)+bO (mQ e).length≤256)(VK:hd.base+es.length<4000000000000000000)(oK:hd.first+es.length<4500000000000000000)(gH:d.calls≤1000000000)(h:On W0 (gA 152 bs b bt br hd snap es::dz 311 br b g::aQ 109 221 b d::L) w)(C:aB L (Bytes (.slice ax e.data.length cx) e.data)):Cs 320 [bs,.agg #[.int .u64 (e.idx:Int),.int .u64 (e.ep:Int),.slice ax e.data.length cx]] w fun v w'=>v=.int .i64 0∧On W0 (gA 152 bs b bt br hd snap (es++[e])::dz 311 br b (rD g (mQ e))::aQ 109 221 b (ek (pg d 98 256 g.place g.next hd.aJ (mQ e) (bO (mQ e).length))).2::L) w':=by
 refine qO ?_;have R_:=S.ri;have cD:=S.cD;obtain⟨ZJ,ok2,ok3,ok4,ok5,ok6,ok7⟩:=cD;have fH:=aG;have yd:(es.map mQ).length=es.length:=List.length_map ..;have Xg:=jN (ZL 2 (es.map mQ));rw[Pq] at Xg;have zE:(ZL 2 (es.map mQ)).length=es.length:=by unfold ZL;rw[List.length_map,yd]
 have hle:es.length≤256:=by have:=S.ji.used;omega
 have nj:=uP e;have r1:=R_.at_;have r2:=R_.n;have r3:=R_.first;have r4:=R_.aJ;have r5:=R_.used;have r6:=R_.len;rw[yd] at r6;have aA:=fY h;obtain⟨a1,c1,a2,c2,ws,aa,jE,ja,h⟩:=aA;refine gb fun b3 w h=> ?_;refine qT fun w h=> ?_;refine WT.l 1 rfl isAgg30 rfl (h.aS rfl) ?_;refine qU ?_;refine WT.e 3 [true] rfl (ag call112 (vQ (by omega) (by omega) (h.aj (aX bs [b,bt,br,.int .u64 (hd.bl:Int),.int .u32 (hd.aJ:Int),.int .i64 (hd.cY:Int),.int .u64 (hd.base:Int),.int .i64 (hd.size:Int),.int .u64 (hd.first:Int),.int .i64 (hd.place:Int),.slice a1 snap.length c1,.slice a2 es.length c2] 152)))) ?_;rintro _ w ⟨rfl,h⟩;refine qW ?_;refine WT.p 4 rfl (fun w'=>(cT (k:=.u64) (m:=hd.base+es.length) (n:=1) rfl rfl (Int.ofNat_le.2 (show _≤18446744073709551615 by omega)))) ?_;refine WT.p 5 rfl (fun w'=>bY rfl rfl (by rw[hi];omega)) ?_;refine qU ?_;refine WT.p 9 rfl (fun w'=>(kO underlying28 rfl)) ?_;refine WT.p 10 rfl (fun w'=>eV rfl rfl (by omega)) ?_;refine qU ?_;refine qT fun w h=> ?_;refine WT.l 5 rfl isAgg30 rfl (h.aS rfl) ?_;refine WT.f 7 1 rfl underlying217 rfl sizeOf30 rfl rfl ?_;refine WT.l 8 rfl isAgg30 rfl (h.aS rfl) ?_;refine WT.f 10 2 rfl underlying217 rfl sizeOf28 rfl rfl ?_;refine WT.l 11 rfl isAgg28 rfl (h.aS rfl) ?_;refine WT.e 6 [true,true,false,true] rfl (ag call78 (dm (n:=8) (bs:=[]) h aB.rL (by decide) (by decide) (by omega) (by decide))) ?_;rintro _ w ⟨a27,rfl,h⟩;refine qW ?_;refine WT.e 9 [true,false,true] rfl (ag call78 (dm (n:=8) h (aB.cF) (by decide) (by decide) hp (by rw[show(([]:List UInt8)++be e.idx 8).length=8 from by simp only[List.length_append,aT,List.length_nil]];decide))) ?_;rintro _ w ⟨KG,rfl,h⟩;have hq1:((([]:List UInt8)++be e.idx 8)++be e.ep 8).length=16:=by simp only[List.length_append,aT,List.length_nil]
 refine qW ?_;refine WT.e 12 [false,true] rfl (bU (bytes:=1) h rfl rfl (h.aO C) underlying28 rfl rfl rfl rfl rfl (by rw[hq1];omega) (by rw[hq1];omega) cR) ?_;rintro _ w ⟨a33,rO,abr,h⟩;have e2:aL ((([]:List UInt8)++be e.idx 8)++be e.ep 8)++aL e.data=aL (mQ e):=(List.map_append ..).symm;have e3:((([]:List UInt8)++be e.idx 8)++be e.ep 8).length+e.data.length=(mQ e).length:=by rw[hq1,nj]
 rw[e3] at abr;rw[e2,e3] at h;subst abr;refine qW ?_;refine WT.e 13 [false] rfl (ag call350 (Ev S.live (by rw[r2];omega) (by rw[r1,r2,S.n];decide) (by omega) (by rw[r5,r2];exact nN) (by rw[r3,r6];omega) ((h.aj (aQ 109 221 b d)).aj (dz 311 br b g)) (aB.cF))) ?_;rintro _ w ⟨rfl,d1,hd1,l1,n1,c1_,h⟩;rw[r1,r2,r4] at hd1;refine⟨trivial, ?_⟩;refine qU ?_;refine WL.v (bY rfl rfl rfl) ?_;refine qC ?_ (C:=Mw ⟨by omega,by rw[l1.cJ];decide⟩ h);rintro v44 w ⟨abt,h⟩;rw[(lQ l1).1] at abt;subst abt;rw[hd1] at h;refine qE ?_;refine WL.e (ag call34 (bG h (aB.to C) (by omega))) ?_;rintro _ w ⟨a50,c50,rfl,h⟩;refine gs fun w h _=> ?_;refine go ?_;refine W.draw Tryz.follows h (fun w h=> ?_);refine WT.m 0 rfl ?_;refine WT.m 1 rfl ?_;refine WT.n 2 rfl rfl ?_;refine WT.f 3 11 rfl underlying152 rfl sizeOf150 rfl rfl ?_;refine WT.l 4 rfl isAgg150 rfl (h.aS rfl) ?_;refine WT.gF (vs:=[.int .u64 _,.int .u64 _,.slice _ _ _]) 5 rfl (by kernel_rfl) isAgg217 sizeOf217 rfl rfl (h.fR (n:=3) rfl) rfl rfl ?_;refine WT.e 6 [false,true] rfl (aZ (zl:=[.int .u64 0,.int .u64 0,.slice none 0 0]) (out:=[.int .u64 _,.int .u64 _,.slice _ _ _]) h underlying150 sizeOf217 zeroValue217 (by decide) (by kernel_rfl) rfl rfl (by simp) fz rfl rfl (by simp[maxLen])) ?_;rintro _ w ⟨b58,rfl,h⟩;refine qW ?_;refine WT.e 7 [false] rfl (bU (bytes:=40) h rfl rfl (h.aR) underlying150 rfl rfl rfl rfl rfl (by omega) (by omega) (by simp[Value.oneCell'])) ?_;rintro _ w ⟨a59,c59,rfl,h⟩;refine⟨trivial, ?_⟩;refine qU ?_;refine WT.e 10 [] rfl (bI (v:=.slice _ _ _) h sizeOf150 rfl rfl rfl rfl rfl) ?_;rintro _ w h
 try simp only[Nat.zero_add,Nat.add_zero,List.set_cons_zero,List.set_cons_succ] at h
 refine⟨trivial, ?_⟩;refine WT.dn ?_;refine qR ?_;have vJ:=Gl (e:=e) (v:=.slice a50 e.data.length c50) jE ja rfl;obtain⟨q1,q2,q3⟩:=vJ;have hel:(es++[e]).length=es.length+1:=by rw[List.length_append];rfl
 have h2:=On.mU ((h.aj (aY aa)).aj (bC (.slice a50 e.data.length c50) e.data));exact⟨rfl,nE (a1:=a1) (c1:=c1) (a2:=a59) (c2:=c59) q1 q2 (by rw[q3,hel];exact h2.to)⟩
theorem MK{ep:Nat}{d:Dk}{hd:Hd}{es:List En}(o:hd.ok)(I:vN d 0 tn (cK hd))(hep:hd.bl<ep)(ZN:ep<18446744073709551616)(Je:tn+1<256^8)(gH:d.calls≤1000000000)(h:On W0 (gA 152 bs b bt br hd snap es::dM 204 bt b 0 tn (cK hd)::aQ 109 221 b d::L) w):Cs 40 [bs,.int .u64 (ep:Int)] w fun v w'=>v=.int .i64 0∧On W0 (gA 152 bs b bt br {hd with bl:=ep} snap es::dM 204 bt b 0 (tn+1) (cK {hd with bl:=ep})::aQ 109 221 b (ff d 0 tn (cK {hd with bl:=ep})).2::L) w':=by
 refine qO ?_;obtain⟨o1,o2,o3,o4,o5,o6,o7⟩:=o;have on:({hd with bl:=ep}:Hd).ok:=⟨ZN,o2,o3,o4,o5,o6,o7⟩;have aA:=fY h;obtain⟨a1,c1,a2,c2,ws,aa,jE,ja,h⟩:=aA;refine go ?_;refine WL.v (dB rfl rfl (by omega)) ?_;refine qN ?_;refine WL.v (iE rfl rfl (by omega)) ?_;refine qB fun b5 w h=> ?_;refine gs fun w h _=> ?_;refine gs fun w h _=> ?_;refine qC ?_ (C:=KH on I Je gH (((h.aj (aQ 109 221 b d)).aj (dM 204 bt b 0 tn (cK hd))).aj (aX bs [b,bt,br,.int .u64 (hd.bl:Int),.int .u32 (hd.aJ:Int),.int .i64 (hd.cY:Int),.int .u64 (hd.base:Int),.int .i64 (hd.size:Int),.int .u64 (hd.first:Int),.int .i64 (hd.place:Int),.slice a1 snap.length c1,.slice a2 es.length c2] 152)));rintro _ w ⟨rfl,h⟩;refine qR ?_;exact⟨rfl,nE (a1:=a1) (c1:=c1) (a2:=a2) (c2:=c2) jE ja h.to⟩
theorem Ey{hd:Hd}{es:List En}(h:On W0 (gA 152 bs b bt br hd snap es::L) w):Cs 291 [bs] w fun v w'=>v=.int .u64 (hd.bl:Int)∧On W0 (gA 152 bs b bt br hd snap es::L) w':=by
 refine qO ?_;have aA:=fY h;obtain⟨a1,c1,a2,c2,ws,aa,jE,ja,h⟩:=aA;refine qR ?_;exact⟨rfl,nE jE ja h⟩
theorem ML{hd:Hd}{es:List En}(hb:hd.base+es.length<18446744073709551616)(hn:es.length≤1000000)(h:On W0 (gA 152 bs b bt br hd snap es::L) w):Cs 112 [bs] w fun v w'=>v=.int .u64 ((hd.base+es.length:Nat):Int)∧On W0 (gA 152 bs b bt br hd snap es::L) w':=by
 obtain⟨a1,c1,a2,c2,ws,aa,jE,ja,h⟩:=fY h
 exact(vQ hb hn h).mono fun e w' he=>by
   obtain⟨v,he,hv⟩:=he;refine⟨v,he, ?_⟩;obtain⟨hv,h⟩:=hv;exact⟨hv,nE jE ja h⟩
theorem Pz{hd:Hd}{es:List En}(zB:snap.length≤24576)(h:On W0 (gA 152 bs b bt br hd snap es::L) w):Cs 122 [bs] w fun v w'=>∃a,v=.tuple #[.int .u64 (hd.base:Int),.slice a snap.length snap.length]∧On W0 (bC (.slice a snap.length snap.length) snap::gA 152 bs b bt br hd snap es::L) w':=by
 refine qO ?_;have aA:=fY h;obtain⟨a1,c1,a2,c2,ws,aa,jE,ja,h⟩:=aA;refine qT fun w h=> ?_;refine WT.e 9 [false,true] rfl (ag call34 (bG h (aB.cF) (by omega))) ?_;rintro _ w ⟨VT,CS,rfl,h⟩;refine qW ?_;refine WT.e 10 [true] rfl (ag call33 (cU h)) ?_;rintro _ w ⟨rfl,h⟩;refine qW ?_;refine qU ?_;refine qR ?_;have h:=nE (TG:=152) (bs:=bs) (b:=b) (bt:=bt) (br:=br) (h:=hd) (snap:=snap) (a1:=a1) (c1:=c1) (a2:=a2) (c2:=c2) (L:=bC (.slice VT snap.length snap.length) snap::L) jE ja h.to;exact⟨VT,rfl,h.to⟩
theorem MM{hd:Hd}{es:List En}{k i:Nat}{e:En}(he:es[k]? =some e)(hi:i=hd.base+1+k)(hb:hd.base+es.length<9000000000000000000)(hl:es.length≤1000000)(hde:e.data.length≤2048)(h:On W0 (gA 152 bs b bt br hd snap es::L) w):Cs 322 [bs,.int .u64 (i:Int)] w fun v w'=>∃a,v=.tuple #[.agg #[.int .u64 (e.idx:Int),.int .u64 (e.ep:Int),.slice a e.data.length e.data.length],.bool true]∧On W0 (bC (.slice a e.data.length e.data.length) e.data::gA 152 bs b bt br hd snap es::L) w':=by
 refine qO ?_;have aA:=fY h;obtain⟨a1,c1,a2,c2,ws,aa,jE,ja,h⟩:=aA;have dW:=(List.getElem?_eq_some_iff.1 he).1;have aA:=Xm jE he;obtain⟨vq,hq⟩:=aA;refine gb fun b4 w h=> ?_;refine qE ?_;refine WL.e (ag call112 (vQ (by omega) (by omega) (h.aj (aX bs [b,bt,br,.int .u64 (hd.bl:Int),.int .u32 (hd.aJ:Int),.int .i64 (hd.cY:Int),.int .u64 (hd.base:Int),.int .i64 (hd.size:Int),.int .u64 (hd.first:Int),.int .i64 (hd.place:Int),.slice a1 snap.length c1,.slice a2 es.length c2] 152)))) ?_;rintro _ w ⟨rfl,h⟩;refine WL.v (eV rfl rfl (by omega)) ?_;refine WL.pf ?_;refine go ?_;refine W.cs ?_;refine qD ?_;have aA:=ja _ (List.mem_of_getElem? hq);obtain⟨hq3,ZO⟩:=aA;have agq:=hq3.form (h.aj (aY aa));obtain⟨aq,cq,hqv,hqc,TW⟩:=agq;have hqv:vq=.slice aq e.data.length cq:=hqv;subst hqv;have agr:=(h.aR (v:=.slice a2 es.length c2)).addr (by omega);obtain⟨ba,oa,Ej⟩:=agr;subst Ej;have gD:aB [aY aa] (Bytes (.slice aq e.data.length cq) e.data):=hq3.eN;refine qT fun w h=> ?_;refine WT.p 10 rfl (fun w'=>(De (k:=.u64) (m:=i) (n:=hd.base) (r:=1+k) rfl rfl (by omega) (Int.ofNat_le.2 (show _≤18446744073709551615 by omega)) (by omega))) ?_;refine WT.p 11 rfl (fun w'=>(De (k:=.u64) (m:=1+k) (n:=1) (r:=k) rfl rfl (by omega) (Int.ofNat_le.2 (show _≤18446744073709551615 by omega)) (by omega))) ?_;refine WT.p 12 rfl (fun w'=>(bP underlying150 sizeOf217 rfl rfl (by omega) (by omega))) ?_;refine WT.gF 13 rfl (by kernel_rfl) isAgg217 sizeOf217 rfl rfl ((h.aR (v:=.slice (some ⟨ba,oa,none⟩) es.length c2)).elem (vs:=[.int .u64 (e.idx:Int),.int .u64 (e.ep:Int),.slice aq e.data.length cq]) (by omega) (aF EX.row 3 EX.AW ws _ _ hq)) rfl rfl ?_;refine WT.e 14 [true,true,true] rfl (bR h zeroValue217 rfl) ?_;rintro _ w ⟨b6,rfl,h⟩;refine⟨⟨((h.aR (v:=.slice (some ⟨ba,oa,none⟩) es.length c2)).elem (by omega) (aF EX.row 3 EX.AW ws _ _ hq)),h.aS rfl,h.aS rfl,trivial⟩, ?_⟩;refine WT.e 15 [false,false,false] rfl (bA h sizeOf217 rfl rfl rfl rfl rfl) ?_;rintro _ w h;refine⟨trivial, ?_⟩;refine WT.dn ?_;refine qC ?_ (C:=bG h (aB.to gD) (by omega));rintro _ w ⟨Pg,NU,rfl,h⟩;refine qC ?_ (C:=cU h);rintro _ w ⟨rfl,h⟩;refine gs fun w h _=> ?_;refine gs fun w h _=> ?_;refine qR ?_;have h:=nE (TG:=152) (bs:=bs) (b:=b) (bt:=bt) (br:=br) (h:=hd) (snap:=snap) (a1:=a1) (c1:=c1) (a2:=some ⟨ba,oa,none⟩) (c2:=c2) (L:=bC (.slice Pg e.data.length e.data.length) e.data::L) jE ja h.to;exact⟨Pg,rfl,h.to⟩
theorem MN{hd:Hd}{es:List En}{i:Nat}(hi:i≤hd.base)(h:On W0 (gA 152 bs b bt br hd snap es::L) w):Cs 322 [bs,.int .u64 (i:Int)] w fun v w'=>v=.tuple #[.agg #[.int .u64 0,.int .u64 0,.slice none 0 0],.bool false]∧On W0 (gA 152 bs b bt br hd snap es::L) w':=by
 refine qO ?_;have aA:=fY h;obtain⟨a1,c1,a2,c2,ws,aa,jE,ja,h⟩:=aA;refine gb fun b4 w h=> ?_;refine qE ?_;refine gs fun w h _=> ?_;refine go ?_;refine W.ret (bf.rX (vs:=[.int .u64 _,.int .u64 _,.slice _ _ _]) (v2:=.bool _) h results322 isAgg217 sizeOf217 rfl rfl rfl rfl ?_);exact⟨rfl,nE (a1:=a1) (c1:=c1) (a2:=a2) (c2:=c2) jE ja h.to⟩
end Go.Proofs.YtcplmndikhjehaaGreat
namespace Go.Sl.BitM
open Go Go.Sl
variable{i:Nat}{m:List UInt8}{x:UInt8}
def bit(m:List UInt8)(i:Nat):Bool:=(m.getD (i / 8) 0).toNat.testBit (i % 8)
theorem getD_some{k:Nat}(h:m[k]? =some x):m.getD k 0=x:=by rw[List.getD_eq_getElem?_getD,h];rfl
theorem TX(h:8*m.length≤i):bit m i=false:=by
 unfold bit;rw[List.getD_eq_getElem?_getD,List.getElem?_eq_none (by omega)];simp
def PA(m:List UInt8)(i:Int):Bool:=decide (0≤i)&&bit m i.toNat
theorem Gp(m:List UInt8)(i:Nat):PA m (i:Int)=bit m i:=by unfold PA;simp
theorem PB{i:Int}(h:¬(0≤i∧i<8*(m.length:Int))):PA m i=false:=by
 unfold PA;by_cases h0:0≤i
 · rw[TX (by omega)];simp
 simp[h0]
theorem Xp(h:m[i / 8]? =some x):bit m i=decide (x.toNat / 2^(i % 8) % 2=1):=by
 unfold bit;rw[getD_some h,Nat.testBit_eq_decide_div_mod_eq]
def zg(n:Int):List UInt8:=if n<1∨1048576<n then[] else List.replicate ((n.toNat+7) / 8) 0
def flip(m:List UInt8)(i:Nat):List UInt8:=m.set (i / 8) (UInt8.ofNat ((m.getD (i / 8) 0).toNat^^^2^(i % 8)))
theorem yq(m:List UInt8)(i:Nat):(flip m i).length=m.length:=by simp[flip]
theorem yu(h:m[i / 8]? =some x):(aL m).set (i / 8) (.int .u8 ((x.toNat^^^(1*2^(i % 8)):Nat):Int))=aL (flip m i):=by
 unfold flip;rw[getD_some h,Nat.one_mul];unfold aL;rw[List.map_set]
 congr 1
 have hx:x.toNat^^^2^(i % 8)<256:=Nat.xor_lt_two_pow x.toNat_lt (Nat.lt_of_le_of_lt (Nat.pow_le_pow_right (by omega) (show i % 8≤7 by omega)) (by omega));show Value.int .u8 _=Value.int .u8 (((UInt8.ofNat _).toNat:Nat):Int);rw[UInt8.toNat_ofNat',Nat.mod_eq_of_lt hx]
theorem PC(x:UInt8){k:Nat}(hk:k<8):x.toNat^^^2^k<256:=
 Nat.xor_lt_two_pow (n:=8) x.toNat_lt (Nat.lt_of_le_of_lt (Nat.pow_le_pow_right (by omega) (show k≤7 by omega)) (by omega))
def jO(m:List UInt8)(lo:Nat)(s:Bool):Nat→List UInt8×Nat
 |0=>(m,0)
 |k+1=>if bit (jO m lo s k).1 (lo+k)=s then jO m lo s k else(flip (jO m lo s k).1 (lo+k),(jO m lo s k).2+1)
theorem vR(m:List UInt8)(lo:Nat)(s:Bool)(k:Nat):(jO m lo s k).1.length=m.length:=by
 induction k with
 |zero=>rfl
 |succ k ih=>unfold jO;split<;>simp[ih,yq]
theorem PD(m:List UInt8)(lo:Nat)(s:Bool)(k:Nat):(jO m lo s k).2≤k:=by
 induction k with
 |zero=>exact Nat.le_refl _
 | succ k ih=>
   unfold jO;split
   · exact Nat.le_succ_of_le ih
   exact Nat.succ_le_succ ih
def ud(m:List UInt8)(fr n:Int):Nat:=if fr<0∨n<0∨((8*m.length:Nat):Int)≤fr then 0 else min n.toNat (8*m.length - fr.toNat)
def nU(m:List UInt8)(fr n:Int)(s:Bool):List UInt8:=(jO m fr.toNat s (ud m fr n)).1
def turns(m:List UInt8)(fr n:Int)(s:Bool):Nat:=(jO m fr.toNat s (ud m fr n)).2
theorem ue(m:List UInt8)(fr n:Int)(s:Bool):(nU m fr n s).length=m.length:=vR ..
end Go.Sl.BitM
namespace Go.Sl.BitM
open Go Go.Sl
def nx(m:List UInt8)(s:Bool)(a:Nat):Option Nat:=(List.range' a (8*m.length - a)).find? (fun j=>bit m j==s)
structure Good(m:List UInt8)(R:List (Nat×Nat))(e:Nat):Prop where
 cover:∀j,j<e→(bit m j=true↔∃r∈R,r.1≤j∧j<r.1+r.2)
 pos:∀r∈R,0<r.2∧r.1+r.2≤e
 apart:∀(i:Nat) r q,R[i]? =some r→R[i+1]? =some q→r.1+r.2<q.1
 stop:R≠[]→bit m e=false
 few:R.length≤e
 le:e≤8*m.length
structure Rows(m:List UInt8)(R:List (Nat×Nat)):Prop where
 cover:∀j,(bit m j=true↔∃r∈R,r.1≤j∧j<r.1+r.2)
 pos:∀r∈R,0<r.2∧r.1+r.2≤8*m.length
 apart:∀(i:Nat) r q,R[i]? =some r→R[i+1]? =some q→r.1+r.2<q.1
 few:R.length≤8*m.length
def eachB(g:UInt8→UInt8→UInt8)(a b:List UInt8)(k:Nat):List UInt8:=(List.range k).map (fun i=>g (a.getD i 0) (b.getD i 0))
end Go.Sl.BitM
namespace Go.Proofs.YtcplmndikhjehaaGreat
open Go.Proofs.Tryz
open Go Go.Sl Go.Sl.BitM
set_option maxHeartbeats 4000000
set_option maxRecDepth 8000
variable{a:Option Addr}{c n:Nat}{m:List UInt8}
variable{W0 w:World}{L F:List aC}
theorem KJ{n:Int}(h:On W0 L w):Cs 187 [.int .i64 n] w fun v w'=>∃a c,v=.slice a (zg n).length c∧On W0 (Own 1 (.slice a (zg n).length c) (zg n).length (aL (zg n))::L) w':=by
 refine qO ?_;have hl:=aG;refine go ?_;refine WL.q (cH rfl rfl) (fun c4=> ?_) (fun c4=> ?_)
 ·
  refine qD ?_;refine qR ?_;have e:zg n=[]:=by unfold zg;rw[if_pos (by omega)]
  rw[e];exact⟨none,0,rfl,h.bB 1 none⟩
 refine qI (fun c2=> ?_) (fun c2=> ?_)
 ·
  refine qR ?_;have e:zg n=[]:=by unfold zg;rw[if_pos (by omega)]
  rw[e];exact⟨none,0,rfl,h.bB 1 none⟩
 refine W.skip ?_;refine W.seq ?_;have aA:=Int.eq_ofNat_of_zero_le (show 0≤n by omega);obtain⟨N,rfl⟩:=aA;have e:zg (N:Int)=List.replicate ((N+7) / 8) 0:=by unfold zg;rw[if_neg (by omega)];simp
 refine qD ?_;refine WL.v (qJ rfl rfl (by omega) (by omega) (by omega)) ?_;refine WL.e (kR (n:=(N+7) / 8) (bytes:=1) h (by show Value.int .i64 (((N:Int)+7) / 8)=_;rfl) (by show Value.int .i64 (((N:Int)+7) / 8)=_;rfl) underlying318 rfl rfl rfl rfl rfl (by omega) (by omega)) ?_;rintro _ w ⟨Gq,rfl,h⟩;refine qR ?_;rw[e,List.length_replicate];exact⟨_,_,rfl,by rw[show aL (List.replicate ((N+7) / 8) 0)=List.replicate ((N+7) / 8) (.int .u8 0) by simp[aL,tY]];exact h⟩
theorem PE{i:Int}(h:On W0 L w)(hn:n≤1048576):Cs 333 [.slice a n c,.int .i64 i] w fun v w'=>((0≤i∧i<8*(n:Int)∧v=.bool true)∨(¬(0≤i∧i<8*(n:Int))∧v=.bool false))∧On W0 L w':=by
 refine qO ?_;refine go ?_;refine WL.q (eA rfl rfl) (fun c6=> ?_) (fun c6=> ?_)
 ·
  refine go ?_;refine WL.v (zv rfl rfl (by omega) (by omega)) ?_;refine WL.q (cH rfl rfl) (fun nB=> ?_) (fun nB=> ?_)
  · refine qR ?_;exact⟨.inl ⟨by omega,by omega,rfl⟩,h⟩
  refine qR ?_;exact⟨.inr ⟨by omega,rfl⟩,h⟩
 refine qR ?_;exact⟨.inr ⟨by omega,rfl⟩,h⟩
theorem Xr(h:On W0 L w)(C:aB L (Cells 1 (.slice a n c) n (aL m))){i:Int}(hn:n≤1048576):Cs 334 [.slice a n c,.int .i64 i] w fun v w'=>v=.bool (PA m i)∧On W0 L w':=by
 refine qO ?_;have yd:m.length=n:=by have:=(h.reads C).1;simpa using this
 refine qC ?_ (C:=PE h hn);rintro _ w ⟨hv,h⟩;rcases hv with⟨hi0,hi1,rfl⟩|⟨dX,rfl⟩
 ·
  refine gw ?_;have aA:=Int.eq_ofNat_of_zero_le hi0;obtain⟨k,rfl⟩:=aA;have aA:=(h.reads (aB.to C)).addr (by omega);obtain⟨bq,oq,B9⟩:=aA;subst B9;have aA:∃x,m[k / 8]? =some x:=⟨m[k / 8]'(by omega),by simp⟩;obtain⟨x,hx⟩:=aA;have PF:=x.toNat_lt;refine go ?_;refine WL.v (qJ rfl rfl (by omega) (by omega) (by omega)) ?_;refine qD ?_;refine WL.l isAgg5 rfl ((h.reads (aB.to C)).elem (i:=k / 8) (vs:=[.int .u8 x.toNat]) (by omega) (dJ hx) 0 _ rfl) ?_;refine go ?_;refine WL.v (oJ rfl rfl (by omega) (by omega)) ?_;refine WL.v (jb (j:=k % 8) rfl rfl (by show k % 8≤8;omega)) ?_;refine WL.v (jc (n:=1) 1 rfl rfl (by show((x.toNat / 2^(k % 8):Nat):Int)≤255;have:=Nat.div_le_self x.toNat (2^(k % 8));omega) (by decide) rfl) ?_;refine qD ?_;refine qR ?_;refine⟨?_,h⟩;rw[Gp,Xp hx]
  congr 1
  rw[decide_eq_decide];show((x.toNat / 2^(k % 8) % 2^1:Nat):Int)=1↔_;omega
 refine qR ?_;exact⟨by rw[PB (by rw[yd];exact dX)],h⟩
theorem TY{fr k:Int}{s:Bool}(h:On W0 (Own 1 (.slice a n c) n (aL m)::L) w)(hn:n≤1048576):Cs 400 [.slice a n c,.int .i64 fr,.int .i64 k,.bool s] w fun v w'=>v=.int .i64 ((turns m fr k s:Nat):Int)∧On W0 (Own 1 (.slice a n c) n (aL (nU m fr k s))::L) w':=by
 refine qO ?_;have yd:m.length=n:=by have:=(Own.mT h).1;simpa using this
 refine go ?_;refine WL.q (cH rfl rfl) (fun nB=> ?_) (fun nB=> ?_)
 ·
  refine qD ?_;refine qR ?_;have e:ud m fr k=0:=by unfold ud;rw[if_pos (by omega)]
  unfold turns nU;rw[e];exact⟨rfl,h⟩
 refine go ?_;refine WL.q (cH rfl rfl) (fun kY=> ?_) (fun kY=> ?_)
 ·
  refine qD ?_;refine qR ?_;have e:ud m fr k=0:=by unfold ud;rw[if_pos (by omega)]
  unfold turns nU;rw[e];exact⟨rfl,h⟩
 refine qD ?_;refine WL.v (zv rfl rfl (by omega) (by omega)) ?_;refine qI (fun c3=> ?_) (fun c3=> ?_)
 ·
  refine qR ?_;have e:ud m fr k=0:=by unfold ud;rw[if_pos (by omega)]
  unfold turns nU;rw[e];exact⟨rfl,h⟩
 refine W.skip ?_;refine W.seq ?_;refine W.seq ?_;have aA:=Int.eq_ofNat_of_zero_le (show 0≤fr by omega);obtain⟨lo,rfl⟩:=aA;have aA:=Int.eq_ofNat_of_zero_le (show 0≤k by omega);obtain⟨N,rfl⟩:=aA;have hK:ud m (lo:Int) (N:Int)=min N (8*n - lo):=by unfold ud;rw[if_neg (by omega),yd];simp
 refine go ?_;refine W.loop (fun(q:Nat) env w=>∃j,env=eu j [(0,.slice a n c),(1,.int .i64 (lo:Int)),(2,.int .i64 (N:Int)),(3,.bool s),(9,.int .i64 (((jO m lo s q).2:Nat):Int)),(10,.int .i64 ((lo+q:Nat):Int))]∧q≤min N (8*n - lo)∧On W0 (Own 1 (.slice a n c) n (aL (jO m lo s q).1)::L) w) (fun q=>min N (8*n - lo) - q) (0) ?_ ?_
 · exact⟨_,aD ⟨rfl,rfl,rfl,rfl,rfl,rfl,trivial⟩,Nat.zero_le _,h⟩
 rintro q env w ⟨j,rfl,hq,h⟩;have hle:=PD m lo s q;have hlq:=vR m lo s q;refine go ?_;refine WL.v (zv rfl rfl (by omega) (by omega)) ?_;refine qD ?_;refine WL.v (vB rfl rfl) ?_;refine qI (fun ou=> ?_) (fun ou=> ?_)
 ·
  refine qC ?_ (C:=Xr h (aB.cF (v:=.slice a n c)) hn);rintro _ w ⟨hv,h⟩;rw[Gp] at hv;subst hv;refine go ?_;refine WL.v (x9 underlying4 rfl rfl) ?_;refine qI (fun oM=> ?_) (fun oM=> ?_)
  ·
   refine qD ?_;have aA:=Own.addr h (by omega);obtain⟨bq,oq,B9⟩:=aA;subst B9;have aA:∃x,(jO m lo s q).1[(lo+q) / 8]? =some x:=⟨(jO m lo s q).1[(lo+q) / 8]'(by omega),by simp⟩;obtain⟨x,hx⟩:=aA;have PF:=x.toNat_lt;have vJ:1*2^((lo+q) % 8)≤255:=by have:=Nat.pow_le_pow_right (n:=2) (by omega) (show(lo+q) % 8≤7 by omega);omega
   have hxr:=PC x (show(lo+q) % 8<8 by omega);rw[←Nat.one_mul (2^((lo+q) % 8))] at hxr;refine qG fun w h=> ?_;refine X.v (fun _=>(qJ rfl rfl (by omega) (by omega) (by omega))) ?_;refine qD ?_;refine X.lc rfl ((h.aR (v:=.slice (some ⟨bq,oq,none⟩) n c)).elem (i:=(lo+q) / 8) (vs:=[.int .u8 x.toNat]) (by omega) (dJ hx) 0 _ rfl) ?_;refine go ?_;refine X.v (fun _=>(oJ rfl rfl (by omega) (by omega))) ?_;refine X.v (fun _=>(mq (m:=1) (j:=(lo+q) % 8) rfl rfl (by show(lo+q) % 8≤8;omega) (by show _≤(255:Int);omega))) ?_;refine X.v (fun _=>(pR rfl rfl (by show _≤(255:Int);omega) (by show _≤(255:Int);omega) (by show _≤(255:Int);omega))) ?_;refine qD ?_;refine X.e (kS (k:=(lo+q) / 8*1) (v:=.int .u8 _) h sizeOf5 rfl rfl rfl (by omega)) ?_;rintro _ w h;rw[Nat.mul_one,yu hx] at h;refine go ?_;refine WL.v (FH rfl rfl (by omega)) ?_;refine go ?_;refine WL.v (di rfl rfl (by omega) (by omega)) ?_;refine gw ?_;have e:jO m lo s (q+1)=(flip (jO m lo s q).1 (lo+q),(jO m lo s q).2+1):=by conv=>{lhs;unfold jO};rw[if_neg (by intro hh;rw[hh] at oM;simp at oM)]
   exact⟨q+1,⟨_,aD ⟨rfl,rfl,rfl,rfl,(by rw[e];rfl),rfl,trivial⟩,by omega,(by rw[e];exact h)⟩,by show min N (8*n - lo) - (q+1)<min N (8*n - lo) - q;omega⟩
  refine go ?_;refine WL.v (di rfl rfl (by omega) (by omega)) ?_;refine gw ?_;have e:jO m lo s (q+1)=jO m lo s q:=by conv=>{lhs;unfold jO};rw[if_pos (by simpa using oM)]
  exact⟨q+1,⟨_,aD ⟨rfl,rfl,rfl,rfl,(by rw[e];rfl),rfl,trivial⟩,by omega,(by rw[e];exact h)⟩,by show min N (8*n - lo) - (q+1)<min N (8*n - lo) - q;omega⟩
 refine qR ?_;have aA:q=min N (8*n - lo):=by omega
 obtain rfl:=aA;unfold turns nU;rw[hK];exact⟨rfl,h⟩
theorem TZ{fr k:Int}(h:On W0 (Own 1 (.slice a n c) n (aL m)::L) w)(hn:n≤1048576):Cs 397 [.slice a n c,.int .i64 fr,.int .i64 k] w fun v w'=>v=.int .i64 ((turns m fr k true:Nat):Int)∧On W0 (Own 1 (.slice a n c) n (aL (nU m fr k true))::L) w':=by
 refine qO ?_;refine qC ?_ (C:=TY h hn);rintro _ w ⟨rfl,h⟩;refine qR ?_;exact⟨rfl,h⟩
end Go.Proofs.YtcplmndikhjehaaGreat
namespace Go.Sl.zh
open Go Go.Sl Go.Sl.BitM
variable{bs:List UInt8}
def qa(l:List UInt8)(o:Nat)(bs:List UInt8):List UInt8:=l.take o++bs++l.drop (o+bs.length)
theorem sG{l:List UInt8}{o:Nat}(h:o+bs.length≤l.length):(qa l o bs).length=l.length:=by
 simp only[qa,List.length_append,List.length_take,List.length_drop];omega
theorem Gr(l:List UInt8)(o:Nat)(bs:List UInt8):cE (aL l) o (aL bs)=aL (qa l o bs):=by
 simp[cE,qa,aL,List.map_take,List.map_drop]
theorem Gt{l:List UInt8}{o:Nat}(h:o+bs.length≤l.length)(j:Nat):(qa l o bs)[j]? =if o≤j∧j<o+bs.length then bs[j - o]? else l[j]? :=by
 unfold qa;simp only[List.getElem?_append,List.getElem?_take,List.getElem?_drop,List.length_append,List.length_take];by_cases h1:j<o
 · rw[if_pos (by omega),if_pos (by omega),if_pos h1,if_neg (by omega)]
 by_cases h2:j<o+bs.length
 · rw[if_pos (by omega),if_neg (by omega),if_pos (by omega)]
   congr 1;omega
 rw[if_neg (by omega),if_neg (by omega)]
 congr 1;omega
theorem AY(l:List UInt8)(o:Nat):qa l o []=l:=by simp[qa]
structure Sp where
 N:Nat
 d:List UInt8
 m:List UInt8
def sH(n:Nat):Sp:=⟨n,List.replicate (8*n) 0,List.replicate ((n+7) / 8) 0⟩
def BT(s:Sp)(at_ n:Int):Prop:=0≤n∧n≤32∧0≤at_∧at_≤s.N∧n≤s.N - at_
instance(s:Sp)(at_ n:Int):Decidable (BT s at_ n):=by unfold BT;exact inferInstance
def fh(s:Sp)(at_:Nat)(bs:List UInt8):Sp:=⟨s.N,qa s.d (8*at_) bs,nU s.m at_ ((bs.length / 8:Nat):Int) true⟩
def Xs(s:Sp)(at_ n:Nat):Sp:=⟨s.N,qa s.d (8*at_) (List.replicate (8*n) 0),nU s.m at_ n false⟩
def bH(s:Sp)(at_ n:Nat):List UInt8:=(s.d.drop (8*at_)).take (8*n)
def Fz(s:Sp):Prop:=s.d.length=8*s.N∧1≤s.N∧s.N≤1024∧s.m.length=(s.N+7) / 8
def mR(T b:Nat)(s:Sp):aC:=Ex fun(x:Nat×Nat×Nat×Option Addr×Nat)=>Pack (Fz s)
 [aX b [.int .i64 (s.N : Int), .slice (some ⟨x.1, x.2.1, none⟩) (8 * s.N) x.2.2.1, .slice x.2.2.2.1 s.m.length x.2.2.2.2] T,
  Own 1 (.slice (some ⟨x.1, x.2.1, none⟩) (8 * s.N) x.2.2.1) (8 * s.N) (aL s.d), Own 1 (.slice x.2.2.2.1 s.m.length x.2.2.2.2) s.m.length (aL s.m)]
section
variable{W0 w:World}{L:List aC}{T b:Nat}{s:Sp}
theorem mC (H : On W0 (mR T b s :: L) w) : ∃ gd od cd am cm, Fz s ∧ On W0 (aX b [.int .i64 (s.N : Int), .slice (some ⟨gd, od, none⟩) (8 * s.N) cd, .slice am s.m.length cm] T :: Own 1 (.slice (some ⟨gd, od, none⟩) (8 * s.N) cd) (8 * s.N) (aL s.d) ::
   Own 1 (.slice am s.m.length cm) s.m.length (aL s.m) :: L) w := by
 obtain⟨⟨gd,od,cd,am,cm⟩,H⟩:=H.ex;obtain⟨h1,H⟩:=H.unpack;exact⟨gd,od,cd,am,cm,h1,H⟩
theorem fX {gd od cd : Nat} {am : Option Addr} {cm : Nat} (h1 : Fz s) (H : On W0 (aX b [.int .i64 (s.N : Int), .slice (some ⟨gd, od, none⟩) (8 * s.N) cd, .slice am s.m.length cm] T :: Own 1 (.slice (some ⟨gd, od, none⟩) (8 * s.N) cd) (8 * s.N) (aL s.d) ::
   Own 1 (.slice am s.m.length cm) s.m.length (aL s.m) :: L) w) : On W0 (mR T b s :: L) w := On.rT (gd, od, cd, am, cm) (On.pack h1 H)
end
theorem zH{n:Nat}(h1:1≤n)(h2:n≤1024):Fz (sH n):=⟨by simp[sH],h1,h2,by simp[sH]⟩
theorem Dh{s:Sp}{at_:Nat}(h:Fz s)(hb:8*at_+bs.length≤8*s.N):Fz (fh s at_ bs):=by
 obtain⟨h1,h2,h3,h4⟩:=h;exact⟨by show(qa _ _ _).length=_;rw[sG (by omega)];exact h1,h2,h3,by show(nU _ _ _ _).length=_;rw[ue];exact h4⟩
end Go.Sl.zh
namespace Go.Proofs.YtcplmndikhjehaaGreat
open Go.Proofs.Tryz
open Go Go.Sl Go.Sl.BitM Go.Sl.zh
set_option maxHeartbeats 4000000
set_option maxRecDepth 8000
variable{at_ n:Int}{b:Nat}
variable{W0 w:World}{L F:List aC}
theorem T0{N:Nat}{cs:List Value}{e:Nat}{fr:Nat×Nat}(hN:N≤1024)(h:On W0 L w)[dQ L b (.int .i64 (N:Int)::cs) e fr]:
   Cs 383 [b,.int .i64 at_,.int .i64 n] w fun v w'=>((v=.bool true∧0≤n∧n≤32∧0≤at_∧at_≤N∧n≤N - at_)∨(v=.bool false∧¬(0≤n∧n≤32∧0≤at_∧at_≤N∧n≤N - at_)))∧On W0 L w':=by
 refine qO ?_;refine go ?_;refine WL.q (eA rfl rfl) (fun c8=> ?_) (fun c8=> ?_)
 ·
  refine go ?_;refine WL.q (jR rfl rfl) (fun ou=> ?_) (fun ou=> ?_)
  ·
   refine qN ?_;refine WL.q (eA rfl rfl) (fun kY=> ?_) (fun kY=> ?_)
   ·
    refine qN ?_;refine WL.q (jR rfl rfl) (fun wX=> ?_) (fun wX=> ?_)
    ·
     refine qN ?_;refine WL.v (iq rfl rfl (by omega) (by omega)) ?_;refine WL.q (jR rfl rfl) (fun rO=> ?_) (fun rO=> ?_)
     · refine qR ?_;exact⟨.inl ⟨rfl,by omega,by omega,by omega,by omega,by omega⟩,h⟩
     refine qR ?_;exact⟨.inr ⟨rfl,by omega⟩,h⟩
    refine qR ?_;exact⟨.inr ⟨rfl,by omega⟩,h⟩
   refine qR ?_;exact⟨.inr ⟨rfl,by omega⟩,h⟩
  refine qR ?_;exact⟨.inr ⟨rfl,by omega⟩,h⟩
 refine qR ?_;exact⟨.inr ⟨rfl,by omega⟩,h⟩
theorem Ez{gd od cd N at_ n:Nat}{c0:Value}{cs:List Value}{e:Nat}{fr:Nat×Nat}(hN:N≤1024)(hb:at_+n≤N)(hc:8*N≤cd)(h:On W0 L w)[dQ L b (c0:: .slice (some ⟨gd,od,none⟩) (8*N) cd::cs) e fr]:
   Cs 255 [b,.int .i64 (at_:Int),.int .i64 (n:Int)] w fun v w'=>v=sliced (some ⟨gd,od,none⟩) (at_*8) ((at_+n)*8) cd 1∧On W0 L w':=by
 refine qO ?_;refine go ?_;refine WL.v (dr (m:=at_) (n:=8) rfl rfl (by omega)) ?_;refine qN ?_;refine WL.v (dr (m:=at_+n) (n:=8) rfl rfl (by omega)) ?_;refine WL.v (tj underlying28 sizeOf5 rfl rfl rfl (by omega) (by omega)) ?_;refine qR ?_;exact⟨rfl,h⟩
theorem AZ {s : Sp} {ax : Option Addr} {cx : Nat} {bs : List UInt8} (h : On W0 (mR 321 b s :: L) w) (C : aB L (Bytes (.slice ax bs.length cx) bs)) : Calls Tryz.prog 385 #[b, .int .i64 at_, .slice ax bs.length cx] w (wU fun v w' =>
   (∃ p : Nat, at_ = p ∧ bs.length % 8 = 0 ∧ p + bs.length / 8 ≤ s.N ∧ bs.length / 8 ≤ 32 ∧ v = .int .i64 0 ∧ On W0 (mR 321 b (fh s p bs) :: L) w') ∨ (¬ (bs.length % 8 = 0 ∧ BT s at_ ((bs.length / 8 : Nat) : Int)) ∧ v = .int .i64 1 ∧ On W0 (mR 321 b s :: L) w')) := by
 refine qO ?_;have aA:=mC h;obtain⟨gd,od,cd,am,cm,hw,h⟩:=aA;have vi:=hw;obtain⟨IA,NQ,Gu,Jh⟩:=hw;have aA:=Own.bounds h.p1;obtain⟨hdc,hdm⟩:=aA;have aA:=(h.aO C).bounds;obtain⟨hxc,hxm⟩:=aA;have fH:=aG;refine go ?_;refine WL.v (qJ rfl rfl (by omega) (by omega) (by omega)) ?_;refine go ?_;refine WL.v (oJ rfl rfl (by omega) (by omega)) ?_;refine WL.q (e7 rfl rfl) (fun pW=> ?_) (fun pW=> ?_)
 · refine qD ?_;refine qR ?_;exact .inr ⟨by omega,rfl,fX vi h⟩
 refine qC ?_ (C:=T0 (n:=((bs.length / 8:Nat):Int)) Gu h);rintro _ w ⟨hv,h⟩;rcases hv with⟨rfl,hi⟩|⟨rfl,hi⟩
 ·
  refine WL.v (cQ rfl) ?_;refine WL.pf ?_;refine go ?_;refine W.cs ?_;refine W.seq ?_;have aA:=Int.eq_ofNat_of_zero_le (show 0≤at_ by omega);obtain⟨p,rfl⟩:=aA;have aA:∃q,bs.length=8*q:=⟨bs.length / 8,by omega⟩;obtain⟨q,Xt⟩:=aA;have aA:=sd (b:=gd) (o:=od) (show p*8≤(p+bs.length / 8)*8 by omega) (show(p+bs.length / 8)*8≤cd by omega);obtain⟨lo,Sr,Xu⟩:=aA;refine qC ?_ (C:=Ez (at_:=p) (n:=bs.length / 8) Gu (by omega) hdc h);rintro _ w ⟨rfl,h⟩;refine go ?_;refine WL.e (Am h.p1 Sr rfl (h.aO C) rfl underlying28 sizeOf5 (by omega) cR) ?_;rintro _ w ⟨_,h⟩
  have hov:cE (aL s.d) lo ((aL bs).take (min bs.length ((p+bs.length / 8)*8 - p*8)))=aL (fh s p bs).d:=by
    rw[List.take_of_length_le (by simp;omega),Gr];rcases Xu with rfl|⟨h0,rfl⟩
    · rw[Nat.mul_comm];rfl
    have aA:bs=[]:=List.eq_nil_of_length_eq_zero (by omega);obtain rfl:=aA;show aL (qa s.d 0 [])=aL (qa s.d (8*p) []);rw[AY,AY]
  rw[hov] at h;refine qC ?_ (C:=TZ (k:=((bs.length / 8:Nat):Int)) h.p2 (by omega));rintro _ w ⟨_,h⟩;refine qR ?_;refine .inl ⟨p,rfl,by omega,by omega,by omega,rfl, ?_⟩;have Ji:=Dh (at_:=p) (bs:=bs) vi (by omega);have yd:(fh s p bs).m.length=s.m.length:=ue ..;refine fX (cd:=cd) (cm:=cm) (gd:=gd) (od:=od) (am:=am) Ji ?_;rw[yd];show On W0 (aX b [.int .i64 (s.N:Int),.slice (some ⟨gd,od,none⟩) (8*s.N) cd,.slice am s.m.length cm] 321::Own 1 (.slice (some ⟨gd,od,none⟩) (8*s.N) cd) (8*s.N) (aL (fh s p bs).d)::Own 1 (.slice am s.m.length cm) s.m.length (aL (nU s.m p ((bs.length / 8:Nat):Int) true))::L) w;exact h.to
 refine qD ?_;refine qR ?_;exact .inr ⟨fun hh=>hi hh.2,rfl,fX vi h⟩
theorem MO {s : Sp} (h : On W0 (mR 321 b s :: L) w) : Calls Tryz.prog 384 #[b, .int .i64 at_, .int .i64 n] w (wU fun v w' =>
   (∃ p q : Nat, at_ = p ∧ n = q ∧ p + q ≤ s.N ∧ q ≤ 32 ∧ ∃ a, v = .tuple #[.slice a (bH s p q).length (bH s p q).length, .int .i64 0] ∧ On W0 (bC (.slice a (bH s p q).length (bH s p q).length) (bH s p q) :: mR 321 b s :: L) w') ∨ (¬ BT s at_ n ∧ v = .tuple #[.slice none 0 0, .int .i64 1] ∧ On W0 (mR 321 b s :: L) w')) := by
 refine qO ?_;have aA:=mC h;obtain⟨gd,od,cd,am,cm,hw,h⟩:=aA;have vi:=hw;obtain⟨IA,NQ,Gu,Jh⟩:=hw;have aA:=Own.bounds h.p1;obtain⟨hdc,hdm⟩:=aA;refine qC ?_ (C:=T0 Gu h);rintro _ w ⟨hv,h⟩;rcases hv with⟨rfl,hi⟩|⟨rfl,hi⟩
 ·
  refine WL.v (cQ rfl) ?_;refine go ?_;refine W.cs ?_;refine W.seq ?_;have aA:=Int.eq_ofNat_of_zero_le (show 0≤at_ by omega);obtain⟨p,rfl⟩:=aA;have aA:=Int.eq_ofNat_of_zero_le (show 0≤n by omega);obtain⟨q,rfl⟩:=aA;have aA:=sd (b:=gd) (o:=od) (show p*8≤(p+q)*8 by omega) (show(p+q)*8≤cd by omega);obtain⟨lo,Sr,Xu⟩:=aA;have ja:(bH s p q).length=(p+q)*8 - p*8:=by unfold bH;rw[List.length_take,List.length_drop];omega
  refine qC ?_ (C:=Ez (at_:=p) (n:=q) Gu (by omega) hdc h);rintro _ w ⟨hv,h⟩;rw[Sr,←ja] at hv;subst hv
  have CP:∀L':List aC,aB L' (Cells 1 (.slice (some ⟨gd,od,none⟩) (8*s.N) cd) (8*s.N) (aL s.d))→aB L' (Bytes (.slice (some ⟨gd,od+lo,none⟩) (bH s p q).length (cd - p*8)) (bH s p q)):=fun L' gg hh H=>by
    have c1:=(gg hh H).cut (l:=p*8) (h:=(p+q)*8) (m:=cd) (by omega) (by omega) (by omega) (by omega);rw[Sr,←ja] at c1
    have e1:((aL s.d).drop (p*8*1)).take ((bH s p q).length*1)=aL (bH s p q):=by
      rw[ja,Nat.mul_one,Nat.mul_one];unfold bH aL;rw[List.map_take,List.map_drop,Nat.mul_comm p 8,show(p+q)*8 - 8*p=8*q by omega]
    rw[e1] at c1;exact c1
  refine qC ?_ (C:=bG h (CP _ (aB.cF (v:=.slice (some ⟨gd,od,none⟩) (8*s.N) cd))) (by omega));rintro _ w ⟨a,c,rfl,h⟩;refine qC ?_ (C:=cU h);rintro _ w ⟨rfl,h⟩;refine qR ?_;exact .inl ⟨p,q,rfl,rfl,by omega,by omega,a,rfl,(fX vi h.p3.p3.p3).p1⟩
 refine qD ?_;refine qR ?_;exact .inr ⟨hi,rfl,fX vi h⟩
theorem T2(h:On W0 L w):Cs 120 [.int .i64 n] w fun v w'=>(∃N:Nat,n=N∧1≤N∧N≤1024∧∃b,v=.tuple #[.pointer (some ⟨b,0,none⟩),.int .i64 0]∧On W0 (mR 321 b (sH N)::L) w')∨(¬(1≤n∧n≤1024)∧v=.tuple #[.pointer none,.int .i64 1]∧On W0 L w'):=by
 refine qO ?_;have fH:=aG;refine go ?_;refine WL.q (cH rfl rfl) (fun c5=> ?_) (fun c5=> ?_)
 · refine qD ?_;refine qR ?_;exact .inr ⟨by omega,rfl,h⟩
 refine qI (fun c2=> ?_) (fun c2=> ?_)
 · refine qR ?_;exact .inr ⟨by omega,rfl,h⟩
 refine qD ?_;have aA:=Int.eq_ofNat_of_zero_le (show 0≤n by omega);obtain⟨N,rfl⟩:=aA;have zD:zg (N:Int)=List.replicate ((N+7) / 8) 0:=by unfold zg;rw[if_neg (by omega)];simp
 refine qT fun w h=> ?_;refine WT.p 2 rfl (fun w'=>(zv rfl rfl (by omega) (by omega))) ?_;refine WT.m 4 rfl ?_;refine WT.two 3 5 (by kernel_rfl) ?_ ?_
 ·
  refine WT.ju 3 [] rfl (by kernel_rfl) (kR (n:=8*N) (bytes:=1) h (by show Value.int .i64 ((N:Int)*8)=_;congr 1;omega) (by show Value.int .i64 ((N:Int)*8)=_;congr 1;omega) underlying28 rfl rfl rfl rfl rfl (by omega) (by omega)) rfl rfl ?_;rintro _ w ⟨C6,rfl,h⟩;refine⟨trivial, ?_⟩;refine WT.e 5 [] rfl (ag call187 (KJ h)) ?_;rintro _ w ⟨am,cm,hv,h⟩;rw[zD] at hv h;subst hv;refine⟨trivial, ?_⟩;refine WT.p 6 rfl (fun w'=>(aP (pl:=[(0,1),(1,1),(2,1)]) (out:=[.int .i64 _,.slice _ _ _,.slice _ _ _]) underlying321 zeroValue321 (fun w=>by kernel_rfl) rfl fz rfl)) ?_;refine WT.e 7 [] rfl (fc h rfl rfl) ?_;rintro _ w ⟨B7,rfl,h⟩;refine⟨trivial, ?_⟩;refine qU ?_;refine qR ?_;refine .inl ⟨N,rfl,by omega,by omega,B7,rfl,fX (gd:=C6) (od:=0) (cd:=8*N) (am:=am) (cm:=cm) (zH (by omega) (by omega)) ?_⟩;have e1:aL (List.replicate (8*N) 0)=List.replicate (8*N) (.int .u8 0):=by simp[aL,tY]
  show On W0 (aX B7 [.int .i64 (N:Int),.slice (some ⟨C6,0,none⟩) (8*N) (8*N),.slice am (List.replicate ((N+7) / 8) (0:UInt8)).length cm] 321::Own 1 (.slice (some ⟨C6,0,none⟩) (8*N) (8*N)) (8*N) (aL (List.replicate (8*N) 0))::Own 1 (.slice am (List.replicate ((N+7) / 8) (0:UInt8)).length cm) (List.replicate ((N+7) / 8) (0:UInt8)).length (aL (List.replicate ((N+7) / 8) 0))::L) w;rw[e1];exact h.to
 refine WT.ju 5 [] rfl (by kernel_rfl) (ag call187 (KJ h)) rfl rfl ?_;rintro _ w ⟨am,cm,hv,h⟩;rw[zD] at hv h;subst hv;refine⟨trivial, ?_⟩;refine WT.e 3 [] rfl (kR (n:=8*N) (bytes:=1) h (by show Value.int .i64 ((N:Int)*8)=_;congr 1;omega) (by show Value.int .i64 ((N:Int)*8)=_;congr 1;omega) underlying28 rfl rfl rfl rfl rfl (by omega) (by omega)) ?_;rintro _ w ⟨C6,rfl,h⟩;refine⟨trivial, ?_⟩;refine WT.p 6 rfl (fun w'=>(aP (pl:=[(0,1),(1,1),(2,1)]) (out:=[.int .i64 _,.slice _ _ _,.slice _ _ _]) underlying321 zeroValue321 (fun w=>by kernel_rfl) rfl fz rfl)) ?_;refine WT.e 7 [] rfl (fc h rfl rfl) ?_;rintro _ w ⟨B7,rfl,h⟩;refine⟨trivial, ?_⟩;refine qU ?_;refine qR ?_;refine .inl ⟨N,rfl,by omega,by omega,B7,rfl,fX (gd:=C6) (od:=0) (cd:=8*N) (am:=am) (cm:=cm) (zH (by omega) (by omega)) ?_⟩;have e1:aL (List.replicate (8*N) 0)=List.replicate (8*N) (.int .u8 0):=by simp[aL,tY]
 show On W0 (aX B7 [.int .i64 (N:Int),.slice (some ⟨C6,0,none⟩) (8*N) (8*N),.slice am (List.replicate ((N+7) / 8) (0:UInt8)).length cm] 321::Own 1 (.slice (some ⟨C6,0,none⟩) (8*N) (8*N)) (8*N) (aL (List.replicate (8*N) 0))::Own 1 (.slice am (List.replicate ((N+7) / 8) (0:UInt8)).length cm) (List.replicate ((N+7) / 8) (0:UInt8)).length (aL (List.replicate ((N+7) / 8) 0))::L) w;rw[e1];exact h.to
end Go.Proofs.YtcplmndikhjehaaGreat
namespace Go.Sl.zh
open Go Go.Sl Go.Sl.BitM
theorem vS{s:Sp}{p q:Nat}(hw:Fz s)(h:p+q≤s.N):(bH s p q).length=8*q:=by
 obtain⟨h1,_⟩:=hw;unfold bH;rw[List.length_take,List.length_drop];omega
theorem Di{xs ys:List UInt8}{k:Nat}(h:∀j,j<k→xs[j]? =ys[j]?)(hx:xs.length=k):xs=ys.take k:=by
 apply List.ext_getElem?;intro j;rw[List.getElem?_take];by_cases hj:j<k
 · rw[if_pos hj,h j hj]
 rw[if_neg hj,List.getElem?_eq_none (by omega)]
end Go.Sl.zh
namespace Go.Proofs.YtcplmndikhjehaaGreat
open Go.Proofs.Tryz
open Go Go.Sl Go.Sl.BitM Go.Sl.zh
set_option maxHeartbeats 4000000
set_option maxRecDepth 8000
variable{W0 w:World}{L F:List aC}
theorem lR{a:Option Addr}{c:Nat}{bs:List UInt8}{k:Nat}(C:aB L (Bytes (.slice a bs.length c) bs))(hk:k≤bs.length)(hc:bs.length≤c):
   ∃a' c',sliced a k bs.length c 1=.slice a' (bs.drop k).length c'∧aB L (Bytes (.slice a' (bs.drop k).length c') (bs.drop k)):=by
 refine⟨if c=k then a else a.map (·.add (k*1)),c - k,by rw[List.length_drop];rfl,fun h H=> ?_⟩;have c1:=(C h H).cut hk (Nat.le_refl _) hc (Nat.le_refl _)
 have e1:((aL bs).drop (k*1)).take ((bs.length - k)*1)=aL (bs.drop k):=by
   rw[Nat.mul_one,Nat.mul_one,List.take_of_length_le (by simp)];simp[aL,List.map_drop]
 rw[e1] at c1;have e2:sliced a k bs.length c 1=.slice (if c=k then a else a.map (·.add (k*1))) (bs.drop k).length (c - k):=by rw[List.length_drop];rfl
 rw[e2] at c1;rw[←List.length_drop] at c1;exact c1
theorem Jj {b : Nat} {s : Sp} {at_ : Int} {ax : Option Addr} {cx : Nat} {bs : List UInt8} (h : On W0 (mR 321 b s :: L) w) (C : aB L (Bytes (.slice ax bs.length cx) bs)) : Calls Tryz.prog 387 #[b, .int .i64 at_, .slice ax bs.length cx] w (wU fun v w' =>
   (∃ p q : Nat, at_ = p ∧ bs.length = 16 * q ∧ p + q ≤ s.N ∧ q ≤ 32 ∧
     ((bH s p q = bs.take (8 * q) ∧ v = .tuple #[.int .i64 (-1), .int .i64 0] ∧ On W0 (mR 321 b (fh s p (bs.drop (8 * q))) :: L) w') ∨
      (∃ i : Nat, i < 8 * q ∧ (bH s p q)[i]? ≠ bs[i]? ∧ (∀ j, j < i → (bH s p q)[j]? = bs[j]?) ∧ v = .tuple #[.int .i64 (i : Int), .int .i64 0] ∧ On W0 (mR 321 b s :: L) w'))) ∨
   (¬ (bs.length % 16 = 0 ∧ BT s at_ ((bs.length / 8 / 2 : Nat) : Int)) ∧ v = .tuple #[.int .i64 0, .int .i64 1] ∧ On W0 (mR 321 b s :: L) w')) := by
 refine qO ?_;have aA:=mC h;obtain⟨gd,od,cd,am,cm,hw,h⟩:=aA;have vi:=hw;obtain⟨IA,NQ,Gu,Jh⟩:=hw;have aA:=Own.bounds h.p1;obtain⟨hdc,hdm⟩:=aA;have aA:=(h.aO C).bounds;obtain⟨hxc,hxm⟩:=aA;have fH:=aG;refine go ?_;refine WL.v (qJ rfl rfl (by omega) (by omega) (by omega)) ?_;refine WL.v (qJ rfl rfl (by omega) (by omega) (by omega)) ?_;refine go ?_;refine WL.v (oJ rfl rfl (by omega) (by omega)) ?_;refine WL.q (e7 rfl rfl) (fun C4=> ?_) (fun C4=> ?_)
 · refine qD ?_;refine qR ?_;exact .inr ⟨by omega,rfl,fX vi h⟩
 refine qC ?_ (C:=T0 (n:=((bs.length / 8 / 2:Nat):Int)) Gu h);rintro _ w ⟨hv,h⟩;rcases hv with⟨rfl,hi⟩|⟨rfl,hi⟩
 ·
  refine WL.v (cQ rfl) ?_;refine WL.pf ?_;refine go ?_;refine W.cs ?_;refine W.seq ?_;refine W.seq ?_;have aA:=Int.eq_ofNat_of_zero_le (show 0≤at_ by omega);obtain⟨p,rfl⟩:=aA;have aA:∃q,bs.length=16*q:=⟨bs.length / 16,by omega⟩;obtain⟨q,Xt⟩:=aA;have TD:bs.length / 8 / 2=q:=by omega
  rw[TD] at hi;have aA:=sd (b:=gd) (o:=od) (show p*8≤(p+q)*8 by omega) (show(p+q)*8≤cd by omega);obtain⟨lo,Sr,Xu⟩:=aA;have ja:(bH s p q).length=(p+q)*8 - p*8:=by unfold bH;rw[List.length_take,List.length_drop];omega
  refine qC ?_ (C:=Ez (at_:=p) (n:=bs.length / 8 / 2) Gu (by omega) hdc h);rintro _ w ⟨hv,h⟩;rw[TD,Sr,←ja] at hv;subst hv
  have CP:∀L':List aC,aB L' (Cells 1 (.slice (some ⟨gd,od,none⟩) (8*s.N) cd) (8*s.N) (aL s.d))→aB L' (Bytes (.slice (some ⟨gd,od+lo,none⟩) (bH s p q).length (cd - p*8)) (bH s p q)):=fun L' gg hh H=>by
    have c1:=(gg hh H).cut (l:=p*8) (h:=(p+q)*8) (m:=cd) (by omega) (by omega) (by omega) (by omega);rw[Sr,←ja] at c1
    have e1:((aL s.d).drop (p*8*1)).take ((bH s p q).length*1)=aL (bH s p q):=by
      rw[ja,Nat.mul_one,Nat.mul_one];unfold bH aL;rw[List.map_take,List.map_drop,Nat.mul_comm p 8,show(p+q)*8 - 8*p=8*q by omega]
    rw[e1] at c1;exact c1
  refine go ?_;refine W.loop (fun(k:Nat) env w=>∃j,env=eu j [(0,b),(1,.int .i64 (p:Int)),(2,.slice ax bs.length cx),(8,.int .i64 (q:Int)),(29,.slice (some ⟨gd,od+lo,none⟩) (bH s p q).length (cd - p*8)),(30,.int .i64 (((bH s p q).length:Nat):Int)),(31,.int .i64 (k:Int))]∧k≤(bH s p q).length∧(∀j,j<k→(bH s p q)[j]? =bs[j]?)∧On W0 (aX b [.int .i64 (s.N:Int),.slice (some ⟨gd,od,none⟩) (8*s.N) cd,.slice am s.m.length cm] 321::Own 1 (.slice (some ⟨gd,od,none⟩) (8*s.N) cd) (8*s.N) (aL s.d)::Own 1 (.slice am s.m.length cm) s.m.length (aL s.m)::L) w) (fun k=>(bH s p q).length - k) (0) ?_ ?_
  · exact⟨_,aD ⟨rfl,rfl,rfl,(by show Value.int .i64 ((bs.length / 8 / 2:Nat):Int)=_;rw[TD]),rfl,rfl,rfl,trivial⟩,Nat.zero_le _,(fun j hj=>by omega),h⟩
  rintro k env w ⟨j,rfl,hk,vT,h⟩;refine qI (fun ou=> ?_) (fun ou=> ?_)
  ·
   refine W.skip ?_;refine W.seq ?_;refine W.block ?_;refine W.seq ?_;have aA:∃x,(bH s p q)[k]? =some x:=⟨(bH s p q)[k]'(by omega),by simp⟩;obtain⟨x,hx⟩:=aA;have aA:∃y,bs[k]? =some y:=⟨bs[k]'(by omega),by simp⟩;obtain⟨y,hy⟩:=aA;have aA:=(h.aO C).addr (by omega);obtain⟨bx,ox,rfl⟩:=aA;refine qD ?_;refine WL.l isAgg5 rfl ((CP _ (aB.cF (v:=.slice (some ⟨gd,od,none⟩) (8*s.N) cd)) _ h.sat).elem (i:=k) (vs:=[.int .u8 x.toNat]) (by omega) (dJ hx) 0 _ rfl) ?_;refine qD ?_;refine WL.l isAgg5 rfl ((h.aO C).elem (i:=k) (vs:=[.int .u8 y.toNat]) (by omega) (dJ hy) 0 _ rfl) ?_;refine qI (fun tq=> ?_) (fun tq=> ?_)
   · refine qR ?_;refine .inl ⟨p,q,rfl,Xt,by omega,by omega,.inr ⟨k,by omega, ?_,vT,rfl,fX vi h⟩⟩;rw[hx,hy];intro hh;simp only[Option.some.injEq] at hh;subst hh;exact tq rfl
   refine qD ?_
   exact ⟨k + 1, ⟨_, aD ⟨rfl, rfl, rfl, rfl, rfl, rfl, rfl, trivial⟩, by omega, (fun j hj => by
     by_cases SW:j=k
     · subst SW;rw[hx,hy];congr 1;exact UInt8.toNat_inj.1 (by omega)
     exact vT j (by omega)), h⟩, by show (bH s p q).length - (k + 1) < (bH s p q).length - k; omega⟩
  refine W.exit ?_;refine W.seq ?_
  have ny:bH s p q=bs.take (8*q):=by
    have:=Di (k:=8*q) (fun j hj=>vT j (by omega)) (by omega);exact this
  have aA:=lR (k:=q*8) C (by omega) hxc;obtain⟨a',c',eY,CC⟩:=aA;rw[Nat.mul_comm q 8] at CC;rw[show(bs.drop (q*8)).length=(bs.drop (8*q)).length by rw[Nat.mul_comm]] at eY;refine go ?_;refine WL.v (dr (m:=q) (n:=8) rfl rfl (by omega)) ?_;refine WL.v (iP underlying28 sizeOf5 rfl rfl (by omega) eY) ?_;refine WL.e (ag call385 (AZ (fX vi h) CC)) ?_;rintro _ w hv;rcases hv with⟨p',WM,Ek,Ia,yw,rfl,h⟩|⟨dX,rfl,h⟩;rotate_left
  · exfalso
    refine dX ⟨by rw[List.length_drop];omega, ?_⟩;rw[List.length_drop];unfold BT;omega
  have aA:p=p':=by omega
  obtain rfl:=aA;refine qR ?_;exact .inl ⟨p,q,rfl,Xt,by omega,by omega,.inl ⟨ny,rfl,h⟩⟩
 refine qD ?_;refine qR ?_;exact .inr ⟨fun hh=>hi hh.2,rfl,fX vi h⟩
end Go.Proofs.YtcplmndikhjehaaGreat
namespace Go.Sl.uf
open Go Go.Sl
structure Tb where
 K:Nat→Int
 hold:Int
 cz:Int
 gen:Int
def Tb.cells(t:Tb):List Value:=[.int .u64 (t.K 0),.int .u64 (t.K 1),.int .u64 (t.K 2),.int .u64 (t.K 3),.int .u64 (t.K 4),.int .u64 (t.K 5),.int .u64 (t.K 6),.int .u64 (t.K 7),.int .i64 t.hold,.int .i64 t.cz,.int .u32 t.gen]
def Tb.put(t:Tb)(i:Nat)(x:Int):Tb:={t with K:=fun j=>if j=i then x else t.K j}
def rep(s k c:Int):Value:=.agg #[.int .i64 s,.int .i64 k,.int .i64 c,.slice none 0 0,.int .i64 0]
def rF(h:Int):Bool:=decide (0≤h)&&decide (h<8)
theorem nJ{h:Int}:rF h=true↔0≤h∧h<8:=by simp[rF]
theorem vU{h:Int}:rF h=false↔¬(0≤h∧h<8):=by rw[←Bool.not_eq_true,nJ]
def EA(y:Int):Bool:=decide (y=1)||(decide (y=3)||(decide (y=5)||decide (y=6)))
def Tb.PG(t:Tb):Bool:=decide (t.cz=5)||decide (t.cz=6)
def Jk(K:Nat→Int)(h:Int)(p:Int→Bool)(n:Nat):List Nat:=(List.range n).filter fun i=> !(decide ((i:Int)=h))&&(!decide (K i=0)&&p (K i))
def Tb.V3(t:Tb):Tb:={t with hold:= -1,cz:=0}
def Tb.told(t:Tb)(h:Int):List Nat:=if t.PG then Jk t.K h (fun _=>true) 8 else[]
def Tb.inc(t:Tb):Tb:={t with gen:=IntKind.u32.wrap (t.gen+1)}
end Go.Sl.uf
namespace Go.Sl.uf
open Go Go.Sl
def Gv:Tb:=⟨fun _=>0,-1,0,0⟩
def Tb.take(t:Tb)(h cz:Int):Tb:={t with hold:=h,cz:=cz}
def Tb.T4(t:Tb):Tb:={t.inc with K:=fun _=>0,hold:= -1,cz:=0}
def abz(t:Tb)(i:Nat)(fresh:Int):List Nat×Tb:=if fresh=0∧t.hold=(i:Int) then(t.told i,t.inc.V3.put i fresh) else([],t.inc.put i fresh)
def abA(t:Tb)(hh:Int):Prop:=t.hold= -1∨t.hold=hh∨(t.PG=true∧∃i:Nat,hh=i∧i<8∧t.K i≠0)
def A1(t:Tb)(hh kind:Int):Prop:=abA t hh∨((kind=1∨kind=2)∧(t.cz=1∨t.cz=5))∨¬(1≤kind∧kind≤6)
def zer(t:Tb)(l:List Nat):Tb:={t with K:=fun j=>if j∈l then 0 else t.K j}
def EB(t:Tb)(hh other:Int):Prop:=t.hold≠ -1∧t.hold≠hh∧t.K t.hold.toNat=other
instance(t:Tb)(hh other:Int):Decidable (EB t hh other):=by unfold EB;exact inferInstance
def Xv(t:Tb)(hh other:Int):List Nat:=Jk t.K hh (fun k=>decide (k=other)) 8
def abB(t:Tb)(hh other cz:Int):Tb:=(if EB t hh other then t.take hh cz else t).inc
def agu(t:Tb)(hh other cz:Int):Tb:=zer (abB t hh other cz) (Xv t hh other)
theorem pT{α:Type}{l:List α}{q:Nat}{x:α}(h:l[q]? =some x):l.take (q+1)=l.take q++[x]:=by
 rw[List.take_add_one,h];rfl
end Go.Sl.uf
namespace Go.Sl.uf
open Go Go.Sl
def inv(t:Tb):Prop:=(t.hold= -1∧t.cz=0)∨(0≤t.hold∧t.hold<8∧t.K t.hold.toNat≠0∧EA t.cz=true)
structure Act where
 op:Int
 host:Int
 key:Int
 other:Int
 cz:Int
end Go.Sl.uf
namespace Go.Sl.uf
open Go Go.Sl
end Go.Sl.uf
namespace Go.Sl.uf
open Go Go.Sl
end Go.Sl.uf
namespace Go.Sl.uf
open Go Go.Sl
end Go.Sl.uf
namespace Go.Sl.gW
open Go Go.Sl Go.Sl.BitM Go.Sl.zh Go.Sl.uf Go.Sl.eM
variable{k:Nat}
structure Rp where
 st:Int
 key:Int
 code:Int
 data:List UInt8
 info:Int
deriving DecidableEq
def Rp.val(r:Rp)(dv:Value):Value:=.agg #[.int .i64 r.st,.int .i64 r.key,.int .i64 r.code,dv,.int .i64 r.info]
def Rp.cells(r:Rp)(dv:Value):List Value:=[.int .i64 r.st,.int .i64 r.key,.int .i64 r.code,dv,.int .i64 r.info]
def plain(s k c:Int):Rp:=⟨s,k,c,[],0⟩
def A3(bs:List UInt8):Rp:=⟨0,0,0,bs,0⟩
structure Cm where
 kind:Int
 at_:Int
 n:Int
 data:List UInt8
 key:Int
 new:Int
 cz:Int
 force:Bool
def Cm.cells(c:Cm)(dv:Value):List Value:=[.int .i64 c.kind,.int .i64 c.at_,.int .i64 c.n,dv,.int .u64 c.key,.int .u64 c.new,.int .i64 c.cz,.bool c.force]
def Cm.val(c:Cm)(dv:Value):Value:=.agg #[.int .i64 c.kind,.int .i64 c.at_,.int .i64 c.n,dv,.int .u64 c.key,.int .u64 c.new,.int .i64 c.cz,.bool c.force]
structure Gs where
 dN:List Int
 floor:Int
 done:List (Int×Rp)
structure Un where
 s:Sp
 t:Tb
 g:List Gs
def pE(n:Nat):Un:=⟨sH n,Gv,List.replicate 8 ⟨[],0,[]⟩⟩
def A4:List UInt8→List UInt8→Nat
 |x::xs,y::ys=>if x=y then A4 xs ys+1 else 0
 |_,_=>0
theorem Dj:∀(xs ys:List UInt8) (i:Nat),xs[i]? ≠ys[i]? →i<xs.length→i<ys.length→(∀j,j<i→xs[j]? =ys[j]?)→A4 xs ys=i
 |[],_,i,_,h,_,_=>by cases h
 |x::xs,[],i,_,_,h,_=>by cases h
 | x::xs,y::ys,0,h,_,_,_=>by
   have:x≠y:=fun e=>h (by simp[e]);simp[A4,this]
 | x::xs,y::ys,i+1,h,h1,h2,hj=>by
   have h0:=hj 0 (by omega);simp at h0;have:=Dj xs ys i (by simpa using h) (by simpa using h1) (by simpa using h2) (fun j N7=>by have:=hj (j+1) (by omega);simpa using this);simp[A4,h0,this]
def Jl(s:Sp)(p q:Nat)(bs:List UInt8):Sp×Rp:=
 if bH s p q=bs.take (8*q) then(fh s p (bs.drop (8*q)),plain 0 0 0) else(s,⟨2,14,7424,[],(A4 (bH s p q) bs:Nat)⟩)
def runM(s:Sp)(c:Cm):Sp×Rp:=
 if BT s c.at_ c.n then
   if c.kind=2 then(s,A3 (bH s c.at_.toNat c.n.toNat))
   else if c.kind=3 then if(c.data.length:Int)=c.n*8 then(fh s c.at_.toNat c.data,plain 0 0 0) else(s,plain 2 5 9216)
   else if c.kind=5 then(Xs s c.at_.toNat c.n.toNat,plain 0 0 0)
   else if c.kind=6 then if(c.data.length:Int)=2*(c.n*8) then Jl s c.at_.toNat c.n.toNat c.data else(s,plain 2 5 9216)
   else(s,plain 0 0 0)
 else(s,plain 2 5 8448)
def xy(k c:Nat):List UInt8:=[112,0,UInt8.ofNat k,0,0,0,0,10,0,0,0,0]++be c 2++[0,0,0,0]
theorem A5(k c:Nat):(xy k c).length=18:=by simp only[xy,List.length_append,aT,List.length_cons,List.length_nil]
def abC:List UInt8:=[0,0,5,2,31,0,0,0,71,69,77,69,76,32,32,32,84,87,73,78,32,68,73,83,75,32,32,32,32,32,32,32,48,48,48,49]
def Xw(n:Nat):List UInt8:=be (n - 1) 4++be 8 4
def abD(l:List Int)(c:Int):List Int:=if c∈l then l else l++[c]
def Gs.tell(g:Gs)(c:Int):Gs:={g with dN:=abD g.dN c}
def Gs.pop(g:Gs):Gs:={g with dN:=g.dN.drop 1}
def Un.cA(u:Un)(i:Nat):Gs:=u.g.getD i ⟨[],0,[]⟩
def Un.oy(u:Un)(i:Nat)(g:Gs):Un:={u with g:=u.g.set i g}
def Un.tell(u:Un)(i:Nat)(c:Int):Un:=u.oy i ((u.cA i).tell c)
def small(k:Nat)(u:Un):Prop:=∀i,i<8→(u.cA i).dN.length≤k
def Un.mH(u:Un)(s:Sp):Un:={u with s:=s}
def PI(u:Un):Nat→Un
 |0=>u
 |n+1=>(PI u n).tell n 10499
def T5(t:Tb)(i:Nat)(key:Int):Bool:= !decide (t.K i=0)&&decide (t.K i=key)
def Un.lS(u:Un)(t:Tb):Un:={u with t:=t}
def notM(u:Un)(code:Int)(l:List Nat):Un:=l.foldl (fun u n=>u.tell n code) u
structure Rv where
 t:Tb
 r:Rp
 l:List Nat
 code:Int
def T6(t:Tb)(i:Nat)(key fresh:Int)(ign:Bool):Rv:=if ign=true∨key=t.K i then⟨(abz t i fresh).2,plain 0 0 0,(abz t i fresh).1,10756⟩ else⟨t,plain 24 0 0,[],0⟩
def abE(t:Tb)(i:Nat)(key cz:Int):Rv:=
 if T5 t i key=false then⟨t,plain 24 0 0,[],0⟩
 else if EA cz=false then⟨t,plain 2 5 9216,[],0⟩
 else if t.hold= -1 then⟨t.take i cz,plain 0 0 0,[],0⟩
 else if t.hold=i∧t.cz=cz then⟨t,plain 0 0 0,[],0⟩
 else⟨t,plain 24 0 0,[],0⟩
def abF(t:Tb)(i:Nat)(key cz:Int):Rv:=
 if T5 t i key=false then⟨t,plain 24 0 0,[],0⟩
 else if EA cz=false then⟨t,plain 2 5 9216,[],0⟩
 else if t.hold≠i then⟨t,plain 0 0 0,[],0⟩
 else if t.cz≠cz then⟨t,plain 2 5 9732,[],0⟩
 else⟨t.V3,plain 0 0 0,t.told i,10756⟩
def abG(t:Tb)(i:Nat)(key:Int):Rv:=
 if T5 t i key=false then⟨t,plain 24 0 0,[],0⟩
 else⟨t.T4,plain 0 0 0,Jk t.K i (fun _=>true) 8,10755⟩
def abH(t:Tb)(i:Nat)(key other cz:Int):Rv:=
 if T5 t i key=false then⟨t,plain 24 0 0,[],0⟩
 else if other=0 then⟨t,plain 2 5 9728,[],0⟩
 else if Xv t i other=[] then⟨t,plain 24 0 0,[],0⟩
 else if EB t i other∧EA cz=false then⟨t,plain 2 5 9216,[],0⟩
 else⟨agu t i other cz,plain 0 0 0,Xv t i other,10757⟩
def Xx(t:Tb)(i:Nat)(c:Cm):Rv:=
 if c.kind=10 then T6 t i c.key c.new false
 else if c.kind=11 then T6 t i c.key c.new true
 else if c.kind=12 then abE t i c.key c.cz
 else if c.kind=13 then abF t i c.key c.cz
 else if c.kind=14 then abG t i c.key
 else abH t i c.key c.new c.cz
def Dl(K:Nat→Int):Nat→List Int
 |0=>[]
 |n+1=>Dl K n++if K n=0 then[] else[K n]
def KK(t:Tb):List UInt8:=be t.gen.toNat 4++be (8*(Dl t.K 8).length) 4++(Dl t.K 8).flatMap fun k=>be k.toNat 8
def abI(t:Tb):Int:=if rF t.hold=true then t.K t.hold.toNat else 0
def PJ(t:Tb):List UInt8:=if t.cz=0 then be t.gen.toNat 4++be 0 4 else be t.gen.toNat 4++be 16 4++be (abI t).toNat 8++be 0 4++be t.cz.toNat 2++be 0 2
def Xy(u:Un)(i:Nat)(c:Cm):Un×Rp:=
 if c.kind=16 then(u,A3 (KK u.t))
 else if c.kind=17 then(u,A3 (PJ u.t))
 else(notM (u.lS (Xx u.t i c).t) (Xx u.t i c).code (Xx u.t i c).l,(Xx u.t i c).r)
def xz(u:Un)(i:Nat)(c:Cm):Un×Rp:=
 if c.kind=1 then(u,plain 0 0 0)
 else if c.kind=8 then(u,A3 abC)
 else if c.kind=7 then(u,A3 (Xw u.s.N))
 else if c.kind≤6 then(u.mH (runM u.s c).1,(runM u.s c).2)
 else if c.kind=18 then(PI u 8,plain 0 0 0)
 else Xy u i c
def EC(t:Tb)(h kind:Int):Bool:=decide (t.hold= -1)||decide (t.hold=h)||(t.PG&&rF h&& !decide (t.K h.toNat=0))||((decide (kind=1)||decide (kind=2))&&(decide (t.cz=1)||decide (t.cz=5)))|| !(decide (1≤kind)&&decide (kind≤6))
theorem lT{t:Tb}{h kind:Int}:EC t h kind=true↔A1 t h kind:=by
 unfold EC A1 abA;simp only[Bool.or_eq_true,Bool.and_eq_true,decide_eq_true_eq,Bool.not_eq_true',decide_eq_false_iff_not,nJ,Bool.and_eq_false_iff];constructor
 · rintro ((((h1|h1)|h1)|h1)|h1)
   · exact .inl (.inl h1)
   · exact .inl (.inr (.inl h1))
   · obtain⟨⟨h1,h2,h3⟩,h4⟩:=h1
     exact .inl (.inr (.inr ⟨h1,h.toNat,by omega,by omega,h4⟩))
   · exact .inr (.inl h1)
   exact .inr (.inr (by omega))
 rintro ((h1|h1|⟨h1,i,rfl,hi,hk⟩)|h1|h1)
 · exact .inl (.inl (.inl (.inl h1)))
 · exact .inl (.inl (.inl (.inr h1)))
 · exact .inl (.inl (.inr ⟨⟨h1,by omega,by omega⟩,by simpa using hk⟩))
 · exact .inl (.inr h1)
 exact .inr (by omega)
abbrev aE:=List (Value×List UInt8)
def cV(l:List Int):List Value:=l.map (Value.int .i64)
structure GX where
 s:Gs
 a:Option Addr
 c:Nat
 mb:Nat
 ck:Nat
 kvs:List KV
def GX.row(g:GX):List Value:=[.slice g.a g.s.dN.length g.c,.int .u64 g.s.floor,.map (some g.mb)]
def MP(aa:aE)(D:List (Int×Rp))(kvs:List KV):Prop:=(kvs.map (·.1)).Perm (D.map (·.1))∧(D.map (·.1)).Nodup∧∀x∈kvs,∃r dv,(x.1,r)∈D∧x.2.1=r.val dv∧(dv,r.data)∈aa
abbrev mV(g:GX):aC:=Own 1 (.slice g.a g.s.dN.length g.c) g.s.dN.length (cV g.s.dN)
def gE(aa:aE)(g:GX):aC:=Pack (MP aa g.s.done g.kvs) [mV g,bV g.mb .u64 g.kvs g.ck]
abbrev dg(bs bt:Nat)(gs:List GX):List Value:=.pointer (some ⟨bs,0,none⟩)::bt::gs.flatMap GX.row
def qb(TU TS TT bu:Nat)(aa:aE)(ms:List Nat)(u:Un):aC:=Ex fun(x:Nat×Nat×List GX)=>Pack ((x.2.2.map (·.s)=u.g∧x.2.2.map (·.mb)=ms)∧u.g.length=8)
 [aX bu (dg x.1 x.2.1 x.2.2) TU,mR TS x.1 u.s,aX x.2.1 u.t.cells TT,eE (gE aa) x.2.2]
section
variable{W0 w:World}{L:List aC}{TU TS TT bu bs bt:Nat}{aa:aE}{ms:List Nat}{u:Un}{gs:List GX}{g g':GX}{i:Nat}
theorem yy(H:On W0 (qb TU TS TT bu aa ms u::L) w):∃bs bt gs,(gs.map (·.s)=u.g∧gs.map (·.mb)=ms)∧u.g.length=8∧On W0 (aX bu (dg bs bt gs) TU::mR TS bs u.s::aX bt u.t.cells TT::eE (gE aa) gs::L) w:=by
 obtain⟨⟨b1,b2,gs⟩,H⟩:=H.ex;obtain⟨⟨h1,h2⟩,H⟩:=H.unpack;exact⟨b1,b2,gs,h1,h2,H⟩
theorem iw(h1:gs.map (·.s)=u.g∧gs.map (·.mb)=ms)(h2:u.g.length=8)(H:On W0 (aX bu (dg bs bt gs) TU::mR TS bs u.s::aX bt u.t.cells TT::eE (gE aa) gs::L) w):On W0 (qb TU TS TT bu aa ms u::L) w:=
 On.rT (bs,bt,gs) (On.pack ⟨h1,h2⟩ H)
theorem KL(H:On W0 (gE aa g::L) w):MP aa g.s.done g.kvs∧On W0 (mV g::bV g.mb .u64 g.kvs g.ck::L) w:=H.unpack
theorem pF(h1:MP aa g.s.done g.kvs)(H:On W0 (mV g::bV g.mb .u64 g.kvs g.ck::L) w):On W0 (gE aa g::L) w:=On.pack h1 H
theorem ED(Su:gs.map (·.s)=u.g∧gs.map (·.mb)=ms)(h2:u.g.length=8)(hi:i<8):∃g,gs[i]? =some g∧g.s=u.cA i:=by
 have h1:=Su.1;have hl:gs.length=8:=by rw[←h2,←h1,List.length_map]
 refine⟨gs[i]'(by omega),by simp, ?_⟩;unfold Un.cA;rw[←h1,List.getD_eq_getElem?_getD,List.getElem?_map,List.getElem?_eq_getElem (by omega)];rfl
theorem T7(h1:gs.map (·.s)=u.g∧gs.map (·.mb)=ms)(hg:gs[i]? =some g)(e:g'.mb=g.mb):(gs.set i g').map (·.s)=(u.oy i g'.s).g∧(gs.set i g').map (·.mb)=ms:=by
 refine⟨by rw[List.map_set,h1.1];rfl, ?_⟩;rw[List.map_set,h1.2,e];apply List.ext_getElem?;intro j;rw[List.getElem?_set];split
 · rename_i ej;subst ej
   have dW:=(List.getElem?_eq_some_iff.1 hg).1;rw[if_pos (by rw[←h1.2,List.length_map];exact dW),←h1.2,List.getElem?_map,hg];rfl
 rfl
theorem Gw(h1:gs.map (·.s)=u.g∧gs.map (·.mb)=ms):(gs.set i g').map (·.s)=(u.oy i g'.s).g∧(gs.set i g').map (·.mb)=ms.set i g'.mb:=
 ⟨by rw[List.map_set,h1.1];rfl,by rw[List.map_set,h1.2]⟩
theorem EE(h2:u.g.length=8){x:Gs}:(u.oy i x).g.length=8:=by show(u.g.set i x).length=8;rw[List.length_set,h2]
theorem Gx:∀{gs:List GX} {i k:Nat},gs[i]? =some g→k<3→(gs.flatMap GX.row)[i*3+k]? =g.row[k]?
 |[],i,k,h,_=>by simp at h
 | x::gs,0,k,h,hk=>by
   simp at h;subst h;rw[List.flatMap_cons,List.getElem?_append_left (by show _<3;omega),Nat.zero_mul,Nat.zero_add]
 | x::gs,i+1,k,h,hk=>by
   rw[List.flatMap_cons,List.getElem?_append_right (by show 3≤_;omega),show(i+1)*3+k - x.row.length=i*3+k by show _ - 3=_;omega];exact Gx (by simpa using h) hk
theorem vV{v:Value}:∀{gs:List GX} {i k:Nat},gs[i]? =some g→k<3→g'.row=g.row.set k v→(gs.flatMap GX.row).set (i*3+k) v=(gs.set i g').flatMap GX.row
 |[],i,k,h,_,_=>by simp at h
 | x::gs,0,k,h,hk,e=>by
   simp at h;subst h;rw[List.flatMap_cons,List.set_append_left _ _ (by show _<3;omega),Nat.zero_mul,Nat.zero_add,←e,List.set_cons_zero,List.flatMap_cons]
 | x::gs,i+1,k,h,hk,e=>by
   rw[List.flatMap_cons,List.set_append_right _ _ (by show 3≤_;omega),show(i+1)*3+k - x.row.length=i*3+k by show _ - 3=_;omega,vV (by simpa using h) hk e,List.set_cons_succ,List.flatMap_cons]
theorem KM{x:Value}(h:gs[i]? =some g)(hk:k<3)(hx:g.row[k]? =some x):(dg bs bt gs)[0+2+((i:Nat):Int).toNat*3+k]? =some x:=by
 rw[show 0+2+((i:Nat):Int).toNat*3+k=i*3+k+1+1 by simp;omega];show(gs.flatMap GX.row)[i*3+k]? =_;rw[Gx h hk,hx]
theorem uset{v:Value}(h:gs[i]? =some g)(hk:k<3)(e:g'.row=g.row.set k v):(dg bs bt gs).set (0+2+((i:Nat):Int).toNat*3+k) v=dg bs bt (gs.set i g'):=by
 rw[show 0+2+((i:Nat):Int).toNat*3+k=i*3+k+1+1 by simp;omega];show _::_::(gs.flatMap GX.row).set (i*3+k) v=_;rw[vV h hk e]
theorem mI:∀{gs:List GX},(gs.flatMap GX.row).length=3*gs.length
 |[]=>rfl
 |x::gs=>by rw[List.flatMap_cons,List.length_append,mI,List.length_cons];show 3+_=_;omega
theorem ult(h:gs[i]? =some g)(hk:k<3):Nat.ble (0+2+((i:Nat):Int).toNat*3+k+1) (dg bs bt gs).length=true:=by
 have hi:=(List.getElem?_eq_some_iff.1 h).1;rw[Nat.ble_eq];show _≤(gs.flatMap GX.row).length+1+1;rw[mI];simp;omega
theorem Dm(h2:u.g.length=8)(hi:i<8){x:Gs}:(u.oy i x).cA i=x:=by
 show(u.g.set i x).getD i _=x;rw[List.getD_eq_getElem?_getD,List.getElem?_set,if_pos rfl,if_pos (by omega)];rfl
theorem Gy{j:Nat}(h:i≠j){x:Gs}:(u.oy i x).cA j=u.cA j:=by
 show(u.g.set i x).getD j _=u.g.getD j _;rw[List.getD_eq_getElem?_getD,List.getD_eq_getElem?_getD,List.getElem?_set,if_neg h]
theorem Xz{l:List Int}:∀x∈cV l,x.oneCell'=true:=fun x hx=>by obtain⟨y,_,rfl⟩:=List.mem_map.1 hx;rfl
theorem XA{l:List Int}{x:Int}(h:l[k]? =some x):((cV l).drop (k*1)).take 1=[.int .i64 x]:=by
 have dW:=(List.getElem?_eq_some_iff.1 h).1;have he:=(List.getElem?_eq_some_iff.1 h).2;unfold cV;rw[Nat.mul_one,←List.map_drop,←List.map_take,List.drop_eq_getElem_cons dW,List.take_succ_cons,List.take_zero,he];rfl
theorem iH(h:gs[i]? =some g):gs.set i g=gs:=by
 apply List.ext_getElem?;intro j;rw[List.getElem?_set];split
 · rename_i e;subst e
   have:=(List.getElem?_eq_some_iff.1 h).1;rw[if_pos this,h]
 rfl
def A6(u:Un)(h:Int)(c:Cm):Un×Rp:=
 if rF h=false∨c.kind<1∨18<c.kind then(u,plain 2 5 8192)
 else if c.kind=9 then
   match (u.cA h.toNat).dN with
   |[]=>(u,A3 (xy 0 0))
   |x::l=>(u.oy h.toNat (u.cA h.toNat).pop,A3 (xy 6 x.toNat))
 else if c.kind≠8∧(u.cA h.toNat).dN≠[] then(u.oy h.toNat (u.cA h.toNat).pop,plain 2 6 ((u.cA h.toNat).dN.headD 0))
 else if EC u.t h c.kind=false then(u,plain 24 0 0)
 else xz u h.toNat c
theorem vW{hh:Int}{c:Cm}(h:rF hh=false∨c.kind<1∨18<c.kind):A6 u hh c=(u,plain 2 5 8192):=by unfold A6;rw[if_pos h]
theorem Gz(hi:i<8):rF (i:Int)=true:=nJ.2 ⟨by omega,by omega⟩
theorem XB{c:Cm}(hi:i<8)(h1:1≤c.kind)(h18:c.kind≤18):¬(rF (i:Int)=false∨c.kind<1∨18<c.kind):=by
 rw[Gz hi];rintro (h|h|h);cases h;omega;omega
theorem PK{c:Cm}(h:c.kind=8∨(u.cA i).dN=[]):¬(c.kind≠8∧(u.cA i).dN≠[]):=by
 rintro ⟨h1,h2⟩;rcases h with h|h;exact h1 h;exact h2 h
theorem xA{c:Cm}(hi:i<8)(h1:1≤c.kind)(h18:c.kind≤18)(h9:c.kind≠9)(h:c.kind=8∨(u.cA i).dN=[])(ha:A1 u.t i c.kind):A6 u i c=xz u i c:=by
 unfold A6;rw[if_neg (XB hi h1 h18),if_neg h9,Int.toNat_natCast,if_neg (PK h),if_neg (by rw[lT.2 ha];decide)]
def EF:List Value:=[.slice none 0 0,.int .u64 0,.map none]
def zG(mb:Nat):GX:=⟨⟨[],0,[]⟩,none,0,mb,0,[]⟩
abbrev jX(bs bt:Nat)(gs:List GX)(k:Nat):List Value:=.pointer (some ⟨bs,0,none⟩)::bt::(gs.flatMap GX.row++(List.replicate k EF).flatten)
theorem agv{mb:Nat}(hk:gs.length=i):(jX bs bt gs (k+1)).set (0+2+((i:Nat):Int).toNat*3+2) (.map (some mb))=jX bs bt (gs++[zG mb]) k:=by
 rw[show 0+2+((i:Nat):Int).toNat*3+2=i*3+2+1+1 by simp;omega];show _::_::(gs.flatMap GX.row++(List.replicate (k+1) EF).flatten).set (i*3+2) _=_::_::((gs++[zG mb]).flatMap GX.row++(List.replicate k EF).flatten);rw[List.set_append_right _ _ (by rw[mI];omega),mI,hk,show i*3+2 - 3*i=2 by omega,List.replicate_succ,List.flatten_cons,List.flatMap_append,List.append_assoc];rfl
theorem nlt(hk:gs.length=i):Nat.ble (0+2+((i:Nat):Int).toNat*3+2+1) (jX bs bt gs (k+1)).length=true:=by
 rw[Nat.ble_eq];show _≤(gs.flatMap GX.row++(List.replicate (k+1) EF).flatten).length+1+1;rw[List.length_append,mI,List.replicate_succ,List.flatten_cons,List.length_append];show _≤3*gs.length+(3+_)+1+1;simp;omega
theorem XC{mb:Nat}(H:On W0 (bV mb .u64 [] 0::L) w):On W0 (gE aa (zG mb)::L) w:=
 pF ⟨List.Perm.refl _,List.nodup_nil,fun x hx=>by cases hx⟩ (H.bB 1 none)
end
end Go.Sl.gW
namespace Go.Sl
open Go
variable{b ck et kt t:Nat}{x y:Operand}
section
variable{P:Program}{W0 w:World}{L:List aC}{ρ:Operand→Value}{d:Option Nat}{ty:TypeId}{pos:String}{af:Array Edge}{g:Option (Nat×Bool)}
theorem EG{q kd:IntKind}{k:Int}{z:Value}{kvs:List KV}(hb:w.heap[b]? =some (jy kd kvs ck))(hU:P.underlying t=some (.map kt et))(hK:P.underlying kt=some (.int q))(hZ:∀w,(zeroValue et).run P w=.ok z w)(hx:ρ x=.map (some b))(hy:ρ y=.int kd k):
   (execOp ρ ⟨d,.lookup t x y true,ty,pos,af,g⟩).run P w=.ok (.value (.tuple #[(dL kvs k).getD z,.bool (dL kvs k).isSome])) w:=by
 have hf:=qX (q:=q) (kd:=kd) (k:=k) kvs 0;have hl:=CN kvs k;have se:(getObj b).run P w=.ok (jy kd kvs ck) w:=MapKept.run_getObj_map (by exact hb);unfold jy at se;rw[hl];have BQ:∀e,(Instr.checkKey e 10000 kt (.int kd k)).run P w=.ok () w:=fun e=>kU hK e 9999;cases oK:kvs.findIdx? fun x=>x.1==k with
 | none=>
   rw[oK] at hf;simp only[Option.bind_none] at hf⊢;simp[execOp,Instr.lookup,run_underlying hU,run_underlying hK,hx,hy,se,BQ,Instr.findKey,hf,hZ]
 | some j=>
   rw[oK] at hf;have hj:=(List.findIdx?_eq_some_iff_getElem.1 oK).1;have hg:kvs[j]? =some kvs[j]:=by simp
   simp only[Option.bind_some,hg,Option.map_some] at hf⊢;simp[execOp,Instr.lookup,run_underlying hU,run_underlying hK,hx,hy,se,BQ,Instr.findKey,hf]
theorem pG{q kd:IntKind}{k:Int}{z v:Value}{o:Bool}{kvs:List KV}(hb:w.heap[b]? =some (jy kd kvs ck))(hU:P.underlying t=some (.map kt et))(hK:P.underlying kt=some (.int q))(hZ:∀w,(zeroValue et).run P w=.ok z w)(hx:ρ x=.map (some b))(hy:ρ y=.int kd k)
   (hv:(dL kvs k).getD z=v) (ho:(dL kvs k).isSome=o):(execOp ρ ⟨d,.lookup t x y true,ty,pos,af,g⟩).run P w=.ok (.value (.tuple #[v,.bool o])) w:=by rw[←hv,←ho];exact EG hb hU hK hZ hx hy
theorem Jm{n:Nat}{kd:IntKind}{kvs:List KV}{qK:Array TypeId}(hb:w.heap[b]? =some (jy kd kvs ck))(ht:qK[0]? =some t)(hU:P.underlying t=some (.map kt et))(hx:ρ x=.map (some b))(hn:kvs.length=n):
   (execOp ρ ⟨d,.call {callee:=.builtin .len,args:=#[x],argTypes:=qK},ty,pos,af,g⟩).run P w=.ok (.value (.int .i64 (n:Int))) w:=by
 subst hn;have se:(getObj b).run P w=.ok (jy kd kvs ck) w:=MapKept.run_getObj_map (by exact hb);unfold jy at se;simp[execOp,resolve,invoke,builtin,hx,Builtin.len_,ht,run_underlying hU,se,goInt]
theorem Ca{e n size:Nat}{k:IntKind}{i:Nat}{cs vs:List Value}(hU:P.underlying t=some (.array n e))(hS:∀w,(sizeOf e).run P w=.ok size w)(hA:∀w,(isAgg e).run P w=.ok true w)
   (hx:ρ x=.agg cs.toArray) (hy:ρ y=.int k (i:Int)) (h1:i<n) (hv:(cs.drop (i*size)).take size=vs):(execOp ρ ⟨d,.index t x y,ty,pos,af,g⟩).run P w=.ok (.value (.agg vs.toArray)) w:=by
 simp[execOp,Instr.index,run_underlying hU,hx,hy,asIntOf,hS,h1,part,hA,hv]
end
section
variable{kvs:List KV}{seen:Array Nat}
theorem vX{e:KV}(h:e∈iX kvs seen):e∈kvs:=(List.mem_filter.1 h).1
theorem fF{a:Nat}:(seen.push a).contains b=(seen.contains b||b==a):=by
 rw[Bool.eq_iff_iff];simp[Array.contains_iff_mem,Array.mem_push]
theorem xB{e:KV}(h:e∈iX kvs seen):(iX kvs (seen.push e.2.2)).length<(iX kvs seen).length:=by
 have e1:iX kvs (seen.push e.2.2)=(iX kvs seen).filter fun x=> !(x.2.2==e.2.2):=by
   unfold iX;rw[List.filter_filter];refine List.filter_congr fun x _=> ?_;rw[fF,Bool.not_or,Bool.and_comm]
 rw[e1];exact List.length_filter_lt_length_iff_exists.2 ⟨e,h,by simp⟩
theorem PL(h:iX kvs seen=[]){x:KV}(hx:x∈kvs):seen.contains x.2.2=true:=by
 have:=List.filter_eq_nil_iff.1 h x hx;simpa using this
end
end Go.Sl
namespace Go.Sl.gW
open Go Go.Sl Go.Sl.BitM Go.Sl.zh Go.Sl.uf Go.Sl.eM
variable{k:Int}{p:Value×List UInt8}{v:Value}
def cX(D:List (Int×Rp))(fl:Int):List (Int×Rp):=D.filter fun x=>decide (fl≤x.1)
def kV(D:List (Int×Rp))(id:Int):Option Rp:=(D.find? fun x=>x.1==id).map (·.2)
def XD(kvs:List KV)(fl:Int)(seen:Array Nat)(ks:List KV):Prop:=
 (∀x∈ks,∃y∈kvs,y.1=x.1∧y.2.1=x.2.1∧seen.contains y.2.2=true∧fl≤y.1)∧∀y∈kvs,seen.contains y.2.2=true→fl≤y.1→∃x∈ks,x.1=y.1
section
variable{W0 w:World}{L:List aC}{aa:aE}{D:List (Int×Rp)}{kvs ks:List KV}{fl id:Int}{seen:Array Nat}{ck:Nat}
theorem MQ:XD kvs fl #[] []:=⟨fun x hx=>(by cases hx),fun y _ h=>(by simp at h)⟩
theorem KN{kvs:List KV}(h:(kvs.map (·.2.2)).Nodup){x y:KV}(hx:x∈kvs)(hy:y∈kvs)(e:x.2.2=y.2.2):x=y:=by
 induction kvs with
 |nil=>cases hx
 | cons z l ih=>
   rw[List.map_cons,List.nodup_cons] at h;rcases List.mem_cons.1 hx with h1|h1
   · rcases List.mem_cons.1 hy with h2|h2
     · rw[h1,h2]
     exact(h.1 (List.mem_map.2 ⟨y,h2,by rw[←e,h1]⟩)).elim
   rcases List.mem_cons.1 hy with h2|h2
   · exact(h.1 (List.mem_map.2 ⟨x,h1,by rw[e,h2]⟩)).elim
   exact ih h.2 h1 h2
theorem PM(H:XD kvs fl seen ks)(hf:(kvs.map (·.2.2)).Nodup){e:KV}(he:e∈kvs)(dW:¬fl≤e.1):XD kvs fl (seen.push e.2.2) ks:=by
 refine⟨fun x hx=> ?_,fun y hy hs ua=> ?_⟩
 · obtain⟨y,hy,h1,h2,h3,h4⟩:=H.1 x hx
   exact⟨y,hy,h1,h2,by rw[fF,h3];rfl,h4⟩
 rw[fF,Bool.or_eq_true] at hs;rcases hs with hs|hs
 · exact H.2 y hy hs ua
 have:=KN hf hy he (by simpa using hs);subst this;exact absurd ua dW
theorem PN{x:KV}(h:x∈iR ks k v ck):(x.1=k∧x.2.1=v)∨(x∈ks∧x.1≠k):=by
 unfold iR at h;split at h
 · obtain⟨y,hy,rfl⟩:=List.mem_map.1 h
   split
   · exact .inl ⟨rfl,rfl⟩
   rename_i l5;exact .inr ⟨hy,l5⟩
 rename_i dX;rcases List.mem_append.1 h with h|h
 · refine .inr ⟨h,fun e=>dX ?_⟩
   exact List.any_eq_true.2 ⟨x,h,by simp[e]⟩
 simp at h;subst h;exact .inl ⟨rfl,rfl⟩
theorem PO:∃x∈iR ks k v ck,x.1=k:=by
 unfold iR;split
 · rename_i h
   obtain⟨y,hy,he⟩:=List.any_eq_true.1 h;have he:y.1=k:=by simpa using he
   exact⟨(k,v,y.2.2),List.mem_map.2 ⟨y,hy,by rw[if_pos he]⟩,rfl⟩
 exact⟨(k,v,ck),List.mem_append.2 (.inr (by simp)),rfl⟩
theorem PR{y:KV}(h:y∈ks):∃x∈iR ks k v ck,x.1=y.1:=by
 unfold iR;split
 · by_cases e:y.1=k
   · exact⟨(k,v,y.2.2),List.mem_map.2 ⟨y,h,by rw[if_pos e]⟩,e.symm⟩
   exact⟨y,List.mem_map.2 ⟨y,h,by rw[if_neg e]⟩,rfl⟩
 exact⟨y,List.mem_append.2 (.inl h),rfl⟩
theorem T8(H:XD kvs fl seen ks)(hf:(kvs.map (·.2.2)).Nodup){e:KV}(he:e∈kvs)(hle:fl≤e.1):XD kvs fl (seen.push e.2.2) (iR ks e.1 e.2.1 ck):=by
 refine⟨fun x hx=> ?_,fun y hy hs ua=> ?_⟩
 · rcases PN hx with⟨h1,h2⟩|⟨hx,_⟩
   · exact⟨e,he,h1.symm,h2.symm,by rw[fF];simp,hle⟩
   obtain⟨y,hy,h1,h2,h3,h4⟩:=H.1 x hx;exact⟨y,hy,h1,h2,by rw[fF,h3];rfl,h4⟩
 rw[fF,Bool.or_eq_true] at hs;rcases hs with hs|hs
 · obtain⟨x,hx,h1⟩:=H.2 y hy hs ua
   obtain⟨z,hz,h2⟩:=PR (ck:=ck) (k:=e.1) (v:=e.2.1) hx;exact⟨z,hz,by rw[h2,h1]⟩
 have:=KN hf hy he (by simpa using hs);subst this;exact PO
theorem A7(h:(D.map (·.1)).Nodup):((cX D fl).map (·.1)).Nodup:=(List.filter_sublist.map _).nodup h
theorem T9(h:MP aa D kvs)(H:XD kvs fl seen ks)(hr:iX kvs seen=[])(hn:(ks.map (·.1)).Nodup):MP aa (cX D fl) ks:=by
 obtain⟨h1,h2,h3⟩:=h;refine⟨(List.perm_ext_iff_of_nodup hn (A7 h2)).2 fun k=>⟨fun hk=> ?_,fun hk=> ?_⟩,A7 h2,fun x hx=> ?_⟩
 · obtain⟨x,hx,rfl⟩:=List.mem_map.1 hk
   obtain⟨y,hy,e1,e2,e3,e4⟩:=H.1 x hx;obtain⟨r,dv,hr,_⟩:=h3 y hy;exact List.mem_map.2 ⟨(y.1,r),List.mem_filter.2 ⟨hr,by simpa using e4⟩,e1⟩
 · obtain⟨p,hp,rfl⟩:=List.mem_map.1 hk
   obtain⟨W6,vJ⟩:=List.mem_filter.1 hp;have:p.1∈kvs.map (·.1):=h1.mem_iff.2 (List.mem_map.2 ⟨p,W6,rfl⟩);obtain⟨y,hy,e⟩:=List.mem_map.1 this;obtain⟨x,hx,e2⟩:=H.2 y hy (PL hr hy) (by rw[e];simpa using vJ);exact List.mem_map.2 ⟨x,hx,by rw[e2,e]⟩
 obtain⟨y,hy,e1,e2,e3,e4⟩:=H.1 x hx;obtain⟨r,dv,LG,EH,Ua⟩:=h3 y hy;exact⟨r,dv,List.mem_filter.2 ⟨by rw[←e1];exact LG,by rw[←e1];simpa using e4⟩,by rw[←e2,EH],Ua⟩
theorem Dp{r:Rp}:∀{D:List (Int×Rp)},(D.map (·.1)).Nodup→(id,r)∈D→kV D id=some r
 |[],_,h=>by cases h
 | p::D,hn,h=>by
   rw[List.map_cons,List.nodup_cons] at hn;unfold kV;rw[List.find?_cons];rcases List.mem_cons.1 h with rfl|h
   · simp
   have l5:(p.1==id)=false:=by
     simpa using fun e:p.1=id=>hn.1 (List.mem_map.2 ⟨(id,r),h,e.symm⟩)
   rw[l5];exact Dp hn.2 h
theorem Jn(h:id∉D.map (·.1)):kV D id=none:=by
 unfold kV;rw[List.find?_eq_none.2 (fun x hx=>by simpa using fun e:x.1=id=>h (List.mem_map.2 ⟨x,hx,e⟩))];rfl
theorem look_ok(h:MP aa D kvs)(id:Int):(∃r dv,kV D id=some r∧dL kvs id=some (r.val dv)∧(dv,r.data)∈aa)∨(kV D id=none∧dL kvs id=none∧id∉D.map (·.1)):=by
 obtain⟨h1,h2,h3⟩:=h;unfold dL;cases hf:kvs.find? fun x=>x.1==id with
 | none=>
   have dX:id∉D.map (·.1):=fun hm=>by
     obtain⟨x,hx,e⟩:=List.mem_map.1 (h1.mem_iff.2 hm);have:=List.find?_eq_none.1 hf x hx;simp[e] at this
   exact .inr ⟨Jn dX,rfl,dX⟩
 | some x=>
   have hx:=List.mem_of_find?_eq_some hf;have he:x.1=id:=by simpa using List.find?_some hf
   obtain⟨r,dv,LG,EH,Ua⟩:=h3 x hx;rw[he] at LG;exact .inl ⟨r,dv,Dp h2 LG,by rw[Option.map_some,EH],Ua⟩
theorem PS(h:MP aa D kvs):MP (p::aa) D kvs:=by
 obtain⟨h1,h2,h3⟩:=h;refine⟨h1,h2,fun x hx=> ?_⟩;obtain⟨r,dv,LG,EH,Ua⟩:=h3 x hx;exact⟨r,dv,LG,EH,List.mem_cons_of_mem _ Ua⟩
theorem Ub{r:Rp}{dv:Value}(h:MP aa D kvs)(dX:id∉D.map (·.1)):MP ((dv,r.data)::aa) (D++[(id,r)]) (iR kvs id (r.val dv) ck):=by
 obtain⟨h1,h2,h3⟩:=h
 have hk:¬kvs.any (fun x=>x.1==id)=true:=fun ha=>by
   obtain⟨x,hx,he⟩:=List.any_eq_true.1 ha;exact dX (h1.mem_iff.1 (List.mem_map.2 ⟨x,hx,by simpa using he⟩))
 have e:iR kvs id (r.val dv) ck=kvs++[(id,r.val dv,ck)]:=by unfold iR;rw[if_neg hk]
 rw[e];refine⟨by rw[List.map_append,List.map_append];exact h1.append_right _, ?_,fun x hx=> ?_⟩
 · rw[List.map_append]
   refine List.nodup_append.2 ⟨h2,by simp, ?_⟩;intro a ha b hb;simp at hb;subst hb;rintro rfl;exact dX ha
 rcases List.mem_append.1 hx with hx|hx
 · obtain⟨r',PT,LG,EH,Ua⟩:=h3 x hx
   exact⟨r',PT,List.mem_append.2 (.inl LG),EH,List.mem_cons_of_mem _ Ua⟩
 simp at hx;subst hx;exact⟨r,dv,List.mem_append.2 (.inr (by simp)),rfl,List.mem_cons_self ..⟩
theorem MR{r:Rp}{dv:Value}(h:MP aa D kvs)(hp:(dv,r.data)∈aa)(dX:id∉D.map (·.1)):MP aa (D++[(id,r)]) (iR kvs id (r.val dv) ck):=by
 obtain⟨h1,h2,h3⟩:=Ub (ck:=ck) (r:=r) (dv:=dv) h dX;refine⟨h1,h2,fun x hx=> ?_⟩;obtain⟨r',PT,LG,EH,Ua⟩:=h3 x hx;refine⟨r',PT,LG,EH, ?_⟩;rcases List.mem_cons.1 Ua with e|e
 · rw[e];exact hp
 exact e
theorem GA{α:Type}{A B:α→aC}(h:∀x hh,A x hh→B x hh):∀(l:List α) (hh:Hp),eE A l hh→eE B l hh
 |[],_,_=>trivial
 | x::l,hh,H=>by
   obtain⟨h1,h2,d,s1,s2,a,r⟩:=H;exact⟨h1,h2,d,s1,s2,h x h1 a,GA h l h2 r⟩
theorem MS{g:GX}{hh:Hp}(h:gE aa g hh):gE (p::aa) g hh:=⟨PS h.1,h.2⟩
theorem PU{TU TS TT bu:Nat}{ms:List Nat}{u:Un}(H:On W0 (qb TU TS TT bu aa ms u::L) w):On W0 (qb TU TS TT bu (p::aa) ms u::L) w:=by
 obtain⟨bs,bt,gs,hm,hl,H⟩:=yy H;have H1:On W0 (eE (gE aa) gs::aX bu (dg bs bt gs) TU::mR TS bs u.s::aX bt u.t.cells TT::L) w:=H.to;have H2:On W0 (eE (gE (p::aa)) gs::aX bu (dg bs bt gs) TU::mR TS bs u.s::aX bt u.t.cells TT::L) w:=H1.head (GA (fun x hh=>MS) gs);have H3:On W0 (aX bu (dg bs bt gs) TU::mR TS bs u.s::aX bt u.t.cells TT::eE (gE (p::aa)) gs::L) w:=H2.to;exact iw hm hl H3
def kept(u u':Un):Prop:=u'.g.length=u.g.length∧(∀j,j<8→(u'.cA j).floor=(u.cA j).floor∧(u'.cA j).done=(u.cA j).done)∧∀k,small k u→small (k+1) u'
theorem abJ{t:Tb}{i:Nat}{c:Cm}:(Xx t i c).r.data=[]:=by
 have abK:∀key fresh ign,(T6 t i key fresh ign).r.data=[]:=fun key fresh ign=>by unfold T6;split<;>rfl
 unfold Xx;split
 · exact abK _ _ _
 split
 · exact abK _ _ _
 split
 · unfold abE;repeat' split
   all_goals rfl
 split
 · unfold abF;repeat' split
   all_goals rfl
 split
 · unfold abG;split<;>rfl
 unfold abH;repeat' split
 all_goals rfl
theorem Dq(K:Nat→Int):∀n,(Dl K n).length≤n
 |0=>Nat.le_refl _
 | n+1=>by
   have:=Dq K n;unfold Dl;rw[List.length_append];split
   · show _+0≤_;omega
   show _+1≤_;omega
theorem MT(l:List Int):(l.flatMap fun k=>be k.toNat 8).length=8*l.length:=by
 induction l with
 |nil=>rfl
 |cons x l ih=>rw[List.flatMap_cons,List.length_append,aT,ih,List.length_cons];omega
theorem MU(t:Tb):(KK t).length=8+8*(Dl t.K 8).length:=by
 unfold KK;rw[List.length_append,List.length_append,aT,aT,MT]
theorem MV(t:Tb):(PJ t).length≤24:=by
 unfold PJ;split<;>simp only[List.length_append,aT]<;>omega
theorem MW{u:Un}{i:Nat}{c:Cm}:(Xy u i c).2.data.length≤1000:=by
 unfold Xy;split
 · show(KK _).length≤_;rw[MU];have:=Dq u.t.K 8;omega
 split
 · exact Nat.le_trans (MV _) (by omega)
 show(Xx u.t i c).r.data.length≤_;rw[abJ];exact Nat.zero_le _
theorem PV{r:Rp}(h:kV D id=some r):(id,r)∈D:=by
 unfold kV at h;cases hf:D.find? fun x=>x.1==id with
 |none=>rw[hf] at h;cases h
 | some p=>
   rw[hf] at h;have hp:=List.mem_of_find?_eq_some hf;have he:p.1=id:=by simpa using List.find?_some hf
   have hr:p.2=r:=by simpa using h
   rw[←he,←hr];exact hp
theorem PW{s:Sp}{c:Cm}:(runM s c).2.data.length≤1000:=by
 unfold runM;split
 · rename_i eD
   unfold BT at eD;split
   · show(bH s _ _).length≤_
     unfold bH;rw[List.length_take];omega
   split
   · split<;>exact Nat.zero_le _
   split
   · exact Nat.zero_le _
   split
   · split
     · unfold Jl;split<;>exact Nat.zero_le _
     exact Nat.zero_le _
   exact Nat.zero_le _
 exact Nat.zero_le _
theorem MX{u:Un}{i:Nat}{c:Cm}:(xz u i c).2.data.length≤1000:=by
 unfold xz;split
 · exact Nat.zero_le _
 split
 · show abC.length≤_;decide
 split
 · show(Xw _).length≤_;unfold Xw;rw[List.length_append,aT,aT];decide
 split
 · exact PW
 split
 · exact Nat.zero_le _
 exact MW
theorem PX{u:Un}{hh:Int}{c:Cm}:(A6 u hh c).2.data.length≤1000:=by
 unfold A6;split
 · exact Nat.zero_le _
 split
 · split
   · show(xy _ _).length≤_;rw[A5];decide
   show(xy _ _).length≤_;rw[A5];decide
 split
 · exact Nat.zero_le _
 split
 · exact Nat.zero_le _
 exact MX
theorem MY{gs:List GX}{i:Nat}{g g':GX}(h:gs[i]? =some g)(e:g'.row=g.row):(gs.set i g').flatMap GX.row=gs.flatMap GX.row:=by
 have hg:GX.row g=(g.row).set 0 (.slice g.a g.s.dN.length g.c):=rfl;have:=vV h (show 0<3 by decide) (by rw[e];exact hg);rw[←this];have h2:=vV h (show 0<3 by decide) hg;rw[h2,iH h]
theorem abL{gs:List GX}{ms:List Nat}{i:Nat}{g:GX}(h:gs.map (·.mb)=ms)(hg:gs[i]? =some g):ms[i]? =some g.mb:=by rw[←h,List.getElem?_map,hg];rfl
def Gs.k4(g:Gs)(fl:Int)(D:List (Int×Rp)):Gs:={g with floor:=fl,done:=D}
def iY(g:Gs)(id floor:Int):Int:=max (min floor id) g.floor
def qc(u:Un)(i:Nat)(id floor:Int)(c:Cm):Un×Rp×Bool:=
 let g:=u.cA i
 if id=0∨id<g.floor then(u,plain 8 0 0,false)
 else
   let fl:=iY g id floor
   let kept:=cX g.done fl
   match kV kept id with
   |some r=>(u.oy i (g.k4 fl kept),r,false)
   | none=>
     if 4≤kept.length then(u,plain 8 0 0,false)
     else
       let p:=A6 (u.oy i (g.k4 fl kept)) i c
       (p.1.oy i ((p.1.cA i).k4 fl (kept++[(id,p.2)])),p.2,true)
section
variable{u:Un}{i:Nat}{c:Cm}{id floor:Int}
def lI(u:Un)(i:Nat)(id floor:Int):Gs:=(u.cA i).k4 (iY (u.cA i) id floor) (cX (u.cA i).done (iY (u.cA i) id floor))
theorem Dr(h:id=0∨id<(u.cA i).floor):qc u i id floor c=(u,plain 8 0 0,false):=by unfold qc;simp only[];rw[if_pos h]
theorem PY{r:Rp}(h:¬(id=0∨id<(u.cA i).floor))(hl:kV (cX (u.cA i).done (iY (u.cA i) id floor)) id=some r):qc u i id floor c=(u.oy i (lI u i id floor),r,false):=by
 unfold qc;simp only[];rw[if_neg h,hl];rfl
theorem MZ(h:¬(id=0∨id<(u.cA i).floor))(hl:kV (cX (u.cA i).done (iY (u.cA i) id floor)) id=none)(h4:4≤(cX (u.cA i).done (iY (u.cA i) id floor)).length):qc u i id floor c=(u,plain 8 0 0,false):=by
 unfold qc;simp only[];rw[if_neg h,hl];simp only[];rw[if_pos h4]
theorem PZ{u':Un}{r:Rp}(h:¬(id=0∨id<(u.cA i).floor))(hl:kV (cX (u.cA i).done (iY (u.cA i) id floor)) id=none)(h4:¬4≤(cX (u.cA i).done (iY (u.cA i) id floor)).length)(hd:A6 (u.oy i (lI u i id floor)) i c=(u',r)):
   qc u i id floor c=(u'.oy i ((u'.cA i).k4 (iY (u.cA i) id floor) (cX (u.cA i).done (iY (u.cA i) id floor)++[(id,r)])),r,true):=by
 unfold qc;simp only[];rw[if_neg h,hl];simp only[];rw[if_neg h4];unfold lI at hd;rw[hd]
theorem A8{k:Nat}{fl:Int}{D:List (Int×Rp)}(h8:u.g.length=8)(hi:i<8)(h:small k u):small k (u.oy i ((u.cA i).k4 fl D)):=fun j hj=>by
 by_cases e:i=j
 · subst e;rw[Dm h8 hi];exact h i hi
 rw[Gy e];exact h j hj
end
end
def XE(l:List Int)(k:Nat):List UInt8:=be l.length 2++(l.take k).flatMap fun c=>be c.toNat 2
def cK(g:Gs):List UInt8:=XE g.dN g.dN.length++be g.floor.toNat 8++be g.done.length 2
end Go.Sl.gW
namespace Go.Sl.zh
open Go Go.Sl Go.Sl.BitM
def kX(v n k:Nat):List UInt8:=(List.range k).map fun(q:Nat)=>UInt8.ofNat (v / 2^(8*(n - 1 - q)))
theorem sq(v n k:Nat):(kX v n k).length=k:=by simp[kX]
theorem xg(v n k:Nat):kX v n (k+1)=kX v n k++[UInt8.ofNat (v / 2^(8*(n - 1 - k)))]:=by simp[kX,List.range_succ]
end Go.Sl.zh
namespace Go.Sl.gW
open Go Go.Sl Go.Sl.BitM Go.Sl.zh Go.Sl.uf Go.Sl.eM
abbrev RS:=List UInt8×Bool
def nF(n:Nat)(s:RS):Nat×RS:=if n≤s.1.length then(uJ (s.1.take n),(s.1.drop n,s.2)) else(0,([],true))
theorem XF{n:Nat}{s:RS}:(nF n s).1<256^n:=by
 unfold nF;split
 · have h1:=su (s.1.take n)
   exact Nat.lt_of_lt_of_le h1 (Nat.pow_le_pow_right (by decide) (by rw[List.length_take];omega))
 exact Nat.pow_pos (by decide)
theorem EI{n:Nat}{s:RS}:(nF n s).2.1.length≤s.1.length:=by
 unfold nF;split
 · show(s.1.drop n).length≤_;rw[List.length_drop];omega
 exact Nat.zero_le _
section
variable{aa:aE}{D:List (Int×Rp)}{kvs:List KV}{id:Int}{r:Rp}{dv:Value}{ck:Nat}
end
end Go.Sl.gW
namespace Go.Sl.kM
open Go Go.Sl Go.Sl.eM Go.Sl.gU Go.Sl.gW
def u64(x:Int):Nat:=(x % 18446744073709551616).toNat
def s64(n:Nat):Int:=IntKind.wrap .i64 (n:Int)
theorem q4(x:Int):u64 x<18446744073709551616:=by unfold u64;omega
theorem wrap_u64(x:Int):IntKind.wrap .u64 x=((u64 x:Nat):Int):=by
 have e:IntKind.wrap .u64 x=x % 18446744073709551616:=by simp[IntKind.wrap,IntKind.signed,IntKind.bits]
 rw[e];unfold u64;omega
def tQ(b:Bool):Nat:=if b then 1 else 0
theorem KO(b:Bool):tQ b<18446744073709551616:=by cases b<;>decide
def iJ(vs:List Nat):List UInt8:=vs.flatMap fun v=>be v 8
theorem uR{vs:List Nat}{i v:Nat}(h:vs[i]? =some v):iJ (vs.take i)++be v 8=iJ (vs.take (i+1)):=by
 unfold iJ;rw[List.take_add_one,h,List.flatMap_append];simp
theorem iy(vs:List Nat):(iJ vs).length=8*vs.length:=by
 unfold iJ
 induction vs with
 |nil=>rfl
 |cons v vs ih=>rw[List.flatMap_cons,List.length_append,ih,aT,List.length_cons];omega
structure Od where
 host:Int
 id:Nat
 floor:Nat
 c:Cm
def Od.cells(o:Od)(dv:Value):List Value:=[.int .i64 o.host,.int .u64 o.id,.int .u64 o.floor]++o.c.cells dv
def Od.A9(o:Od):List Nat:=[o.id,o.floor,u64 o.c.kind,u64 o.c.at_,u64 o.c.n,o.c.key.toNat,o.c.new.toNat,u64 o.c.cz]
def GB(o:Od):List UInt8:=be (u64 o.host) 8++iJ o.A9++be (tQ o.c.force) 1++o.c.data
def Ds(s:RS):Int×RS:=(s64 (nF 8 s).1,(nF 8 s).2)
def KP(s:RS):Bool×RS:=(decide ((nF 1 s).1=1),((nF 1 s).2.1,(nF 1 s).2.2||decide (1<(nF 1 s).1)))
def EJ(b:List UInt8):Od×RS:=
 let s0:RS:=(b,false)
 let s1:=Ds s0;let s2:=nF 8 s1.2;let s3:=nF 8 s2.2
 let s4:=Ds s3.2;let s5:=Ds s4.2;let s6:=Ds s5.2;let s7:=nF 8 s6.2;let s8:=nF 8 s7.2;let s9:=Ds s8.2;let s10:=KP s9.2
 (⟨s1.1,s2.1,s3.1,⟨s4.1,s5.1,s6.1,s10.2.1,(s7.1:Int),(s8.1:Int),s9.1,s10.1⟩⟩,s10.2)
def xC(b:List UInt8):Bool:= !(EJ b).2.2&&decide (0≤(EJ b).1.host)&&decide ((EJ b).1.host<8)
def zi(o:Od):List UInt8:=dR ([1]++GB o)
structure An where
 host:Int
 id:Nat
 r:Rp
 done:Bool
 hint:Int
def vY(a:An):List UInt8:=dR ([2]++be (u64 a.host) 8++be a.id 8++be (tQ a.done) 1++be (u64 (a.hint+1)) 1++iJ [u64 a.r.st,u64 a.r.key,u64 a.r.code,u64 a.r.info]++a.r.data)
def XG(b:List UInt8):Nat×An×RS:=
 let k:=nF 1 (b,false)
 let s1:=Ds k.2;let s2:=nF 8 s1.2;let s3:=KP s2.2;let s4:=nF 1 s3.2
 let s5:=Ds s4.2;let s6:=Ds s5.2;let s7:=Ds s6.2;let s8:=Ds s7.2
 (k.1,⟨s1.1,s2.1,⟨s5.1,s6.1,s7.1,s8.2.1,s8.1⟩,s3.1,(s4.1:Int) - 1⟩,s8.2)
structure Ms where
 kind:Nat
 bl:Nat
 run:Nat
 dO:Nat
 index:Nat
 prev:Nat
 aW:Nat
 data:List UInt8
def Ms.A9(m:Ms):List Nat:=[m.bl,m.run,m.dO,m.index,m.prev,m.aW]
def SF(m:Ms):List UInt8:=dR ([UInt8.ofNat m.kind]++iJ m.A9++m.data)
def XH(b:List UInt8):Ms×RS:=
 let k:=nF 1 (b,false)
 let s1:=nF 8 k.2;let s2:=nF 8 s1.2;let s3:=nF 8 s2.2;let s4:=nF 8 s3.2;let s5:=nF 8 s4.2;let s6:=nF 8 s5.2
 (⟨k.1,s1.1,s2.1,s3.1,s4.1,s5.1,s6.1,s6.2.1⟩,s6.2)
def gp(b:List UInt8):List UInt8:=if(eX b).2=0 then b.take (b.length - 4) else[]
def xD(b:List UInt8):Option Ms:=if(eX b).2=0∧(XH (gp b)).2.2=false then some (XH (gp b)).1 else none
end Go.Sl.kM
namespace Go.Sl.kM
open Go Go.Sl Go.Sl.eM Go.Sl.gU Go.Sl.gW
section
variable{P:Program}{w:World}{ρ:Operand→Value}{d:Option Nat}{ty:TypeId}{pos:String}{af:Array Edge}{g:Option (Nat×Bool)}
theorem hM{s t:TypeId}{x:Operand}{n:Int}{ds:TypeDesc}(hs:P.underlying s=some ds)(ht:P.underlying t=some (.int .u64))(hx:ρ x=.int .i64 n):
   (execOp ρ ⟨d,.convert s t x,ty,pos,af,g⟩).run P w=.ok (.value (.int .u64 ((u64 n:Nat):Int))) w:=by rw[ko hs ht hx,wrap_u64]
end
def Du(vs:List Nat):List Value:=vs.map fun v:Nat=>Value.int .u64 (v:Int)
theorem GC{vs:List Nat}{i v:Nat}(h:vs[i]? =some v):((Du vs).drop (i*1)).take 1=[.int .u64 (v:Int)]:=by
 have dW:=(List.getElem?_eq_some_iff.1 h).1;have he:=(List.getElem?_eq_some_iff.1 h).2;unfold Du;rw[Nat.mul_one,←List.map_drop,←List.map_take,List.drop_eq_getElem_cons dW,List.take_succ_cons,List.take_zero,he];rfl
end Go.Sl.kM
namespace Go.Sl.kM
open Go Go.Sl Go.Sl.eM Go.Sl.gU Go.Sl.gW
end Go.Sl.kM
namespace Go.Sl
open Go
end Go.Sl
namespace Go.Sl.kM
open Go Go.Sl Go.Sl.eM Go.Sl.gU Go.Sl.gW
theorem Jo(o:Od):(GB o).length=73+o.c.data.length:=by
 unfold GB;simp only[List.length_append,aT,iy];show 8+8*8+1+_=_;omega
theorem sI(b:List UInt8):(gp b).length≤b.length:=by
 unfold gp;split
 · rw[List.length_take];omega
 exact Nat.zero_le _
end Go.Sl.kM
namespace Go.Sl.kM
open Go Go.Sl Go.Sl.eM Go.Sl.gU Go.Sl.gW
def izV(vs:List Int):List Value:=vs.map fun v:Int=>Value.int .i64 v
theorem XI{vs:List Int}{i:Nat}{v:Int}(h:vs[i]? =some v):((izV vs).drop (i*1)).take 1=[.int .i64 v]:=by
 have dW:=(List.getElem?_eq_some_iff.1 h).1;have he:=(List.getElem?_eq_some_iff.1 h).2;unfold izV;rw[Nat.mul_one,←List.map_drop,←List.map_take,List.drop_eq_getElem_cons dW,List.take_succ_cons,List.take_zero,he];rfl
end Go.Sl.kM
namespace Go.Sl.kM
open Go Go.Sl Go.Sl.eM Go.Sl.gU Go.Sl.gW
def V4:Rp:=⟨0,0,0,[],0⟩
def P3(b:List UInt8):An:=(XG (gp b)).2.1
def Jp(b:List UInt8):Prop:=(eX b).2=0∧(XG (gp b)).2.2.2=false∧(XG (gp b)).1=2∧(P3 b).hint≤1
instance(b:List UInt8):Decidable (Jp b):=by unfold Jp;infer_instance
def iV(b:List UInt8):Option An:=if Jp b then(if(P3 b).done then some {P3 b with hint:=0} else some {P3 b with r:=V4}) else none
end Go.Sl.kM
namespace Go.Proofs.YtcplmndikhjehaaGreat
open Go.Proofs.Tryz
open Go Go.Sl Go.Sl.eM Go.Sl.gU Go.Sl.gW Go.Sl.kM
set_option maxHeartbeats 0
set_option maxRecDepth 8000
variable{ab:Option Addr}{br cb n:Nat}
variable{W0 w:World}{L F:List aC}
theorem Jq[tF:To L F]{bs:List UInt8}{bad:Bool}(uI:1≤n)(hn8:n≤8)(h:On W0 (aX br [.slice ab bs.length cb,.bool bad] 241::L) w)(C:aB F (Bytes (.slice ab bs.length cb) bs)):Cs 123 [br,.int .i64 (n:Int)] w fun v w'=>(n≤bs.length∧∃a' c',aB F (Bytes (.slice a' (bs.drop n).length c') (bs.drop n))∧v=.int .u64 (uJ (bs.take n):Int)∧On W0 (aX br [.slice a' (bs.drop n).length c',.bool bad] 241::L) w')∨(bs.length<n∧v=.int .u64 0∧On W0 (aX br [.slice none ([]:List UInt8).length 0,.bool true] 241::L) w'):=by
 refine qO ?_;have fH:=aG;have aA:=Cells.bounds (h.aO C);obtain⟨yg,IT⟩:=aA;refine qC ?_ (C:=jS (at_:=((0:Nat):Int)) h (aB.to C));rintro _ w hg;rcases hg with⟨cD,rfl,h⟩|⟨dX,rfl,h⟩
 ·
  refine go ?_;refine WL.v (cQ rfl) ?_;refine go ?_;refine W.cs ?_;refine W.seq ?_;have hle:n≤bs.length:=by omega
  have aA:=lR C hle yg;obtain⟨a',c',eY,CC⟩:=aA;refine go ?_;refine WL.v (iP (l:=n) underlying28 sizeOf5 rfl rfl hle eY) ?_;refine gs fun w h _=> ?_;refine qR ?_;have ev:bs.take n=(bs.drop ((0:Nat):Int).toNat).take ((n:Int)).toNat:=by simp
  rw[ev];exact .inl ⟨hle,a',c',CC,rfl,h.to⟩
 refine qS fun w h _=> ?_;refine gs fun w h _=> ?_;refine qR ?_;exact .inr ⟨by omega,rfl,h.to⟩
theorem EK[tF:To L F]{s:RS}(uI:1≤n)(hn8:n≤8)(h:On W0 (aX br [.slice ab s.1.length cb,.bool s.2] 241::L) w)(C:aB F (Bytes (.slice ab s.1.length cb) s.1)):Cs 123 [br,.int .i64 (n:Int)] w fun v w'=>∃a' c',aB F (Bytes (.slice a' (nF n s).2.1.length c') (nF n s).2.1)∧v=.int .u64 ((nF n s).1:Int)∧On W0 (aX br [.slice a' (nF n s).2.1.length c',.bool (nF n s).2.2] 241::L) w':=by
 exact(Jq uI hn8 h C).mono fun e w' he=>by
   obtain⟨v,he,hv⟩:=he;refine⟨v,he, ?_⟩;rcases hv with⟨hle,a',c',CC,hv,h⟩|⟨dW,hv,h⟩
   · have e:nF n s=(uJ (s.1.take n),(s.1.drop n,s.2)):=by unfold nF;rw[if_pos hle]
     rw[e];exact⟨a',c',CC,hv,h⟩
   have e:nF n s=(0,([],true)):=by unfold nF;rw[if_neg (by omega)]
   rw[e];exact⟨none,0,aB.rL,hv,h⟩
theorem Uc[tF:To L F]{s:RS}(h:On W0 (aX br [.slice ab s.1.length cb,.bool s.2] 241::L) w)(C:aB F (Bytes (.slice ab s.1.length cb) s.1)):Cs 262 [br] w fun v w'=>∃a' c',aB F (Bytes (.slice a' (Ds s).2.1.length c') (Ds s).2.1)∧v=.int .i64 (Ds s).1∧On W0 (aX br [.slice a' (Ds s).2.1.length c',.bool (Ds s).2.2] 241::L) w':=by
 refine qO ?_;refine qC ?_ (C:=EK (n:=8) (by decide) (by decide) h C);rintro _ w ⟨a1,c1,C1,rfl,h⟩;refine WL.v (ko underlying30 underlying3 rfl) ?_;refine qR ?_;exact⟨a1,c1,C1,rfl,h⟩
theorem P4[tF:To L F]{s:RS}(h:On W0 (aX br [.slice ab s.1.length cb,.bool s.2] 241::L) w)(C:aB F (Bytes (.slice ab s.1.length cb) s.1)):Cs 263 [br] w fun v w'=>∃a' c',aB F (Bytes (.slice a' (KP s).2.1.length c') (KP s).2.1)∧v=.bool (KP s).1∧On W0 (aX br [.slice a' (KP s).2.1.length c',.bool (KP s).2.2] 241::L) w':=by
 refine qO ?_;refine qC ?_ (C:=EK (n:=1) (by decide) (by decide) h C);rintro _ w ⟨a1,c1,C1,rfl,h⟩;refine WL.z ?_;refine W.sr ?_;refine WL.m ?_;refine WL.m ?_;refine WL.n rfl ?_;refine WL.f 1 underlying241 rfl sizeOf4 rfl rfl ?_;refine WL.Kn (jw isAgg4 rfl (h.aS rfl)) rfl rfl (fun mP=> ?_) (fun mP=> ?_)
 ·
  refine qS fun w h _=> ?_;refine qD ?_;refine qR ?_;have e:(KP s).2.2=true:=by show((nF 1 s).2.2||decide (1<(nF 1 s).1))=true;rw[show(nF 1 s).2.2=true from mP];rfl
  rw[e];exact⟨a1,c1,C1,by congr 1;exact decide_eq_decide.2 (by omega),h⟩
 refine qS fun w h _=> ?_;refine qD ?_;refine qR ?_;have e:(KP s).2.2=decide (1<(nF 1 s).1):=by show((nF 1 s).2.2||decide (1<(nF 1 s).1))=_;rw[show(nF 1 s).2.2=false from mP];rfl
 rw[e];exact⟨a1,c1,C1,by congr 1;exact decide_eq_decide.2 (by omega),(by rw[show decide (1<(nF 1 s).1)=decide ((1:Int)<((nF 1 s).1:Int)) from decide_eq_decide.2 (by omega)];exact h)⟩
theorem tE{b:Bool}(h:On W0 L w):Cs 292 [.bool b] w fun v w'=>v=.int .u64 (tQ b:Int)∧On W0 L w':=by
 refine qO ?_;refine qI (fun c2=> ?_) (fun c2=> ?_)
 · refine qR ?_;subst c2;exact⟨rfl,h⟩
 refine qR ?_;subst c2;exact⟨rfl,h⟩
theorem nV{host kind at_ n cz:Int}{id floor key new:Nat}{force:Bool}{data:List UInt8}{ax:Option Addr}{cx:Nat}(zI:id<18446744073709551616)(ua:floor<18446744073709551616)(hk:key<18446744073709551616)(NV:new<18446744073709551616)(oA:data.length≤1000000)(h:On W0 L w)(C:aB L (Bytes (.slice ax data.length cx) data)):Cs 283 [.agg #[.int .i64 host,.int .u64 (id:Int),.int .u64 (floor:Int),.int .i64 kind,.int .i64 at_,.int .i64 n,.slice ax data.length cx,.int .u64 (key:Int),.int .u64 (new:Int),.int .i64 cz,.bool force]] w fun v w'=>∃a c,v=.slice a (GB ⟨host,id,floor,⟨kind,at_,n,data,(key:Int),(new:Int),cz,force⟩⟩).length c∧On W0 (bC (.slice a (GB ⟨host,id,floor,⟨kind,at_,n,data,(key:Int),(new:Int),cz,force⟩⟩).length c) (GB ⟨host,id,floor,⟨kind,at_,n,data,(key:Int),(new:Int),cz,force⟩⟩)::L) w':=by
 refine qO ?_;have fH:=aG
 have hvs:∀(i x:Nat),[id,floor,u64 kind,u64 at_,u64 n,key,new,u64 cz][i]? =some x→x<18446744073709551616:=by
   intro i x hx;have hm:=List.mem_of_getElem? hx;simp only[List.mem_cons,List.not_mem_nil,or_false] at hm;have a1:=q4 kind;have a2:=q4 at_;have a3:=q4 n;have a4:=q4 cz;rcases hm with rfl|rfl|rfl|rfl|rfl|rfl|rfl|rfl<;>assumption
 refine gb fun b1 w h=> ?_;refine go ?_;refine WL.v (hM underlying3 underlying30 rfl) ?_;refine WL.e (ag call78 (dm (n:=8) (bs:=[]) h aB.rL (by decide) (by decide) (q4 _) (by decide))) ?_;rintro _ w ⟨a9,rfl,h⟩;refine go ?_;refine WL.v (hM underlying3 underlying30 rfl) ?_;refine go ?_;refine WL.v (hM underlying3 underlying30 rfl) ?_;refine go ?_;refine WL.v (hM underlying3 underlying30 rfl) ?_;refine go ?_;refine WL.v (hM underlying3 underlying30 rfl) ?_;refine WL.e (kq (out:=Du [id,floor,u64 kind,u64 at_,u64 n,key,new,u64 cz]) h underlying76 sizeOf30 zeroValue30 rfl (by decide) rfl rfl rfl) ?_;rintro _ w ⟨XJ,rfl,h⟩;refine go ?_;refine W.loop (fun(i:Nat) env w=>∃(j:Env) (ao:Option Addr) (co:Nat),env=eu j [(1,b1),(3,.slice ao (be (u64 host) 8++iJ ([id,floor,u64 kind,u64 at_,u64 n,key,new,u64 cz].take i)).length co),(36,.slice (some ⟨XJ,0,none⟩) 8 8),(37,.int .i64 (8:Nat)),(38,.int .i64 (i:Nat))]∧i≤8∧On W0 (bC (.slice ao (be (u64 host) 8++iJ ([id,floor,u64 kind,u64 at_,u64 n,key,new,u64 cz].take i)).length co) (be (u64 host) 8++iJ ([id,floor,u64 kind,u64 at_,u64 n,key,new,u64 cz].take i))::Own 1 (.slice (some ⟨XJ,0,none⟩) 8 8) 8 (Du [id,floor,u64 kind,u64 at_,u64 n,key,new,u64 cz])::aX b1 [.int .i64 host,.int .u64 (id:Int),.int .u64 (floor:Int),.int .i64 kind,.int .i64 at_,.int .i64 n,.slice ax data.length cx,.int .u64 (key:Int),.int .u64 (new:Int),.int .i64 cz,.bool force] 388::L) w) (fun i=>8 - i) (0) ?_ ?_
 · exact⟨_,a9,_,aD ⟨rfl,rfl,rfl,rfl,rfl,trivial⟩,Nat.zero_le _,h.p1⟩
 clear h;rintro i env w ⟨j,ao,co,rfl,hi,h⟩;have eC:(be (u64 host) 8++iJ ([id,floor,u64 kind,u64 at_,u64 n,key,new,u64 cz].take i)).length=8+8*i:=by rw[List.length_append,aT,iy,List.length_take];show 8+8*min i 8=_;omega
 refine qI (fun c6=> ?_) (fun c6=> ?_)
 ·
  have hx:∃x,[id,floor,u64 kind,u64 at_,u64 n,key,new,u64 cz][i]? =some x:=⟨_,List.getElem?_eq_getElem (show i<8 by omega)⟩;obtain⟨x,hx⟩:=hx;refine qD ?_;refine WL.l isAgg30 rfl ((h.aR (v:=.slice (some ⟨XJ,0,none⟩) 8 8)).elem (i:=i) (vs:=[.int .u64 (x:Int)]) (by omega) (GC hx) 0 _ rfl) ?_;refine qC ?_ (C:=dm (n:=8) h (aB.cF) (by decide) (by decide) (hvs i x hx) (by rw[eC];omega));rintro _ w ⟨a44,rfl,h⟩;refine qD ?_;have e:(be (u64 host) 8++iJ ([id,floor,u64 kind,u64 at_,u64 n,key,new,u64 cz].take i))++be x 8=(be (u64 host) 8++iJ ([id,floor,u64 kind,u64 at_,u64 n,key,new,u64 cz].take (i+1))):=by rw[List.append_assoc,uR hx]
  rw[e] at h;exact⟨i+1,⟨_,a44,_,aD ⟨rfl,(by rw[e];rfl),rfl,rfl,rfl,trivial⟩,by omega,h.to⟩,by show 8 - (i+1)<8 - i;omega⟩
 refine qD ?_;have aA:i=8:=by omega
 obtain rfl:=aA;have hx8:(be (u64 host) 8++iJ ([id,floor,u64 kind,u64 at_,u64 n,key,new,u64 cz].take 8))=be (u64 host) 8++iJ [id,floor,u64 kind,u64 at_,u64 n,key,new,u64 cz]:=rfl;rw[hx8] at h eC;have aA:∃X,X=be (u64 host) 8++iJ [id,floor,u64 kind,u64 at_,u64 n,key,new,u64 cz]:=⟨_,rfl⟩;obtain⟨X,hX⟩:=aA;rw[hx8];rw[←hX] at h eC⊢;refine qT fun w h=> ?_;refine WT.f 6 3 rfl underlying388 rfl sizeOf32 rfl rfl ?_;refine WT.f 7 3 rfl underlying32 rfl sizeOf28 rfl rfl ?_;refine WT.l 8 rfl isAgg28 rfl (h.aS rfl) ?_;refine WT.e 4 [true,false] rfl (ag call292 (tE h)) ?_;rintro _ w ⟨rfl,h⟩;refine qW ?_;refine WT.e 5 [true] rfl (ag call78 (dm (n:=1) h (aB.cF) (by decide) (by decide) (KO _) (by omega))) ?_;rintro _ w ⟨a51,rfl,h⟩;have hyl:(X++be (tQ force) 1).length=73:=by rw[List.length_append,aT];omega
 refine qW ?_;refine WT.e 9 [false] rfl (bU (bytes:=1) h rfl rfl (h.aO C) underlying28 rfl rfl rfl rfl rfl (by omega) (by omega) cR) ?_;rintro _ w ⟨a55,c55,rfl,h⟩;refine⟨trivial, ?_⟩;refine qU ?_;refine qR ?_;have e:(GB ⟨host,id,floor,⟨kind,at_,n,data,(key:Int),(new:Int),cz,force⟩⟩)=(X++be (tQ force) 1)++data:=by rw[hX];rfl
 rw[e];have e2:((X++be (tQ force) 1)++data).length=(X++be (tQ force) 1).length+data.length:=List.length_append ..;have e3:aL (X++be (tQ force) 1)++aL data=aL ((X++be (tQ force) 1)++data):=(List.map_append ..).symm;rw[e3,←e2] at h;exact⟨a55,c55,congrArg (fun q=>Value.slice a55 q c55) e2.symm,h.to⟩
theorem gr[tF:To L F]{s:RS}(uI:1≤n)(hn8:n≤8)(h:On W0 (aX br [.slice ab s.1.length cb,.bool s.2] 241::L) w)(C:aB F (Bytes (.slice ab s.1.length cb) s.1)):Cs 123 [br,.int .i64 (n:Int)] w fun v w'=>∃(x:Nat) (s':RS) (a':Option Addr) (c':Nat),nF n s=(x,s')∧s'.1.length≤s.1.length∧x<256^n∧aB F (Bytes (.slice a' s'.1.length c') s'.1)∧v=.int .u64 (x:Int)∧On W0 (aX br [.slice a' s'.1.length c',.bool s'.2] 241::L) w':=by
 exact(EK uI hn8 h C).mono fun e w' he=>by
   obtain⟨v,he,hv⟩:=he;refine⟨v,he, ?_⟩;obtain⟨a1,c1,C1,hv,h⟩:=hv;exact⟨(nF n s).1,(nF n s).2,a1,c1,rfl,EI,XF,C1,hv,h⟩
theorem jP[tF:To L F]{s:RS}(h:On W0 (aX br [.slice ab s.1.length cb,.bool s.2] 241::L) w)(C:aB F (Bytes (.slice ab s.1.length cb) s.1)):Cs 262 [br] w fun v w'=>∃(x:Int) (s':RS) (a':Option Addr) (c':Nat),Ds s=(x,s')∧s'.1.length≤s.1.length∧aB F (Bytes (.slice a' s'.1.length c') s'.1)∧v=.int .i64 x∧On W0 (aX br [.slice a' s'.1.length c',.bool s'.2] 241::L) w':=by
 exact(Uc h C).mono fun e w' he=>by
   obtain⟨v,he,hv⟩:=he;refine⟨v,he, ?_⟩;obtain⟨a1,c1,C1,hv,h⟩:=hv;exact⟨(Ds s).1,(Ds s).2,a1,c1,rfl,EI,C1,hv,h⟩
theorem Dv[tF:To L F]{s:RS}(h:On W0 (aX br [.slice ab s.1.length cb,.bool s.2] 241::L) w)(C:aB F (Bytes (.slice ab s.1.length cb) s.1)):Cs 263 [br] w fun v w'=>∃(x:Bool) (s':RS) (a':Option Addr) (c':Nat),KP s=(x,s')∧s'.1.length≤s.1.length∧aB F (Bytes (.slice a' s'.1.length c') s'.1)∧v=.bool x∧On W0 (aX br [.slice a' s'.1.length c',.bool s'.2] 241::L) w':=by
 exact(P4 h C).mono fun e w' he=>by
   obtain⟨v,he,hv⟩:=he;refine⟨v,he, ?_⟩;obtain⟨a1,c1,C1,hv,h⟩:=hv;exact⟨(KP s).1,(KP s).2,a1,c1,rfl,EI,C1,hv,h⟩
theorem sJ[tF:To L F]{b:List UInt8}{a0:Option Addr}{c0:Nat}(nj:b.length≤1000000)(h:On W0 L w)(C:aB F (Bytes (.slice a0 b.length c0) b)):Cs 274 [.slice a0 b.length c0] w fun v w'=>∃(o:Od) (a:Option Addr) (c:Nat),v=.tuple #[.agg (o.cells (.slice a o.c.data.length c)).toArray,.bool (xC b)]∧(xC b=true→o=(EJ b).1)∧o.c.data.length≤b.length∧On W0 (bC (.slice a o.c.data.length c) o.c.data::L) w':=by
 refine qO ?_;have fH:=aG;refine gb fun b2 w h=> ?_;refine qB fun b8 w h=> ?_;refine qC ?_ (C:=jP (s:=(b,false)) h C);rintro _ w ⟨XK,s10,sA,mP,e10,l10,C,rfl,h⟩;refine qC ?_ (C:=gr (n:=8) (by decide) (by decide) h C);rintro _ w ⟨ZP,s12,a12,nB,e12,l12,ale,C,rfl,h⟩;refine qC ?_ (C:=gr (n:=8) (by decide) (by decide) h C);rintro _ w ⟨ZQ,s14,Xf,pW,e14,l14,alf,C,rfl,h⟩;refine qB fun b5 w h=> ?_;refine gs fun w h _=> ?_;refine qC ?_ (C:=jP h.p1 C);rintro _ w ⟨M0,s17,I5,tq,e17,TN,C,rfl,h⟩;refine qC ?_ (C:=jP h C);rintro _ w ⟨ZR,s19,a19,CY,e19,l19,C,rfl,h⟩;refine qC ?_ (C:=jP h C);rintro _ w ⟨SG,s21,a21,BR,e21,XL,C,rfl,h⟩;refine qC ?_ (C:=gr (n:=8) (by decide) (by decide) h C);rintro _ w ⟨Jr,s23,a23,wX,e23,XM,alj,C,rfl,h⟩;refine qC ?_ (C:=gr (n:=8) (by decide) (by decide) h C);rintro _ w ⟨Js,s25,a25,Fy,e25,XN,agB,C,rfl,h⟩;refine qC ?_ (C:=jP h C);rintro _ w ⟨P5,s27,a27,Jt,e27,XO,C,rfl,h⟩;refine qC ?_ (C:=Dv h C);rintro _ w ⟨Ju,s29,a29,w9,e29,XP,C,rfl,h⟩;obtain⟨sb,sx⟩:=s29;have iG:=Bool.eq_false_or_eq_true sx;rcases iG with hb|hb<;>subst hb
 ·
  refine qS fun w h _=> ?_;refine qC ?_ (C:=bG h (aB.to C) (by have:=l10;have:=l12;have:=l14;have:=TN;have:=l19;have:=XL;have:=XM;have:=XN;have:=XO;have:=XP;simp only at*;omega));rintro _ w ⟨a36,Xn,rfl,h⟩;refine qC ?_ (C:=cU h);rintro _ w ⟨rfl,h⟩;refine gs fun w h _=> ?_;refine go ?_;refine W.draw Tryz.follows h (fun w h=> ?_);refine WT.gF (vs:=[.int .i64 _,.int .u64 _,.int .u64 _,.int .i64 _,.int .i64 _,.int .i64 _,.slice _ _ _,.int .u64 _,.int .u64 _,.int .i64 _,.bool _]) 0 rfl (by kernel_rfl) isAgg388 sizeOf388 rfl rfl (h.fR (n:=11) rfl) rfl rfl ?_;refine qU ?_;refine WT.e 16 [false,false] rfl (bA h sizeOf388 rfl rfl rfl rfl rfl) ?_;rintro _ w h;refine⟨trivial, ?_⟩;refine qU ?_;refine qR ?_;have e0:EJ b=(⟨XK,ZP,ZQ,⟨M0,ZR,SG,sb,(Jr:Int),(Js:Int),P5,Ju⟩⟩,(sb,true)):=by simp only[EJ,e10,e12,e14,e17,e19,e21,e23,e25,e27,e29]
  have hle:sb.length≤b.length:=by have:=l10;have:=l12;have:=l14;have:=TN;have:=l19;have:=XL;have:=XM;have:=XN;have:=XO;have:=XP;simp only at*;omega
  have e:xC b=false:=by unfold xC;rw[e0];rfl
  rw[e];exact⟨⟨XK,ZP,ZQ,⟨M0,ZR,SG,sb,(Jr:Int),(Js:Int),P5,Ju⟩⟩,a36,_,rfl,fun _=>by rw[e0],hle,h.to⟩
 refine qS fun w h _=> ?_;refine qC ?_ (C:=bG h (aB.to C) (by have:=l10;have:=l12;have:=l14;have:=TN;have:=l19;have:=XL;have:=XM;have:=XN;have:=XO;have:=XP;simp only at*;omega));rintro _ w ⟨a36,Xn,rfl,h⟩;refine qC ?_ (C:=cU h);rintro _ w ⟨rfl,h⟩;refine gs fun w h _=> ?_;refine go ?_;refine W.draw Tryz.follows h (fun w h=> ?_);refine WT.gF (vs:=[.int .i64 _,.int .u64 _,.int .u64 _,.int .i64 _,.int .i64 _,.int .i64 _,.slice _ _ _,.int .u64 _,.int .u64 _,.int .i64 _,.bool _]) 0 rfl (by kernel_rfl) isAgg388 sizeOf388 rfl rfl (h.fR (n:=11) rfl) rfl rfl ?_;refine qU ?_;refine WT.l 8 rfl isAgg3 rfl (h.aS rfl) ?_;refine WT.dec 9 rfl (by kernel_rfl) (fun w'=>(eA rfl rfl)) rfl rfl (fun M1=> ?_) (fun M1=> ?_)
 ·
  refine qU ?_;refine WT.l 13 rfl isAgg3 rfl (h.aS rfl) ?_;refine WT.p 14 rfl (fun w'=>(cH rfl rfl)) ?_;refine qU ?_;refine WT.e 16 [true,false,false,false] rfl (bA h sizeOf388 rfl rfl rfl rfl rfl) ?_;rintro _ w h;refine qW ?_;refine qU ?_;refine qR ?_;have e0:EJ b=(⟨XK,ZP,ZQ,⟨M0,ZR,SG,sb,(Jr:Int),(Js:Int),P5,Ju⟩⟩,(sb,false)):=by simp only[EJ,e10,e12,e14,e17,e19,e21,e23,e25,e27,e29]
  have hle:sb.length≤b.length:=by have:=l10;have:=l12;have:=l14;have:=TN;have:=l19;have:=XL;have:=XM;have:=XN;have:=XO;have:=XP;simp only at*;omega
  have e:xC b=decide (XK<8):=by unfold xC;rw[e0,decide_eq_true (show 0≤(_:Od).host from M1)];rfl
  rw[e];exact⟨⟨XK,ZP,ZQ,⟨M0,ZR,SG,sb,(Jr:Int),(Js:Int),P5,Ju⟩⟩,a36,_,rfl,fun _=>by rw[e0],hle,h.to⟩
 refine qU ?_;refine WT.e 16 [false,false,false] rfl (bA h sizeOf388 rfl rfl rfl rfl rfl) ?_;rintro _ w h;refine⟨trivial, ?_⟩;refine qU ?_;refine qR ?_;have e0:EJ b=(⟨XK,ZP,ZQ,⟨M0,ZR,SG,sb,(Jr:Int),(Js:Int),P5,Ju⟩⟩,(sb,false)):=by simp only[EJ,e10,e12,e14,e17,e19,e21,e23,e25,e27,e29]
 have hle:sb.length≤b.length:=by have:=l10;have:=l12;have:=l14;have:=TN;have:=l19;have:=XL;have:=XM;have:=XN;have:=XO;have:=XP;simp only at*;omega
 have e:xC b=false:=by unfold xC;rw[e0,decide_eq_false (show ¬0≤(_:Od).host from M1),Bool.and_false,Bool.false_and]
 rw[e];exact⟨⟨XK,ZP,ZQ,⟨M0,ZR,SG,sb,(Jr:Int),(Js:Int),P5,Ju⟩⟩,a36,_,rfl,fun _=>by rw[e0],hle,h.to⟩
end Go.Proofs.YtcplmndikhjehaaGreat
namespace Go.Proofs.YtcplmndikhjehaaGreat
open Go.Proofs.Tryz
open Go Go.Sl Go.Sl.eM Go.Sl.gU Go.Sl.gW Go.Sl.kM
set_option maxHeartbeats 0
set_option maxRecDepth 8000
variable{ax:Option Addr}{cx:Nat}{data:List UInt8}
variable{W0 w:World}{L F:List aC}
theorem lU{b:List UInt8}(h:On W0 L w)(C:aB L (Bytes (.slice ax b.length cx) b))(hb:b.length≤1000000):Cs 149 [.slice ax b.length cx] w fun v w'=>∃a c,v=.tuple #[.slice a (gp b).length c,.int .i64 (eX b).2]∧On W0 (bC (.slice a (gp b).length c) (gp b)::L) w':=by
 exact(El h C (by omega)).mono fun e w' he=>by
   obtain⟨v,he,hv⟩:=he;refine⟨v,he, ?_⟩;rcases hv with⟨h0,h4,a,hv,h⟩|⟨hn,hv,h⟩
   · have e:gp b=b.take (b.length - 4):=by unfold gp;rw[if_pos h0]
     rw[e,h0];exact⟨a,_,hv,h⟩
   have e:gp b=[]:=by unfold gp;rw[if_neg hn]
   rw[e];exact⟨none,0,hv,h.bB 1 none⟩
theorem GD{host kind at_ n cz:Int}{id floor key new:Nat}{force:Bool}(zI:id<18446744073709551616)(ua:floor<18446744073709551616)(hk:key<18446744073709551616)(NV:new<18446744073709551616)(oA:data.length≤1000000)(h:On W0 L w)(C:aB L (Bytes (.slice ax data.length cx) data)):Cs 208 [.int .i64 host,.int .u64 (id:Int),.int .u64 (floor:Int),.agg #[.int .i64 kind,.int .i64 at_,.int .i64 n,.slice ax data.length cx,.int .u64 (key:Int),.int .u64 (new:Int),.int .i64 cz,.bool force]] w fun v w'=>∃a,v=.slice a (zi ⟨host,id,floor,⟨kind,at_,n,data,(key:Int),(new:Int),cz,force⟩⟩).length (zi ⟨host,id,floor,⟨kind,at_,n,data,(key:Int),(new:Int),cz,force⟩⟩).length∧On W0 (bC (.slice a (zi ⟨host,id,floor,⟨kind,at_,n,data,(key:Int),(new:Int),cz,force⟩⟩).length (zi ⟨host,id,floor,⟨kind,at_,n,data,(key:Int),(new:Int),cz,force⟩⟩).length) (zi ⟨host,id,floor,⟨kind,at_,n,data,(key:Int),(new:Int),cz,force⟩⟩)::L) w':=by
 refine qO ?_;have fH:=aG;have r7:=Jo ⟨host,id,floor,⟨kind,at_,n,data,(key:Int),(new:Int),cz,force⟩⟩;simp only at r7;refine gb fun b7 w h=> ?_;refine go ?_;refine WL.e (aZ (zl:=[.int .u8 0]) (out:=[.int .u8 _]) h underlying28 sizeOf5 zeroValue5 (by decide) (by kernel_rfl) rfl rfl (by simp) fz rfl rfl (by simp[maxLen])) ?_;rintro _ w ⟨b9,rfl,h⟩;refine go ?_;refine WL.v (aP (pl:=[(0,1),(1,1),(2,1),(3,8)]) (out:=[.int .i64 _,.int .u64 _,.int .u64 _,.int .i64 _,.int .i64 _,.int .i64 _,.slice _ _ _,.int .u64 _,.int .u64 _,.int .i64 _,.bool _]) underlying388 zeroValue388 (fun w=>by kernel_rfl) rfl fz rfl) ?_;refine WL.e (ag call283 (nV zI ua hk NV oA h (aB.to C))) ?_;rintro v15 w ⟨tu,kY,hv,h⟩;have aA:∃B,B=(GB ⟨host,id,floor,⟨kind,at_,n,data,(key:Int),(new:Int),cz,force⟩⟩):=⟨_,rfl⟩;obtain⟨B,hB⟩:=aA;rw[←hB] at hv h r7;subst hv;refine WL.e (bU (bytes:=1) h rfl rfl (h.aR) underlying28 rfl rfl rfl rfl rfl (by omega) (by omega) cR) ?_;rintro v16 w ⟨KI,oM,hv,h⟩;have h:On W0 (Own 1 (.slice KI (1+B.length) oM) (1+B.length) (aL ([1]++B))::_) w:=h;have aA:∃Q9,Q9=[1]++B:=⟨_,rfl⟩;obtain⟨Q9,hX⟩:=aA;have ZS:1+B.length=Q9.length:=by rw[hX,Nat.add_comm];rfl
 rw[←hX,ZS] at h;rw[ZS] at hv;subst hv;have h:On W0 (bC (.slice KI Q9.length oM) Q9::_) w:=h;refine qC ?_ (C:=oN (bs:=Q9) h (aB.cF (v:=.slice KI Q9.length oM)) (by omega));rintro _ w ⟨I5,rfl,h⟩;refine qR ?_;have e:(zi ⟨host,id,floor,⟨kind,at_,n,data,(key:Int),(new:Int),cz,force⟩⟩)=dR Q9:=by rw[hX,hB];rfl
 rw[e];exact⟨I5,rfl,h.to⟩
theorem Jv{kind bl run dO index prev aW:Nat}(hk:kind<256)(hv6:∀v∈[bl,run,dO,index,prev,aW],v<18446744073709551616)(oA:data.length≤1000000)(h:On W0 L w)(C:aB L (Bytes (.slice ax data.length cx) data)):Cs 321 [.agg #[.int .i64 (kind:Int),.int .u64 (bl:Int),.int .u64 (run:Int),.int .u64 (dO:Int),.int .u64 (index:Int),.int .u64 (prev:Int),.int .u64 (aW:Int),.slice ax data.length cx]] w fun v w'=>∃a,v=.slice a (SF ⟨kind,bl,run,dO,index,prev,aW,data⟩).length (SF ⟨kind,bl,run,dO,index,prev,aW,data⟩).length∧On W0 (bC (.slice a (SF ⟨kind,bl,run,dO,index,prev,aW,data⟩).length (SF ⟨kind,bl,run,dO,index,prev,aW,data⟩).length) (SF ⟨kind,bl,run,dO,index,prev,aW,data⟩)::L) w':=by
 refine qO ?_;have fH:=aG;have hk8:((UInt8.ofNat kind).toNat:Int)=(kind:Int):=by rw[UInt8.toNat_ofNat'];omega
 refine gb fun b1 w h=> ?_;refine qD ?_;refine WL.e (aZ (zl:=[.int .u8 0]) (out:=[.int .u8 _]) h underlying28 sizeOf5 zeroValue5 (by decide) (by kernel_rfl) rfl rfl (by simp) fz rfl rfl (by simp[maxLen])) ?_;rintro _ w ⟨b9,rfl,h⟩;refine gw ?_;refine W.seq ?_;refine W.seq ?_;rw[←hk8] at h;refine go ?_;refine WL.e (kq (out:=Du [bl,run,dO,index,prev,aW]) h underlying76 sizeOf30 zeroValue30 rfl (by decide) rfl rfl rfl) ?_;rintro _ w ⟨b22,rfl,h⟩;refine go ?_;refine W.loop (fun(i:Nat) env w=>∃(j:Env) (ao:Option Addr) (co:Nat) (Y:List UInt8),Y=([UInt8.ofNat kind]++iJ ([bl,run,dO,index,prev,aW].take i))∧env=eu j [(1,b1),(3,.slice ao Y.length co),(22,.slice (some ⟨b22,0,none⟩) 6 6),(23,.int .i64 (6:Nat)),(24,.int .i64 (i:Nat))]∧i≤6∧On W0 (bC (.slice ao Y.length co) Y::Own 1 (.slice (some ⟨b22,0,none⟩) 6 6) 6 (Du [bl,run,dO,index,prev,aW])::aX b1 [.int .i64 ((UInt8.ofNat kind).toNat:Int),.int .u64 (bl:Int),.int .u64 (run:Int),.int .u64 (dO:Int),.int .u64 (index:Int),.int .u64 (prev:Int),.int .u64 (aW:Int),.slice ax data.length cx] 341::L) w) (fun i=>6 - i) (0) ?_ ?_
 · exact⟨_,some ⟨b9,0,none⟩,1,[UInt8.ofNat kind],rfl,aD ⟨rfl,rfl,rfl,rfl,rfl,trivial⟩,Nat.zero_le _,h.p1⟩
 clear h;rintro i env w ⟨j,ao,co,Y,hY,rfl,hi,h⟩;have eC:Y.length=1+8*i:=by rw[hY,List.length_append,iy,List.length_take];show 1+8*min i 6=_;omega
 refine qI (fun c6=> ?_) (fun c6=> ?_)
 · have hx:∃x,[bl,run,dO,index,prev,aW][i]? =some x:=⟨_,List.getElem?_eq_getElem (show i<6 by omega)⟩;obtain⟨x,hx⟩:=hx;refine qD ?_;refine WL.l isAgg30 rfl ((h.aR (v:=.slice (some ⟨b22,0,none⟩) 6 6)).elem (i:=i) (vs:=[.int .u64 (x:Int)]) (by omega) (GC hx) 0 _ rfl) ?_;refine qC ?_ (C:=dm (v:=x) (n:=8) (bs:=Y) h (aB.cF (v:=.slice ao Y.length co)) (by decide) (by decide) (hv6 x (List.mem_of_getElem? hx)) (by omega));rintro _ w ⟨KG,rfl,h⟩;refine qD ?_;exact⟨i+1,⟨_,KG,_,Y++be x 8,(by rw[hY,List.append_assoc,uR hx]),aD ⟨rfl,rfl,rfl,rfl,rfl,trivial⟩,by omega,h.to⟩,by show 6 - (i+1)<6 - i;omega⟩
 refine go ?_;refine WL.e (bU (bytes:=1) h rfl rfl (h.aO C) underlying28 rfl rfl rfl rfl rfl (by omega) (by omega) cR) ?_;rintro v35 w ⟨a35,c35,hv,h⟩;have aA:∃Q9,Q9=Y++data:=⟨_,rfl⟩;obtain⟨Q9,hQ⟩:=aA;have M3:Y.length+data.length=Q9.length:=by rw[hQ,List.length_append]
 have e3:aL Y++aL data=aL Q9:=by rw[hQ];exact(List.map_append ..).symm
 rw[e3,M3] at h;rw[M3] at hv;subst hv;have h:On W0 (bC (.slice a35 Q9.length c35) Q9::_) w:=h;refine qC ?_ (C:=oN (bs:=Q9) h (aB.cF (v:=.slice a35 Q9.length c35)) (by omega));rintro _ w ⟨a36,rfl,h⟩;refine qR ?_;have aA:i=6:=by omega
 obtain rfl:=aA;have e:(SF ⟨kind,bl,run,dO,index,prev,aW,data⟩)=dR Q9:=by rw[hQ,hY];rfl
 rw[e];exact⟨a36,rfl,h.to⟩
theorem q5{host hint st rk code info:Int}{id:Nat}{done:Bool}(zI:id<18446744073709551616)(NW: -1≤hint)(hh1:hint≤1)(oA:data.length≤1000000)(h:On W0 L w)(C:aB L (Bytes (.slice ax data.length cx) data)):Cs 275 [.int .i64 host,.int .u64 (id:Int),.agg #[.int .i64 st,.int .i64 rk,.int .i64 code,.slice ax data.length cx,.int .i64 info],.bool done,.int .i64 hint] w fun v w'=>∃a,v=.slice a (vY ⟨host,id,⟨st,rk,code,data,info⟩,done,hint⟩).length (vY ⟨host,id,⟨st,rk,code,data,info⟩,done,hint⟩).length∧On W0 (bC (.slice a (vY ⟨host,id,⟨st,rk,code,data,info⟩,done,hint⟩).length (vY ⟨host,id,⟨st,rk,code,data,info⟩,done,hint⟩).length) (vY ⟨host,id,⟨st,rk,code,data,info⟩,done,hint⟩)::L) w':=by
 refine qO ?_;have fH:=aG;refine gb fun b7 w h=> ?_;refine go ?_;refine WL.e (aZ (zl:=[.int .u8 0]) (out:=[.int .u8 _]) h underlying28 sizeOf5 zeroValue5 (by decide) (by kernel_rfl) rfl rfl (by simp) fz rfl rfl (by simp[maxLen])) ?_;rintro _ w ⟨XQ,rfl,h⟩;refine go ?_;refine WL.v (hM underlying3 underlying30 rfl) ?_;refine WL.e (ag call78 (dm (n:=8) (bs:=[2]) h (aB.cF) (by decide) (by decide) (q4 _) (by decide))) ?_;rintro v17 w ⟨I5,hv,h⟩;have aA:∃Y,Y=[2]++be (u64 host) 8:=⟨_,rfl⟩;obtain⟨Y17,XR⟩:=aA;have agE:Y17.length=9:=by rw[XR];simp only[List.length_append,aT,List.length_cons,List.length_nil]
 rw[←XR] at hv h;subst hv;refine qC ?_ (C:=dm (v:=id) (n:=8) (bs:=Y17) h (aB.cF (v:=.slice I5 Y17.length Y17.length)) (by decide) (by decide) zI (by omega));rintro v19 w ⟨a19,hv,h⟩;have aA:∃Y,Y=Y17++be id 8:=⟨_,rfl⟩;obtain⟨Y19,XS⟩:=aA;have agF:Y19.length=17:=by rw[XS];simp only[List.length_append,aT,List.length_cons,List.length_nil,agE]
 rw[←XS] at hv h;subst hv;refine qC ?_ (C:=tE h);rintro _ w ⟨rfl,h⟩;refine qC ?_ (C:=dm (v:=tQ done) (n:=1) (bs:=Y19) h (aB.cF (v:=.slice a19 Y19.length Y19.length)) (by decide) (by decide) (KO _) (by omega));rintro v22 w ⟨a22,hv,h⟩;have aA:∃Y,Y=Y19++be (tQ done) 1:=⟨_,rfl⟩;obtain⟨Y22,XT⟩:=aA;have agG:Y22.length=18:=by rw[XT];simp only[List.length_append,aT,List.length_cons,List.length_nil,agF]
 rw[←XT] at hv h;subst hv;refine go ?_;refine WL.v (di rfl rfl (by omega) (by omega)) ?_;refine WL.v (hM underlying3 underlying30 rfl) ?_;refine WL.e (ag call78 (dm (n:=1) h (aB.cF) (by decide) (by decide) (q4 _) (by omega))) ?_;rintro v27 w ⟨a27,hv,h⟩;have aA:∃Y,Y=Y22++be (u64 (hint+1)) 1:=⟨_,rfl⟩;obtain⟨Y27,XU⟩:=aA;have agI:Y27.length=19:=by rw[XU];simp only[List.length_append,aT,List.length_cons,List.length_nil,agG]
 rw[←XU] at hv h;subst hv;refine go ?_;refine WL.e (kq (out:=izV [st,rk,code,info]) h underlying22 sizeOf3 zeroValue3 rfl (by decide) rfl rfl rfl) ?_;rintro _ w ⟨XJ,rfl,h⟩;refine go ?_;refine W.loop (fun(i:Nat) env w=>∃(j:Env) (ao:Option Addr) (co:Nat) (Y:List UInt8),Y=Y27++iJ (([st,rk,code,info].map u64).take i)∧env=eu j [(7,b7),(11,.slice ao Y.length co),(36,.slice (some ⟨XJ,0,none⟩) 4 4),(37,.int .i64 (4:Nat)),(38,.int .i64 (i:Nat))]∧i≤4∧On W0 (bC (.slice ao Y.length co) Y::Own 1 (.slice (some ⟨XJ,0,none⟩) 4 4) 4 (izV [st,rk,code,info])::aX b7 [.int .i64 st,.int .i64 rk,.int .i64 code,.slice ax data.length cx,.int .i64 info] 38::L) w) (fun i=>4 - i) (0) ?_ ?_
 · exact⟨_,a27,_,Y27,(List.append_nil _).symm,aD ⟨rfl,rfl,rfl,rfl,rfl,trivial⟩,Nat.zero_le _,h.to⟩
 clear h;rintro i env w ⟨j,ao,co,Y,hY,rfl,hi,h⟩;have eC:Y.length=19+8*i:=by rw[hY,List.length_append,iy,List.length_take,agI];show 19+8*min i 4=_;omega
 refine qI (fun c7=> ?_) (fun c7=> ?_)
 ·
  have hx:∃x,[st,rk,code,info][i]? =some x:=⟨_,List.getElem?_eq_getElem (show i<4 by omega)⟩;obtain⟨x,hx⟩:=hx;refine qD ?_;refine WL.l isAgg3 rfl ((h.aR (v:=.slice (some ⟨XJ,0,none⟩) 4 4)).elem (i:=i) (vs:=[.int .i64 x]) (by omega) (XI hx) 0 _ rfl) ?_;refine go ?_;refine WL.v (hM underlying3 underlying30 rfl) ?_;refine WL.e (ag call78 (dm (n:=8) h (aB.cF) (by decide) (by decide) (q4 _) (by omega))) ?_;rintro _ w ⟨VO,rfl,h⟩;refine qD ?_;have wW:([st,rk,code,info].map u64)[i]? =some (u64 x):=by rw[List.getElem?_map,hx];rfl
  exact⟨i+1,⟨_,VO,_,Y++be (u64 x) 8,(by rw[hY,List.append_assoc,uR wW]),aD ⟨rfl,rfl,rfl,rfl,rfl,trivial⟩,by omega,h.to⟩,by show 4 - (i+1)<4 - i;omega⟩
 refine go ?_;refine WL.e (bU (bytes:=1) h rfl rfl (h.aO C) underlying28 rfl rfl rfl rfl rfl (by omega) (by omega) cR) ?_;rintro v50 w ⟨a50,c50,hv,h⟩;have aA:∃Q9,Q9=Y++data:=⟨_,rfl⟩;obtain⟨Q9,hQ⟩:=aA;have M3:Y.length+data.length=Q9.length:=by rw[hQ,List.length_append]
 have e3:aL Y++aL data=aL Q9:=by rw[hQ];exact(List.map_append ..).symm
 rw[e3,M3] at h;rw[M3] at hv;subst hv;have h:On W0 (bC (.slice a50 Q9.length c50) Q9::_) w:=h;refine qC ?_ (C:=oN (bs:=Q9) h (aB.cF (v:=.slice a50 Q9.length c50)) (by omega));rintro _ w ⟨a51,rfl,h⟩;refine qR ?_;have aA:i=4:=by omega
 obtain rfl:=aA;have e:(vY ⟨host,id,⟨st,rk,code,data,info⟩,done,hint⟩)=dR Q9:=by rw[hQ,hY,XU,XT,XS,XR];rfl
 rw[e];exact⟨a51,rfl,h.to⟩
end Go.Proofs.YtcplmndikhjehaaGreat
namespace Go.Sl
open Go
section
variable{P:Program}{w:World}
theorem GF{fn:Func}{p u v x y z:Tmp}{ty:TypeId}(h:fn.results=#[.tmp u,.tmp v,.cell p ty,.tmp x,.tmp y,.tmp z])(tmps:Array Value)(P:Program)(w:World):
   (results fn tmps).run P w=
     ((asAddr (tmps.getD p undef)).run P w).andThen fun a B6=>((loadVar ty a).run P B6).andThen fun r Om=> .ok (.tuple #[tmps.getD u undef,tmps.getD v undef,r,tmps.getD x undef,tmps.getD y undef,tmps.getD z undef]) Om:=by
 simp only[results,h];simp[Sem.run_bind,Result.andThen]
theorem bf.r6c{W0:World}{L:List aC}{env:Env}{fn:Func}{R:Value→World→Prop}{t u v x y z rt b n:Nat}{l vs:List Value}{v1 v2 v4 v5 v6:Value}{e:Nat}{fr:Nat×Nat}(H:On W0 L w)(h:fn.results=#[.tmp u,.tmp v,.cell t rt,.tmp x,.tmp y,.tmp z])(hA:∀w,(isAgg rt).run P w=.ok true w)(hS:∀w,(sizeOf rt).run P w=.ok n w)
   (he:env t=.pointer (some ⟨b,0,none⟩)) [i:dQ L b l e fr] (hv:l=vs) (hl:vs.length=n) (h1:env u=v1) (h2:env v=v2) (h4:env x=v4) (h5:env y=v5) (h6:env z=v6) (hR:R (.tuple #[v1,v2,.agg vs.toArray,v4,v5,v6]) w):bf P fn R .ret env w:=by
 refine⟨.tuple #[v1,v2,.agg vs.toArray,v4,v5,v6],fun tmps hg=> ?_,hR⟩;have hp:tmps.getD t undef=.pointer (some ⟨b,0,none⟩):=by rw[hg,he]
 have:=run_loadCells_list (P:=P) w ⟨b,0,none⟩ vs (fun j v hj=>by rw[Addr.jU,Nat.zero_add];exact H.aS (by rw[hv];exact hj));rw[hl] at this;rw[GF h,hp];simp only[asAddr,Sem.run_pure,Result.andThen_ok];simp[loadVar,hA,hS,this,←h1,←h2,←h4,←h5,←h6,←hg u,←hg v,←hg x,←hg y,←hg z]
end
end Go.Sl
namespace Go.Proofs.YtcplmndikhjehaaGreat
open Go.Proofs.Tryz
open Go Go.Sl Go.Sl.eM Go.Sl.gU Go.Sl.gW Go.Sl.kM
set_option maxHeartbeats 0
set_option maxRecDepth 8000
variable{W0 w:World}{L F:List aC}
theorem GG{b:List UInt8}{a0:Option Addr}{c0:Nat}(nj:b.length≤1000000)(h:On W0 L w)(C:aB L (Bytes (.slice a0 b.length c0) b)):Cs 202 [.slice a0 b.length c0] w fun v w'=>∃(m:Ms) (a:Option Addr) (c:Nat),v=.tuple #[.agg #[.int .i64 (m.kind:Int),.int .u64 (m.bl:Int),.int .u64 (m.run:Int),.int .u64 (m.dO:Int),.int .u64 (m.index:Int),.int .u64 (m.prev:Int),.int .u64 (m.aW:Int),.slice a m.data.length c],.bool (xD b).isSome]∧(∀m',xD b=some m'→m'=m)∧m.data.length≤b.length∧On W0 (bC (.slice a m.data.length c) m.data::L) w':=by
 refine qO ?_;have fH:=aG;refine gb fun b2 w h=> ?_;refine qC ?_ (C:=lU h (aB.to C) nj);rintro v10 w ⟨sA,mP,hv,h⟩;have P6:=sI b;have aA:∃Q,Q=gp b:=⟨_,rfl⟩;obtain⟨Q8,KQ⟩:=aA;have aA:∃er,er=(eX b).2:=⟨_,rfl⟩;obtain⟨er,NX⟩:=aA;rw[←KQ,←NX] at hv;rw[←KQ] at h P6;subst hv;clear C;have C:aB [bC (.slice sA Q8.length mP) Q8] (Bytes (.slice sA Q8.length mP) Q8):=aB.cF;refine go ?_;refine WL.v (aP (pl:=[(0,1),(1,1)]) (out:=[.slice _ _ _,.bool _]) underlying241 zeroValue241 (fun w=>by kernel_rfl) rfl fz rfl) ?_;refine gb fun b15 w h=> ?_;refine qC ?_ (C:=gr (s:=(Q8,false)) (n:=1) (by decide) (by decide) h C);rintro _ w ⟨M0,s17,I5,tq,e17,TN,alr,C,rfl,h⟩;refine qC ?_ (C:=gr (n:=8) (by decide) (by decide) h C);rintro _ w ⟨ZT,s20,a20,zF,e20,l20,alu,C,rfl,h⟩;refine qC ?_ (C:=gr (n:=8) (by decide) (by decide) h C);rintro _ w ⟨ZU,s22,a22,CZ,e22,l22,alx,C,rfl,h⟩;refine qC ?_ (C:=gr (n:=8) (by decide) (by decide) h C);rintro _ w ⟨ZV,s24,a24,Ic,e24,l24,alA,C,rfl,h⟩;refine qC ?_ (C:=gr (n:=8) (by decide) (by decide) h C);rintro _ w ⟨ZW,s26,a26,Ud,e26,l26,alE,C,rfl,h⟩;refine qC ?_ (C:=gr (n:=8) (by decide) (by decide) h C);rintro _ w ⟨ZX,s28,a28,Ie,e28,l28,alH,C,rfl,h⟩;refine qC ?_ (C:=gr (n:=8) (by decide) (by decide) h C);rintro _ w ⟨ZY,P7,KG,SH,e30,l30,alK,C,rfl,h⟩;refine WL.v (aP (pl:=[(0,1),(1,1),(2,1),(3,1),(4,1),(5,1),(6,1),(7,1)]) (out:=[.int .i64 _,.int .u64 _,.int .u64 _,.int .u64 _,.int .u64 _,.int .u64 _,.int .u64 _,.slice _ _ _]) underlying341 zeroValue341 (fun w=>by kernel_rfl) rfl fz rfl) ?_;refine gb fun b7 w h=> ?_;refine gs fun w h _=> ?_;refine gw ?_;refine W.seq ?_;have zB:P7.1.length≤b.length:=by have:=TN;have:=l20;have:=l22;have:=l24;have:=l26;have:=l28;have:=l30;simp only at*;omega
 refine qC ?_ (C:=bG (h.p1) (aB.to C) (by omega));rintro _ w ⟨a36,Xn,rfl,h⟩;refine gs fun w h _=> ?_;refine go ?_;refine W.draw Tryz.follows h (fun w h=> ?_);refine WT.gF (vs:=[.int .i64 _,.int .u64 _,.int .u64 _,.int .u64 _,.int .u64 _,.int .u64 _,.int .u64 _,.slice _ _ _]) 0 rfl (by kernel_rfl) isAgg341 sizeOf341 rfl rfl (h.fR (n:=8) rfl) rfl rfl ?_;refine qU ?_;refine WT.dec 2 rfl (by kernel_rfl) (fun w'=>(cL rfl rfl)) rfl rfl (fun FA=> ?_) (fun FA=> ?_)
 ·
  refine qU ?_;refine WT.e 10 [true,false] rfl (bA h sizeOf341 rfl rfl rfl rfl rfl) ?_;rintro _ w h;refine qW ?_;refine qU ?_;refine W.ret (bf.rX (vs:=[.int .i64 _,.int .u64 _,.int .u64 _,.int .u64 _,.int .u64 _,.int .u64 _,.int .u64 _,.slice _ _ _]) (v2:=.bool _) h results202 isAgg341 sizeOf341 rfl rfl rfl rfl ?_);have e0:XH (gp b)=(⟨M0,ZT,ZU,ZV,ZW,ZX,ZY,P7.1⟩,P7):=by rw[←KQ];simp only[XH,e17,e20,e22,e24,e26,e28,e30]
  have em1:xD b=if P7.2=false then some ⟨M0,ZT,ZU,ZV,ZW,ZX,ZY,P7.1⟩ else none:=by unfold xD;rw[←NX,show er=0 from FA,e0];simp
  have e:(xD b).isSome= !P7.2:=by rw[em1];cases P7.2<;>rfl
  have em:∀m',xD b=some m'→m'=⟨M0,ZT,ZU,ZV,ZW,ZX,ZY,P7.1⟩:=by
    intro m' hm;rw[em1] at hm;split at hm
    · cases hm;rfl
    cases hm
  rw[e];exact⟨⟨M0,ZT,ZU,ZV,ZW,ZX,ZY,P7.1⟩,a36,_,rfl,em,zB,h.to⟩
 refine qU ?_;refine WT.e 10 [false] rfl (bA h sizeOf341 rfl rfl rfl rfl rfl) ?_;rintro _ w h;refine⟨trivial, ?_⟩;refine qU ?_;refine W.ret (bf.rX (vs:=[.int .i64 _,.int .u64 _,.int .u64 _,.int .u64 _,.int .u64 _,.int .u64 _,.int .u64 _,.slice _ _ _]) (v2:=.bool _) h results202 isAgg341 sizeOf341 rfl rfl rfl rfl ?_);have em1:xD b=none:=by unfold xD;rw[←NX,if_neg (fun hh=>FA hh.1)]
 have e:(xD b).isSome=false:=by rw[em1];rfl
 have em:∀m',xD b=some m'→m'=⟨M0,ZT,ZU,ZV,ZW,ZX,ZY,P7.1⟩:=by
   intro m' hm;rw[em1] at hm;cases hm
 rw[e];exact⟨⟨M0,ZT,ZU,ZV,ZW,ZX,ZY,P7.1⟩,a36,_,rfl,em,zB,h.to⟩
theorem Jw{b:List UInt8}{a0:Option Addr}{c0:Nat}(nj:b.length≤1000000)(h:On W0 L w)(C:aB L (Bytes (.slice a0 b.length c0) b)):Cs 194 [.slice a0 b.length c0] w fun v w'=>∃(a:An) (ad:Option Addr) (c:Nat) (ok:Bool),v=.tuple #[.int .i64 a.host,.int .u64 (a.id:Int),.agg #[.int .i64 a.r.st,.int .i64 a.r.key,.int .i64 a.r.code,.slice ad a.r.data.length c,.int .i64 a.r.info],.bool a.done,.int .i64 a.hint,.bool ok]∧iV b=(if ok then some a else none)∧a.r.data.length≤b.length∧On W0 (bC (.slice ad a.r.data.length c) a.r.data::L) w':=by
 refine qO ?_;have fH:=aG;refine gb fun b4 w h=> ?_;refine qC ?_ (C:=lU h (aB.to C) nj);rintro v14 w ⟨Xf,pW,hv,h⟩;have P6:=sI b;have aA:∃Q,Q=gp b:=⟨_,rfl⟩;obtain⟨Q8,KQ⟩:=aA;have aA:∃er,er=(eX b).2:=⟨_,rfl⟩;obtain⟨er,NX⟩:=aA;rw[←KQ,←NX] at hv;rw[←KQ] at h P6;subst hv;clear C;have C:aB [bC (.slice Xf Q8.length pW) Q8] (Bytes (.slice Xf Q8.length pW) Q8):=aB.cF;refine go ?_;refine WL.v (aP (pl:=[(0,1),(1,1)]) (out:=[.slice _ _ _,.bool _]) underlying241 zeroValue241 (fun w=>by kernel_rfl) rfl fz rfl) ?_;refine gb fun P8 w h=> ?_;refine qC ?_ (C:=gr (s:=(Q8,false)) (n:=1) (by decide) (by decide) h C);rintro _ w ⟨SG,s21,a21,BR,e21,XL,alL,C,rfl,h⟩;refine qC ?_ (C:=jP h C);rintro _ w ⟨Jr,s23,a23,wX,e23,XM,C,rfl,h⟩;refine qC ?_ (C:=gr (n:=8) (by decide) (by decide) h C);rintro _ w ⟨Js,s25,a25,Fy,e25,XN,agB,C,rfl,h⟩;refine qC ?_ (C:=Dv h C);rintro _ w ⟨P5,s27,a27,Jt,e27,XO,C,rfl,h⟩;refine qC ?_ (C:=gr (n:=1) (by decide) (by decide) h C);rintro _ w ⟨Ju,s29,a29,w9,e29,XP,alM,C,rfl,h⟩;refine qC ?_ (C:=jP h C);rintro _ w ⟨ZZ,s33,a33,rO,e33,l33,C,rfl,h⟩;refine qC ?_ (C:=jP h C);rintro _ w ⟨Z0,s35,a35,c35,e35,l35,C,rfl,h⟩;refine qC ?_ (C:=jP h C);rintro _ w ⟨Z1,s37,Pg,NU,e37,l37,C,rfl,h⟩;refine qC ?_ (C:=jP h C);rintro _ w ⟨Z2,KR,XV,Ue,e39,l39,C,rfl,h⟩;refine WL.v (aP (pl:=[(0,1),(1,1),(2,1),(3,1),(4,1)]) (out:=[.int .i64 _,.int .i64 _,.int .i64 _,.slice _ _ _,.int .i64 _]) underlying38 zeroValue38 (fun w=>by kernel_rfl) rfl fz rfl) ?_;refine gs fun w h _=> ?_;refine gw ?_;refine W.seq ?_;have zB:KR.1.length≤b.length:=by have:=XL;have:=XM;have:=XN;have:=XO;have:=XP;have:=l33;have:=l35;have:=l37;have:=l39;simp only at*;omega
 have e0:XG (gp b)=(SG,⟨Jr,Js,⟨ZZ,Z0,Z1,KR.1,Z2⟩,P5,(Ju:Int) - 1⟩,KR):=by rw[←KQ];simp only[XG,e21,e23,e25,e27,e29,e33,e35,e37,e39]
 refine qC ?_ (C:=bG h (aB.to C) (by omega));rintro _ w ⟨VO,c45,rfl,h⟩;refine qC ?_ (C:=cU h);rintro _ w ⟨rfl,h⟩;refine gs fun w h _=> ?_;refine gw ?_;refine W.seq ?_;refine W.cut (fun env w=>∃(j:Env) (ok:Bool),(ok=true↔Jp b)∧env=eu j [(2,.int .i64 Jr),(3,.int .u64 (Js:Int)),(4,b4),(5,.bool P5),(6,.int .i64 ((Ju:Int) - 1)),(63,.bool (!ok))]∧On W0 (aX b4 [.int .i64 ZZ,.int .i64 Z0,.int .i64 Z1,.slice VO KR.1.length KR.1.length,.int .i64 Z2] 38::bC (.slice VO KR.1.length KR.1.length) KR.1::L) w) ?_ ?_
 ·
  refine go ?_;refine WL.q (e7 rfl rfl) (fun M1=> ?_) (fun M1=> ?_)
  · refine qD ?_;exact⟨_,false,iff_of_false (by decide) (fun hh=>M1 (by rw[NX];exact hh.1)),aD ⟨rfl,rfl,rfl,rfl,rfl,rfl,trivial⟩,h.to⟩
  refine WL.m ?_;refine WL.m ?_;refine WL.n rfl ?_;refine WL.f 1 underlying241 rfl sizeOf4 rfl rfl ?_;refine WL.Kn (jw isAgg4 rfl (h.aS rfl)) rfl rfl (fun Z3=> ?_) (fun Z3=> ?_)
  · refine qD ?_;exact⟨_,false,iff_of_false (by decide) (fun hh=>by have h2:=hh.2.1;rw[e0] at h2;rw[show KR.2=false from h2] at Z3;cases Z3),aD ⟨rfl,rfl,rfl,rfl,rfl,rfl,trivial⟩,h.to⟩
  refine qN ?_;refine WL.q (e7 rfl rfl) (fun H9=> ?_) (fun H9=> ?_)
  · refine qD ?_;exact⟨_,false,iff_of_false (by decide) (fun hh=>by have h2:=hh.2.2.1;rw[e0] at h2;exact H9 (by rw[show SG=2 from h2];rfl)),aD ⟨rfl,rfl,rfl,rfl,rfl,rfl,trivial⟩,h.to⟩
  refine qD ?_
  have cD:(!decide ((1:Int)<(Ju:Int) - 1))=true↔Jp b:=by
    unfold Jp P3;rw[e0,←NX];have agK:SG=2:=by omega
    have agL:er=0:=by omega
    simp only[agK,agL,show KR.2=false from Z3,true_and];rw[Bool.not_eq_true',decide_eq_false_iff_not];omega
  exact⟨_, !decide ((1:Int)<(Ju:Int) - 1),cD,aD ⟨rfl,rfl,rfl,rfl,rfl,congrArg Value.bool (Bool.not_not _).symm,trivial⟩,h.to⟩
 clear h;rintro env w ⟨j,ok,cD,rfl,h⟩;refine qI (fun c9=> ?_) (fun c9=> ?_)
 ·
  refine qS fun w h _=> ?_;refine go ?_;refine W.ret (bf.r6c (vs:=[.int .i64 _,.int .i64 _,.int .i64 _,.slice _ _ _,.int .i64 _]) (v1:=.int .i64 _) (v2:=.int .u64 _) (v4:=.bool _) (v5:=.int .i64 _) (v6:=.bool _) h results194 isAgg38 sizeOf38 rfl rfl rfl rfl rfl rfl rfl rfl ?_);have hn:ok=false:=by simpa using c9
  have e:iV b=none:=by unfold iV;rw[if_neg (fun hh=>by have:=cD.2 hh;rw[hn] at this;cases this)]
  rw[e];exact⟨⟨0,0,V4,false,0⟩,none,0,false,rfl,rfl,Nat.zero_le _,(h.tail.tail).bB 1 none⟩
 refine qI (fun pW=> ?_) (fun pW=> ?_)
 ·
  refine go ?_;refine W.ez Tryz.follows h (by kernel_rfl) fun w h=> ?_;refine gs fun w h _=> ?_;refine go ?_;refine W.ret (bf.r6c (vs:=[.int .i64 _,.int .i64 _,.int .i64 _,.slice _ _ _,.int .i64 _]) (v1:=.int .i64 _) (v2:=.int .u64 _) (v4:=.bool _) (v5:=.int .i64 _) (v6:=.bool _) h results194 isAgg38 sizeOf38 rfl rfl rfl rfl rfl rfl rfl rfl ?_);have hk:ok=true:=by simpa using c9
  have ha:P3 b=⟨Jr,Js,⟨ZZ,Z0,Z1,KR.1,Z2⟩,P5,(Ju:Int) - 1⟩:=by unfold P3;rw[e0]
  subst pW;have e:iV b=some ⟨Jr,Js,⟨ZZ,Z0,Z1,KR.1,Z2⟩,true,0⟩:=by unfold iV;rw[if_pos (cD.1 hk),ha];rfl
  rw[e];exact⟨⟨Jr,Js,⟨ZZ,Z0,Z1,KR.1,Z2⟩,true,0⟩,VO,_,true,rfl,rfl,zB,h.to⟩
 refine qS fun w h _=> ?_;refine go ?_;refine W.ret (bf.r6c (vs:=[.int .i64 _,.int .i64 _,.int .i64 _,.slice _ _ _,.int .i64 _]) (v1:=.int .i64 _) (v2:=.int .u64 _) (v4:=.bool _) (v5:=.int .i64 _) (v6:=.bool _) h results194 isAgg38 sizeOf38 rfl rfl rfl rfl rfl rfl rfl rfl ?_);have hk:ok=true:=by simpa using c9
 have ha:P3 b=⟨Jr,Js,⟨ZZ,Z0,Z1,KR.1,Z2⟩,P5,(Ju:Int) - 1⟩:=by unfold P3;rw[e0]
 subst pW;have e:iV b=some ⟨Jr,Js,V4,false,(Ju:Int) - 1⟩:=by unfold iV;rw[if_pos (cD.1 hk),ha];rfl
 rw[e];exact⟨⟨Jr,Js,V4,false,(Ju:Int) - 1⟩,none,0,true,rfl,rfl,Nat.zero_le _,(h.tail.tail).bB 1 none⟩
end Go.Proofs.YtcplmndikhjehaaGreat
namespace Go.Sl.oB
open Go Go.Sl
variable{f i:Nat}
abbrev Al:=Int×Int
def pH(x:Al):List Value:=[.int .i64 x.1,.int .i64 x.2]
theorem eo(x:Al):(pH x).length=2:=rfl
structure Tm where
 h:List Al
 now:Int
def l7(h:List Al)(i:Nat):Al:=h.getD i (0,0)
def jg(h:List Al)(i k:Nat):Bool:=decide ((l7 h i).2<(l7 h k).2)||(decide ((l7 h i).2=(l7 h k).2)&&decide ((l7 h i).1<(l7 h k).1))
def yz(h:List Al)(i k:Nat):List Al:=(h.set i (l7 h k)).set k (l7 h i)
def Dw:Nat→List Al→Nat→List Al
 |0,h,_=>h
 |f+1,h,i=>if 0<i∧jg h i ((i - 1) / 2)=true then Dw f (yz h i ((i - 1) / 2)) ((i - 1) / 2) else h
def lV(h:List Al)(i:Nat):Nat:=if 2*i+1+1<h.length∧jg h (2*i+1+1) (2*i+1)=true then 2*i+1+1 else 2*i+1
def lJ:Nat→List Al→Nat→List Al
 |0,h,_=>h
 |f+1,h,i=>if h.length≤lV h i∨jg h (lV h i) i=false then h else lJ f (yz h i (lV h i)) (lV h i)
def Ba(h:List Al)(i:Nat):List Al:=(h.set i (l7 h (h.length - 1))).take (h.length - 1)
def iz(h:List Al)(i:Nat):List Al:=if i<h.length - 1 then lJ h.length (Dw h.length (Ba h i) i) i else Ba h i
def jC(h:List Al)(id:Int):Int:=match h.findIdx? (fun x=>decide (x.1=id)) with|some i=>(i:Int)|none=> -1
def wr(x:Int):Int:=IntKind.wrap .i64 x
def Dx(t:Tm)(h:List Al)(id k:Int):Tm:={t with h:=Dw (h.length+1) (h++[(id,wr (t.now+k))]) h.length}
def lS(t:Tm)(id k:Int):Tm×Int:=
 if k<1∨1073741824<k then(t,1)
 else if 0≤jC t.h id then(Dx t (iz t.h (jC t.h id).toNat) id k,0)
 else if 256≤t.h.length then(t,7) else(Dx t t.h id k,0)
def sK(t:Tm)(id:Int):Tm:=if 0≤jC t.h id then{t with h:=iz t.h (jC t.h id).toNat} else t
def tU:Nat→List Al→Int→List Int→List Al×List Int
 |0,h,_,out=>(h,out)
 |f+1,h,now,out=>if 0<h.length∧(l7 h 0).2≤now then tU f (iz h 0) now (out++[(l7 h 0).1]) else(h,out)
def rG(t:Tm):Tm×List Int:=({h:=(tU t.h.length t.h (wr (t.now+1)) []).1,now:=wr (t.now+1)},(tU t.h.length t.h (wr (t.now+1)) []).2)
@[simp] theorem fA(h:List Al)(i k:Nat):(yz h i k).length=h.length:=by simp[yz]
theorem zJ:∀(f:Nat) (h:List Al) (i:Nat),(Dw f h i).length=h.length
 |0,h,_=>rfl
 |f+1,h,i=>by unfold Dw;split;rw[zJ f,fA];rfl
theorem Dy:∀(f:Nat) (h:List Al) (i:Nat),(lJ f h i).length=h.length
 |0,h,_=>rfl
 |f+1,h,i=>by unfold lJ;split;rfl;rw[Dy f,fA]
theorem mJ(h:List Al)(i:Nat):(Ba h i).length=h.length - 1:=by simp[Ba]
theorem sL(h:List Al)(i:Nat):(iz h i).length=h.length - 1:=by
 unfold iz;split
 · rw[Dy,zJ,mJ]
 exact mJ h i
theorem GH:∀(f g:Nat) (h:List Al) (i:Nat),i≤f→i≤g→Dw f h i=Dw g h i
 | 0,g,h,i,hf,hg=>by
   obtain rfl:i=0:=by omega
   cases g with
   |zero=>rfl
   |succ g=>unfold Dw;rw[if_neg (by omega)]
 | f+1,0,h,i,hf,hg=>by
   obtain rfl:i=0:=by omega
   unfold Dw;rw[if_neg (by omega)]
 | f+1,g+1,h,i,hf,hg=>by
   unfold Dw;split
   · exact GH f g _ _ (by omega) (by omega)
   rfl
theorem Bb:∀(f g:Nat) (h:List Al) (i:Nat),h.length≤f+i→h.length≤g+i→lJ f h i=lJ g h i
 |0,0,h,i,hf,hg=>rfl
 | 0,g+1,h,i,hf,hg=>by
   unfold lJ;rw[if_pos (.inl (by unfold lV;split<;>omega))]
 | f+1,0,h,i,hf,hg=>by
   unfold lJ;rw[if_pos (.inl (by unfold lV;split<;>omega))]
 | f+1,g+1,h,i,hf,hg=>by
   unfold lJ;split
   · rfl
   have hk:i<lV h i:=by unfold lV;split<;>omega
   exact Bb f g _ _ (by rw[fA];omega) (by rw[fA];omega)
theorem GI{h:List Al}(hc:¬(0<i∧jg h i ((i - 1) / 2)=true)):Dw f h i=h:=by
 cases f with
 |zero=>rfl
 |succ f=>unfold Dw;rw[if_neg hc]
theorem XW{h:List Al}(h0:0<i)(hc:jg h i ((i - 1) / 2)=true):Dw (f+1) h i=Dw f (yz h i ((i - 1) / 2)) ((i - 1) / 2):=by
 rw[Dw,if_pos ⟨h0,hc⟩]
theorem Bc{h:List Al}(hc:h.length≤lV h i∨jg h (lV h i) i=false):lJ f h i=h:=by
 cases f with
 |zero=>rfl
 |succ f=>unfold lJ;rw[if_pos hc]
theorem P9{h:List Al}(h0:¬h.length≤lV h i)(hc:jg h (lV h i) i=true):lJ (f+1) h i=lJ f (yz h i (lV h i)) (lV h i):=by
 rw[lJ,if_neg (by rw[hc];simp;omega)]
theorem Qa{h:List Al}(h1:2*i+1+1<h.length)(h2:jg h (2*i+1+1) (2*i+1)=true):lV h i=2*i+1+1:=by unfold lV;rw[if_pos ⟨h1,h2⟩]
theorem GJ{h:List Al}(h1:¬(2*i+1+1<h.length∧jg h (2*i+1+1) (2*i+1)=true)):lV h i=2*i+1:=by unfold lV;rw[if_neg h1]
theorem Uf(h:List Al)(i:Nat):i<lV h i:=by unfold lV;split<;>omega
theorem Dz{h:List Al}{now:Int}{out:List Int}(hc:¬(0<h.length∧(l7 h 0).2≤now)):tU f h now out=(h,out):=by
 cases f with
 |zero=>rfl
 |succ f=>unfold tU;rw[if_neg hc]
theorem Ug{h:List Al}{now:Int}{out:List Int}(h0:0<h.length)(hc:(l7 h 0).2≤now):tU (f+1) h now out=tU f (iz h 0) now (out++[(l7 h 0).1]):=by
 rw[tU,if_pos ⟨h0,hc⟩]
theorem eO{h:List Al}(hi:i<h.length):h[i]? =some (l7 h i):=by unfold l7;rw[List.getD_eq_getElem?_getD,List.getElem?_eq_getElem hi];rfl
theorem yA(h:List Al)(id:Int):jC h id= -1∨∃i:Nat,jC h id=(i:Int)∧i<h.length:=by
 unfold jC;cases e:h.findIdx? (fun x=>decide (x.1=id)) with
 |none=>exact .inl rfl
 |some i=>exact .inr ⟨i,rfl,(List.findIdx?_eq_some_iff_getElem.1 e).1⟩
theorem Jx{h:List Al}{id:Int}(hn:∀(j:Nat) (y:Al),h[j]? =some y→¬y.1=id):jC h id= -1:=by
 unfold jC;rw[List.findIdx?_eq_none_iff.2];intro y hy;obtain⟨j,hj⟩:=List.getElem?_of_mem hy;exact decide_eq_false (hn j y hj)
theorem M4{h:List Al}{id:Int}{x:Al}(hx:h[i]? =some x)(hp:x.1=id)(hn:∀(j:Nat) (y:Al),j<i→h[j]? =some y→¬y.1=id):jC h id=i:=by
 unfold jC;have dW:=(List.getElem?_eq_some_iff.1 hx).1
 have : h.findIdx? (fun x => decide (x.1 = id)) = some i := List.findIdx?_eq_some_iff_getElem.2 ⟨dW, by rw [(List.getElem?_eq_some_iff.1 hx).2]; exact decide_eq_true hp, fun j hj => by
   have := hn j (h[j]'(by omega)) hj (by simp);simpa using this⟩
 rw[this]
theorem Be:∀(l:List Al) (i:Nat) (x:Al),i<l.length→cE (l.flatMap pH) (i*2) (pH x)=(l.set i x).flatMap pH:=by
 intro l
 induction l with
 |nil=>intro i x h;simp at h
 | cons y l ih=>
   intro i x h;cases i with
   |zero=>simp[cE,pH]
   | succ i=>
     simp at h;have:=ih i x h;rw[List.set_cons_succ,List.flatMap_cons,List.flatMap_cons,←this];unfold cE;have e:(i+1)*2=(pH y).length+i*2:=by rw[eo];omega
     rw[e,List.take_length_add_append,Nat.add_assoc,List.drop_length_add_append,List.append_assoc,List.append_assoc,List.append_assoc]
def nq(l:List Int):List Value:=l.map (.int .i64)
theorem M5(l m:List Int):nq (l++m)=nq l++nq m:=by simp[nq]
def eL(T b:Nat)(t:Tm):aC:=Ex fun(x:Option Addr×Nat)=>Pack (t.h.length≤256)
 [aX b [.slice x.1 t.h.length x.2,.int .i64 t.now] T,Own 2 (.slice x.1 t.h.length x.2) t.h.length (t.h.flatMap pH)]
section
variable{W0 w:World}{L:List aC}{T b:Nat}{h:List Al}{now:Int}
theorem jh(H:On W0 (eL T b ⟨h,now⟩::L) w):∃a c,h.length≤256∧On W0 (aX b [.slice a h.length c,.int .i64 now] T::Own 2 (.slice a h.length c) h.length (h.flatMap pH)::L) w:=by
 obtain⟨⟨a,c⟩,H⟩:=H.ex;obtain⟨h1,H⟩:=H.unpack;exact⟨a,c,h1,H⟩
theorem dK{a:Option Addr}{n c:Nat}(h1:h.length≤256)(hn:n=h.length)(H:On W0 (aX b [.slice a n c,.int .i64 now] T::Own 2 (.slice a n c) n (h.flatMap pH)::L) w):On W0 (eL T b ⟨h,now⟩::L) w:=by
 subst hn;exact On.rT (a,c) (On.pack h1 H)
end
end Go.Sl.oB
namespace Go.Proofs.YtcplmndikhjehaaGreat
open Go.Proofs.Tryz
open Go Go.Sl Go.Sl.oB
set_option maxHeartbeats 0
set_option maxRecDepth 8000
variable{b:Nat}{id now:Int}
variable{W0 w:World}{L F:List aC}
theorem Bf{l:List Al}{i k:Nat}(hi:i<l.length)(hk:k<l.length)(h:On W0 (eL 139 b ⟨l,now⟩::L) w):Cs 282 [b,.int .i64 (i:Int),.int .i64 (k:Int)] w fun v w'=>v=.bool (jg l i k)∧On W0 (eL 139 b ⟨l,now⟩::L) w':=by
 refine qO ?_;have aA:=jh h;obtain⟨a,c,hl,h⟩:=aA;have aA:=(h.aR (v:=.slice a l.length c)).addr (by omega);obtain⟨ba,oa,Ej⟩:=aA;subst Ej;refine qT fun w h=> ?_;refine WT.l 3 rfl isAgg137 rfl (h.aS rfl) ?_;refine qU ?_;refine WT.p 5 rfl (fun w'=>(bP underlying137 sizeOf346 rfl rfl (by omega) (by omega))) ?_;refine WT.gF 6 rfl (by kernel_rfl) isAgg346 sizeOf346 rfl rfl ((h.aR (v:=.slice (some ⟨ba,oa,none⟩) l.length c)).elem (vs:=pH (l7 l (i))) (by omega) (aF pH 2 eo l _ _ (eO (by omega)))) rfl rfl ?_;refine qU ?_;refine WT.l 10 rfl isAgg137 rfl (h.aS rfl) ?_;refine qU ?_;refine WT.p 12 rfl (fun w'=>(bP underlying137 sizeOf346 rfl rfl (by omega) (by omega))) ?_;refine WT.gF 13 rfl (by kernel_rfl) isAgg346 sizeOf346 rfl rfl ((h.aR (v:=.slice (some ⟨ba,oa,none⟩) l.length c)).elem (vs:=pH (l7 l (k))) (by omega) (aF pH 2 eo l _ _ (eO (by omega)))) rfl rfl ?_;refine WT.two 14 15 (by kernel_rfl) ?_ ?_
 ·
  refine WT.ju 14 [true,true,true,true] rfl (by kernel_rfl) (bR h zeroValue346 rfl) rfl rfl ?_;rintro _ w ⟨b7,rfl,h⟩;refine⟨⟨((h.aR (v:=.slice (some ⟨ba,oa,none⟩) l.length c)).elem (by omega) (aF pH 2 eo l _ _ (eO (by omega)))),h.aS rfl,((h.aR (v:=.slice (some ⟨ba,oa,none⟩) l.length c)).elem (by omega) (aF pH 2 eo l _ _ (eO (by omega)))),h.aS rfl,trivial⟩, ?_⟩;refine WT.e 15 [true,true,true,true] rfl (bR h zeroValue346 rfl) ?_;rintro _ w ⟨b8,rfl,h⟩;refine⟨⟨((h.aR (v:=.slice (some ⟨ba,oa,none⟩) l.length c)).elem (by omega) (aF pH 2 eo l _ _ (eO (by omega)))),h.aS rfl,((h.aR (v:=.slice (some ⟨ba,oa,none⟩) l.length c)).elem (by omega) (aF pH 2 eo l _ _ (eO (by omega)))),h.aS rfl,trivial⟩, ?_⟩;refine WT.e 16 [true,true,false,false] rfl (bA (vs:=[.int .i64 _,.int .i64 _]) h sizeOf346 rfl rfl rfl rfl rfl) ?_;rintro _ w h;refine⟨⟨((h.aR (v:=.slice (some ⟨ba,oa,none⟩) l.length c)).elem (by omega) (aF pH 2 eo l _ _ (eO (by omega)))),h.aS rfl,trivial⟩, ?_⟩;refine WT.e 17 [false,false] rfl (bA (vs:=[.int .i64 _,.int .i64 _]) h sizeOf346 rfl rfl rfl rfl rfl) ?_;rintro _ w h;refine⟨trivial, ?_⟩;refine qU ?_;refine WL.q (cH rfl rfl) (fun Jt=> ?_) (fun Jt=> ?_)
  ·
   refine qR ?_;have e:jg l i k=true:=by unfold jg;rw[decide_eq_true (show(l7 l i).2<(l7 l k).2 from Jt)];rfl
   rw[e];exact⟨rfl,dK (a:=some ⟨ba,oa,none⟩) (c:=c) hl rfl h.to⟩
  refine go ?_;refine WL.q (cL rfl rfl) (fun rO=> ?_) (fun rO=> ?_)
  ·
   refine qD ?_;refine qR ?_;have e:jg l i k=decide ((l7 l i).1<(l7 l k).1):=by unfold jg;rw[decide_eq_false (show ¬(l7 l i).2<(l7 l k).2 from Jt),decide_eq_true (show(l7 l i).2=(l7 l k).2 from rO)];rfl
   rw[e];exact⟨rfl,dK (a:=some ⟨ba,oa,none⟩) (c:=c) hl rfl h.to⟩
  refine qR ?_;have e:jg l i k=false:=by unfold jg;rw[decide_eq_false (show ¬(l7 l i).2<(l7 l k).2 from Jt),decide_eq_false (show ¬(l7 l i).2=(l7 l k).2 from rO)];rfl
  rw[e];exact⟨rfl,dK (a:=some ⟨ba,oa,none⟩) (c:=c) hl rfl h.to⟩
 refine WT.ju 15 [true,true,true,true] rfl (by kernel_rfl) (bR h zeroValue346 rfl) rfl rfl ?_;rintro _ w ⟨b8,rfl,h⟩;refine⟨⟨((h.aR (v:=.slice (some ⟨ba,oa,none⟩) l.length c)).elem (by omega) (aF pH 2 eo l _ _ (eO (by omega)))),h.aS rfl,((h.aR (v:=.slice (some ⟨ba,oa,none⟩) l.length c)).elem (by omega) (aF pH 2 eo l _ _ (eO (by omega)))),h.aS rfl,trivial⟩, ?_⟩;refine WT.e 14 [true,true,true,true] rfl (bR h zeroValue346 rfl) ?_;rintro _ w ⟨b7,rfl,h⟩;refine⟨⟨((h.aR (v:=.slice (some ⟨ba,oa,none⟩) l.length c)).elem (by omega) (aF pH 2 eo l _ _ (eO (by omega)))),h.aS rfl,((h.aR (v:=.slice (some ⟨ba,oa,none⟩) l.length c)).elem (by omega) (aF pH 2 eo l _ _ (eO (by omega)))),h.aS rfl,trivial⟩, ?_⟩;refine WT.e 16 [true,true,false,false] rfl (bA (vs:=[.int .i64 _,.int .i64 _]) h sizeOf346 rfl rfl rfl rfl rfl) ?_;rintro _ w h;refine⟨⟨((h.aR (v:=.slice (some ⟨ba,oa,none⟩) l.length c)).elem (by omega) (aF pH 2 eo l _ _ (eO (by omega)))),h.aS rfl,trivial⟩, ?_⟩;refine WT.e 17 [false,false] rfl (bA (vs:=[.int .i64 _,.int .i64 _]) h sizeOf346 rfl rfl rfl rfl rfl) ?_;rintro _ w h;refine⟨trivial, ?_⟩;refine qU ?_;refine WL.q (cH rfl rfl) (fun Jt=> ?_) (fun Jt=> ?_)
 ·
  refine qR ?_;have e:jg l i k=true:=by unfold jg;rw[decide_eq_true (show(l7 l i).2<(l7 l k).2 from Jt)];rfl
  rw[e];exact⟨rfl,dK (a:=some ⟨ba,oa,none⟩) (c:=c) hl rfl h.to⟩
 refine go ?_;refine WL.q (cL rfl rfl) (fun rO=> ?_) (fun rO=> ?_)
 ·
  refine qD ?_;refine qR ?_;have e:jg l i k=decide ((l7 l i).1<(l7 l k).1):=by unfold jg;rw[decide_eq_false (show ¬(l7 l i).2<(l7 l k).2 from Jt),decide_eq_true (show(l7 l i).2=(l7 l k).2 from rO)];rfl
  rw[e];exact⟨rfl,dK (a:=some ⟨ba,oa,none⟩) (c:=c) hl rfl h.to⟩
 refine qR ?_;have e:jg l i k=false:=by unfold jg;rw[decide_eq_false (show ¬(l7 l i).2<(l7 l k).2 from Jt),decide_eq_false (show ¬(l7 l i).2=(l7 l k).2 from rO)];rfl
 rw[e];exact⟨rfl,dK (a:=some ⟨ba,oa,none⟩) (c:=c) hl rfl h.to⟩
theorem Jy{l:List Al}{i0:Nat}(hi:i0<l.length)(h:On W0 (eL 139 b ⟨l,now⟩::L) w):Cs 207 [b,.int .i64 (i0:Int)] w fun v w'=>On W0 (eL 139 b ⟨(Dw l.length l i0),now⟩::L) w':=by
 refine qO ?_
 have hl:l.length≤256:=by
   have aA:=jh h;obtain⟨a,c,hl,_⟩:=aA;exact hl
 refine go ?_;refine W.loop (fun(f:Nat) env w=>∃(j:Env) (q:List Al) (i:Nat),env=eu j [(0,b),(1,.int .i64 (i:Int))]∧i≤f∧i<q.length∧q.length=l.length∧Dw f q i=Dw l.length l i0∧On W0 (eL 139 b ⟨q,now⟩::L) w) (fun f=>f) (l.length) ?_ ?_
 · exact⟨_,l,i0,aD ⟨rfl,rfl,trivial⟩,by omega,hi,rfl,rfl,h⟩
 rintro f env w ⟨j,q,i,rfl,hif,hiq,SJ,hR,h⟩;refine go ?_;refine WL.q (iU rfl rfl) (fun c5=> ?_) (fun c5=> ?_)
 ·
  refine go ?_;refine WL.v (iD (m:=i) (n:=1) rfl rfl (by omega) (by omega)) ?_;refine WL.v (gM (m:=i - 1) (n:=2) rfl rfl (by omega) (by decide)) ?_;refine WL.e (ag call282 (Bf hiq (by omega) h)) ?_;rintro _ w ⟨rfl,h⟩;refine qI (fun c3=> ?_) (fun c3=> ?_)
  · refine qD ?_;have Gb:=c3;have aA:=jh h;obtain⟨a,c,hl,h⟩:=aA;have aA:=(h.aR (v:=.slice a q.length c)).addr (by omega);obtain⟨ba,oa,Ej⟩:=aA;subst Ej;refine W.ez Tryz.follows h (by kernel_rfl) fun w h=> ?_;refine go ?_;refine X.v (fun _=>(iD (m:=i) (n:=1) rfl rfl (by omega) (by omega))) ?_;refine X.v (fun _=>(gM (m:=i - 1) (n:=2) rfl rfl (by omega) (by decide))) ?_;refine go ?_;refine X.v (fun _=>(iD (m:=i) (n:=1) rfl rfl (by omega) (by omega))) ?_;refine X.v (fun _=>(gM (m:=i - 1) (n:=2) rfl rfl (by omega) (by decide))) ?_;refine qD ?_;refine X.lr rfl ((h.aR (v:=.slice (some ⟨ba,oa,none⟩) q.length c)).elem (i:=((i - 1) / 2)) (vs:=pH (l7 q (((i - 1) / 2)))) (by omega) (aF pH 2 eo q _ _ (eO (by omega)))) rfl ?_;refine qD ?_;refine X.lr rfl ((h.aR (v:=.slice (some ⟨ba,oa,none⟩) q.length c)).elem (i:=i) (vs:=pH (l7 q (i))) (by omega) (aF pH 2 eo q _ _ (eO (by omega)))) rfl ?_;refine qD ?_;refine X.e (jJ (i:=i) h.p1 sizeOf346 rfl rfl rfl rfl (by omega)) ?_;rintro _ w h;rw[Be _ _ _ (by omega)] at h;refine qD ?_;refine X.e (jJ (i:=((i - 1) / 2)) h sizeOf346 rfl rfl rfl rfl (by omega)) ?_;rintro _ w h;rw[Be _ _ _ (by rw[List.length_set];omega)] at h;refine go ?_;refine WL.v (iD (m:=i) (n:=1) rfl rfl (by omega) (by omega)) ?_;refine WL.v (gM (m:=i - 1) (n:=2) rfl rfl (by omega) (by decide)) ?_;refine gw ?_;have aA:∃g,f=g+1:=⟨f - 1,by omega⟩;obtain⟨g,rfl⟩:=aA;rw[XW (by omega) Gb] at hR;exact⟨g,⟨_,yz q i ((i - 1) / 2),((i - 1) / 2),aD ⟨rfl,rfl,trivial⟩,by omega,by rw[fA];omega,by rw[fA];exact SJ,hR,dK (by rw[fA];exact hl) (fA ..).symm h.p1⟩,by show g<g+1;omega⟩
  refine qR ?_;rw[←hR,GI (fun hh=>by rw[c3] at hh;exact absurd hh.2 (by decide))];exact h
 refine qD ?_;refine qR ?_;rw[←hR,GI (fun hh=>by omega)];exact h
theorem Qb{l:List Al}{i0:Nat}(hi:i0<l.length)(h:On W0 (eL 139 b ⟨l,now⟩::L) w):Cs 281 [b,.int .i64 (i0:Int)] w fun v w'=>On W0 (eL 139 b ⟨(lJ l.length l i0),now⟩::L) w':=by
 refine qO ?_
 have hl:l.length≤256:=by
   have aA:=jh h;obtain⟨a,c,hl,_⟩:=aA;exact hl
 refine go ?_;refine W.loop (fun(f:Nat) env w=>∃(j:Env) (q:List Al) (i:Nat),env=eu j [(0,b),(1,.int .i64 (i:Int))]∧q.length≤f+i∧i<q.length∧q.length=l.length∧lJ f q i=lJ l.length l i0∧On W0 (eL 139 b ⟨q,now⟩::L) w) (fun f=>f) (l.length) ?_ ?_
 · exact⟨_,l,i0,aD ⟨rfl,rfl,trivial⟩,by omega,hi,rfl,rfl,h⟩
 rintro f env w ⟨j,q,i,rfl,hif,hiq,SJ,hR,h⟩;have hgt:=Uf q i;refine go ?_;refine WL.v (dr (m:=2) (n:=i) rfl rfl (by omega)) ?_;refine WL.v (gK (m:=2*i) (n:=1) rfl rfl (by omega)) ?_;refine gw ?_;refine W.cut (fun env w=>∃(j:Env),env=eu j [(0,b),(1,.int .i64 (i:Int)),(4,.int .i64 ((lV q i):Int))]∧On W0 (eL 139 b ⟨q,now⟩::L) w) ?_ ?_
 ·
  refine W.seq ?_;have aA:=jh h;obtain⟨a,c,_,h⟩:=aA;refine qN ?_;refine WL.q (cH rfl rfl) (fun kY=> ?_) (fun kY=> ?_)
  ·
   refine qC ?_ (C:=Bf (by omega) (by omega) (dK (by omega) rfl h));rintro _ w ⟨rfl,h⟩;refine qI (fun c5=> ?_) (fun c5=> ?_)
   · refine qD ?_;exact⟨_,aD ⟨rfl,rfl,congrArg (fun q:Nat=>Value.int .i64 q) (Qa (by omega) c5).symm,trivial⟩,h⟩
   refine qD ?_;exact⟨_,aD ⟨rfl,rfl,congrArg (fun q:Nat=>Value.int .i64 q) (GJ (fun hh=>by rw[c5] at hh;exact absurd hh.2 (by decide))).symm,trivial⟩,h⟩
  refine go ?_;refine WL.pf ?_;refine go ?_;refine W.cs ?_;exact⟨_,aD ⟨rfl,rfl,congrArg (fun q:Nat=>Value.int .i64 q) (GJ (fun hh=>by omega)).symm,trivial⟩,dK (by omega) rfl h⟩
 clear h;rintro env w ⟨j,rfl,h⟩;have aA:=jh h;obtain⟨a,c,_,h⟩:=aA;refine go ?_;refine WL.q (eA rfl rfl) (fun VI=> ?_) (fun VI=> ?_)
 · refine qD ?_;refine qR ?_;rw[←hR,Bc (.inl (by omega))];exact dK (by omega) rfl h
 refine qC ?_ (C:=Bf (by omega) hiq (dK (by omega) rfl h));rintro _ w ⟨rfl,h⟩;refine qI (fun c9=> ?_) (fun c9=> ?_)
 · refine qR ?_;rw[←hR,Bc (.inr (by simpa using c9))];exact h
 refine qD ?_;have Gb:jg q (lV q i) i=true:=by simpa using c9
 have aA:=jh h;obtain⟨a,c,hl,h⟩:=aA;have aA:=(h.aR (v:=.slice a q.length c)).addr (by omega);obtain⟨ba,oa,Ej⟩:=aA;subst Ej;refine qG fun w h=> ?_;refine X.lr rfl ((h.aR (v:=.slice (some ⟨ba,oa,none⟩) q.length c)).elem (i:=(lV q i)) (vs:=pH (l7 q ((lV q i)))) (by omega) (aF pH 2 eo q _ _ (eO (by omega)))) rfl ?_;refine qD ?_;refine X.lr rfl ((h.aR (v:=.slice (some ⟨ba,oa,none⟩) q.length c)).elem (i:=i) (vs:=pH (l7 q (i))) (by omega) (aF pH 2 eo q _ _ (eO (by omega)))) rfl ?_;refine qD ?_;refine X.e (jJ (i:=i) h.p1 sizeOf346 rfl rfl rfl rfl (by omega)) ?_;rintro _ w h;rw[Be _ _ _ (by omega)] at h;refine qD ?_;refine X.e (jJ (i:=(lV q i)) h sizeOf346 rfl rfl rfl rfl (by omega)) ?_;rintro _ w h;rw[Be _ _ _ (by rw[List.length_set];omega)] at h;refine qD ?_;have aA:∃g,f=g+1:=⟨f - 1,by omega⟩;obtain⟨g,rfl⟩:=aA;rw[P9 (by omega) Gb] at hR;exact⟨g,⟨_,yz q i (lV q i),lV q i,aD ⟨rfl,rfl,trivial⟩,by rw[fA];omega,by rw[fA];omega,by rw[fA];exact SJ,hR,dK (by rw[fA];exact hl) (fA ..).symm h.p1⟩,by show g<g+1;omega⟩
theorem M6{b3:Nat}{x:Al}{cs:List Value}{e:Nat}{fr:Nat×Nat}(h:On W0 L w)[dQ L b3 (.int .i64 id::cs) e fr]:Cs 280 [.agg (pH x).toArray,b3] w fun v w'=>v=.bool (decide (x.1=id))∧On W0 L w':=by
 refine qO ?_;refine qB fun b2 w h=> ?_;have h:On W0 (aX b2 [.int .i64 x.1,.int .i64 x.2] _::_) w:=h;refine qD ?_;refine qR ?_;exact⟨rfl,h.tail⟩
theorem M7{a:Option Addr}{c:Nat}{l:List Al}{f:FuncId}{caps:Array Value}(h:On W0 L w)(hn:l.length≤1000000)(C:aB L (Cells 2 (.slice a l.length c) l.length (l.flatMap pH)))(hf:∀args w,(callFunc f args).run Tryz.prog w=.ok (.enter f args) w)(hg:∀(x:Al) (w:World),On W0 L w→Calls Tryz.prog f (#[.agg (pH x).toArray]++caps) w (wU fun v w'=>v=.bool (decide (x.1=id))∧On W0 L w')):Cs 279 [.slice a l.length c,.func (.func f) #[] caps] w fun v w'=>v=.int .i64 (jC l id)∧On W0 L w':=by
 refine qO ?_;refine go ?_;refine W.loop (fun(i:Nat) env w=>∃j,env=eu j [(0,.slice a l.length c),(1,.func (.func f) #[] caps),(7,.int .i64 ((l.length:Nat):Int)),(8,.int .i64 (i:Int))]∧i≤l.length∧(∀(j:Nat) (y:Al),j<i→l[j]? =some y→¬y.1=id)∧On W0 L w) (fun i=>l.length - i) (0) ?_ ?_
 · exact⟨_,aD ⟨rfl,rfl,rfl,rfl,trivial⟩,Nat.zero_le _,(fun j y hj=>by omega),h⟩
 rintro i env w ⟨j,rfl,hi,dX,h⟩;refine qI (fun c5=> ?_) (fun c5=> ?_)
 ·
  refine W.skip ?_;refine W.seq ?_;refine W.block ?_;refine W.seq ?_;have hx:l[i]? =some (l7 l i):=eO (by omega);have aA:=(h.reads (aB.to C)).addr (by omega);obtain⟨ba,oa,rfl⟩:=aA;refine qD ?_;refine WL.v (gi isAgg346 sizeOf346 rfl rfl ((h.reads (aB.to C)).elem (i:=i) (vs:=pH (l7 l i)) (by omega) (aF pH 2 eo l _ _ hx))) ?_;refine WL.e (nI rfl hf (hg (l7 l i) _ h)) ?_;rintro _ w ⟨rfl,h⟩;refine qI (fun ou=> ?_) (fun ou=> ?_)
  · refine qR ?_;exact⟨by rw[M4 hx ou dX],h⟩
  refine qD ?_
  exact ⟨i + 1, ⟨_, aD ⟨rfl, rfl, rfl, rfl, trivial⟩, by omega, (fun j y hj hy => by
    by_cases N7:j=i
    · subst N7;rw[hx] at hy;cases hy;exact ou
    exact dX j y (by omega) hy), h⟩, by show l.length - (i + 1) < l.length - i; omega⟩
 refine qR ?_;exact⟨by rw[Jx fun j y hj=>dX j y (by have:=(List.getElem?_eq_some_iff.1 hj).1;omega) hj],h⟩
theorem GK{l:List Al}(h:On W0 (eL 139 b ⟨l,now⟩::L) w):Cs 205 [b,.int .i64 id] w fun v w'=>v=.int .i64 (jC l id)∧On W0 (eL 139 b ⟨l,now⟩::L) w':=by
 refine qO ?_;have aA:=jh h;obtain⟨a,c,hl,h⟩:=aA;refine gb fun b3 w h=> ?_;refine qC ?_ (C:=M7 (caps:=#[.pointer (some ⟨b3,0,none⟩)]) h (by omega) (aB.cF) call280 (fun x w h=>M6 h));rintro _ w ⟨rfl,h⟩;refine qR ?_;exact⟨rfl,dK (a:=a) (c:=c) hl rfl h.to⟩
theorem uS{l:List Al}{i:Nat}(hi:i<l.length)(h:On W0 (eL 139 b ⟨l,now⟩::L) w):Cs 206 [b,.int .i64 (i:Int)] w fun v w'=>On W0 (eL 139 b ⟨(iz l i),now⟩::L) w':=by
 refine qO ?_;have aA:=jh h;obtain⟨a,c,hl,h⟩:=aA;have aA:=Own.bounds h.p1;obtain⟨yg,_⟩:=aA;have aA:=(h.aR (v:=.slice a l.length c)).addr (by omega);obtain⟨ba,oa,Ej⟩:=aA;subst Ej;refine go ?_;refine WL.v (iD (m:=l.length) (n:=1) rfl rfl (by omega) (by omega)) ?_;refine qG fun w h=> ?_;refine X.lr rfl ((h.aR (v:=.slice (some ⟨ba,oa,none⟩) l.length c)).elem (i:=(l.length - 1)) (vs:=pH (l7 l ((l.length - 1)))) (by omega) (aF pH 2 eo l _ _ (eO (by omega)))) rfl ?_;refine qD ?_;refine X.e (jJ (i:=i) h.p1 sizeOf346 rfl rfl rfl rfl (by omega)) ?_;rintro _ w h;rw[Be _ _ _ (by omega)] at h;refine go ?_;refine WL.v (rW (h:=l.length - 1) underlying137 sizeOf346 rfl rfl (by omega)) ?_;refine gs fun w h _=> ?_;refine gw ?_;refine W.seq ?_;have h3:=Own.front (k:=l.length - 1) h.g (by omega);rw[qM pH 2 eo] at h3;have h:On W0 (eL 139 b ⟨(Ba l i),now⟩::L) w:=dK (by rw[mJ];omega) (mJ l i).symm h3.p1;clear h3;refine qI (fun c4=> ?_) (fun c4=> ?_)
 ·
  refine qC ?_ (C:=Jy (by rw[mJ];omega) h);rintro _ w h;refine qC ?_ (C:=Qb (by rw[zJ,mJ];omega) h);rintro _ w h;refine qR ?_
  have e:iz l i=lJ (Dw (Ba l i).length (Ba l i) i).length (Dw (Ba l i).length (Ba l i) i) i:=by
    unfold iz;rw[if_pos (by omega),GH l.length (Ba l i).length _ _ (by omega) (by rw[mJ];omega),Bb l.length _ _ _ (by rw[zJ,mJ];omega) (Nat.le_add_right ..)]
  rw[e];exact h
 refine qR ?_;have e:iz l i=Ba l i:=by unfold iz;rw[if_neg (by omega)]
 rw[e];exact h
end Go.Proofs.YtcplmndikhjehaaGreat
