/-
  Texts of a proof as one.
-/
import Derived.Test.YtcplmndikhjehaaGreatOnceGQ4
import Derived.Test.YtcplmndikhjehaaGreatOnceGQ2
import Derived.Test.YtcplmndikhjehaaGreatOnceGQ3
import Derived.Test.YtcplmndikhjehaaGreatOnceGQ1
set_option linter.unusedVariables false
set_option linter.unusedSimpArgs false
namespace Go.Proofs.YtcplmndikhjehaaGreat
open Go.Proofs.Tryz
open Go Go.Sl Go.Sl.oB Go.Sl.eM
set_option maxHeartbeats 0
set_option maxRecDepth 8000
variable{b:Nat}{now:Int}
variable{W0 w:World}{L F:List aC}
theorem zK{l:List Al}{id k:Int}(h:On W0 (eL 139 b ⟨l,now⟩::L) w):Cs 132 [b,.int .i64 id,.int .i64 k] w fun v w'=>v=.int .i64 (lS ⟨l,now⟩ id k).2∧On W0 (eL 139 b (lS ⟨l,now⟩ id k).1::L) w':=by
 refine qO ?_
 have hl:l.length≤256:=by
   have aA:=jh h;obtain⟨a,c,hl,_⟩:=aA;exact hl
 have fH:=aG;refine go ?_;refine WL.q (cH rfl rfl) (fun c9=> ?_) (fun c9=> ?_)
 ·
  refine qD ?_;refine qR ?_;have e:lS ⟨l,now⟩ id k=(⟨l,now⟩,1):=by unfold lS;rw[if_pos (by omega)]
  rw[e];exact⟨rfl,h⟩
 refine qI (fun c2=> ?_) (fun c2=> ?_)
 ·
  refine qR ?_;have e:lS ⟨l,now⟩ id k=(⟨l,now⟩,1):=by unfold lS;rw[if_pos (by omega)]
  rw[e];exact⟨rfl,h⟩
 refine qC ?_ (C:=GK h);rintro _ w ⟨hv,h⟩;have hfc:=yA l id;rcases hfc with hf|⟨i,hf,hi⟩<;>(rw[hf] at hv;subst hv)
 ·
  refine gw ?_;refine W.cut (fun env w=>∃(j:Env) (q:List Al),env=eu j [(0,b),(1,.int .i64 id),(2,.int .i64 k)]∧q.length≤255∧lS ⟨l,now⟩ id k=(Dx ⟨l,now⟩ q id k,0)∧On W0 (eL 139 b ⟨q,now⟩::L) w) ?_ ?_
  ·
   refine go ?_;refine WL.v (nM rfl rfl (by decide)) ?_;refine go ?_;refine W.cf ?_;refine W.seq ?_;have aA:=jh h;obtain⟨a,c,_,h⟩:=aA;refine qI (fun nB=> ?_) (fun nB=> ?_)
   ·
    refine qR ?_;have e:lS ⟨l,now⟩ id k=(⟨l,now⟩,7):=by unfold lS;rw[if_neg (by omega),if_neg (by show ¬0≤jC l id;omega),if_pos (by show 256≤l.length;omega)]
    rw[e];exact⟨rfl,dK hl rfl h⟩
   refine qD ?_;have e:lS ⟨l,now⟩ id k=(Dx ⟨l,now⟩ l id k,0):=by unfold lS;rw[if_neg (by omega),if_neg (by show ¬0≤jC l id;omega),if_neg (by show ¬256≤l.length;omega)]
   exact⟨_,l,aD ⟨rfl,rfl,rfl,trivial⟩,by omega,e,dK hl rfl h⟩
  clear h;rintro env w ⟨j,q,rfl,hq,he,h⟩;rw[he];have aA:=jh h;obtain⟨a,c,_,h⟩:=aA;refine go ?_;refine W.draw Tryz.follows h (fun w h=> ?_);refine WT.m 0 rfl ?_;refine WT.m 1 rfl ?_;refine WT.n 2 rfl rfl ?_;refine WT.f 3 0 rfl underlying139 rfl sizeOf137 rfl rfl ?_;refine WT.l 4 rfl isAgg137 rfl (h.aS rfl) ?_;refine WT.m 5 rfl ?_;refine WT.m 6 rfl ?_;refine WT.n 7 rfl rfl ?_;refine WT.f 8 1 rfl underlying139 rfl sizeOf3 rfl rfl ?_;refine WT.l 9 rfl isAgg3 rfl (h.aS rfl) ?_;refine WT.m 10 rfl ?_;refine WT.p 11 rfl (fun w'=>(eU rfl rfl)) ?_;refine WT.p 12 rfl (fun w'=>(aP (pl:=[(0,1),(1,1)]) (out:=[.int .i64 _,.int .i64 _]) underlying346 zeroValue346 (fun w=>by kernel_rfl) rfl fz rfl)) ?_;refine WT.e 13 [false,true] rfl (aZ (zl:=[.int .i64 0,.int .i64 0]) (out:=[.int .i64 _,.int .i64 _]) h underlying137 sizeOf346 zeroValue346 (by decide) (by kernel_rfl) rfl rfl (by simp) fz rfl rfl (by simp[maxLen])) ?_;rintro _ w ⟨b43,rfl,h⟩;refine qW ?_;refine WT.e 14 [false] rfl (bU (bytes:=16) h rfl rfl (h.aR) underlying137 rfl rfl rfl rfl rfl (by omega) (by omega) (by simp[Value.oneCell'])) ?_;rintro _ w ⟨a44,c44,rfl,h⟩;refine⟨trivial, ?_⟩;refine WT.n 15 rfl rfl ?_;refine WT.f 16 0 rfl underlying139 rfl sizeOf137 rfl rfl ?_;refine WT.e 17 [] rfl (bI (v:=.slice _ _ _) h sizeOf137 rfl rfl rfl rfl rfl) ?_;rintro _ w h
  try simp only[Nat.zero_add,Nat.add_zero,List.set_cons_zero,List.set_cons_succ] at h
  refine⟨trivial, ?_⟩;refine WT.dn ?_;refine W.seq ?_
  have h:On W0 (eL 139 b ⟨(q++[(id,wr (now+k))]),now⟩::L) w:=by
    refine dK (a:=a44) (n:=q.length+1) (c:=c44) (by rw[List.length_append,List.length_singleton];omega) (by rw[List.length_append];rfl) ?_;rw[List.flatMap_append];exact h.p2.d2
  have aA:=jh h;obtain⟨a5,c5,_,h⟩:=aA;have SJ:(q++[(id,wr (now+k))]).length=q.length+1:=List.length_append ..;refine go ?_;refine WL.v (tr (m:=(q++[(id,wr (now+k))]).length) (n:=1) (r:=q.length) rfl rfl (by omega) (by omega) (by omega)) ?_;refine WL.e (ag call207 (Jy (by rw[List.length_append,List.length_singleton];omega) (dK (by rw[List.length_append,List.length_singleton];omega) rfl h))) ?_;rintro _ w h;rw[show(q++[(id,wr (now+k))]).length=q.length+1 from List.length_append ..] at h;refine qR ?_;exact⟨rfl,h⟩
 refine gw ?_;refine W.cut (fun env w=>∃(j:Env) (q:List Al),env=eu j [(0,b),(1,.int .i64 id),(2,.int .i64 k)]∧q.length≤255∧lS ⟨l,now⟩ id k=(Dx ⟨l,now⟩ q id k,0)∧On W0 (eL 139 b ⟨q,now⟩::L) w) ?_ ?_
 ·
  refine qE ?_;refine WL.e (ag call206 (uS hi h)) ?_;rintro _ w h;refine gw ?_;have e:lS ⟨l,now⟩ id k=(Dx ⟨l,now⟩ (iz l i) id k,0):=by unfold lS;rw[if_neg (by omega),if_pos (by show 0≤jC l id;omega),show(jC (Tm.h ⟨l,now⟩) id).toNat=i by show(jC l id).toNat=i;omega]
  exact⟨_,iz l i,aD ⟨rfl,rfl,rfl,trivial⟩,by rw[sL];omega,e,h⟩
 clear h;rintro env w ⟨j,q,rfl,hq,he,h⟩;rw[he];have aA:=jh h;obtain⟨a,c,_,h⟩:=aA;refine go ?_;refine W.draw Tryz.follows h (fun w h=> ?_);refine WT.m 0 rfl ?_;refine WT.m 1 rfl ?_;refine WT.n 2 rfl rfl ?_;refine WT.f 3 0 rfl underlying139 rfl sizeOf137 rfl rfl ?_;refine WT.l 4 rfl isAgg137 rfl (h.aS rfl) ?_;refine WT.m 5 rfl ?_;refine WT.m 6 rfl ?_;refine WT.n 7 rfl rfl ?_;refine WT.f 8 1 rfl underlying139 rfl sizeOf3 rfl rfl ?_;refine WT.l 9 rfl isAgg3 rfl (h.aS rfl) ?_;refine WT.m 10 rfl ?_;refine WT.p 11 rfl (fun w'=>(eU rfl rfl)) ?_;refine WT.p 12 rfl (fun w'=>(aP (pl:=[(0,1),(1,1)]) (out:=[.int .i64 _,.int .i64 _]) underlying346 zeroValue346 (fun w=>by kernel_rfl) rfl fz rfl)) ?_;refine WT.e 13 [false,true] rfl (aZ (zl:=[.int .i64 0,.int .i64 0]) (out:=[.int .i64 _,.int .i64 _]) h underlying137 sizeOf346 zeroValue346 (by decide) (by kernel_rfl) rfl rfl (by simp) fz rfl rfl (by simp[maxLen])) ?_;rintro _ w ⟨b43,rfl,h⟩;refine qW ?_;refine WT.e 14 [false] rfl (bU (bytes:=16) h rfl rfl (h.aR) underlying137 rfl rfl rfl rfl rfl (by omega) (by omega) (by simp[Value.oneCell'])) ?_;rintro _ w ⟨a44,c44,rfl,h⟩;refine⟨trivial, ?_⟩;refine WT.n 15 rfl rfl ?_;refine WT.f 16 0 rfl underlying139 rfl sizeOf137 rfl rfl ?_;refine WT.e 17 [] rfl (bI (v:=.slice _ _ _) h sizeOf137 rfl rfl rfl rfl rfl) ?_;rintro _ w h
 try simp only[Nat.zero_add,Nat.add_zero,List.set_cons_zero,List.set_cons_succ] at h
 refine⟨trivial, ?_⟩;refine WT.dn ?_;refine W.seq ?_
 have h:On W0 (eL 139 b ⟨(q++[(id,wr (now+k))]),now⟩::L) w:=by
   refine dK (a:=a44) (n:=q.length+1) (c:=c44) (by rw[List.length_append,List.length_singleton];omega) (by rw[List.length_append];rfl) ?_;rw[List.flatMap_append];exact h.p2.d2
 have aA:=jh h;obtain⟨a5,c5,_,h⟩:=aA;have SJ:(q++[(id,wr (now+k))]).length=q.length+1:=List.length_append ..;refine go ?_;refine WL.v (tr (m:=(q++[(id,wr (now+k))]).length) (n:=1) (r:=q.length) rfl rfl (by omega) (by omega) (by omega)) ?_;refine WL.e (ag call207 (Jy (by rw[List.length_append,List.length_singleton];omega) (dK (by rw[List.length_append,List.length_singleton];omega) rfl h))) ?_;rintro _ w h;rw[show(q++[(id,wr (now+k))]).length=q.length+1 from List.length_append ..] at h;refine qR ?_;exact⟨rfl,h⟩
theorem Bg{l:List Al}{id:Int}(h:On W0 (eL 139 b ⟨l,now⟩::L) w):Cs 265 [b,.int .i64 id] w fun v w'=>∃r:Bool,v=.bool r∧On W0 (eL 139 b (sK ⟨l,now⟩ id)::L) w':=by
 refine qO ?_;refine qC ?_ (C:=GK h);rintro _ w ⟨hv,h⟩;have hfc:=yA l id;rcases hfc with hf|⟨i,hf,hi⟩<;>(rw[hf] at hv;subst hv)
 ·
  refine qE ?_;refine qR ?_;have e:sK ⟨l,now⟩ id=⟨l,now⟩:=by unfold sK;rw[if_neg (by show ¬0≤jC l id;omega)]
  rw[e];exact⟨_,rfl,h⟩
 refine qE ?_;refine WL.e (ag call206 (uS hi h)) ?_;rintro _ w h;refine qE ?_;refine qR ?_;have e:sK ⟨l,now⟩ id=⟨iz l i,now⟩:=by unfold sK;rw[if_pos (by show 0≤jC l id;omega),show(jC (Tm.h ⟨l,now⟩) id).toNat=i by show(jC l id).toNat=i;omega]
 rw[e];exact⟨_,rfl,h⟩
theorem DA{a:Option Addr}{n c:Nat}{xs:List Value}(h:On W0 (Own 1 (.slice a n c) n xs::L) w):
   Cs 213 [.slice a n c] w fun v w'=>v=.slice a n n∧On W0 (Own 1 (.slice a n n) n xs::L) w':=by
 refine qO ?_;have aA:=Own.form h;obtain⟨a',c',hv,vg,rz,jK⟩:=aA;simp only[Value.slice.injEq] at hv;obtain⟨rfl,_,rfl⟩:=hv;refine go ?_;refine WL.v (iO underlying22 sizeOf3 rfl rfl rfl (by omega) (by omega)) ?_;refine qR ?_;exact⟨rfl,Own.clip h⟩
theorem Qc{l:List Al}(h:On W0 (eL 139 b ⟨l,now⟩::L) w):Cs 141 [b] w fun v w'=>∃a,v=.slice a (rG ⟨l,now⟩).2.length (rG ⟨l,now⟩).2.length∧On W0 (Own 1 (.slice a (rG ⟨l,now⟩).2.length (rG ⟨l,now⟩).2.length) (rG ⟨l,now⟩).2.length (nq (rG ⟨l,now⟩).2)::eL 139 b (rG ⟨l,now⟩).1::L) w':=by
 refine qO ?_;have aA:=jh h;obtain⟨a,c,hl,h⟩:=aA;have fH:=aG;refine go ?_;refine WL.v (eU rfl rfl) ?_;refine gs fun w h _=> ?_;refine go ?_;refine W.loop (fun(f:Nat) env w=>∃(j:Env) (q:List Al) (out:List Int) (ao:Option Addr) (co:Nat),env=eu j [(0,b),(3,.slice ao out.length co)]∧q.length≤f∧f+out.length≤256∧q.length≤256∧tU f q (wr (now+1)) out=tU l.length l (wr (now+1)) []∧On W0 (Own 1 (.slice ao out.length co) out.length (nq out)::eL 139 b ⟨q,(wr (now+1))⟩::L) w) (fun f=>f) (l.length) ?_ ?_
 · have h:On W0 (eL 139 b ⟨l,(wr (now+1))⟩::L) w:=dK hl rfl h
   exact⟨_,l,[],none,0,aD ⟨rfl,rfl,trivial⟩,Nat.le_refl _,by simp;omega,hl,rfl,h.bB 1 none⟩
 clear h;rintro f env w ⟨j,q,out,ao,co,rfl,hqf,hfo,hq,hR,h⟩;have aA:=jh h.p1;obtain⟨a2,c2,_,h⟩:=aA;have mw:0<q.length→∃ba oa,a2=some ⟨ba,oa,none⟩:=fun h0=>(h.aR (v:=.slice a2 q.length c2)).addr h0;refine go ?_;refine W.ez Tryz.follows h (by kernel_rfl) fun w h=> ?_;refine go ?_;refine X.q (fun _=>(iU rfl rfl)) (fun oM=> ?_) (fun oM=> ?_)
 ·
  have aA:=mw (by omega);obtain⟨ba,oa,rfl⟩:=aA;refine qD ?_;refine X.lc rfl ((h.aR (v:=.slice (some ⟨ba,oa,none⟩) q.length c2)).elem (i:=0) (vs:=pH (l7 q 0)) (by omega) (aF pH 2 eo q _ _ (eO (by omega))) 1 _ rfl) ?_;refine qI (fun c6=> ?_) (fun c6=> ?_)
  · refine W.skip ?_;refine W.block ?_;refine W.seq ?_;have agO:(l7 q 0).2≤wr (now+1):=c6;refine qD ?_;refine WL.l isAgg3 rfl ((h.aR (v:=.slice (some ⟨ba,oa,none⟩) q.length c2)).elem (i:=0) (vs:=pH (l7 q 0)) (by omega) (aF pH 2 eo q _ _ (eO (by omega))) 0 _ rfl) ?_;refine WL.e (aZ (zl:=[.int .i64 0]) (out:=[.int .i64 _]) h underlying22 sizeOf3 zeroValue3 (by decide) (by kernel_rfl) rfl rfl (by simp) fz rfl rfl (by simp[maxLen])) ?_;rintro _ w ⟨b39,rfl,h⟩;refine WL.e (bU (bytes:=8) h rfl rfl (h.aR) underlying22 rfl rfl rfl rfl rfl (by omega) (by omega) (by simp[Value.oneCell'])) ?_;rintro _ w ⟨a40,FA,rfl,h⟩;refine qC ?_ (C:=uS (i:=0) (by omega) (dK (c:=c2) hq rfl h.p2.p3.p1));rintro _ w h;have h:=h.d2;refine gw ?_;have aA:∃g,f=g+1:=⟨f - 1,by omega⟩;obtain⟨g,rfl⟩:=aA;rw[Ug (by omega) agO] at hR;exact⟨g,⟨_,iz q 0,out++[(l7 q 0).1],a40,FA,aD ⟨rfl,(by rw[List.length_append];rfl),trivial⟩,by rw[sL];omega,by rw[List.length_append,List.length_singleton];omega,by rw[sL];omega,hR,(by rw[List.length_append,List.length_singleton,M5];exact h.p1)⟩,by show g<g+1;omega⟩
  refine qC ?_ (C:=DA (h.aj (Own 1 (.slice ao out.length co) out.length (nq out))));rintro _ w ⟨rfl,h⟩;refine qR ?_
  have e:rG ⟨l,now⟩=(⟨q,wr (now+1)⟩,out):=by
    have e2:tU l.length l (wr (now+1)) []=(q,out):=by rw[←hR];exact Dz (fun hh=>c6 hh.2)
    show(({h:=(tU l.length l (wr (now+1)) []).1,now:=wr (now+1)}:Tm),(tU l.length l (wr (now+1)) []).2)=_;rw[e2]
  rw[e];exact⟨ao,rfl,(dK hq rfl h.p1.p2.p1).p1⟩
 refine qC ?_ (C:=DA (h.aj (Own 1 (.slice ao out.length co) out.length (nq out))));rintro _ w ⟨rfl,h⟩;refine qR ?_
 have e:rG ⟨l,now⟩=(⟨q,wr (now+1)⟩,out):=by
   have e2:tU l.length l (wr (now+1)) []=(q,out):=by rw[←hR];exact Dz (fun hh=>oM (by omega))
   show(({h:=(tU l.length l (wr (now+1)) []).1,now:=wr (now+1)}:Tm),(tU l.length l (wr (now+1)) []).2)=_;rw[e2]
 rw[e];exact⟨ao,rfl,(dK hq rfl h.p1.p2.p1).p1⟩
theorem Uh(h:On W0 L w):Cs 37 [] w fun v w'=>∃b,v=.pointer (some ⟨b,0,none⟩)∧On W0 (eL 139 b ⟨[],0⟩::L) w':=by
 refine qO ?_;refine go ?_;refine WL.v (aP (pl:=[(0,1),(1,1)]) (out:=[.slice _ _ _,.int .i64 _]) underlying139 zeroValue139 (fun w=>by kernel_rfl) rfl trivial rfl) ?_;refine gb fun b2 w h=> ?_;refine qR ?_;exact⟨b2,rfl,dK (by simp) rfl ((h.bB 2 none).p1)⟩
end Go.Proofs.YtcplmndikhjehaaGreat
namespace Go.Proofs.YtcplmndikhjehaaGreat
open Go.Proofs.Tryz
open Go Go.Sl Go.Sl.uf
set_option maxHeartbeats 0
set_option maxRecDepth 8000
variable{W0 w:World}{L F:List aC}
theorem sM{x y:Int}(h:On W0 L w):Cs 344 [.int .i64 x,.int .i64 y] w fun v w'=>v=rep 2 x y∧On W0 L w':=by
 refine enter func344 rfl ntmps344 rfl (W.sr (WL.e (bR h zeroValue38 rfl) ?_));rintro _ w ⟨b4,rfl,h⟩;refine qD ?_;refine WL.e (bA h sizeOf38 rfl rfl rfl rfl rfl) ?_;rintro _ w h;refine qD ?_;refine W.ret (bf.uA (vs:=[.int .i64 _,.int .i64 _,.int .i64 _,.slice _ _ _,.int .i64 _]) h results344 isAgg38 sizeOf38 rfl rfl rfl ?_);exact⟨rfl,h.tail⟩
theorem M8{a:Option Addr}{n c:Nat}{xs:List Value}(h:On W0 (Own 1 (.slice a n c) n xs::L) w):
   Cs 62 [.slice a n c] w fun v w'=>v=.slice a n n∧On W0 (Own 1 (.slice a n n) n xs::L) w':=by
 refine qO ?_;have aA:=Own.form h;obtain⟨a',c',hv,vg,rz,jK⟩:=aA;simp only[Value.slice.injEq] at hv;obtain⟨rfl,_,rfl⟩:=hv;refine qD ?_;refine WL.v (iO underlying76 sizeOf30 rfl rfl rfl (by omega) (by omega)) ?_;refine qR ?_;exact⟨rfl,Own.clip h⟩
theorem Ui(h:On W0 L w):Cs 121 [] w fun v w'=>∃b,v=.pointer (some ⟨b,0,none⟩)∧On W0 (aX b Gv.cells 323::L) w':=by
 refine qO ?_;refine go ?_;refine WL.v (aP (pl:=[(0,8),(8,1),(9,1),(10,1)]) (out:=[.int .u64 _,.int .u64 _,.int .u64 _,.int .u64 _,.int .u64 _,.int .u64 _,.int .u64 _,.int .u64 _,.int .i64 _,.int .i64 _,.int .u32 _]) underlying323 zeroValue323 (fun w=>by kernel_rfl) rfl fz rfl) ?_;refine gb fun b2 w h=> ?_;refine qR ?_;exact⟨_,rfl,h⟩
theorem M9{b:Nat}{t:Tb}{hh kind:Int}(hz:t.hold= -1)(h:On W0 (aX b t.cells 323::L) w):Cs 348 [b,.int .i64 hh,.int .i64 kind] w fun v w'=>(∃r:Bool,v=.bool r∧(r=true↔A1 t hh kind))∧On W0 (aX b t.cells 323::L) w':=by
 refine qO ?_;refine go ?_;refine WL.q (cL rfl rfl) (fun nB=> ?_) (fun nB=> ?_)
 · refine qD ?_;refine qR ?_;exact⟨⟨_,rfl,iff_of_true rfl (.inl (.inl nB))⟩,h⟩
 omega
end Go.Proofs.YtcplmndikhjehaaGreat
namespace Go.Proofs.YtcplmndikhjehaaGreat
open Go Go.Sl Go.Sl.uf
set_option maxHeartbeats 0
set_option maxRecDepth 8000
variable{W0 w:World}{L F:List aC}
end Go.Proofs.YtcplmndikhjehaaGreat
namespace Go.Proofs.YtcplmndikhjehaaGreat
open Go.Proofs.Tryz
open Go Go.Sl Go.Sl.BitM Go.Sl.zh Go.Sl.uf Go.Sl.eM Go.Sl.gW
set_option maxHeartbeats 0
set_option maxRecDepth 8000
variable{ao:Option Addr}{cap:Nat}{l:List Int}
variable{W0 w:World}{L F:List aC}
theorem GL(h:On W0 L w)(C:aB L (Cells 1 (.slice ao l.length cap) l.length (cV l)))(hn:l.length≤1000000000000):
   Cs 315 [.slice ao l.length cap] w fun v w'=>∃a c,v=.slice a l.length c∧On W0 (Own 1 (.slice a l.length c) l.length (cV l)::L) w':=by
 refine qO ?_;have aA:=(h.reads C).form;obtain⟨ao',LC,hv,vg,rz,jK⟩:=aA;simp only[Value.slice.injEq] at hv;obtain⟨rfl,_,rfl⟩:=hv;have hl:=aG;refine go ?_;refine WL.v (iF underlying22 rfl rfl) ?_;refine qI (fun c2=> ?_) (fun c2=> ?_)
 · refine qR ?_;have h0:cap=0:=jK (by simpa using c2);have hb:l=[]:=List.eq_nil_of_length_eq_zero (by omega);subst hb;exact⟨none,0,rfl,h.bB 1 none⟩
 refine go ?_;refine WL.e (aZ (out:=[]) h underlying22 sizeOf3 zeroValue3 (by decide) (by simp) rfl rfl (by simp) trivial rfl rfl (by simp[maxLen])) ?_;rintro _ w ⟨b5,rfl,h⟩;refine go ?_;refine WL.e (mj (bytes:=8) h rfl rfl (h.aO C) underlying22 rfl rfl rfl rfl rfl (by omega) (by omega) (Xz)) ?_;rintro _ w ⟨a,c,rfl,h⟩;refine qR ?_;exact⟨_,_,rfl,h⟩
theorem Jz{x:Int}(h:On W0 L w)(C:aB L (Cells 1 (.slice ao l.length cap) l.length (cV l))):Cs 214 [.slice ao l.length cap,.int .i64 x] w fun v w'=>(∃z:Int,v=.int .i64 z∧(0≤z↔x∈l))∧On W0 L w':=by
 refine qO ?_;have fH:=aG;have aA:=(h.aO C).bounds;obtain⟨yg,IT⟩:=aA;refine go ?_;refine W.loop (fun(k:Nat) env w=>k≤l.length∧∃j,env=eu j [(0,.slice ao l.length cap),(1,.int .i64 x),(7,.int .i64 (l.length:Nat)),(8,.int .i64 (k:Nat))]∧(∀q,q<k→l[q]? ≠some x)∧On W0 L w) (fun k=>l.length - k) (0) ?_ ?_
 · exact⟨Nat.zero_le _,_,aD ⟨rfl,rfl,rfl,rfl,trivial⟩,(fun q hq=>by omega),h⟩
 rintro k env w ⟨hk,j,rfl,dX,h⟩;refine qI (fun c5=> ?_) (fun c5=> ?_)
 ·
  refine W.skip ?_;refine W.seq ?_;have aA:∃y,l[k]? =some y:=⟨l[k]'(by omega),by simp⟩;obtain⟨y,hy⟩:=aA;have aA:=(h.aO C).addr (by omega);obtain⟨bx,ox,rfl⟩:=aA;refine qD ?_;refine WL.l isAgg3 rfl ((h.aO C).elem (i:=k) (vs:=[.int .i64 y]) (by omega) (XA hy) 0 _ rfl) ?_;refine qI (fun ou=> ?_) (fun ou=> ?_)
  · refine qR ?_;have e:x=y:=ou;subst e;exact⟨⟨_,rfl,iff_of_true (by omega) (List.mem_of_getElem? hy)⟩,h⟩
  refine qD ?_
  exact ⟨k + 1, ⟨by omega, _, aD ⟨rfl, rfl, rfl, rfl, trivial⟩, (fun q hq => by
    by_cases hqk:q=k
    · subst hqk;rw[hy];intro e;simp only[Option.some.injEq] at e;exact ou e.symm
    exact dX q (by omega)), h⟩, by show l.length - (k + 1) < l.length - k; omega⟩
 refine qR ?_;refine⟨⟨_,rfl,iff_of_false (by decide) (fun hm=> ?_)⟩,h⟩;have aA:=List.getElem?_of_mem hm;obtain⟨q,hq⟩:=aA;exact dX q (by have:=(List.getElem?_eq_some_iff.1 hq).1;omega) hq
theorem ug{x:Int}(h:On W0 L w)(C:aB L (Cells 1 (.slice ao l.length cap) l.length (cV l))):Cs 142 [.slice ao l.length cap,.int .i64 x] w fun v w'=>v=.bool (decide (x∈l))∧On W0 L w':=by
 refine qO ?_;refine qC ?_ (C:=Jz h C);rintro _ w ⟨⟨z,rfl,hz⟩,h⟩;refine qD ?_;refine qR ?_;exact⟨congrArg Value.bool (decide_eq_decide.2 hz),h⟩
theorem Qd{ax:Option Addr}{cx:Nat}{bs:List UInt8}(h:On W0 L w)(C:aB L (Bytes (.slice ax bs.length cx) bs))(hn:bs.length≤1000000000000):Cs 346 [.slice ax bs.length cx] w fun v w'=>∃a,v=(A3 bs).val (.slice a bs.length bs.length)∧On W0 (bC (.slice a bs.length bs.length) bs::L) w':=by
 refine qO ?_;refine gb fun b2 w h=> ?_;refine qC ?_ (C:=bG (bs:=bs) h (aB.to C) (by omega));rintro _ w ⟨a4,c4,rfl,h⟩;refine qC ?_ (C:=cU h);rintro _ w ⟨rfl,h⟩;refine WL.v (aP (pl:=[(0,1),(1,1),(2,1),(3,1),(4,1)]) (out:=[.int .i64 _,.int .i64 _,.int .i64 _,.slice _ _ _,.int .i64 _]) underlying38 zeroValue38 (fun w=>by kernel_rfl) rfl fz rfl) ?_;refine gs fun w h _=> ?_;refine go ?_;refine W.ret (bf.uA (vs:=[.int .i64 _,.int .i64 _,.int .i64 _,.slice _ _ _,.int .i64 _]) h results346 isAgg38 sizeOf38 rfl rfl rfl ?_);exact⟨a4,rfl,h.to⟩
end Go.Proofs.YtcplmndikhjehaaGreat
namespace Go.Sl.pM
open Go Go.Sl Go.Sl.eM Go.Sl.gU Go.Sl.gW Go.Sl.kM Go.Sl.pe
def JA:List UInt8:=dR [3]
def GM(x e p m:Nat):List UInt8:=dR ([4]++be x 8++dw e p m)
def zj(e p m:Nat):List UInt8:=dR ([5]++dw e p m)
def EL(s:List UInt8):Option (Nat×Nat×Nat):=if s.length=10∧bK (mF s 8:Int) (mF s 9:Int) then some (B8 s,mF s 8,mF s 9) else none
def oQ(b:List UInt8):Option (Nat×Nat×Nat):=if(eX b).2=0∧(gp b)[0]? =some 5 then EL ((gp b).drop 1) else none
end Go.Sl.pM
namespace Go.Sl.pN
open Go Go.Sl Go.Sl.eM Go.Sl.gW Go.Sl.kM Go.Sl.pe Go.Sl.pM
abbrev uT:Nat:=18446744073709551616
inductive Dt where
 |ms (m:Ms)
 |get
 |Uj (x e p m:Nat)
 |iB (e p m:Nat)
 |JB (o:Od)
 |JC (a:An)
def Dt.bytes:Dt→List UInt8
 | .ms m=>SF m
 | .get=>JA
 | .Uj x e p m=>GM x e p m
 | .iB e p m=>zj e p m
 | .JB o=>zi o
 | .JC a=>vY a
def Dt.len:Dt→Nat
 | .ms m=>53+m.data.length
 | .get=>5
 | .Uj .. =>23
 | .iB .. =>15
 | .JB o=>78+o.c.data.length
 | .JC a=>55+a.r.data.length
def Qe(m:Ms):Bool:=decide (m.kind<256)&&m.A9.all fun v=>decide (v<uT)
def zk(x:Int):Bool:=decide (-9223372036854775808≤x)&&decide (x≤9223372036854775807)
def Cb(o:Od):Bool:=zk o.host&&decide (o.id<uT)&&decide (o.floor<uT)&&zk o.c.kind&&zk o.c.at_&&zk o.c.n&&decide (0≤o.c.key)&&decide (o.c.key<18446744073709551616)&&decide (0≤o.c.new)&&decide (o.c.new<18446744073709551616)&&zk o.c.cz
def GN(e p m:Nat):Bool:=decide (e<uT)&&((decide (p=0)&&(decide (m=1)||decide (m=3)))||(decide (p=1)&&(decide (m=2)||decide (m=3))))
def Qf(a:An):Bool:=zk a.host&&decide (a.id<uT)&&zk a.r.st&&zk a.r.key&&zk a.r.code&&zk a.r.info&&decide (-1≤a.hint)&&decide (a.hint≤1)
def Dt.ok:Dt→Bool
 | .ms m=>Qe m
 | .get=>true
 | .Uj x e p m=>decide (x<uT)&&GN e p m
 | .iB e p m=>GN e p m
 | .JB o=>Cb o
 | .JC a=>Qf a
def JD:Dt→Option An
 | .JC a=>if a.done then some {a with hint:=0} else some {a with r:=V4}
 |_=>none
end Go.Sl.pN
namespace Go.Sl.pO
open Go Go.Sl Go.Sl.eM Go.Sl.gW Go.Sl.kM Go.Sl.oB
open Go.Sl.dA (fu)
open Go.Sl.pN
variable{bt i id lc next:Nat}{host node:Int}{la:Option Addr}
structure fk where
 id:Nat
 c:Cm
structure Pk where
 to:Int
 d:Dt
abbrev Pk.data(p:Pk):List UInt8:=p.d.bytes
structure Dn where
 id:Nat
 r:Rp
structure gQ where
 host:Int
 node:Int
 next:Nat
 l:List fk
 out:List Pk
 done:List Dn
 t:Tm
def iA(x:fk×Value):List Value:=.int .u64 x.1.id::x.1.c.cells x.2
def mW(x:Pk×Value):List Value:=[.int .i64 x.1.to,x.2]
def vZ(x:Dn×Value):List Value:=.int .u64 x.1.id::x.1.r.cells x.2
theorem sO(x:fk×Value):(iA x).length=9:=rfl
theorem Uk(x:Pk×Value):(mW x).length=2:=rfl
theorem Ul(x:Dn×Value):(vZ x).length=6:=rfl
def XX(aa:aE)(v:Value)(bs:List UInt8):Prop:=fu aa v bs∧∃a c,v=.slice a bs.length c
theorem XX.mono{aa aN:aE}{v:Value}{bs:List UInt8}(h:∀p∈aa,p∈aN)(H:XX aa v bs):XX aN v bs:=⟨H.1.mono h,H.2⟩
def cW{α:Type}(aa:aE)(d:α→List UInt8)(xs:List (α×Value)):Prop:=∀x∈xs,XX aa x.2 (d x.1)
theorem fG{α:Type}{aa:aE}{d:α→List UInt8}:cW aa d []:=fun x h=>by cases h
theorem cW.mono{α:Type}{aa aN:aE}{d:α→List UInt8}{xs:List (α×Value)}(h:∀p∈aa,p∈aN)(H:cW aa d xs):cW aN d xs:=fun x hx=>(H x hx).mono h
theorem cW.snoc{α:Type}{aa:aE}{d:α→List UInt8}{xs:List (α×Value)}{x:α×Value}(H:cW aa d xs)(h:XX aa x.2 (d x.1)):cW aa d (xs++[x]):=fun y hy=>by
 rcases List.mem_append.1 hy with hy|hy
 · exact H y hy
 rw[List.mem_singleton.1 hy];exact h
theorem cW.at{α:Type}{aa:aE}{d:α→List UInt8}{xs:List (α×Value)}{x:α×Value}(H:cW aa d xs)(h:xs[i]? =some x):XX aa x.2 (d x.1):=H x (List.mem_of_getElem? h)
def DB(aa:aE)(p:gQ)(xl:List (fk×Value))(xo:List (Pk×Value))(xd:List (Dn×Value)):Prop:=
 (xl.map (·.1)=p.l∧xo.map (·.1)=p.out∧xd.map (·.1)=p.done)∧cW aa (·.c.data) xl∧cW aa (·.data) xo∧cW aa (·.r.data) xd
def bS(T TT b:Nat)(aa:aE)(p:gQ):aC:=Ex fun(x:(List (fk×Value)×Option Addr×Nat)×(List (Pk×Value)×Option Addr×Nat)×(List (Dn×Value)×Option Addr×Nat)×Nat)=>Pack (DB aa p x.1.1 x.2.1.1 x.2.2.1.1)
 [aX b [.int .i64 p.host, .int .i64 p.node, .int .u64 p.next, .slice x.1.2.1 x.1.1.length x.1.2.2, .slice x.2.1.2.1 x.2.1.1.length x.2.1.2.2, .slice x.2.2.1.2.1 x.2.2.1.1.length x.2.2.1.2.2, x.2.2.2] T,
   Own 9 (.slice x.1.2.1 x.1.1.length x.1.2.2) x.1.1.length (x.1.1.flatMap iA), Own 2 (.slice x.2.1.2.1 x.2.1.1.length x.2.1.2.2) x.2.1.1.length (x.2.1.1.flatMap mW), Own 6 (.slice x.2.2.1.2.1 x.2.2.1.1.length x.2.2.1.2.2) x.2.2.1.1.length (x.2.2.1.1.flatMap vZ), eL TT x.2.2.2 p.t]
section
variable{W0 w:World}{L:List aC}{T TT b:Nat}{aa aN:aE}{p:gQ}
theorem q6(H:On W0 (bS T TT b aa p::L) w):∃(xl:List (fk×Value)) (la:Option Addr) (lc:Nat) (xo:List (Pk×Value)) (oa:Option Addr) (oc:Nat) (xd:List (Dn×Value)) (da:Option Addr) (dc bt:Nat),DB aa p xl xo xd∧
   On W0 (aX b [.int .i64 p.host,.int .i64 p.node,.int .u64 p.next,.slice la xl.length lc,.slice oa xo.length oc,.slice da xd.length dc,bt] T::Own 9 (.slice la xl.length lc) xl.length (xl.flatMap iA)::Own 2 (.slice oa xo.length oc) xo.length (xo.flatMap mW)::Own 6 (.slice da xd.length dc) xd.length (xd.flatMap vZ)::eL TT bt p.t::L) w:=by
 obtain⟨⟨⟨xl,la,lc⟩,⟨xo,oa,oc⟩,⟨xd,da,dc⟩,bt⟩,H⟩:=H.ex;obtain⟨h1,H⟩:=H.unpack;exact⟨xl,la,lc,xo,oa,oc,xd,da,dc,bt,h1,H⟩
theorem dD{xl:List (fk×Value)}{xo:List (Pk×Value)}{oa:Option Addr}{oc:Nat}{xd:List (Dn×Value)}{da:Option Addr}{dc:Nat}{t:Tm}{pl:List fk}{po:List Pk}{pd:List Dn}
   (h1:DB aa ⟨host,node,next,pl,po,pd,t⟩ xl xo xd)
   (H:On W0 (aX b [.int .i64 host,.int .i64 node,.int .u64 next,.slice la xl.length lc,.slice oa xo.length oc,.slice da xd.length dc,bt] T::Own 9 (.slice la xl.length lc) xl.length (xl.flatMap iA)::Own 2 (.slice oa xo.length oc) xo.length (xo.flatMap mW)::Own 6 (.slice da xd.length dc) xd.length (xd.flatMap vZ)::eL TT bt t::L) w):
   On W0 (bS T TT b aa ⟨host,node,next,pl,po,pd,t⟩::L) w:=On.rT ((xl,la,lc),(xo,oa,oc),(xd,da,dc),bt) (On.pack h1 H)
theorem XY{t:Tm}(H:On W0 (aX b [.int .i64 host,.int .i64 node,.int .u64 next,.slice none 0 0,.slice none 0 0,.slice none 0 0,bt] T::eL TT bt t::L) w):On W0 (bS T TT b aa ⟨host,node,next,[],[],[],t⟩::L) w:=by
 have h4:On W0 (aX b [.int .i64 host,.int .i64 node,.int .u64 next,.slice none 0 0,.slice none 0 0,.slice none 0 0,bt] T::Own 9 (.slice none 0 0) 0 []::Own 2 (.slice none 0 0) 0 []::Own 6 (.slice none 0 0) 0 []::eL TT bt t::L) w:=(((H.bB 9 none).bB 2 none).bB 6 none).to;exact dD ⟨⟨rfl,rfl,rfl⟩,fG,fG,fG⟩ h4
def oR(T TT b:Nat)(la:Option Addr)(lc:Nat)(aa:aE)(p:gQ):aC:=Ex fun(x:(List (fk×Value)×Option Addr×Nat)×(List (Pk×Value)×Option Addr×Nat)×(List (Dn×Value)×Option Addr×Nat)×Nat)=>Pack (DB aa p x.1.1 x.2.1.1 x.2.2.1.1∧x.1.2=(la,lc))
 [aX b [.int .i64 p.host, .int .i64 p.node, .int .u64 p.next, .slice x.1.2.1 x.1.1.length x.1.2.2, .slice x.2.1.2.1 x.2.1.1.length x.2.1.2.2, .slice x.2.2.1.2.1 x.2.2.1.1.length x.2.2.1.2.2, x.2.2.2] T,
   Own 9 (.slice x.1.2.1 x.1.1.length x.1.2.2) x.1.1.length (x.1.1.flatMap iA), Own 2 (.slice x.2.1.2.1 x.2.1.1.length x.2.1.2.2) x.2.1.1.length (x.2.1.1.flatMap mW), Own 6 (.slice x.2.2.1.2.1 x.2.2.1.1.length x.2.2.1.2.2) x.2.2.1.1.length (x.2.2.1.1.flatMap vZ), eL TT x.2.2.2 p.t]
theorem v8(H:On W0 (oR T TT b la lc aa p::L) w):∃(xl:List (fk×Value)) (xo:List (Pk×Value)) (oa:Option Addr) (oc:Nat) (xd:List (Dn×Value)) (da:Option Addr) (dc bt:Nat),DB aa p xl xo xd∧
   On W0 (aX b [.int .i64 p.host,.int .i64 p.node,.int .u64 p.next,.slice la xl.length lc,.slice oa xo.length oc,.slice da xd.length dc,bt] T::Own 9 (.slice la xl.length lc) xl.length (xl.flatMap iA)::Own 2 (.slice oa xo.length oc) xo.length (xo.flatMap mW)::Own 6 (.slice da xd.length dc) xd.length (xd.flatMap vZ)::eL TT bt p.t::L) w:=by
 obtain⟨⟨⟨xl,la2,lc2⟩,⟨xo,oa,oc⟩,⟨xd,da,dc⟩,bt⟩,H2⟩:=H.ex;obtain⟨⟨h1,e⟩,H3⟩:=H2.unpack;simp only[Prod.mk.injEq] at e;rw[e.1,e.2] at H3;exact⟨xl,xo,oa,oc,xd,da,dc,bt,h1,H3⟩
theorem nK{xl:List (fk×Value)}{xo:List (Pk×Value)}{oa:Option Addr}{oc:Nat}{xd:List (Dn×Value)}{da:Option Addr}{dc:Nat}{t:Tm}{pl:List fk}{po:List Pk}{pd:List Dn}
   (h1:DB aa ⟨host,node,next,pl,po,pd,t⟩ xl xo xd)
   (H:On W0 (aX b [.int .i64 host,.int .i64 node,.int .u64 next,.slice la xl.length lc,.slice oa xo.length oc,.slice da xd.length dc,bt] T::Own 9 (.slice la xl.length lc) xl.length (xl.flatMap iA)::Own 2 (.slice oa xo.length oc) xo.length (xo.flatMap mW)::Own 6 (.slice da xd.length dc) xd.length (xd.flatMap vZ)::eL TT bt t::L) w):
   On W0 (oR T TT b la lc aa ⟨host,node,next,pl,po,pd,t⟩::L) w:=On.rT ((xl,la,lc),(xo,oa,oc),(xd,da,dc),bt) (On.pack ⟨h1,rfl⟩ H)
theorem oR.q(H:On W0 (oR T TT b la lc aa p::L) w):On W0 (bS T TT b aa p::L) w:=by
 obtain⟨x,H⟩:=H.ex;obtain⟨⟨h1,_⟩,H⟩:=H.unpack;exact On.rT x (On.pack h1 H)
theorem bS.r(H:On W0 (bS T TT b aa p::L) w):∃la lc,On W0 (oR T TT b la lc aa p::L) w:=by
 obtain⟨x,H⟩:=H.ex;obtain⟨h1,H⟩:=H.unpack;exact⟨x.1.2.1,x.1.2.2,On.rT x (On.pack ⟨h1,rfl⟩ H)⟩
theorem JE(h:∀p∈aa,p∈aN)(H:On W0 (bS T TT b aa p::L) w):On W0 (bS T TT b aN p::L) w:=by
 obtain⟨x,H⟩:=H.ex;obtain⟨⟨h0,h1,h2,h3⟩,H⟩:=H.unpack;exact On.rT x (On.pack ⟨h0,h1.mono h,h2.mono h,h3.mono h⟩ H)
end
theorem Na{aa:aE}{xl:List (fk×Value)}(pl:cW aa (·.c.data) xl):∀u∈xl.flatMap iA,u.oneCell'=true:=fun u hu=>by
 obtain⟨x,hx,hu⟩:=List.mem_flatMap.1 hu;obtain⟨⟨JF,xc⟩,xv⟩:=x;obtain⟨_,a,c,hv⟩:=pl _ hx;simp only at hv;subst hv;simp[iA,Cm.cells] at hu;rcases hu with rfl|rfl|rfl|rfl|rfl|rfl|rfl|rfl|rfl<;>rfl
theorem Bh{α:Type}(f:α→List Value)(n:Nat)(hf:∀x,(f x).length=n)(xl:List α)(i:Nat):(xl.flatMap f).take (i*n)++(xl.flatMap f).drop ((i+1)*n)=(xl.eraseIdx i).flatMap f:=by
 rw[List.eraseIdx_eq_take_drop_succ,List.flatMap_append,qM f n hf,rC f n hf]
theorem EM{l:List fk}(h:∀(k:Nat) (x:fk),l[k]? =some x→¬x.id=id):l.findIdx? (fun a=>decide (a.id=id))=none:=by
 rw[List.findIdx?_eq_none_iff];intro x hx;obtain⟨k,hk⟩:=List.getElem?_of_mem hx;exact decide_eq_false (h k x hk)
theorem GO{l:List fk}{x:fk}(hx:l[i]? =some x)(hp:x.id=id)(hn:∀(k:Nat) (y:fk),k<i→l[k]? =some y→¬y.id=id):l.findIdx? (fun a=>decide (a.id=id))=some i:=by
 have dW:=(List.getElem?_eq_some_iff.1 hx).1
 exact List.findIdx?_eq_some_iff_getElem.2 ⟨dW, by rw [(List.getElem?_eq_some_iff.1 hx).2]; exact decide_eq_true hp, fun j hj => by
   have := hn j (l[j]'(by omega)) hj (by simp);simpa using this⟩
theorem GP{xl:List (fk×Value)}{l:List fk}{x:fk×Value}(eC:xl.map (·.1)=l)(hx:xl[i]? =some x)(hp:x.1.id=id)(hn:∀(k:Nat) (y:fk×Value),k<i→xl[k]? =some y→¬y.1.id=id):l.findIdx? (fun a=>decide (a.id=id))=some i:=by
 subst eC;refine GO (by rw[List.getElem?_map,hx];rfl) hp fun k y hk hy=> ?_;rw[List.getElem?_map] at hy;obtain⟨z,hz,rfl⟩:=Option.map_eq_some_iff.1 hy;exact hn k z hk hz
theorem DC{xl:List (fk×Value)}{l:List fk}(eC:xl.map (·.1)=l)(hn:∀(k:Nat) (y:fk×Value),xl[k]? =some y→¬y.1.id=id):l.findIdx? (fun a=>decide (a.id=id))=none:=by
 subst eC;refine EM fun k y hy=> ?_;rw[List.getElem?_map] at hy;obtain⟨z,hz,rfl⟩:=Option.map_eq_some_iff.1 hy;exact hn k z hz
def k7(p:gQ):Nat:=match p.l with|[]=>p.next|a::_=>a.id
def mX(next:Nat)(xl:List (fk×Value)):Nat:=match xl with|[]=>next|x::_=>x.1.id
theorem xE{p:gQ}{xl:List (fk×Value)}(h:xl.map (·.1)=p.l):k7 p=mX p.next xl:=by
 unfold k7;rw[←h];cases xl<;>rfl
def qf(p:gQ):gQ:=if 0<p.l.length then{p with t:=(lS p.t 0 8).1} else p
theorem Um(p:gQ):(qf p).l=p.l∧(qf p).done=p.done:=by unfold qf;split<;>exact⟨rfl,rfl⟩
def yB(p:gQ)(a:fk):gQ:={p with out:=p.out++[⟨p.node,.JB ⟨p.host,a.id,k7 p,a.c⟩⟩],t:=(lS p.t a.id 4).1}
def dh(p:gQ)(c:Cm):gQ×Nat×Int:=
 if k7 p+4≤p.next then(p,0,7)
 else if c.kind<1∨18<c.kind∨1024<c.data.length then(p,0,1)
 else
   let p1:=if p.l.length=0 then{p with t:=(lS p.t 0 8).1} else p
   (yB {p1 with next:=p.next+1,l:=p.l++[⟨p.next,c⟩]} ⟨p.next,c⟩,p.next,0)
def Bi(p:gQ)(id:Nat)(r:Rp):gQ:=
 let q:=match p.l.findIdx? (fun a=>decide (a.id=id)) with
   |some i=>{p with l:=p.l.eraseIdx i,t:=sK p.t id,done:=p.done++[⟨id,r⟩]}
   |none=>p
 if q.l.length=0 then{q with t:=sK q.t 0} else q
def EN(p:gQ)(fr:Int)(q:Option An):gQ:=
 match q with
 |none=>p
 |some a=>if a.host≠p.host∨fr<0∨1<fr then p else if a.done then Bi (qf p) a.id a.r else if 0≤a.hint then qf {p with node:=a.hint} else p
def Bj(p:gQ):gQ:=
 let x:=rG p.t
 let p1:gQ:={p with t:=x.1}
 let p2:=if 0∈x.2 then{p1 with node:=1 - p.node,t:=(lS x.1 0 8).1} else p1
 p.l.foldl (fun q a=>if(a.id:Int)∈x.2 then yB q a else q) p2
end Go.Sl.pO
namespace Go.Proofs.YtcplmndikhjehaaGreat
open Go.Proofs.Tryz
open Go Go.Sl Go.Sl.eM Go.Sl.gW Go.Sl.kM Go.Sl.oB Go.Sl.pO
open Go.Sl.dA (fu fu.eN fu.mono)
set_option maxHeartbeats 0
set_option maxRecDepth 8000
variable{a:Option Addr}{b c n next:Nat}{host node:Int}{xs:List Value}
variable{W0 w:World}{L F:List aC}
theorem EO(h:On W0 (Own 2 (.slice a n c) n xs::L) w):
   Cs 209 [.slice a n c] w fun v w'=>v=.slice a n n∧On W0 (Own 2 (.slice a n n) n xs::L) w':=by
 refine qO ?_;have aA:=Own.form h;obtain⟨a',c',hv,vg,rz,jK⟩:=aA;simp only[Value.slice.injEq] at hv;obtain⟨rfl,_,rfl⟩:=hv;refine go ?_;refine WL.v (iO underlying100 sizeOf256 rfl rfl rfl (by omega) (by omega)) ?_;refine qR ?_;exact⟨rfl,Own.clip h⟩
theorem Uo(h:On W0 (Own 6 (.slice a n c) n xs::L) w):
   Cs 210 [.slice a n c] w fun v w'=>v=.slice a n n∧On W0 (Own 6 (.slice a n n) n xs::L) w':=by
 refine qO ?_;have aA:=Own.form h;obtain⟨a',c',hv,vg,rz,jK⟩:=aA;simp only[Value.slice.injEq] at hv;obtain⟨rfl,_,rfl⟩:=hv;refine go ?_;refine WL.v (iO underlying101 sizeOf250 rfl rfl rfl (by omega) (by omega)) ?_;refine qR ?_;exact⟨rfl,Own.clip h⟩
theorem DD{lc:Nat}{hv nv ov dv tv:Value}{xl:List (fk×Value)}{la:Option Addr}(h:On W0 (aX b [hv,nv,.int .u64 (next:Int),.slice la xl.length lc,ov,dv,tv] 103::Own 9 (.slice la xl.length lc) xl.length (xl.flatMap iA)::L) w):Cs 131 [b] w fun v w'=>v=.int .u64 (mX next xl:Int)∧On W0 (aX b [hv,nv,.int .u64 (next:Int),.slice la xl.length lc,ov,dv,tv] 103::Own 9 (.slice la xl.length lc) xl.length (xl.flatMap iA)::L) w':=by
 refine qO ?_;refine qI (fun c2=> ?_) (fun c2=> ?_)
 · refine qR ?_;have e:xl=[]:=List.eq_nil_of_length_eq_zero (by omega);subst e;exact⟨rfl,h⟩
 refine W.skip ?_;refine W.seq ?_
 have aA:∃x0 xs,xl=x0::xs:=by
   cases xl with
   |nil=>exact absurd (show([]:List (fk×Value)).length=0 from rfl) (by omega)
   |cons x0 xs=>exact⟨x0,xs,rfl⟩
 obtain⟨x0,xs,rfl⟩:=aA;have aA:=(h.aR (v:=.slice la (x0::xs).length lc)).addr (by simp);obtain⟨ba,uh,Ej⟩:=aA;subst Ej;refine qD ?_;refine WL.l isAgg30 rfl ((h.aR (v:=.slice (some ⟨ba,uh,none⟩) (x0::xs).length lc)).elem (i:=0) (vs:=iA x0) (by simp) rfl 0 _ rfl) ?_;refine qR ?_;exact⟨rfl,h⟩
theorem GQ{l:List fk}{out:List Pk}{done:List Dn}{t:Tm}{aa:aE}(h:On W0 (bS 103 139 b aa ⟨host,node,next,l,out,done,t⟩::L) w):Cs 195 [b] w fun v w'=>On W0 (bS 103 139 b aa (qf ⟨host,node,next,l,out,done,t⟩)::L) w':=by
 refine qO ?_;have aA:=q6 h;obtain⟨xl,la,lc,xo,oa,oc,xd,da,dc,bt,⟨⟨eC,gy,l8⟩,pl,po,pd⟩,h⟩:=aA;simp only at eC gy l8;have zE:l.length=xl.length:=by rw[←eC,List.length_map]
 obtain⟨th,tn⟩:=t;refine qI (fun c1=> ?_) (fun c1=> ?_)
 ·
  refine qC ?_ (C:=zK h.p4);rintro _ w ⟨rfl,h⟩;refine qR ?_;have e:qf ⟨host,node,next,l,out,done,⟨th,tn⟩⟩=⟨host,node,next,l,out,done,(lS ⟨th,tn⟩ 0 8).1⟩:=by unfold qf;rw[if_pos (by show 0<l.length;omega)]
  rw[e];exact dD (la:=la) (lc:=lc) (oa:=oa) (oc:=oc) (da:=da) (dc:=dc) (bt:=bt) ⟨⟨eC,gy,l8⟩,pl,po,pd⟩ h.to
 refine qR ?_;have e:qf ⟨host,node,next,l,out,done,⟨th,tn⟩⟩=⟨host,node,next,l,out,done,⟨th,tn⟩⟩:=by unfold qf;rw[if_neg (by show ¬0<l.length;omega)]
 rw[e];exact dD (la:=la) (lc:=lc) (oa:=oa) (oc:=oc) (da:=da) (dc:=dc) (bt:=bt) ⟨⟨eC,gy,l8⟩,pl,po,pd⟩ h.to
theorem Up{l:List fk}{out:List Pk}{done:List Dn}{t:Tm}{aa:aE}(h:On W0 (bS 103 139 b aa ⟨host,node,next,l,out,done,t⟩::L) w):Cs 134 [b] w fun v w'=>∃(xo:List (Pk×Value)) (a:Option Addr),v=.slice a xo.length xo.length∧xo.map (·.1)=out∧cW aa (·.data) xo∧On W0 (Own 2 (.slice a xo.length xo.length) xo.length (xo.flatMap mW)::bS 103 139 b aa ⟨host,node,next,l,[],done,t⟩::L) w':=by
 refine qO ?_;have aA:=q6 h;obtain⟨xl,la,lc,xo,oa,oc,xd,da,dc,bt,⟨⟨eC,gy,l8⟩,pl,po,pd⟩,h⟩:=aA;simp only at eC gy l8;have zE:l.length=xl.length:=by rw[←eC,List.length_map]
 refine qC ?_ (C:=EO (h.aj (Own 2 (.slice oa xo.length oc) xo.length (xo.flatMap mW))));rintro _ w ⟨rfl,h⟩;refine gs fun w h _=> ?_;refine qR ?_;have h:On W0 (Own 2 (.slice none ([]:List (Pk×Value)).length 0) ([]:List (Pk×Value)).length (([]:List (Pk×Value)).flatMap mW)::_) w:=h.bB 2 none;have h2:On W0 (bS 103 139 b aa ⟨host,node,next,l,[],done,t⟩::Own 2 (.slice oa xo.length xo.length) xo.length (xo.flatMap mW)::L) w:=dD (la:=la) (lc:=lc) (oa:=none) (oc:=0) (da:=da) (dc:=dc) (bt:=bt) ⟨⟨eC,rfl,l8⟩,pl,fG,pd⟩ h.to;exact⟨xo,oa,rfl,gy,po,h2.to⟩
theorem Qg{l:List fk}{out:List Pk}{done:List Dn}{t:Tm}{aa:aE}(h:On W0 (bS 103 139 b aa ⟨host,node,next,l,out,done,t⟩::L) w):Cs 135 [b] w fun v w'=>∃(xd:List (Dn×Value)) (a:Option Addr),v=.slice a xd.length xd.length∧xd.map (·.1)=done∧cW aa (·.r.data) xd∧On W0 (Own 6 (.slice a xd.length xd.length) xd.length (xd.flatMap vZ)::bS 103 139 b aa ⟨host,node,next,l,out,[],t⟩::L) w':=by
 refine qO ?_;have aA:=q6 h;obtain⟨xl,la,lc,xo,oa,oc,xd,da,dc,bt,⟨⟨eC,gy,l8⟩,pl,po,pd⟩,h⟩:=aA;simp only at eC gy l8;have zE:l.length=xl.length:=by rw[←eC,List.length_map]
 refine qC ?_ (C:=Uo (h.aj (Own 6 (.slice da xd.length dc) xd.length (xd.flatMap vZ))));rintro _ w ⟨rfl,h⟩;refine gs fun w h _=> ?_;refine qR ?_;have h:On W0 (Own 6 (.slice none ([]:List (Dn×Value)).length 0) ([]:List (Dn×Value)).length (([]:List (Dn×Value)).flatMap vZ)::_) w:=h.bB 6 none;have h2:On W0 (bS 103 139 b aa ⟨host,node,next,l,out,[],t⟩::Own 6 (.slice da xd.length xd.length) xd.length (xd.flatMap vZ)::L) w:=dD (la:=la) (lc:=lc) (oa:=oa) (oc:=oc) (da:=none) (dc:=0) (bt:=bt) ⟨⟨eC,gy,rfl⟩,pl,po,fG⟩ h.to;exact⟨xd,da,rfl,l8,pd,h2.to⟩
theorem Uq{aa:aE}(h0:0≤host)(h8:host<8)(h:On W0 L w):Cs 16 [.int .i64 host] w fun v w'=>∃b,v=.tuple #[.pointer (some ⟨b,0,none⟩),.int .i64 0]∧On W0 (bS 103 139 b aa ⟨host,0,1,[],[],[],⟨[],0⟩⟩::L) w':=by
 refine qO ?_;refine go ?_;refine WL.q (cH rfl rfl) (fun c5=> ?_) (fun c5=> ?_)
 · refine qD ?_;refine qR ?_;exact absurd h0 (by omega)
 refine qI (fun c2=> ?_) (fun c2=> ?_)
 · refine qR ?_;exact absurd h8 (by omega)
 refine qC ?_ (C:=Uh h);rintro _ w ⟨bt,rfl,h⟩;refine qB fun C6 w h=> ?_;refine qR ?_;exact⟨C6,rfl,XY (bt:=bt) h.to⟩
theorem JG{k:Nat}(hk:k<n)(hn:n≤1000000)(KT:∀u∈xs,u.oneCell'=true)(h:On W0 (Own 9 (.slice a n c) n (xs)::L) w):
   Cs 264 [.slice a n c,.int .i64 (k:Int),.int .i64 ((k+1:Nat):Int)] w fun v w'=>∃n',n'+1=n∧v=.slice a n' c∧
     On W0 (Own 9 (.slice a n' c) n' (xs.take (k*9)++xs.drop ((k+1)*9))::L) w':=by
 refine qO ?_;have aA:=Own.form h;obtain⟨a',c',hv,vg,rz,jK⟩:=aA;simp only[Value.slice.injEq] at hv;obtain⟨rfl,_,rfl⟩:=hv;have eC:=(Own.mT h).1;have hl:=aG;refine go ?_;refine WL.v (Ab underlying99 sizeOf135 rfl rfl rfl rfl (by omega) (by omega) (by omega)) ?_;refine qI (fun c3=> ?_) (fun c3=> ?_)
 · exfalso;omega
 refine qG fun w h=> ?_;refine X.v (fun _=>(rW underlying99 sizeOf135 rfl rfl (by omega))) ?_;refine go ?_;refine X.v (fun _=>(Aa underlying99 sizeOf135 rfl rfl (by omega))) ?_;refine X.e (rY (Own.front h (by omega)) ((h.cells 0 rfl).cut (by omega) (by omega) (by omega) (by omega)) rfl rfl underlying99 sizeOf135 (by omega) (fun u hu=>KT u (List.mem_of_mem_drop (List.mem_of_mem_take hu)))) ?_;rintro _ w ⟨rfl,h⟩;rw[List.take_of_length_le (l:=xs.drop ((k+1)*9)) (by rw[List.length_drop,eC,←Nat.sub_mul];exact Nat.le_refl _)] at h;have aA:∃n',n'=k+(n - (k+1)):=⟨_,rfl⟩;obtain⟨n',Qh⟩:=aA;rw[←Qh] at h;refine go ?_;refine WL.v (tj underlying99 sizeOf135 rfl rfl rfl (by omega) (by omega)) ?_;refine WL.e (rB (by rw[←Qh];exact h) (by omega) (by omega) rfl underlying99 zeroValue135 rfl (by simp[Value.cells,Value.oneCell'])) ?_;rintro _ w h;refine qR ?_;exact⟨_,by omega,rfl,h⟩
theorem GR{l:List fk}{out:List Pk}{done:List Dn}{t:Tm}{aa:aE}(hl4:l.length≤1000)(h:On W0 (bS 103 139 b aa ⟨host,node,next,l,out,done,t⟩::L) w):Cs 30 [b] w fun v w'=>∃a xs,v=.slice a l.length l.length∧On W0 (Own 1 (.slice a l.length l.length) l.length xs::bS 103 139 b aa ⟨host,node,next,l,out,done,t⟩::L) w':=by
 refine qO ?_;have fH:=aG;have aA:=q6 h;obtain⟨xl,la,lc,xo,oa,oc,xd,da,dc,bt,⟨⟨eC,gy,l8⟩,pl,po,pd⟩,h⟩:=aA;simp only at eC gy l8;have zE:l.length=xl.length:=by rw[←eC,List.length_map]
 have mw:0<xl.length→∃ba oa,la=some ⟨ba,oa,none⟩:=fun h0=>(h.aR (v:=.slice la xl.length lc)).addr h0;refine go ?_;refine W.loop (fun(i:Nat) env w=>∃(j:Env) (ao:Option Addr) (co:Nat) (xs:List Value),env=eu j [(3,.slice ao i co),(9,.slice la xl.length lc),(10,.int .i64 (xl.length:Nat)),(11,.int .i64 (i:Nat))]∧i≤xl.length∧On W0 (Own 1 (.slice ao i co) i xs::aX b [.int .i64 host,.int .i64 node,.int .u64 next,.slice la xl.length lc,.slice oa xo.length oc,.slice da xd.length dc,bt] 103::Own 9 (.slice la xl.length lc) xl.length (xl.flatMap iA)::Own 2 (.slice oa xo.length oc) xo.length (xo.flatMap mW)::Own 6 (.slice da xd.length dc) xd.length (xd.flatMap vZ)::eL 139 bt t::L) w) (fun i=>xl.length - i) (0) ?_ ?_
 · exact⟨_,none,0,[],aD ⟨rfl,rfl,rfl,rfl,trivial⟩,Nat.zero_le _,h.bB 1 none⟩
 clear h;rintro i env w ⟨j,ao,co,xs,rfl,hi,h⟩;refine qI (fun c6=> ?_) (fun c6=> ?_)
 · have aA:=mw (by omega);obtain⟨ba,uh,rfl⟩:=aA;have aA:∃x,xl[i]? =some x:=⟨_,List.getElem?_eq_getElem (show i<xl.length by omega)⟩;obtain⟨x,hx⟩:=aA;obtain⟨⟨JF,xc⟩,xv⟩:=x;have aA:=pl.at hx;obtain⟨zn,xa,XZ,V5⟩:=aA;simp only at V5;subst V5;refine qD ?_;refine WL.v (gi isAgg135 sizeOf135 rfl rfl ((h.aR (v:=.slice (some ⟨ba,uh,none⟩) xl.length lc)).elem (i:=i) (vs:=[.int .u64 (JF:Int),.int .i64 xc.kind,.int .i64 xc.at_,.int .i64 xc.n,.slice xa xc.data.length XZ,.int .u64 xc.key,.int .u64 xc.new,.int .i64 xc.cz,.bool xc.force]) (by omega) (aF iA 9 sO xl _ _ hx))) ?_;refine gb fun b5 w h=> ?_;refine gs fun w h _=> ?_;refine go ?_;refine WL.e (aZ (zl:=[.int .u64 0]) (out:=[.int .u64 _]) h underlying76 sizeOf30 zeroValue30 (by decide) (by kernel_rfl) rfl rfl (by simp) fz rfl rfl (by simp[maxLen])) ?_;rintro _ w ⟨TA,rfl,h⟩;refine WL.e (bU (bytes:=8) h rfl rfl (h.aR) underlying76 rfl rfl rfl rfl rfl (by omega) (by omega) (by simp[Value.oneCell'])) ?_;rintro _ w ⟨a19,CY,rfl,h⟩;refine qD ?_;exact⟨i+1,⟨_,a19,CY,xs++[.int .u64 (JF:Int)],aD ⟨rfl,rfl,rfl,rfl,trivial⟩,by omega,h.to⟩,by show xl.length - (i+1)<xl.length - i;omega⟩
 refine qC ?_ (C:=M8 h);rintro _ w ⟨rfl,h⟩;refine qR ?_;have aA:i=xl.length:=by omega
 obtain rfl:=aA;rw[zE];have h2:On W0 (bS 103 139 b aa ⟨host,node,next,l,out,done,t⟩::Own 1 (.slice ao xl.length xl.length) xl.length xs::L) w:=dD (la:=la) (lc:=lc) (oa:=oa) (oc:=oc) (da:=da) (dc:=dc) (bt:=bt) ⟨⟨eC,gy,l8⟩,pl,po,pd⟩ h.to;exact⟨ao,xs,rfl,h2.to⟩
theorem DE{la:Option Addr}{lc:Nat}{l:List fk}{out:List Pk}{done:List Dn}{th:List Al}{tn:Int}{aa:aE}{id:Nat}{kind at_ n cz:Int}{key new:Nat}{force:Bool}{data:List UInt8}{ax:Option Addr}{cx:Nat}(zI:id<9223372036854775808)(hk:key<18446744073709551616)(NV:new<18446744073709551616)(oA:data.length≤1000000)(hx:fu aa (.slice ax data.length cx) data)(ua:k7 ⟨host,node,next,l,out,done,⟨th,tn⟩⟩<18446744073709551616)(r7:out.length≤1000000)(h:On W0 (oR 103 139 b la lc aa ⟨host,node,next,l,out,done,⟨th,tn⟩⟩::aY aa::L) w):Cs 133 [b,.agg #[.int .u64 (id:Int),.int .i64 kind,.int .i64 at_,.int .i64 n,.slice ax data.length cx,.int .u64 (key:Int),.int .u64 (new:Int),.int .i64 cz,.bool force]] w fun v w'=>∃aN,(∀p∈aa,p∈aN)∧On W0 (oR 103 139 b la lc aN (yB ⟨host,node,next,l,out,done,⟨th,tn⟩⟩ ⟨id,⟨kind,at_,n,data,(key:Int),(new:Int),cz,force⟩⟩)::aY aN::L) w':=by
 refine qO ?_;have fH:=aG;have aA:=v8 h;obtain⟨xl,xo,oa,oc,xd,da,dc,bt,⟨⟨eC,gy,l8⟩,pl,po,pd⟩,h⟩:=aA;simp only at eC gy l8;have zE:l.length=xl.length:=by rw[←eC,List.length_map]
 rw[xE eC] at ua;simp only at ua;have hoo:xo.length≤1000000:=by rw[←gy,List.length_map] at r7;exact r7
 refine gb fun b3 w h=> ?_;refine qT fun w h=> ?_;refine WT.l 12 rfl isAgg3 rfl (h.aS rfl) ?_;refine qU ?_;refine WT.l 14 rfl isAgg30 rfl (h.aS rfl) ?_;refine qU ?_;refine WT.f 17 1 rfl underlying135 rfl sizeOf32 rfl rfl ?_;refine WT.gF (vs:=[.int .i64 _,.int .i64 _,.int .i64 _,.slice _ _ _,.int .u64 _,.int .u64 _,.int .i64 _,.bool _]) 18 rfl (by kernel_rfl) isAgg32 sizeOf32 rfl rfl (h.fR (n:=8) rfl) rfl rfl ?_;refine WT.e 16 [true,true,true,true,true] rfl (ag call131 (DD ((h.aj (Own 9 (.slice la xl.length lc) xl.length (xl.flatMap iA))).aj (aX b [.int .i64 host,.int .i64 node,.int .u64 next,.slice la xl.length lc,.slice oa xo.length oc,.slice da xd.length dc,bt] 103)))) ?_;rintro _ w ⟨rfl,h⟩;refine⟨⟨(h.fR (n:=8) rfl),h.aS rfl,h.aS rfl,h.aS rfl,h.aS rfl,trivial⟩, ?_⟩;refine WT.e 19 [false,false,false,true,true] rfl (ag call208 (GD (by omega) ua hk NV oA h (aB.to (fu.eN (L:=[]) hx)))) ?_;rintro v23 w ⟨a23,hv,h⟩;have aA:∃Q,Q=(zi ⟨host,id,mX next xl,⟨kind,at_,n,data,(key:Int),(new:Int),cz,force⟩⟩):=⟨_,rfl⟩;obtain⟨Q9,hQ⟩:=aA;rw[←hQ] at hv h;subst hv;refine qW ?_;refine WT.p 20 rfl (fun w'=>(aP (pl:=[(0,1),(1,1)]) (out:=[.int .i64 _,.slice _ _ _]) underlying256 zeroValue256 (fun w=>by kernel_rfl) rfl fz rfl)) ?_;refine WT.e 21 [false,true] rfl (aZ (zl:=[.int .i64 0,.slice none 0 0]) (out:=[.int .i64 _,.slice _ _ _]) h underlying100 sizeOf256 zeroValue256 (by decide) (by kernel_rfl) rfl rfl (by simp) fz rfl rfl (by simp[maxLen])) ?_;rintro _ w ⟨Z4,rfl,h⟩;refine qW ?_;refine WT.e 22 [false] rfl (bU (bytes:=32) h rfl rfl (h.aR) underlying100 rfl rfl rfl rfl rfl (by omega) (by omega) (by simp[Value.oneCell'])) ?_;rintro _ w ⟨a26,Ud,rfl,h⟩;refine⟨trivial, ?_⟩;refine qU ?_;refine WT.e 25 [] rfl (bI (v:=.slice _ _ _) h sizeOf100 rfl rfl rfl rfl rfl) ?_;rintro _ w h
 try simp only[Nat.zero_add,Nat.add_zero,List.set_cons_zero,List.set_cons_succ] at h
 refine⟨trivial, ?_⟩;refine qU ?_;refine W.ez Tryz.follows h (by kernel_rfl) fun w h=> ?_;refine qC ?_ (C:=zK (h.aj (eL 139 bt ⟨th,tn⟩)));rintro _ w ⟨rfl,h⟩;refine qR ?_;have hp:On W0 (bC (.slice a23 Q9.length Q9.length) Q9::aY aa::aX b [.int .i64 host,.int .i64 node,.int .u64 next,.slice la xl.length lc,.slice a26 (xo.length+1) Ud,.slice da xd.length dc,bt] 103::Own 9 (.slice la xl.length lc) xl.length (xl.flatMap iA)::Own 2 (.slice a26 (xo.length+1) Ud) (xo.length+1) (xo.flatMap mW++[.int .i64 node,(.slice a23 Q9.length Q9.length)])::Own 6 (.slice da xd.length dc) xd.length (xd.flatMap vZ)::eL 139 bt (lS ⟨th,tn⟩ (id:Int) 4).1::L) w:=h.to;have hp:=On.mU hp;have aA:∃xo2:List (Pk×Value),xo2=xo++[(⟨node,(.JB ⟨host,id,mX next xl,⟨kind,at_,n,data,(key:Int),(new:Int),cz,force⟩⟩)⟩,(.slice a23 Q9.length Q9.length))]:=⟨_,rfl⟩;obtain⟨xo2,Ur⟩:=aA;have e1:xo.length+1=xo2.length:=by rw[Ur];simp
 have e2:xo.flatMap mW++[.int .i64 node,(.slice a23 Q9.length Q9.length)]=xo2.flatMap mW:=by rw[Ur];simp[mW]
 rw[e1,e2] at hp
 have e:yB ⟨host,node,next,l,out,done,⟨th,tn⟩⟩ ⟨id,⟨kind,at_,n,data,(key:Int),(new:Int),cz,force⟩⟩=⟨host,node,next,l,out++[⟨node,(.JB ⟨host,id,mX next xl,⟨kind,at_,n,data,(key:Int),(new:Int),cz,force⟩⟩)⟩],done,(lS ⟨th,tn⟩ (id:Int) 4).1⟩:=by
   unfold yB;rw[xE eC]
 rw[e];have hm:∀p∈aa,p∈(((.slice a23 Q9.length Q9.length),Q9)::aa):=fun p hp=>List.mem_cons_of_mem _ hp;have hq:On W0 (oR 103 139 b la lc ((((.slice a23 Q9.length Q9.length):Value),Q9)::aa) ⟨host,node,next,l,out++[⟨node,(.JB ⟨host,id,mX next xl,⟨kind,at_,n,data,(key:Int),(new:Int),cz,force⟩⟩)⟩],done,(lS ⟨th,tn⟩ (id:Int) 4).1⟩::aY (((.slice a23 Q9.length Q9.length),Q9)::aa)::L) w:=nK (xo:=xo2) (oa:=a26) (oc:=Ud) (da:=da) (dc:=dc) (bt:=bt) ⟨⟨eC,by rw[Ur,List.map_append,gy];rfl,l8⟩,pl.mono hm,by rw[Ur];exact(po.mono hm).snoc ⟨.inl (by show _∈_;rw[hQ];exact List.mem_cons_self ..),a23,Q9.length,by rw[hQ];rfl⟩,pd.mono hm⟩ hp.to;exact⟨_,hm,hq⟩
theorem Qi{l:List fk}{out:List Pk}{done:List Dn}{th:List Al}{tn:Int}{aa:aE}{id:Nat}{kind at_ n cz:Int}{key new:Nat}{force:Bool}{data:List UInt8}{ax:Option Addr}{cx:Nat}(zI:id<9223372036854775808)(hk:key<18446744073709551616)(NV:new<18446744073709551616)(oA:data.length≤1000000)(hx:fu aa (.slice ax data.length cx) data)(ua:k7 ⟨host,node,next,l,out,done,⟨th,tn⟩⟩<18446744073709551616)(r7:out.length≤1000000)(h:On W0 (bS 103 139 b aa ⟨host,node,next,l,out,done,⟨th,tn⟩⟩::aY aa::L) w):Cs 133 [b,.agg #[.int .u64 (id:Int),.int .i64 kind,.int .i64 at_,.int .i64 n,.slice ax data.length cx,.int .u64 (key:Int),.int .u64 (new:Int),.int .i64 cz,.bool force]] w fun v w'=>∃aN,(∀p∈aa,p∈aN)∧On W0 (bS 103 139 b aN (yB ⟨host,node,next,l,out,done,⟨th,tn⟩⟩ ⟨id,⟨kind,at_,n,data,(key:Int),(new:Int),cz,force⟩⟩)::aY aN::L) w':=by
 obtain⟨la,lc,h⟩:=bS.r h
 exact(DE zI hk NV oA hx ua r7 h).mono fun x w' he=>by
   obtain⟨v,he,aN,hm,hq⟩:=he;exact⟨v,he,aN,hm,oR.q hq⟩
end Go.Proofs.YtcplmndikhjehaaGreat
namespace Go.Proofs.YtcplmndikhjehaaGreat
open Go.Proofs.Tryz
open Go Go.Sl Go.Sl.eM Go.Sl.gW Go.Sl.kM Go.Sl.oB Go.Sl.pO
open Go.Sl.dA (fu fu.eN fu.mono)
set_option maxHeartbeats 0
set_option maxRecDepth 8000
variable{W0 w:World}{L F:List aC}
theorem JH{b next:Nat}{host node:Int}{l:List fk}{out:List Pk}{done:List Dn}{th:List Al}{tn:Int}{aa:aE}{kind at_ n cz:Int}{key new:Nat}{force:Bool}{data:List UInt8}{ax:Option Addr}{cx:Nat}(hnx:next<4611686018427387904)(hk:key<18446744073709551616)(NV:new<18446744073709551616)(oA:data.length≤1000000)(ua:k7 ⟨host,node,next,l,out,done,⟨th,tn⟩⟩<4611686018427387904)(Us:l.length≤1000)(r7:out.length≤1000)(h:On W0 (bS 103 139 b aa ⟨host,node,next,l,out,done,⟨th,tn⟩⟩::aY aa::L) w)(C:aB L (Bytes (.slice ax data.length cx) data)):Cs 88 [b,.agg #[.int .i64 kind,.int .i64 at_,.int .i64 n,.slice ax data.length cx,.int .u64 (key:Int),.int .u64 (new:Int),.int .i64 cz,.bool force]] w fun v w'=>∃aN,(∀p∈aa,p∈aN)∧v=.tuple #[.int .u64 ((dh ⟨host,node,next,l,out,done,⟨th,tn⟩⟩ ⟨kind,at_,n,data,(key:Int),(new:Int),cz,force⟩).2.1:Int),.int .i64 (dh ⟨host,node,next,l,out,done,⟨th,tn⟩⟩ ⟨kind,at_,n,data,(key:Int),(new:Int),cz,force⟩).2.2]∧On W0 (bS 103 139 b aN (dh ⟨host,node,next,l,out,done,⟨th,tn⟩⟩ ⟨kind,at_,n,data,(key:Int),(new:Int),cz,force⟩).1::aY aN::L) w':=by
 refine qO ?_;have fH:=aG;have aA:=q6 h;obtain⟨xl,la,lc,xo,oa,oc,xd,da,dc,bt,⟨⟨eC,gy,l8⟩,pl,po,pd⟩,h⟩:=aA;simp only at eC gy l8;have zE:l.length=xl.length:=by rw[←eC,List.length_map]
 have h:On W0 (aX b [.int .i64 host,.int .i64 node,.int .u64 next,.slice la xl.length lc,.slice oa xo.length oc,.slice da xd.length dc,bt] 103::Own 9 (.slice la xl.length lc) xl.length (xl.flatMap iA)::Own 2 (.slice oa xo.length oc) xo.length (xo.flatMap mW)::Own 6 (.slice da xd.length dc) xd.length (xd.flatMap vZ)::eL 139 bt ⟨th,tn⟩::aY aa::L) w:=h;have Qj:=xE (p:=⟨host,node,next,l,out,done,⟨th,tn⟩⟩) eC;rw[Qj] at ua;simp only at ua Qj;refine gb fun b3 w h=> ?_;refine qT fun w h=> ?_;refine WT.e 5 [true] rfl (ag call131 (DD ((h.aj (Own 9 (.slice la xl.length lc) xl.length (xl.flatMap iA))).aj (aX b [.int .i64 host,.int .i64 node,.int .u64 next,.slice la xl.length lc,.slice oa xo.length oc,.slice da xd.length dc,bt] 103)))) ?_;rintro _ w ⟨rfl,h⟩;refine qW ?_;refine WT.p 6 rfl (fun w'=>(cT (k:=.u64) (m:=mX next xl) (n:=4) rfl rfl (by show _≤(18446744073709551615:Int);omega))) ?_;refine WT.p 7 rfl (fun w'=>(eA rfl rfl)) ?_;refine qU ?_;refine W.lN rfl (fun c3=> ?_) (fun c3=> ?_)
 ·
  refine qR ?_
  have e:dh ⟨host,node,next,l,out,done,⟨th,tn⟩⟩ ⟨kind,at_,n,data,(key:Int),(new:Int),cz,force⟩=(⟨host,node,next,l,out,done,⟨th,tn⟩⟩,0,7):=by
    unfold dh;have hc:mX next xl+4≤next:=by omega
    rw[Qj,if_pos hc]
  rw[e];have h2:On W0 (bS 103 139 b aa ⟨host,node,next,l,out,done,⟨th,tn⟩⟩::aY aa::L) w:=dD (la:=la) (lc:=lc) (oa:=oa) (oc:=oc) (da:=da) (dc:=dc) (bt:=bt) ⟨⟨eC,gy,l8⟩,pl,po,pd⟩ h.to;exact⟨aa,fun p hp=>hp,rfl,h2⟩
 refine go ?_;refine WL.q (cH rfl rfl) (fun CY=> ?_) (fun CY=> ?_)
 ·
  refine qD ?_;refine qR ?_
  have e:dh ⟨host,node,next,l,out,done,⟨th,tn⟩⟩ ⟨kind,at_,n,data,(key:Int),(new:Int),cz,force⟩=(⟨host,node,next,l,out,done,⟨th,tn⟩⟩,0,1):=by
    unfold dh;have hc:¬mX next xl+4≤next:=by omega
    have H6:kind<1∨18<kind∨1024<data.length:=by omega
    rw[Qj,if_neg hc,if_pos H6]
  rw[e];have h2:On W0 (bS 103 139 b aa ⟨host,node,next,l,out,done,⟨th,tn⟩⟩::aY aa::L) w:=dD (la:=la) (lc:=lc) (oa:=oa) (oc:=oc) (da:=da) (dc:=dc) (bt:=bt) ⟨⟨eC,gy,l8⟩,pl,po,pd⟩ h.to;exact⟨aa,fun p hp=>hp,rfl,h2⟩
 refine go ?_;refine WL.q (iU rfl rfl) (fun wX=> ?_) (fun wX=> ?_)
 ·
  refine qD ?_;refine qR ?_
  have e:dh ⟨host,node,next,l,out,done,⟨th,tn⟩⟩ ⟨kind,at_,n,data,(key:Int),(new:Int),cz,force⟩=(⟨host,node,next,l,out,done,⟨th,tn⟩⟩,0,1):=by
    unfold dh;have hc:¬mX next xl+4≤next:=by omega
    have H6:kind<1∨18<kind∨1024<data.length:=by omega
    rw[Qj,if_neg hc,if_pos H6]
  rw[e];have h2:On W0 (bS 103 139 b aa ⟨host,node,next,l,out,done,⟨th,tn⟩⟩::aY aa::L) w:=dD (la:=la) (lc:=lc) (oa:=oa) (oc:=oc) (da:=da) (dc:=dc) (bt:=bt) ⟨⟨eC,gy,l8⟩,pl,po,pd⟩ h.to;exact⟨aa,fun p hp=>hp,rfl,h2⟩
 refine qI (fun c7=> ?_) (fun c7=> ?_)
 ·
  refine qR ?_
  have e:dh ⟨host,node,next,l,out,done,⟨th,tn⟩⟩ ⟨kind,at_,n,data,(key:Int),(new:Int),cz,force⟩=(⟨host,node,next,l,out,done,⟨th,tn⟩⟩,0,1):=by
    unfold dh;have hc:¬mX next xl+4≤next:=by omega
    have H6:kind<1∨18<kind∨1024<data.length:=by omega
    rw[Qj,if_neg hc,if_pos H6]
  rw[e];have h2:On W0 (bS 103 139 b aa ⟨host,node,next,l,out,done,⟨th,tn⟩⟩::aY aa::L) w:=dD (la:=la) (lc:=lc) (oa:=oa) (oc:=oc) (da:=da) (dc:=dc) (bt:=bt) ⟨⟨eC,gy,l8⟩,pl,po,pd⟩ h.to;exact⟨aa,fun p hp=>hp,rfl,h2⟩
 refine qC ?_ (C:=bG h (aB.to C) (by omega));rintro _ w ⟨a33,rO,rfl,h⟩;have h:=On.mU ((h.aj (aY aa)).p1);refine gs fun w h _=> ?_;refine go ?_;refine W.draw Tryz.follows h (fun w h=> ?_);refine WT.m 0 rfl ?_;refine WT.n 1 rfl rfl ?_;refine WT.f 2 2 rfl underlying103 rfl sizeOf30 rfl rfl ?_;refine WT.l 3 rfl isAgg30 rfl (h.aS rfl) ?_;refine WT.gF (vs:=[.int .i64 _,.int .i64 _,.int .i64 _,.slice _ _ _,.int .u64 _,.int .u64 _,.int .i64 _,.bool _]) 4 rfl (by kernel_rfl) isAgg32 sizeOf32 rfl rfl (h.fR (n:=8) rfl) rfl rfl ?_;refine WT.p 5 rfl (fun w'=>(aP (pl:=[(0,1),(1,8)]) (out:=[.int .u64 _,.int .i64 _,.int .i64 _,.int .i64 _,.slice _ _ _,.int .u64 _,.int .u64 _,.int .i64 _,.bool _]) underlying135 zeroValue135 (fun w=>by kernel_rfl) rfl fz rfl)) ?_;refine WT.e 6 [true,true] rfl (bR h zeroValue135 rfl) ?_;rintro _ w ⟨b6,rfl,h⟩;refine⟨⟨(h.fR (n:=8) rfl),h.aS rfl,trivial⟩, ?_⟩;refine WT.e 7 [false,false] rfl (bA h sizeOf135 rfl rfl rfl rfl rfl) ?_;rintro _ w h;refine⟨trivial, ?_⟩;refine WT.dn ?_;refine W.cut (fun env w=>∃(j:Env) (t2:Tm),t2=(if l.length=0 then(lS ⟨th,tn⟩ 0 8).1 else⟨th,tn⟩)∧env=eu j [(0,b),(6,b6)]∧On W0 (aX b6 [.int .u64 (next:Int),.int .i64 kind,.int .i64 at_,.int .i64 n,.slice a33 data.length rO,.int .u64 (key:Int),.int .u64 (new:Int),.int .i64 cz,.bool force] 135::aX b [.int .i64 host,.int .i64 node,.int .u64 next,.slice la xl.length lc,.slice oa xo.length oc,.slice da xd.length dc,bt] 103::Own 9 (.slice la xl.length lc) xl.length (xl.flatMap iA)::Own 2 (.slice oa xo.length oc) xo.length (xo.flatMap mW)::Own 6 (.slice da xd.length dc) xd.length (xd.flatMap vZ)::eL 139 bt t2::aY ((.slice a33 data.length rO,data)::aa)::L) w) ?_ ?_
 ·
  refine qI (fun pW=> ?_) (fun pW=> ?_)
  · refine qC ?_ (C:=zK (h.aj (eL 139 bt ⟨th,tn⟩)));rintro _ w ⟨rfl,h⟩;refine gw ?_;exact⟨_,_,(if_pos (by omega)).symm,aD ⟨rfl,rfl,trivial⟩,h.to⟩
  refine qD ?_;exact⟨_,_,(if_neg (by omega)).symm,aD ⟨rfl,rfl,trivial⟩,h.to⟩
 clear h;rintro env w ⟨j,t2,EP,rfl,h⟩;obtain⟨Qk,Ql⟩:=t2;refine go ?_;refine WL.v (cT (k:=.u64) (m:=next) (n:=1) rfl rfl (by show _≤(18446744073709551615:Int);omega)) ?_;refine gs fun w h _=> ?_;refine go ?_;refine W.draw Tryz.follows h (fun w h=> ?_);refine WT.m 0 rfl ?_;refine WT.m 1 rfl ?_;refine WT.n 2 rfl rfl ?_;refine WT.f 3 3 rfl underlying103 rfl sizeOf99 rfl rfl ?_;refine WT.l 4 rfl isAgg99 rfl (h.aS rfl) ?_;refine WT.gF (vs:=[.int .u64 _,.int .i64 _,.int .i64 _,.int .i64 _,.slice _ _ _,.int .u64 _,.int .u64 _,.int .i64 _,.bool _]) 5 rfl (by kernel_rfl) isAgg135 sizeOf135 rfl rfl (h.fR (n:=9) rfl) rfl rfl ?_;refine WT.e 6 [false,true] rfl (aZ (zl:=[.int .u64 0,.int .i64 0,.int .i64 0,.int .i64 0,.slice none 0 0,.int .u64 0,.int .u64 0,.int .i64 0,.bool false]) (out:=[.int .u64 _,.int .i64 _,.int .i64 _,.int .i64 _,.slice _ _ _,.int .u64 _,.int .u64 _,.int .i64 _,.bool _]) h underlying99 sizeOf135 zeroValue135 (by decide) (by kernel_rfl) rfl rfl (by simp) fz rfl rfl (by simp[maxLen])) ?_;rintro _ w ⟨b65,rfl,h⟩;refine qW ?_;refine WT.e 7 [false] rfl (bU (bytes:=88) h rfl rfl (h.aR) underlying99 rfl rfl rfl rfl rfl (by omega) (by omega) (by simp[Value.oneCell'])) ?_;rintro _ w ⟨a66,c66,rfl,h⟩;refine⟨trivial, ?_⟩;refine qU ?_;refine WT.e 10 [] rfl (bI (v:=.slice _ _ _) h sizeOf99 rfl rfl rfl rfl rfl) ?_;rintro _ w h
 try simp only[Nat.zero_add,Nat.add_zero,List.set_cons_zero,List.set_cons_succ] at h
 refine⟨trivial, ?_⟩;refine WT.dn ?_;refine W.seq ?_;have hp:On W0 (aX b [.int .i64 host,.int .i64 node,.int .u64 ((next+1:Nat):Int),.slice a66 (xl.length+1) c66,.slice oa xo.length oc,.slice da xd.length dc,bt] 103::Own 9 (.slice a66 (xl.length+1) c66) (xl.length+1) (xl.flatMap iA++[.int .u64 (next:Int),.int .i64 kind,.int .i64 at_,.int .i64 n,.slice a33 data.length rO,.int .u64 (key:Int),.int .u64 (new:Int),.int .i64 cz,.bool force])::Own 2 (.slice oa xo.length oc) xo.length (xo.flatMap mW)::Own 6 (.slice da xd.length dc) xd.length (xd.flatMap vZ)::eL 139 bt ⟨Qk,Ql⟩::aY ((.slice a33 data.length rO,data)::aa)::aX b6 [.int .u64 (next:Int),.int .i64 kind,.int .i64 at_,.int .i64 n,.slice a33 data.length rO,.int .u64 (key:Int),.int .u64 (new:Int),.int .i64 cz,.bool force] 135::L) w:=h.to;have aA:∃NY:List (fk×Value),NY=xl++[(⟨next,⟨kind,at_,n,data,(key:Int),(new:Int),cz,force⟩⟩,.slice a33 data.length rO)]:=⟨_,rfl⟩;obtain⟨NY,wg⟩:=aA;have e1:xl.length+1=NY.length:=by rw[wg];simp
 have e2:xl.flatMap iA++[.int .u64 (next:Int),.int .i64 kind,.int .i64 at_,.int .i64 n,.slice a33 data.length rO,.int .u64 (key:Int),.int .u64 (new:Int),.int .i64 cz,.bool force]=NY.flatMap iA:=by rw[wg];simp[iA,Cm.cells]
 rw[e1,e2] at hp;have hm:∀p∈aa,p∈(((.slice a33 data.length rO:Value),data)::aa):=fun p hp=>List.mem_cons_of_mem _ hp;have hq:On W0 (bS 103 139 b (((.slice a33 data.length rO:Value),data)::aa) ⟨host,node,next+1,l++[⟨next,⟨kind,at_,n,data,(key:Int),(new:Int),cz,force⟩⟩],out,done,⟨Qk,Ql⟩⟩::aY ((.slice a33 data.length rO,data)::aa)::aX b6 [.int .u64 (next:Int),.int .i64 kind,.int .i64 at_,.int .i64 n,.slice a33 data.length rO,.int .u64 (key:Int),.int .u64 (new:Int),.int .i64 cz,.bool force] 135::L) w:=dD ⟨⟨by rw[wg,List.map_append,eC];rfl,gy,l8⟩,by rw[wg];exact(pl.mono hm).snoc ⟨.inl (List.mem_cons_self ..),a33,_,rfl⟩,po.mono hm,pd.mono hm⟩ hp
 have agP:k7 ⟨host,node,next+1,l++[⟨next,⟨kind,at_,n,data,(key:Int),(new:Int),cz,force⟩⟩],out,done,⟨Qk,Ql⟩⟩<18446744073709551616:=by
   have e:k7 ⟨host,node,next+1,l++[⟨next,⟨kind,at_,n,data,(key:Int),(new:Int),cz,force⟩⟩],out,done,⟨Qk,Ql⟩⟩=k7 ⟨host,node,next,l,out,done,⟨th,tn⟩⟩:=by cases l<;>rfl
   rw[e,Qj];omega
 refine qC ?_ (C:=(Qi (id:=next) (key:=key) (new:=new) (next:=next+1) (l:=l++[⟨next,⟨kind,at_,n,data,(key:Int),(new:Int),cz,force⟩⟩]) (by omega) hk NV oA (.inl (List.mem_cons_self ..)) agP (by omega) hq));rintro _ w ⟨cg,Qm,h⟩;refine qR ?_
 have e:dh ⟨host,node,next,l,out,done,⟨th,tn⟩⟩ ⟨kind,at_,n,data,(key:Int),(new:Int),cz,force⟩=(yB ⟨host,node,next+1,l++[⟨next,⟨kind,at_,n,data,(key:Int),(new:Int),cz,force⟩⟩],out,done,⟨Qk,Ql⟩⟩ ⟨next,⟨kind,at_,n,data,(key:Int),(new:Int),cz,force⟩⟩,next,0):=by
   have hc:¬mX next xl+4≤next:=by omega
   have H6:¬(kind<1∨18<kind∨1024<data.length):=by omega
   unfold dh;rw[Qj,if_neg hc,if_neg H6];by_cases h0:l.length=0
   · rw[if_pos h0] at EP
     simp only[if_pos h0,EP]
   rw[if_neg h0] at EP;simp only[if_neg h0,EP]
 rw[e];exact⟨cg,fun p hp=>Qm p (hm p hp),rfl,h.to⟩
theorem Ut{b next:Nat}{host node:Int}{l:List fk}{out:List Pk}{done:List Dn}{th:List Al}{tn:Int}{aa:aE}{id:Nat}{st rk code info:Int}{cj:List UInt8}{rx:Option Addr}{rc:Nat}(X0:∀a∈l,a.id<9223372036854775808)(Us:l.length≤1000)(MC:done.length≤1000)(hx:fu aa (.slice rx cj.length rc) cj)(h:On W0 (bS 103 139 b aa ⟨host,node,next,l,out,done,⟨th,tn⟩⟩::aY aa::L) w):Cs 196 [b,.int .u64 (id:Int),.agg #[.int .i64 st,.int .i64 rk,.int .i64 code,.slice rx cj.length rc,.int .i64 info]] w fun v w'=>On W0 (bS 103 139 b aa (Bi ⟨host,node,next,l,out,done,⟨th,tn⟩⟩ id ⟨st,rk,code,cj,info⟩)::aY aa::L) w':=by
 refine qO ?_;have fH:=aG;have aA:=q6 h;obtain⟨xl,la,lc,xo,oa,oc,xd,da,dc,bt,⟨⟨eC,gy,l8⟩,pl,po,pd⟩,h⟩:=aA;simp only at eC gy l8;have zE:l.length=xl.length:=by rw[←eC,List.length_map]
 have h:On W0 (aX b [.int .i64 host,.int .i64 node,.int .u64 next,.slice la xl.length lc,.slice oa xo.length oc,.slice da xd.length dc,bt] 103::Own 9 (.slice la xl.length lc) xl.length (xl.flatMap iA)::Own 2 (.slice oa xo.length oc) xo.length (xo.flatMap mW)::Own 6 (.slice da xd.length dc) xd.length (xd.flatMap vZ)::eL 139 bt ⟨th,tn⟩::aY aa::L) w:=h;have mw:0<xl.length→∃ba oa,la=some ⟨ba,oa,none⟩:=fun h0=>(h.aR (v:=.slice la xl.length lc)).addr h0;have hdd:xd.length≤1000:=by rw[←l8,List.length_map] at MC;exact MC
 refine gb fun b5 w h=> ?_;refine go ?_;refine W.loop (fun(i:Nat) env w=>∃(j:Env),env=eu j [(0,b),(1,.int .u64 (id:Int)),(5,b5),(11,.slice la xl.length lc),(12,.int .i64 (xl.length:Nat)),(13,.int .i64 (i:Nat))]∧i≤xl.length∧(∀(k:Nat) (x:fk×Value),k<i→xl[k]? =some x→¬x.1.id=id)∧On W0 (aX b5 [.int .i64 st,.int .i64 rk,.int .i64 code,.slice rx cj.length rc,.int .i64 info] 38::aX b [.int .i64 host,.int .i64 node,.int .u64 next,.slice la xl.length lc,.slice oa xo.length oc,.slice da xd.length dc,bt] 103::Own 9 (.slice la xl.length lc) xl.length (xl.flatMap iA)::Own 2 (.slice oa xo.length oc) xo.length (xo.flatMap mW)::Own 6 (.slice da xd.length dc) xd.length (xd.flatMap vZ)::eL 139 bt ⟨th,tn⟩::aY aa::L) w) (fun i=>xl.length - i) (0) ?_ ?_
 · exact⟨_,aD ⟨rfl,rfl,rfl,rfl,rfl,rfl,trivial⟩,Nat.zero_le _,fun k x hk=>absurd hk (Nat.not_lt_zero _),h.to⟩
 clear h;rintro i env w ⟨j,rfl,hi,dX,h⟩;refine qI (fun c7=> ?_) (fun c7=> ?_)
 ·
  have aA:=mw (by omega);obtain⟨ba,uh,rfl⟩:=aA;have aA:∃x,xl[i]? =some x:=⟨_,List.getElem?_eq_getElem (show i<xl.length by omega)⟩;obtain⟨x,vu⟩:=aA;obtain⟨⟨JF,xc⟩,xv⟩:=x;have aA:=pl.at vu;obtain⟨zn,xa,XZ,V5⟩:=aA;simp only at V5;subst V5;refine qD ?_;refine WL.v (gi isAgg135 sizeOf135 rfl rfl ((h.aR (v:=.slice (some ⟨ba,uh,none⟩) xl.length lc)).elem (i:=i) (vs:=[.int .u64 (JF:Int),.int .i64 xc.kind,.int .i64 xc.at_,.int .i64 xc.n,.slice xa xc.data.length XZ,.int .u64 xc.key,.int .u64 xc.new,.int .i64 xc.cz,.bool xc.force]) (by omega) (aF iA 9 sO xl _ _ vu))) ?_;refine gb fun b7 w h=> ?_;refine gs fun w h _=> ?_;refine qI (fun CS=> ?_) (fun CS=> ?_)
  · refine qD ?_;exact⟨i+1,⟨_,aD ⟨rfl,rfl,rfl,rfl,rfl,rfl,trivial⟩,by omega,fun k x hk hkx=>(by by_cases hki:k=i;subst hki;rw[vu] at hkx;cases hkx;exact fun hh=>CS (by show(JF:Int)=(id:Int);exact congrArg _ hh);exact dX k x (by omega) hkx),h.to⟩,by show xl.length - (i+1)<xl.length - i;omega⟩
  have ab2:JF=id:=by omega
  have agR:(⟨JF,xc⟩:fk)∈l:=eC▸List.mem_map_of_mem (List.mem_of_getElem? vu);have agS:=X0 _ agR;simp only at agS;refine qC ?_ (C:=JG (k:=i) (by omega) (by omega) (Na pl) (h.aj (Own 9 (.slice (some ⟨ba,uh,none⟩) xl.length lc) xl.length (xl.flatMap iA))));rintro _ w ⟨n',Qh,rfl,h⟩;refine gs fun w h _=> ?_;refine qC ?_ (C:=Bg (id:=(id:Int)) (h.aj (eL 139 bt ⟨th,tn⟩)));rintro _ w ⟨r39,rfl,h⟩;have aA:∃t2,t2=sK ⟨th,tn⟩ (id:Int):=⟨_,rfl⟩;obtain⟨t2,EP⟩:=aA;rw[←EP] at h;obtain⟨Qk,Ql⟩:=t2;refine go ?_;refine W.draw Tryz.follows h (fun w h=> ?_);refine WT.m 0 rfl ?_;refine WT.m 1 rfl ?_;refine WT.n 2 rfl rfl ?_;refine WT.f 3 5 rfl underlying103 rfl sizeOf101 rfl rfl ?_;refine WT.l 4 rfl isAgg101 rfl (h.aS rfl) ?_;refine WT.m 5 rfl ?_;refine WT.gF (vs:=[.int .i64 _,.int .i64 _,.int .i64 _,.slice _ _ _,.int .i64 _]) 6 rfl (by kernel_rfl) isAgg38 sizeOf38 rfl rfl (h.fR (n:=5) rfl) rfl rfl ?_;refine WT.p 7 rfl (fun w'=>(aP (pl:=[(0,1),(1,5)]) (out:=[.int .u64 _,.int .i64 _,.int .i64 _,.int .i64 _,.slice _ _ _,.int .i64 _]) underlying250 zeroValue250 (fun w=>by kernel_rfl) rfl fz rfl)) ?_;refine WT.e 8 [false,true] rfl (aZ (zl:=[.int .u64 0,.int .i64 0,.int .i64 0,.int .i64 0,.slice none 0 0,.int .i64 0]) (out:=[.int .u64 _,.int .i64 _,.int .i64 _,.int .i64 _,.slice _ _ _,.int .i64 _]) h underlying101 sizeOf250 zeroValue250 (by decide) (by kernel_rfl) rfl rfl (by simp) fz rfl rfl (by simp[maxLen])) ?_;rintro _ w ⟨b48,rfl,h⟩;refine qW ?_;refine WT.e 9 [false] rfl (bU (bytes:=64) h rfl rfl (h.aR) underlying101 rfl rfl rfl rfl rfl (by omega) (by omega) (by simp[Value.oneCell'])) ?_;rintro _ w ⟨a49,M1,rfl,h⟩;refine⟨trivial, ?_⟩;refine qU ?_;refine WT.e 12 [] rfl (bI (v:=.slice _ _ _) h sizeOf101 rfl rfl rfl rfl rfl) ?_;rintro _ w h
  try simp only[Nat.zero_add,Nat.add_zero,List.set_cons_zero,List.set_cons_succ] at h
  refine⟨trivial, ?_⟩;refine qU ?_;refine qI (fun CZ=> ?_) (fun CZ=> ?_)
  ·
   refine qC ?_ (C:=Bg (id:=0) (h.aj (eL 139 bt ⟨Qk,Ql⟩)));rintro _ w ⟨r63,rfl,h⟩;refine qR ?_;have fn:=GP eC vu ab2 dX;have hln:(l.eraseIdx i).length=n':=by rw[List.length_eraseIdx,if_pos (by omega)];omega
   have e:Bi ⟨host,node,next,l,out,done,⟨th,tn⟩⟩ id ⟨st,rk,code,cj,info⟩=⟨host,node,next,l.eraseIdx i,out,done++[⟨id,⟨st,rk,code,cj,info⟩⟩],sK ⟨Qk,Ql⟩ 0⟩:=by
     unfold Bi;simp only[fn,←EP];rw[if_pos (show(l.eraseIdx i).length=0 by omega)]
   rw[e];have hp:On W0 (aX b [.int .i64 host,.int .i64 node,.int .u64 next,(.slice (some ⟨ba,uh,none⟩) n' lc),.slice oa xo.length oc,.slice a49 (xd.length+1) M1,bt] 103::Own 9 (.slice (some ⟨ba,uh,none⟩) n' lc) n' ((xl.flatMap iA).take (i*9)++(xl.flatMap iA).drop ((i+1)*9))::Own 2 (.slice oa xo.length oc) xo.length (xo.flatMap mW)::Own 6 (.slice a49 (xd.length+1) M1) (xd.length+1) (xd.flatMap vZ++[.int .u64 (id:Int),.int .i64 st,.int .i64 rk,.int .i64 code,.slice rx cj.length rc,.int .i64 info])::eL 139 bt (sK ⟨Qk,Ql⟩ 0)::aY aa::L) w:=h.to;have aA:∃NY,NY=xl.eraseIdx i:=⟨_,rfl⟩;obtain⟨NY,wg⟩:=aA;have aA:∃Uu:List (Dn×Value),Uu=xd++[(⟨id,⟨st,rk,code,cj,info⟩⟩,.slice rx cj.length rc)]:=⟨_,rfl⟩;obtain⟨Uu,ER⟩:=aA;have e1:n'=NY.length:=by rw[wg,List.length_eraseIdx,if_pos (by omega)];omega
   have e2:xd.length+1=Uu.length:=by rw[ER];simp
   have e3:xd.flatMap vZ++[.int .u64 (id:Int),.int .i64 st,.int .i64 rk,.int .i64 code,.slice rx cj.length rc,.int .i64 info]=Uu.flatMap vZ:=by rw[ER];simp[vZ,Rp.cells]
   rw[Bh iA 9 sO xl i,←wg,e1,e2,e3] at hp;exact dD ⟨⟨by rw[wg,List.eraseIdx_eq_take_drop_succ,List.map_append,List.map_take,List.map_drop,eC,←List.eraseIdx_eq_take_drop_succ],gy,by rw[ER,List.map_append,l8];rfl⟩,by rw[wg];exact fun x hx=>pl x (List.mem_of_mem_eraseIdx hx),po,by rw[ER];exact pd.snoc ⟨hx,rx,rc,rfl⟩⟩ hp
  refine qR ?_;have fn:=GP eC vu ab2 dX;have hln:(l.eraseIdx i).length=n':=by rw[List.length_eraseIdx,if_pos (by omega)];omega
  have e:Bi ⟨host,node,next,l,out,done,⟨th,tn⟩⟩ id ⟨st,rk,code,cj,info⟩=⟨host,node,next,l.eraseIdx i,out,done++[⟨id,⟨st,rk,code,cj,info⟩⟩],⟨Qk,Ql⟩⟩:=by
    unfold Bi;simp only[fn,←EP];rw[if_neg (show ¬(l.eraseIdx i).length=0 by omega)]
  rw[e];have hp:On W0 (aX b [.int .i64 host,.int .i64 node,.int .u64 next,(.slice (some ⟨ba,uh,none⟩) n' lc),.slice oa xo.length oc,.slice a49 (xd.length+1) M1,bt] 103::Own 9 (.slice (some ⟨ba,uh,none⟩) n' lc) n' ((xl.flatMap iA).take (i*9)++(xl.flatMap iA).drop ((i+1)*9))::Own 2 (.slice oa xo.length oc) xo.length (xo.flatMap mW)::Own 6 (.slice a49 (xd.length+1) M1) (xd.length+1) (xd.flatMap vZ++[.int .u64 (id:Int),.int .i64 st,.int .i64 rk,.int .i64 code,.slice rx cj.length rc,.int .i64 info])::eL 139 bt (⟨Qk,Ql⟩)::aY aa::L) w:=h.to;have aA:∃NY,NY=xl.eraseIdx i:=⟨_,rfl⟩;obtain⟨NY,wg⟩:=aA;have aA:∃Uu:List (Dn×Value),Uu=xd++[(⟨id,⟨st,rk,code,cj,info⟩⟩,.slice rx cj.length rc)]:=⟨_,rfl⟩;obtain⟨Uu,ER⟩:=aA;have e1:n'=NY.length:=by rw[wg,List.length_eraseIdx,if_pos (by omega)];omega
  have e2:xd.length+1=Uu.length:=by rw[ER];simp
  have e3:xd.flatMap vZ++[.int .u64 (id:Int),.int .i64 st,.int .i64 rk,.int .i64 code,.slice rx cj.length rc,.int .i64 info]=Uu.flatMap vZ:=by rw[ER];simp[vZ,Rp.cells]
  rw[Bh iA 9 sO xl i,←wg,e1,e2,e3] at hp;exact dD ⟨⟨by rw[wg,List.eraseIdx_eq_take_drop_succ,List.map_append,List.map_take,List.map_drop,eC,←List.eraseIdx_eq_take_drop_succ],gy,by rw[ER,List.map_append,l8];rfl⟩,by rw[wg];exact fun x hx=>pl x (List.mem_of_mem_eraseIdx hx),po,by rw[ER];exact pd.snoc ⟨hx,rx,rc,rfl⟩⟩ hp
 refine qI (fun CZ=> ?_) (fun CZ=> ?_)
 ·
  refine qC ?_ (C:=Bg (id:=0) (h.aj (eL 139 bt ⟨th,tn⟩)));rintro _ w ⟨r63,rfl,h⟩;refine qR ?_;have fn:=DC eC (fun k y hy=>dX k y (by have:=(List.getElem?_eq_some_iff.1 hy).1;omega) hy)
  have e:Bi ⟨host,node,next,l,out,done,⟨th,tn⟩⟩ id ⟨st,rk,code,cj,info⟩=⟨host,node,next,l,out,done,sK ⟨th,tn⟩ 0⟩:=by
    unfold Bi;simp only[fn];rw[if_pos (show l.length=0 by omega)]
  rw[e];exact dD (la:=la) (lc:=lc) (oa:=oa) (oc:=oc) (da:=da) (dc:=dc) (bt:=bt) ⟨⟨eC,gy,l8⟩,pl,po,pd⟩ h.to
 refine qR ?_;have fn:=DC eC (fun k y hy=>dX k y (by have:=(List.getElem?_eq_some_iff.1 hy).1;omega) hy)
 have e:Bi ⟨host,node,next,l,out,done,⟨th,tn⟩⟩ id ⟨st,rk,code,cj,info⟩=⟨host,node,next,l,out,done,⟨th,tn⟩⟩:=by
   unfold Bi;simp only[fn];rw[if_neg (show ¬l.length=0 by omega)]
 rw[e];exact dD (la:=la) (lc:=lc) (oa:=oa) (oc:=oc) (da:=da) (dc:=dc) (bt:=bt) ⟨⟨eC,gy,l8⟩,pl,po,pd⟩ h.to
end Go.Proofs.YtcplmndikhjehaaGreat
namespace Go.Proofs.YtcplmndikhjehaaGreat
open Go Go.Sl Go.Sl.BitM Go.Sl.zh Go.Sl.uf Go.Sl.eM Go.Sl.gW
set_option maxHeartbeats 0
set_option maxRecDepth 8000
variable{W0 w:World}{L F:List aC}
end Go.Proofs.YtcplmndikhjehaaGreat
namespace Go.Proofs.YtcplmndikhjehaaGreat
open Go.Proofs.Tryz
open Go Go.Sl Go.Sl.BitM Go.Sl.zh Go.Sl.uf Go.Sl.eM Go.Sl.gW
set_option maxHeartbeats 0
set_option maxRecDepth 8000
variable{W0 w:World}{L F:List aC}
theorem X1{b:Nat}{s:Sp}{at_ n:Int}(h:On W0 (mR 321 b s::L) w):Cs 383 [b,.int .i64 at_,.int .i64 n] w fun v w'=>((v=.bool true∧BT s at_ n)∨(v=.bool false∧¬BT s at_ n))∧On W0 (mR 321 b s::L) w':=by
 have ho:=mC h;obtain⟨gd,od,cd,am,cm,hw,h⟩:=ho
 exact(T0 hw.2.2.1 h).mono fun e w' he=>by
   obtain⟨v,he,hv⟩:=he;refine⟨v,he, ?_⟩;exact⟨hv.1,fX hw hv.2⟩
theorem Uv{bu i:Nat}{u:Un}{aa:aE}{ms:List Nat}(hi:i<8)(mw:(u.cA i).dN=[])(h:On W0 (qb 236 321 323 bu aa ms u::L) w):Cs 345 [bu,.int .i64 (i:Int)] w fun v w'=>v=.tuple #[(plain 0 0 0).val (.slice none 0 0),.bool false]∧On W0 (qb 236 321 323 bu aa ms u::L) w':=by
 refine qO ?_;have aA:=yy h;obtain⟨bs,bt,gs,hm,hl,h⟩:=aA;have aA:=ED hm hl hi;obtain⟨g,hg,GS⟩:=aA;have h:=eE.open hg (h.aj (eE (gE aa) gs));have aA:=KL h;obtain⟨cD,h⟩:=aA;have X2:=Own.bounds h;obtain⟨wV,Ga⟩:=X2;have NZ:i<gs.length:=by have:=(List.getElem?_eq_some_iff.1 hg).1;omega
 rw[←GS] at mw;refine gb fun b4 w h=> ?_;refine go ?_;refine WL.v (bg underlying234 sizeOf233 rfl rfl (by omega) (by omega)) ?_;refine go ?_;refine WL.l isAgg22 rfl (h.aS (KM (bs:=bs) (bt:=bt) hg (k:=0) (by decide) rfl)) ?_;refine qI (fun c3=> ?_) (fun c3=> ?_)
 · refine go ?_;refine WL.v (aP (pl:=[(0,1),(1,1),(2,1),(3,1),(4,1)]) (out:=[.int .i64 _,.int .i64 _,.int .i64 _,.slice _ _ _,.int .i64 _]) underlying38 zeroValue38 (fun w=>by kernel_rfl) rfl trivial rfl) (Sl.gs fun w h _=> ?_);refine go ?_;refine W.ret (bf.rX (vs:=[.int .i64 _,.int .i64 _,.int .i64 _,.slice _ _ _,.int .i64 _]) (v2:=.bool _) h results345 isAgg38 sizeOf38 rfl rfl rfl rfl ?_);have h:=eE.close NZ (pF cD (((h.aj (eE (gE aa) (gs.eraseIdx i))).aj (bV g.mb .u64 g.kvs g.ck)).aj (mV g)));rw[iH hg] at h;have h:=iw hm hl (((h.g.aj (aX bt u.t.cells 323)).aj (mR 321 bs u.s)).aj (aX bu (dg bs bt gs) 236));exact⟨rfl,h.to⟩
 rw[mw] at c3;exact absurd rfl c3
end Go.Proofs.YtcplmndikhjehaaGreat
namespace Go.Proofs.YtcplmndikhjehaaGreat
open Go.Proofs.Tryz
open Go Go.Sl Go.Sl.BitM Go.Sl.zh Go.Sl.uf Go.Sl.eM Go.Sl.gW
set_option maxHeartbeats 0
set_option maxRecDepth 8000
variable{d:List UInt8}{f:Bool}{key n new cz:Int}{p q:Nat}
variable{W0 w:World}{L F:List aC}
theorem GU{s:Sp}{c:Cm}(h:¬BT s c.at_ c.n):runM s c=(s,plain 2 5 8448):=by unfold runM;rw[if_neg h]
theorem DF{s:Sp}(hn:n=q)(h:BT s p n):runM s ⟨2,p,n,d,key,new,cz,f⟩=(s,A3 (bH s p q)):=by
 subst hn;unfold runM;rw[if_pos h,if_pos rfl];rfl
theorem Bk{s:Sp}(h:BT s p n)(hl:(d.length:Int)=n*8):runM s ⟨3,p,n,d,key,new,cz,f⟩=(fh s p d,plain 0 0 0):=by
 unfold runM;rw[if_pos h,if_neg (show ¬(3:Int)=2 by decide),if_pos rfl,if_pos hl];rfl
theorem uj{s:Sp}{p:Int}(h:BT s p n)(hl:¬(d.length:Int)=n*8):runM s ⟨3,p,n,d,key,new,cz,f⟩=(s,plain 2 5 9216):=by
 unfold runM;rw[if_pos h,if_neg (show ¬(3:Int)=2 by decide),if_pos rfl,if_neg hl]
theorem wj{s:Sp}(hn:n=q)(h:BT s p n)(hl:(d.length:Int)=2*(n*8)):runM s ⟨6,p,n,d,key,new,cz,f⟩=Jl s p q d:=by
 subst hn;unfold runM;rw[if_pos h,if_neg (show ¬(6:Int)=2 by decide),if_neg (show ¬(6:Int)=3 by decide),if_neg (show ¬(6:Int)=5 by decide),if_pos rfl,if_pos hl];rfl
theorem yC{s:Sp}{p:Int}(h:BT s p n)(hl:¬(d.length:Int)=2*(n*8)):runM s ⟨6,p,n,d,key,new,cz,f⟩=(s,plain 2 5 9216):=by
 unfold runM;rw[if_pos h,if_neg (show ¬(6:Int)=2 by decide),if_neg (show ¬(6:Int)=3 by decide),if_neg (show ¬(6:Int)=5 by decide),if_pos rfl,if_neg hl]
theorem GV{s:Sp}(h:bH s p q=d.take (8*q)):Jl s p q d=(fh s p (d.drop (8*q)),plain 0 0 0):=by unfold Jl;rw[if_pos h]
theorem KU{s:Sp}{i:Nat}(hw:Fz s)(Sz:p+q≤s.N)(hd:d.length=16*q)(hi:i<8*q)(h1:(bH s p q)[i]? ≠d[i]?)(h2:∀j,j<i→(bH s p q)[j]? =d[j]?):Jl s p q d=(s,⟨2,14,7424,[],(i:Int)⟩):=by
 unfold Jl;rw[if_neg (fun e=>h1 (by rw[e,List.getElem?_take,if_pos hi])),Dj _ _ i h1 (by rw[vS hw Sz];exact hi) (by omega) h2]
theorem On.Fz{b:Nat}{s:Sp}(h:On W0 (mR 321 b s::L) w):Fz s:=by
 have ho:=mC h;obtain⟨gd,od,cd,am,cm,hw,_⟩:=ho;exact hw
theorem ES{bu:Nat}{u:Un}{aa:aE}{ms:List Nat}{kind at_:Int}{force:Bool}{data:List UInt8}{ax:Option Addr}{cx:Nat}(xF:kind=2∨kind=3∨kind=6)(h:On W0 (qb 236 321 323 bu aa ms u::L) w)(C:aB L (Bytes (.slice ax data.length cx) data))(hd:data.length≤1000000):Cs 363 [bu,(⟨kind,at_,n,data,key,new,cz,force⟩:Cm).val (.slice ax data.length cx)] w fun v w'=>∃s' r dv,runM u.s (⟨kind,at_,n,data,key,new,cz,force⟩:Cm)=(s',r)∧v=r.val dv∧On W0 (bC dv r.data::qb 236 321 323 bu aa ms (u.mH s')::L) w':=by
 refine qO ?_;have fH:=aG;have aA:=yy h;obtain⟨bs,bt,gs,hm,hl,h⟩:=aA;have vi:=On.Fz (h.aj (mR 321 bs u.s));have hN:=vi.2.2.1;refine qD ?_;refine WL.e (fc (l:=(⟨kind,at_,n,data,key,new,cz,force⟩:Cm).cells (.slice ax data.length cx)) h rfl rfl) ?_;rintro _ w ⟨b3,rfl,h⟩;have h:On W0 (aX b3 [.int .i64 kind,.int .i64 at_,.int .i64 n,.slice ax data.length cx,.int .u64 key,.int .u64 new,.int .i64 cz,.bool force] 32::_) w:=h;refine WL.e (bR h zeroValue38 rfl) ?_;rintro _ w ⟨b4,rfl,h⟩;refine qD ?_;refine W.draw Tryz.follows h (fun w h=> ?_);refine WT.m 0 rfl ?_;refine WT.n 1 rfl rfl ?_;refine WT.f 2 0 rfl underlying236 rfl sizeOf226 rfl rfl ?_;refine WT.l 3 rfl isAgg226 rfl (h.aS rfl) ?_;refine WT.f 4 1 rfl underlying32 rfl sizeOf3 rfl rfl ?_;refine WT.l 5 rfl isAgg3 rfl (h.aS rfl) ?_;refine WT.f 6 2 rfl underlying32 rfl sizeOf3 rfl rfl ?_;refine WT.l 7 rfl isAgg3 rfl (h.aS rfl) ?_;refine WT.e 8 [false,false,false] rfl (ag call383 (X1 (h.aj (mR 321 bs u.s)))) ?_;rintro _ w ⟨hv,h⟩;rcases hv with⟨rfl,eD⟩|⟨rfl,eD⟩
 all_goals (refine⟨trivial, ?_⟩)
 ·
  refine WT.p 9 rfl (fun w'=>(cQ rfl)) ?_;refine WT.dn ?_;refine W.cs ?_;refine W.seq ?_;have X3:=eD;unfold BT at X3;have aA:=Int.eq_ofNat_of_zero_le (show 0≤at_ by omega);obtain⟨p,hp⟩:=aA;subst hp;have aA:=Int.eq_ofNat_of_zero_le (show 0≤n by omega);obtain⟨q,hq⟩:=aA;subst hq;refine W.region ?_;refine WL.c 2 underlying32 rfl sizeOf3 rfl isAgg3 h rfl ?_;refine WL.v (dr (m:=q) (n:=8) rfl rfl (by omega)) ?_;refine WL.z ?_;refine W.seq ?_;refine W.seq ?_;refine W.region ?_;refine WL.c 0 underlying32 rfl sizeOf3 rfl isAgg3 h rfl ?_;refine qI (fun mP=> ?_) (fun mP=> ?_)
  ·
   refine qD ?_;refine W.draw Tryz.follows h (fun w h=> ?_);refine WT.m 0 rfl ?_;refine WT.n 1 rfl rfl ?_;refine WT.f 2 0 rfl underlying236 rfl sizeOf226 rfl rfl ?_;refine WT.l 3 rfl isAgg226 rfl (h.aS rfl) ?_;refine WT.f 4 1 rfl underlying32 rfl sizeOf3 rfl rfl ?_;refine WT.l 5 rfl isAgg3 rfl (h.aS rfl) ?_;refine WT.f 6 2 rfl underlying32 rfl sizeOf3 rfl rfl ?_;refine WT.l 7 rfl isAgg3 rfl (h.aS rfl) ?_;refine WT.e 8 [false,false,false] rfl (ag call384 (MO h.g)) ?_;rintro _ w hv;rcases hv with⟨p',q',WM,hq',Sz,ab3,a38,rfl,h⟩|⟨dX,_,_⟩;rotate_left
   · exact absurd eD dX
   have aA:p=p':=by omega
   obtain rfl:=aA;have aA:q=q':=by omega
   obtain rfl:=aA;refine⟨trivial, ?_⟩;refine WT.m 9 rfl ?_;refine WT.p 10 rfl (fun w'=>(bZ rfl rfl)) ?_;refine WT.p 11 rfl (fun w'=>(bZ rfl rfl)) ?_;refine WT.a 12 rfl ?_;refine WT.a 13 rfl ?_;refine WT.dn ?_;refine qC ?_ (C:=Qd (bs:=bH u.s p q) h (aB.cF (v:=.slice a38 (bH u.s p q).length (bH u.s p q).length)) (by rw[vS vi Sz];omega));rintro _ w ⟨V2,rfl,h⟩;refine WL.e (bA h sizeOf38 rfl rfl rfl rfl rfl) ?_;rintro _ w h;refine qD ?_;refine W.ret (bf.uA (vs:=[.int .i64 _,.int .i64 _,.int .i64 _,.slice _ _ _,.int .i64 _]) h results363 isAgg38 sizeOf38 rfl rfl rfl ?_);have h:=(iw (u:=u.mH u.s) hm hl ((((h.aj (eE (gE aa) gs)).aj (aX bt u.t.cells 323)).aj (mR 321 bs u.s)).aj (aX bu (dg bs bt gs) 236)));have h:On W0 (bC (.slice V2 (bH u.s p q).length (bH u.s p q).length) (A3 (bH u.s p q)).data::_) w:=h.aj (bC (.slice V2 (bH u.s p q).length (bH u.s p q).length) (bH u.s p q));exact⟨u.s,_,.slice V2 (bH u.s p q).length (bH u.s p q).length,(by rw[mP];exact DF rfl eD),rfl,h.to⟩
  refine qI (fun kY=> ?_) (fun kY=> ?_)
  ·
   refine W.seq ?_;refine W.sr ?_;refine WL.c 3 underlying32 rfl sizeOf28 rfl isAgg28 h rfl ?_;refine qI (fun tq=> ?_) (fun tq=> ?_)
   · refine qC ?_ (C:=sM h);rintro _ w ⟨rfl,h⟩;refine WL.e (bA h sizeOf38 rfl rfl rfl rfl rfl) ?_;rintro _ w h;refine qD ?_;refine W.ret (bf.uA (vs:=[.int .i64 _,.int .i64 _,.int .i64 _,.slice _ _ _,.int .i64 _]) h results363 isAgg38 sizeOf38 rfl rfl rfl ?_);have h:On W0 (bC (.slice none 0 0) (plain 2 5 9216:Rp).data::_) w:=(iw (u:=u.mH u.s) hm hl ((((h.aj (eE (gE aa) gs)).aj (aX bt u.t.cells 323)).aj (mR 321 bs u.s)).aj (aX bu (dg bs bt gs) 236))).bB 1 none;exact⟨u.s,plain 2 5 9216,.slice none 0 0,(by rw[kY];exact uj eD (by omega)),rfl,h.to⟩
   refine qD ?_;refine W.draw Tryz.follows h (fun w h=> ?_);refine WT.m 0 rfl ?_;refine WT.n 1 rfl rfl ?_;refine WT.f 2 0 rfl underlying236 rfl sizeOf226 rfl rfl ?_;refine WT.l 3 rfl isAgg226 rfl (h.aS rfl) ?_;refine WT.f 4 1 rfl underlying32 rfl sizeOf3 rfl rfl ?_;refine WT.l 5 rfl isAgg3 rfl (h.aS rfl) ?_;refine WT.f 6 3 rfl underlying32 rfl sizeOf28 rfl rfl ?_;refine WT.l 7 rfl isAgg28 rfl (h.aS rfl) ?_;refine WT.e 8 [false,false,false] rfl (ag call385 (AZ h.g (aB.to C))) ?_;rintro _ w hv;rcases hv with⟨p',WM,hm8,hpw,ab3,rfl,h⟩|⟨dX,_,_⟩;rotate_left
   · exact absurd (show _∧_ from⟨by omega,by unfold BT;omega⟩) dX
   have aA:p=p':=by omega
   obtain rfl:=aA;refine⟨trivial, ?_⟩;refine WT.dn ?_;refine qD ?_;refine WL.e (bA h sizeOf38 rfl rfl rfl rfl rfl) ?_;rintro _ w h;refine qD ?_;refine W.ret (bf.uA (vs:=[.int .i64 _,.int .i64 _,.int .i64 _,.slice _ _ _,.int .i64 _]) h results363 isAgg38 sizeOf38 rfl rfl rfl ?_);have h:On W0 (bC (.slice none 0 0) (plain 0 0 0:Rp).data::_) w:=(iw (u:=u.mH (fh u.s p data)) hm hl ((((h.aj (eE (gE aa) gs)).aj (aX bt u.t.cells 323)).aj (mR 321 bs (fh u.s p data))).aj (aX bu (dg bs bt gs) 236))).bB 1 none;exact⟨(fh u.s p data),plain 0 0 0,.slice none 0 0,(by rw[kY];exact Bk eD (by omega)),rfl,h.to⟩
  refine qI (fun wX=> ?_) (fun wX=> ?_)
  · omega
  refine qI (fun Ud=> ?_) (fun Ud=> ?_)
  ·
   refine W.seq ?_;refine W.sr ?_;refine WL.c 3 underlying32 rfl sizeOf28 rfl isAgg28 h rfl ?_;refine qD ?_;refine WL.v (dr (m:=2) (n:=q*8) rfl rfl (by omega)) ?_;refine qI (fun Ie=> ?_) (fun Ie=> ?_)
   · refine qC ?_ (C:=sM h);rintro _ w ⟨rfl,h⟩;refine WL.e (bA h sizeOf38 rfl rfl rfl rfl rfl) ?_;rintro _ w h;refine qD ?_;refine W.ret (bf.uA (vs:=[.int .i64 _,.int .i64 _,.int .i64 _,.slice _ _ _,.int .i64 _]) h results363 isAgg38 sizeOf38 rfl rfl rfl ?_);have h:On W0 (bC (.slice none 0 0) (plain 2 5 9216:Rp).data::_) w:=(iw (u:=u.mH u.s) hm hl ((((h.aj (eE (gE aa) gs)).aj (aX bt u.t.cells 323)).aj (mR 321 bs u.s)).aj (aX bu (dg bs bt gs) 236))).bB 1 none;exact⟨u.s,plain 2 5 9216,.slice none 0 0,(by rw[Ud];exact yC eD (by omega)),rfl,h.to⟩
   refine qD ?_;refine W.draw Tryz.follows h (fun w h=> ?_);refine WT.m 0 rfl ?_;refine WT.n 1 rfl rfl ?_;refine WT.f 2 0 rfl underlying236 rfl sizeOf226 rfl rfl ?_;refine WT.l 3 rfl isAgg226 rfl (h.aS rfl) ?_;refine WT.f 4 1 rfl underlying32 rfl sizeOf3 rfl rfl ?_;refine WT.l 5 rfl isAgg3 rfl (h.aS rfl) ?_;refine WT.f 6 3 rfl underlying32 rfl sizeOf28 rfl rfl ?_;refine WT.l 7 rfl isAgg28 rfl (h.aS rfl) ?_;refine WT.e 8 [false,false,false] rfl (ag call387 (Jj h.g (aB.to C))) ?_;rintro _ w hv;rcases hv with⟨p',q',WM,ab4,Sz,ab3,iG⟩|⟨dX,_,_⟩;rotate_left
   · exact absurd (show _∧_ from⟨by omega,by unfold BT;omega⟩) dX
   have aA:p=p':=by omega
   obtain rfl:=aA;have aA:q=q':=by omega
   obtain rfl:=aA;rcases iG with⟨vT,rfl,h⟩|⟨k,hk,Cc,zA,rfl,h⟩
   all_goals (refine⟨trivial, ?_⟩)
   ·
    refine WT.m 9 rfl ?_;refine WT.p 10 rfl (fun w'=>(bZ rfl rfl)) ?_;refine WT.p 11 rfl (fun w'=>(bZ rfl rfl)) ?_;refine WT.a 12 rfl ?_;refine WT.a 13 rfl ?_;refine WT.dn ?_;refine qN ?_;refine WL.v (eA rfl rfl) ?_;refine WL.nil ?_;refine W.lN rfl (fun Uw=> ?_) (fun Uw=> ?_)
    · exact absurd Uw (by decide)
    refine qD ?_;refine WL.e (bA h sizeOf38 rfl rfl rfl rfl rfl) ?_;rintro _ w h;refine qD ?_;refine W.ret (bf.uA (vs:=[.int .i64 _,.int .i64 _,.int .i64 _,.slice _ _ _,.int .i64 _]) h results363 isAgg38 sizeOf38 rfl rfl rfl ?_);have h:On W0 (bC (.slice none 0 0) (plain 0 0 0:Rp).data::_) w:=(iw (u:=u.mH (fh u.s p (data.drop (8*q)))) hm hl ((((h.aj (eE (gE aa) gs)).aj (aX bt u.t.cells 323)).aj (mR 321 bs (fh u.s p (data.drop (8*q))))).aj (aX bu (dg bs bt gs) 236))).bB 1 none;exact⟨(fh u.s p (data.drop (8*q))),plain 0 0 0,.slice none 0 0,(by rw[Ud,wj rfl eD (by omega)];exact GV vT),rfl,h.to⟩
   refine WT.m 9 rfl ?_;refine WT.p 10 rfl (fun w'=>(bZ rfl rfl)) ?_;refine WT.p 11 rfl (fun w'=>(bZ rfl rfl)) ?_;refine WT.a 12 rfl ?_;refine WT.a 13 rfl ?_;refine WT.dn ?_;refine qN ?_;refine WL.v (eA rfl rfl) ?_;refine WL.nil ?_;refine W.lN rfl (fun Uw=> ?_) (fun Uw=> ?_)
   ·
    refine qC ?_ (C:=sM h);rintro _ w ⟨rfl,h⟩;refine WL.e (bR h zeroValue38 rfl) ?_;rintro _ w ⟨Ib,rfl,h⟩;refine WL.e (bA h sizeOf38 rfl rfl rfl rfl rfl) ?_;rintro _ w h;refine WL.nil ?_;refine W.sr ?_;refine WL.m ?_;refine WL.f 4 underlying38 rfl sizeOf3 rfl rfl ?_;refine WL.e (bI (v:=.int .i64 _) h sizeOf3 rfl rfl rfl rfl rfl) ?_;rintro _ w h
    try simp only[Nat.zero_add,Nat.add_zero,List.set_cons_zero,List.set_cons_succ] at h
    refine qS fun w h _=> ?_;refine qD ?_;refine W.ret (bf.uA (vs:=[.int .i64 _,.int .i64 _,.int .i64 _,.slice _ _ _,.int .i64 _]) h results363 isAgg38 sizeOf38 rfl rfl rfl ?_);have h:On W0 (bC (.slice none 0 0) (⟨2,14,7424,[],(k:Int)⟩:Rp).data::_) w:=(iw (u:=u.mH u.s) hm hl ((((h.aj (eE (gE aa) gs)).aj (aX bt u.t.cells 323)).aj (mR 321 bs u.s)).aj (aX bu (dg bs bt gs) 236))).bB 1 none;exact⟨u.s,⟨2,14,7424,[],(k:Int)⟩,.slice none 0 0,(by rw[Ud,wj rfl eD (by omega)];exact KU vi Sz ab4 hk Cc zA),rfl,h.to⟩
   exact absurd (Int.natCast_nonneg k) Uw
  omega
 refine WT.p 9 rfl (fun w'=>(cQ rfl)) ?_;refine WT.dn ?_;refine qC ?_ (C:=sM h);rintro _ w ⟨rfl,h⟩;refine WL.e (bA h sizeOf38 rfl rfl rfl rfl rfl) ?_;rintro _ w h;refine qD ?_;refine W.ret (bf.uA (vs:=[.int .i64 _,.int .i64 _,.int .i64 _,.slice _ _ _,.int .i64 _]) h results363 isAgg38 sizeOf38 rfl rfl rfl ?_);have h:On W0 (bC (.slice none 0 0) (plain 2 5 8448:Rp).data::_) w:=(iw (u:=u.mH u.s) hm hl ((((h.aj (eE (gE aa) gs)).aj (aX bt u.t.cells 323)).aj (mR 321 bs u.s)).aj (aX bu (dg bs bt gs) 236))).bB 1 none;exact⟨u.s,plain 2 5 8448,.slice none 0 0,GU eD,rfl,h.to⟩
end Go.Proofs.YtcplmndikhjehaaGreat
namespace Go.Proofs.YtcplmndikhjehaaGreat
open Go.Proofs.Tryz
open Go Go.Sl Go.Sl.BitM Go.Sl.zh Go.Sl.uf Go.Sl.eM Go.Sl.gW
set_option maxHeartbeats 0
set_option maxRecDepth 8000
variable{W0 w:World}{L F:List aC}
theorem GW{x:Int}(h:On W0 L w):Cs 317 [.int .i64 x] w fun v w'=>v=.bool (rF x)∧On W0 L w':=by
 refine qO ?_;refine go ?_;refine WL.q (eA rfl rfl) (fun c4=> ?_) (fun c4=> ?_)
 ·
  refine go ?_;refine WL.q (cH rfl rfl) (fun c7=> ?_) (fun c7=> ?_)
  · refine qR ?_;exact⟨by rw[nJ.2 ⟨by omega,by omega⟩],h⟩
  refine qR ?_;exact⟨by rw[vU.2 (by omega)],h⟩
 refine qR ?_;exact⟨by rw[vU.2 (by omega)],h⟩
theorem mK{u:Un}{i:Nat}{c:Cm}(h2:2≤c.kind)(h6:c.kind≤6):xz u i c=(u.mH (runM u.s c).1,(runM u.s c).2):=by
 unfold xz;rw[if_neg (by omega),if_neg (by omega),if_neg (by omega),if_pos h6]
theorem On.ab5{bu:Nat}{u:Un}{aa:aE}{ms:List Nat}(h:On W0 (qb 236 321 323 bu aa ms u::L) w):u.g.length=8∧Go.Sl.zh.Fz u.s:=by
 have ho:=yy h;obtain⟨bs,bt,gs,hm,hl,h⟩:=ho;exact⟨hl,On.Fz (h.aj (mR 321 bs u.s))⟩
theorem X4{bu i:Nat}{u:Un}{aa:aE}{ms:List Nat}{kind at_ n key new cz:Int}{force:Bool}{data:List UInt8}{ax:Option Addr}{cx:Nat}(hi:i<8)(xF:kind=2∨kind=3∨kind=6)(h:On W0 (qb 236 321 323 bu aa ms u::L) w)(C:aB L (Bytes (.slice ax data.length cx) data))(hd:data.length≤1000000):Cs 349 [bu,.int .i64 (i:Int),(⟨kind,at_,n,data,key,new,cz,force⟩:Cm).val (.slice ax data.length cx)] w fun v w'=>∃u' r dv,xz u i (⟨kind,at_,n,data,key,new,cz,force⟩:Cm)=(u',r)∧v=r.val dv∧On W0 (bC dv r.data::qb 236 321 323 bu aa ms u'::L) w':=by
 refine qO ?_;have Xg:=On.ab5 h;obtain⟨hl8,vi⟩:=Xg;refine go ?_;refine WL.e (fc (l:=(⟨kind,at_,n,data,key,new,cz,force⟩:Cm).cells (.slice ax data.length cx)) h rfl rfl) ?_;rintro _ w ⟨b5,rfl,h⟩;have h:On W0 (aX b5 [.int .i64 kind,.int .i64 at_,.int .i64 n,.slice ax data.length cx,.int .u64 key,.int .u64 new,.int .i64 cz,.bool force] 32::_) w:=h;refine gb fun b6 w h=> ?_;refine qI (fun oM=> ?_) (fun oM=> ?_)
 · omega
 refine qI (fun zF=> ?_) (fun zF=> ?_)
 · omega
 refine qI (fun Ic=> ?_) (fun Ic=> ?_)
 · omega
 refine qI (fun Ie=> ?_) (fun Ie=> ?_)
 ·
  refine qI (fun FA=> ?_) (fun FA=> ?_)
  ·
   refine qC ?_ (C:=ES (u:=u) xF (h.aj (qb 236 321 323 bu aa ms u)) (aB.to C) hd);rintro _ w ⟨s',r',PT,heq,rfl,h⟩;have ET:=Own.form h;obtain⟨ad,cd,oC,_⟩:=ET;subst oC;refine gs fun w h _=> ?_;refine go ?_;refine W.ret (bf.uA (vs:=[.int .i64 _,.int .i64 _,.int .i64 _,.slice _ _ _,.int .i64 _]) h results349 isAgg38 sizeOf38 rfl rfl rfl ?_);have he:xz u i (⟨kind,at_,n,data,key,new,cz,force⟩:Cm)=(u.mH s',r'):=by rw[mK (by show 2≤kind;omega) (by show kind≤6;omega),heq]
   exact⟨u.mH s',r',_,he,rfl,h.to⟩
  exact absurd FA (not_not_intro (by omega))
 refine qI (fun VI=> ?_) (fun VI=> ?_)
 ·
  refine qI (fun FA=> ?_) (fun FA=> ?_)
  ·
   refine qC ?_ (C:=ES (u:=u) xF (h.aj (qb 236 321 323 bu aa ms u)) (aB.to C) hd);rintro _ w ⟨s',r',PT,heq,rfl,h⟩;have ET:=Own.form h;obtain⟨ad,cd,oC,_⟩:=ET;subst oC;refine gs fun w h _=> ?_;refine go ?_;refine W.ret (bf.uA (vs:=[.int .i64 _,.int .i64 _,.int .i64 _,.slice _ _ _,.int .i64 _]) h results349 isAgg38 sizeOf38 rfl rfl rfl ?_);have he:xz u i (⟨kind,at_,n,data,key,new,cz,force⟩:Cm)=(u.mH s',r'):=by rw[mK (by show 2≤kind;omega) (by show kind≤6;omega),heq]
   exact⟨u.mH s',r',_,he,rfl,h.to⟩
  exact absurd FA (not_not_intro (by omega))
 refine qI (fun Uw=> ?_) (fun Uw=> ?_)
 · omega
 refine qI (fun NU=> ?_) (fun NU=> ?_)
 · omega
 refine qI (fun FA=> ?_) (fun FA=> ?_)
 ·
  refine qC ?_ (C:=ES (u:=u) xF (h.aj (qb 236 321 323 bu aa ms u)) (aB.to C) hd);rintro _ w ⟨s',r',PT,heq,rfl,h⟩;have ET:=Own.form h;obtain⟨ad,cd,oC,_⟩:=ET;subst oC;refine gs fun w h _=> ?_;refine go ?_;refine W.ret (bf.uA (vs:=[.int .i64 _,.int .i64 _,.int .i64 _,.slice _ _ _,.int .i64 _]) h results349 isAgg38 sizeOf38 rfl rfl rfl ?_);have he:xz u i (⟨kind,at_,n,data,key,new,cz,force⟩:Cm)=(u.mH s',r'):=by rw[mK (by show 2≤kind;omega) (by show kind≤6;omega),heq]
  exact⟨u.mH s',r',_,he,rfl,h.to⟩
 omega
theorem ab6{bu:Nat}{hh:Int}{u:Un}{aa:aE}{ms:List Nat}{kind at_ n key new cz:Int}{force:Bool}{data:List UInt8}{ax:Option Addr}{cx:Nat}(xF:kind=2∨kind=3∨kind=6)(Ce:small 0 u)(N0:u.t.hold= -1)(h:On W0 (qb 236 321 323 bu aa ms u::L) w)(C:aB L (Bytes (.slice ax data.length cx) data))(hd:data.length≤1000000):Cs 319 [bu,.int .i64 hh,(⟨kind,at_,n,data,key,new,cz,force⟩:Cm).val (.slice ax data.length cx)] w fun v w'=>∃u' r dv,A6 u hh (⟨kind,at_,n,data,key,new,cz,force⟩:Cm)=(u',r)∧v=r.val dv∧On W0 (bC dv r.data::qb 236 321 323 bu aa ms u'::L) w':=by
 refine qO ?_;refine go ?_;refine WL.e (fc (l:=(⟨kind,at_,n,data,key,new,cz,force⟩:Cm).cells (.slice ax data.length cx)) h rfl rfl) ?_;rintro _ w ⟨b5,rfl,h⟩;have h:On W0 (aX b5 [.int .i64 kind,.int .i64 at_,.int .i64 n,.slice ax data.length cx,.int .u64 key,.int .u64 new,.int .i64 cz,.bool force] 32::_) w:=h;refine gb fun b6 w h=> ?_;refine qC ?_ (C:=GW h);rintro _ w ⟨hv,h⟩;have iG:=Bool.eq_false_or_eq_true (rF hh);rcases iG with hb|hb<;>(rw[hb] at hv;subst hv)
 ·
  refine qN ?_;refine WL.q (cH rfl rfl) (fun tq=> ?_) (fun tq=> ?_)
  · omega
  refine qI (fun c2=> ?_) (fun c2=> ?_)
  · omega
  refine W.skip ?_;refine W.seq ?_;refine W.seq ?_;have Ga:=nJ.1 hb;have aA:=Int.eq_ofNat_of_zero_le Ga.1;obtain⟨i,Z5⟩:=aA;subst Z5;have hi:i<8:=by omega
  refine qI (fun c9=> ?_) (fun c9=> ?_)
  · omega
  refine qI (fun pW=> ?_) (fun pW=> ?_)
  · omega
  refine qC ?_ (C:=Uv hi (List.eq_nil_of_length_eq_zero (Nat.le_zero.1 (Ce i hi))) (h.aj (qb 236 321 323 bu aa ms u)));rintro _ w ⟨rfl,h⟩;have mw:=List.eq_nil_of_length_eq_zero (Nat.le_zero.1 (Ce i hi));refine gb fun b9 w h=> ?_;refine Sl.gs fun w h _=> ?_;refine go ?_;refine W.cs ?_;refine qD ?_;have aA:=yy (h.aj (qb 236 321 323 bu aa ms u));obtain⟨bs,bt,gs,hm,hl,h⟩:=aA;refine qG fun w h=> ?_;refine X.e (ag call348 (M9 N0 (h.aj (aX bt u.t.cells 323)))) ?_;rintro _ w ⟨⟨r,rfl,hr⟩,h⟩;have B9:A1 u.t i kind:=.inl (.inl N0);have aA:r=true:=hr.2 B9;obtain rfl:=aA;refine X.v (fun _=>(cQ rfl)) ?_;refine gw ?_;have h:=iw hm hl ((h.g.aj (mR 321 bs u.s)).aj (aX bu (dg bs bt gs) 236));refine qC ?_ (C:=X4 (u:=u) (i:=i) hi xF (h.aj (qb 236 321 323 bu aa ms u)) (aB.to C) hd);rintro _ w ⟨u',r',PT,heq,rfl,h⟩;have ET:=Own.form h;obtain⟨ad,cd,oC,_⟩:=ET;subst oC;refine Sl.gs fun w h _=> ?_;refine go ?_;refine W.ret (bf.uA (vs:=[.int .i64 _,.int .i64 _,.int .i64 _,.slice _ _ _,.int .i64 _]) h results319 isAgg38 sizeOf38 rfl rfl rfl ?_);have he:A6 u i (⟨kind,at_,n,data,key,new,cz,force⟩:Cm)=(u',r'):=by rw[xA hi (by show 1≤kind;omega) (by show kind≤18;omega) c9 (.inr mw) B9,heq]
  exact⟨u',r',_,he,rfl,h.to⟩
 refine qC ?_ (C:=sM h);rintro _ w ⟨rfl,h⟩;refine Sl.gs fun w h _=> ?_;refine go ?_;refine W.ret (bf.uA (vs:=[.int .i64 _,.int .i64 _,.int .i64 _,.slice _ _ _,.int .i64 _]) h results319 isAgg38 sizeOf38 rfl rfl rfl ?_);have h:On W0 (bC (.slice none 0 0) (plain 2 5 8192:Rp).data::_) w:=h.bB 1 none;exact⟨u,plain 2 5 8192,.slice none 0 0,(vW (.inl hb)),rfl,h.to⟩
theorem Nb{s1 k1 c1 i1:Int}{d1:List UInt8}{a1:Option Addr}{x1:Nat}{s2 k2 c2 i2:Int}{d2:List UInt8}{a2:Option Addr}{x2:Nat}(h:On W0 L w)(C1:aB L (Bytes (.slice a1 d1.length x1) d1))(C2:aB L (Bytes (.slice a2 d2.length x2) d2)):Cs 60 [(⟨s1,k1,c1,d1,i1⟩:Rp).val (.slice a1 d1.length x1),(⟨s2,k2,c2,d2,i2⟩:Rp).val (.slice a2 d2.length x2)] w fun v w'=>v=.bool (decide ((⟨s1,k1,c1,d1,i1⟩:Rp)=(⟨s2,k2,c2,d2,i2⟩:Rp)))∧On W0 L w':=by
 refine qO ?_;refine go ?_;refine WL.e (fc (l:=(⟨s1,k1,c1,d1,i1⟩:Rp).cells (.slice a1 d1.length x1)) h rfl rfl) ?_;rintro _ w ⟨b2,rfl,h⟩;have h:On W0 (aX b2 [.int .i64 s1,.int .i64 k1,.int .i64 c1,.slice a1 d1.length x1,.int .i64 i1] 38::_) w:=h;refine WL.e (fc (l:=(⟨s2,k2,c2,d2,i2⟩:Rp).cells (.slice a2 d2.length x2)) h rfl rfl) ?_;rintro _ w ⟨b3,rfl,h⟩;have h:On W0 (aX b3 [.int .i64 s2,.int .i64 k2,.int .i64 c2,.slice a2 d2.length x2,.int .i64 i2] 38::_) w:=h;refine go ?_;refine WL.q (cL rfl rfl) (fun c9=> ?_) (fun c9=> ?_)
 ·
  refine go ?_;refine WL.q (cL rfl rfl) (fun kY=> ?_) (fun kY=> ?_)
  ·
   refine qN ?_;refine WL.q (cL rfl rfl) (fun CZ=> ?_) (fun CZ=> ?_)
   ·
    refine qN ?_;refine WL.q (cL rfl rfl) (fun w9=> ?_) (fun w9=> ?_)
    · refine qD ?_;refine WL.v (jx underlying28 underlying5 underlying9 rfl (h.aO C1)) ?_;refine go ?_;refine WL.v (jx underlying28 underlying5 underlying9 rfl (h.aO C2)) ?_;refine WL.v (uy rfl rfl) ?_;refine qR ?_;refine⟨congrArg Value.bool (decide_eq_decide.2 ?_),h.to⟩;simp only[Go.ByteArray.toList_eq];exact⟨fun e=>by rw[c9,kY,CZ,w9,e],fun e=>by cases e;rfl⟩
    refine qR ?_;exact⟨congrArg Value.bool (decide_eq_false (by intro e;cases e;exact w9 rfl)).symm,h.to⟩
   refine qR ?_;exact⟨congrArg Value.bool (decide_eq_false (by intro e;cases e;exact CZ rfl)).symm,h.to⟩
  refine qR ?_;exact⟨congrArg Value.bool (decide_eq_false (by intro e;cases e;exact kY rfl)).symm,h.to⟩
 refine qR ?_;exact⟨congrArg Value.bool (decide_eq_false (by intro e;cases e;exact c9 rfl)).symm,h.to⟩
theorem DG{s1 k1 c1 i1:Int}{d1:List UInt8}{a1:Option Addr}{x1:Nat}(h:On W0 L w)(C1:aB L (Bytes (.slice a1 d1.length x1) d1))(hd:d1.length≤1000000):Cs 318 [(⟨s1,k1,c1,d1,i1⟩:Rp).val (.slice a1 d1.length x1)] w fun v w'=>∃a,v=(⟨s1,k1,c1,d1,i1⟩:Rp).val (.slice a d1.length d1.length)∧On W0 (bC (.slice a d1.length d1.length) d1::L) w':=by
 refine qO ?_;refine go ?_;refine WL.e (fc (l:=(⟨s1,k1,c1,d1,i1⟩:Rp).cells (.slice a1 d1.length x1)) h rfl rfl) ?_;rintro _ w ⟨b1,rfl,h⟩;have h:On W0 (aX b1 [.int .i64 s1,.int .i64 k1,.int .i64 c1,.slice a1 d1.length x1,.int .i64 i1] 38::_) w:=h;refine gb fun b2 w h=> ?_;refine qC ?_ (C:=bG (bs:=d1) h (aB.to C1) (by omega));rintro _ w ⟨a5,c5,rfl,h⟩;refine qC ?_ (C:=cU h);rintro _ w ⟨rfl,h⟩;refine gs fun w h _=> ?_;refine gs fun w h _=> ?_;refine go ?_;refine W.ret (bf.uA (vs:=[.int .i64 _,.int .i64 _,.int .i64 _,.slice _ _ _,.int .i64 _]) h results318 isAgg38 sizeOf38 rfl rfl rfl ?_);exact⟨a5,rfl,h.to⟩
theorem Qn{n:Int}{aa:aE}(h:On W0 L w):Cs 80 [.int .i64 n] w fun v w'=>(∃N:Nat,n=N∧1≤N∧N≤1024∧∃(bu bs bt:Nat) (Cf:List Nat),Cf.length=8∧v=.tuple #[.pointer (some ⟨bu,0,none⟩),.int .i64 0]∧On W0 (aX bu (dg bs bt (Cf.map zG)) 236::mR 321 bs (sH N)::aX bt Gv.cells 323::eE (gE aa) (Cf.map zG)::L) w')∨(¬(1≤n∧n≤1024)∧v=.tuple #[.pointer none,.int .i64 1]∧On W0 L w'):=by
 refine qO ?_;refine qC ?_ (C:=T2 (n:=n) h);rintro _ w hv;rcases hv with⟨N,rfl,h1,h2b,bs,rfl,h⟩|⟨dX,rfl,h⟩
 ·
  refine qE ?_;refine WL.e (ag call121 (Ui h)) ?_;rintro _ w ⟨bt,rfl,h⟩;refine WL.v (aP (pl:=[(0,1),(1,1),(2,24)]) (out:=[.pointer _,.pointer _,.slice _ _ _,.int .u64 _,.map _,.slice _ _ _,.int .u64 _,.map _,.slice _ _ _,.int .u64 _,.map _,.slice _ _ _,.int .u64 _,.map _,.slice _ _ _,.int .u64 _,.map _,.slice _ _ _,.int .u64 _,.map _,.slice _ _ _,.int .u64 _,.map _,.slice _ _ _,.int .u64 _,.map _]) underlying236 zeroValue236 (fun w=>by kernel_rfl) rfl fz rfl) ?_;refine gb fun P8 w h=> ?_;refine go ?_;refine W.loop (fun(k:Nat) env w=>k≤8∧∃(j:Env) (Cf:List Nat),Cf.length=k∧env=eu j [(6,P8),(20,.int .i64 (k:Int))]∧On W0 (aX P8 (jX bs bt (Cf.map zG) (8 - k)) 236::mR 321 bs (sH N)::aX bt Gv.cells 323::eE (gE aa) (Cf.map zG)::L) w) (fun k=>8 - k) (0) ?_ ?_
  · have h:On W0 (eE (gE aa) (([]:List Nat).map zG)::aX P8 (jX bs bt (([]:List Nat).map zG) (8 - 0)) 236::_) w:=eE.nil h
    exact⟨Nat.zero_le _,_,[],rfl,aD ⟨rfl,rfl,trivial⟩,h.to⟩
  rintro k env w ⟨hk8,j,Cf,yd,rfl,h⟩;have hgl:(Cf.map zG).length=k:=by rw[List.length_map,yd]
  refine qI (fun nB=> ?_) (fun nB=> ?_)
  ·
   refine W.skip ?_;refine W.seq ?_;refine W.block ?_;refine W.seq ?_;have h8k:8 - k=8 - (k+1)+1:=by omega
   rw[h8k] at h;refine go ?_;refine WL.e (mu (kd:=.u64) h) ?_;rintro _ w ⟨Z4,rfl,h⟩;refine go ?_;refine WL.v (bg underlying234 sizeOf233 rfl rfl (by omega) (by omega)) ?_;refine go ?_;refine WL.e (bI (v:=.map (some Z4)) h sizeOf231 rfl rfl rfl (nlt hgl) (vt _)) ?_;rintro _ w h;rw[agv hgl] at h;have h:=XC (aa:=aa) h.g;have h:=eE.push ((h.aj (eE (gE aa) (Cf.map zG))).aj (gE aa (zG Z4)));rw[show Cf.map zG++[zG Z4]=(Cf++[Z4]).map zG by rw[List.map_append];rfl] at h;refine qD ?_;exact⟨k+1,⟨by omega,_,Cf++[Z4],by rw[List.length_append,yd];rfl,aD ⟨rfl,rfl,trivial⟩,h.to⟩,by show 8 - (k+1)<8 - k;omega⟩
  refine qR ?_;have aA:k=8:=by omega
  obtain rfl:=aA
  have h2:On W0 (aX P8 (dg bs bt (Cf.map zG)) 236::mR 321 bs (sH N)::aX bt Gv.cells 323::eE (gE aa) (Cf.map zG)::L) w:=by
    have e:jX bs bt (Cf.map zG) (8 - 8)=dg bs bt (Cf.map zG):=by show _::_::((Cf.map zG).flatMap GX.row++[])=_;rw[List.append_nil]
    rw[e] at h;exact h
  exact .inl ⟨N,rfl,h1,h2b,P8,bs,bt,Cf,yd,rfl,h2⟩
 refine qE ?_;refine qR ?_;exact .inr ⟨dX,rfl,h⟩
theorem KW{n:Int}{aa:aE}(h:On W0 L w):Cs 80 [.int .i64 n] w fun v w'=>(∃N:Nat,n=N∧1≤N∧N≤1024∧∃bu ms,v=.tuple #[.pointer (some ⟨bu,0,none⟩),.int .i64 0]∧On W0 (qb 236 321 323 bu aa ms (pE N)::L) w')∨(¬(1≤n∧n≤1024)∧v=.tuple #[.pointer none,.int .i64 1]∧On W0 L w'):=by
 exact(Qn h).mono fun e w' he=>by
   obtain⟨v,he,hv⟩:=he;refine⟨v,he, ?_⟩;rcases hv with⟨N,hN,h1,h2,bu,bs,bt,Cf,yd,hv,h⟩|hv
   · refine .inl ⟨N,hN,h1,h2,bu,_,hv,iw ⟨?_,rfl⟩ rfl h⟩
     rw[List.map_map];show Cf.map (fun _=>(⟨[],0,[]⟩:Gs))=List.replicate 8 ⟨[],0,[]⟩;rw[List.map_const',yd]
   exact .inr hv
theorem ab8{u:Un}{i:Nat}{c:Cm}(hi:i<8)(hk:c.kind=2∨c.kind=3∨c.kind=6)(hq:small 0 u)(hz:u.t.hold= -1):(A6 u i c).1.g=u.g:=by
 rw[xA hi (by omega) (by omega) (by omega) (.inr (List.eq_nil_of_length_eq_zero (Nat.le_zero.1 (hq i hi)))) (.inl (.inl hz)),mK (by omega) (by omega)];rfl
theorem sP{bu i:Nat}{id floor:Int}{u:Un}{aa:aE}{ms:List Nat}{kind at_ n key new cz:Int}{force:Bool}{data:List UInt8}{ax:Option Addr}{cx:Nat}(hi:i<8)(xF:kind=2∨kind=3∨kind=6)(Ce:small 0 u)(N0:u.t.hold= -1)(oA:∀x∈(u.cA i).done,x.2.data.length≤1000000)(h:On W0 (qb 236 321 323 bu aa ms u::aY aa::L) w)(C:aB L (Bytes (.slice ax data.length cx) data))(hd:data.length≤1000000):Cs 277 [bu,.int .i64 (i:Int),.int .u64 id,.int .u64 floor,(⟨kind,at_,n,data,key,new,cz,force⟩:Cm).val (.slice ax data.length cx)] w fun v w'=>∃u' r fresh dv ms' aN,qc u i id floor (⟨kind,at_,n,data,key,new,cz,force⟩:Cm)=(u',r,fresh)∧v=.tuple #[r.val dv,.bool fresh]∧(∀p∈aa,p∈aN)∧On W0 (bC dv r.data::qb 236 321 323 bu aN ms' u'::aY aN::L) w':=by
 refine qO ?_;have fH:=aG;have aA:=yy h;obtain⟨bs,bt,gs,hm,hl,h⟩:=aA;have aA:=ED hm hl hi;obtain⟨g,hg,GS⟩:=aA;have h:=eE.open hg (h.aj (eE (gE aa) gs));have aA:=KL h;obtain⟨cD,h⟩:=aA;have X2:=Own.bounds h;obtain⟨wV,Ga⟩:=X2;have NZ:i<gs.length:=by have:=(List.getElem?_eq_some_iff.1 hg).1;omega
 refine go ?_;refine WL.e (fc (l:=(⟨kind,at_,n,data,key,new,cz,force⟩:Cm).cells (.slice ax data.length cx)) h rfl rfl) ?_;rintro _ w ⟨b9,rfl,h⟩;have h:On W0 (aX b9 [.int .i64 kind,.int .i64 at_,.int .i64 n,.slice ax data.length cx,.int .u64 key,.int .u64 new,.int .i64 cz,.bool force] 32::_) w:=h;refine gb fun Ib w h=> ?_;refine qB fun Gq w h=> ?_;refine Sl.gs fun w h _=> ?_;refine qC ?_ (C:=GW h);rintro _ w ⟨hv,h⟩;rw[Gz hi] at hv;subst hv;refine qN ?_;refine WL.q (cL rfl rfl) (fun Fy=> ?_) (fun Fy=> ?_)
 · refine WL.pf ?_;refine go ?_;refine WL.pt ?_;refine go ?_;refine W.ct (Sl.gs fun w h _=> ?_);refine qR ?_;have h:=eE.close NZ (pF cD (((h.aj (eE (gE aa) (gs.eraseIdx i))).aj (bV g.mb .u64 g.kvs g.ck)).aj (mV g)));rw[iH hg] at h;have h:=iw hm hl (((h.g.aj (aX bt u.t.cells 323)).aj (mR 321 bs u.s)).aj (aX bu (dg bs bt gs) 236));have h:On W0 (bC (.slice none 0 0) (plain 8 0 0:Rp).data::_) w:=h.bB 1 none;exact⟨u,plain 8 0 0,false,.slice none 0 0,ms,aa,(Dr (.inl Fy)),rfl,(fun _ hp=>hp),h.to⟩
 refine qD ?_;refine WL.v (bg underlying234 sizeOf233 rfl rfl (by omega) (by omega)) ?_;refine go ?_;refine WL.l isAgg30 rfl (h.aS (KM (bs:=bs) (bt:=bt) hg (k:=1) (by decide) rfl)) ?_;refine qI (fun c3=> ?_) (fun c3=> ?_)
 · refine Sl.gs fun w h _=> ?_;refine qR ?_;have h:=eE.close NZ (pF cD (((h.aj (eE (gE aa) (gs.eraseIdx i))).aj (bV g.mb .u64 g.kvs g.ck)).aj (mV g)));rw[iH hg] at h;have h:=iw hm hl (((h.g.aj (aX bt u.t.cells 323)).aj (mR 321 bs u.s)).aj (aX bu (dg bs bt gs) 236));have h:On W0 (bC (.slice none 0 0) (plain 8 0 0:Rp).data::_) w:=h.bB 1 none;exact⟨u,plain 8 0 0,false,.slice none 0 0,ms,aa,(Dr (.inr (by rw[←GS];exact c3))),rfl,(fun _ hp=>hp),h.to⟩
 refine go ?_;refine WL.v (bg underlying234 sizeOf233 rfl rfl (by omega) (by omega)) ?_;refine go ?_;refine WL.v (vB rfl rfl) ?_;refine go ?_;refine WL.l isAgg30 rfl (h.aS (KM (bs:=bs) (bt:=bt) hg (k:=1) (by decide) rfl)) ?_;refine WL.v (Aj rfl rfl) ?_;refine go ?_;refine WL.e (mu (kd:=.u64) h) ?_;rintro _ w ⟨tG,rfl,h⟩;refine go ?_;refine WL.l isAgg231 rfl (h.aS (KM (bs:=bs) (bt:=bt) hg (k:=2) (by decide) rfl)) ?_;refine WL.e (w5 (h.aj (bV g.mb .u64 g.kvs g.ck)) underlying231 rfl) ?_;rintro _ w ⟨rr,rfl,h⟩;have fe:=(On.jH (h.aj (bV g.mb .u64 g.kvs g.ck))).1;refine go ?_;refine W.loop (fun(seen:Array Nat) env w=>∃(j:Env) (ks:List KV) (mO:Nat),env=eu j [(0,bu),(1,.int .i64 (i:Int)),(2,.int .u64 id),(3,.int .u64 (max (min floor id) g.s.floor)),(9,b9),(10,Ib),(12,Gq),(13,.pointer (some ⟨bu,0+2+((i:Nat):Int).toNat*3,none⟩)),(14,.map (some tG)),(57,rr)]∧XD g.kvs (max (min floor id) g.s.floor) seen ks∧On W0 (sg rr g.mb seen g.ck::bV g.mb .u64 g.kvs g.ck::bV tG .u64 ks mO::mV g::eE (gE aa) (gs.eraseIdx i)::aX bu (dg bs bt gs) 236::mR 321 bs u.s::aX bt u.t.cells 323::aX Gq [.int .i64 8,.int .i64 0,.int .i64 0,.slice none 0 0,.int .i64 0] 38::aX Ib [.int .i64 0,.int .i64 0,.int .i64 0,.slice none 0 0,.int .i64 0] 38::aX b9 [.int .i64 kind,.int .i64 at_,.int .i64 n,.slice ax data.length cx,.int .u64 key,.int .u64 new,.int .i64 cz,.bool force] 32::aY aa::L) w) (fun seen=>(iX g.kvs seen).length) (#[]) ?_ ?_
 · exact⟨_,[],0,aD ⟨rfl,rfl,rfl,rfl,rfl,rfl,rfl,rfl,rfl,rfl,trivial⟩,MQ,h.to⟩
 rintro seen env w ⟨j,ks,mO,rfl,hK,h⟩;refine go ?_;refine WL.e (Ap h.g rfl) ?_;rintro _ w h0;rcases h0 with⟨mw,rfl,h⟩|⟨e1,eD,rfl,h⟩;rotate_left
 ·
  refine go ?_;refine W.ct ?_;refine W.skip ?_;refine W.block ?_;refine W.seq ?_;obtain⟨k1,v1,bn1⟩:=e1;have aA:=cD.2.2 _ (vX eD);obtain⟨r1,dv1,LG,za,W6⟩:=aA;have za:v1=r1.val dv1:=za;have hf1:=Cells.form (On.reads (h.aj (aY aa)) (aB.aa W6));obtain⟨ad1,cd1,agW,_⟩:=hf1;subst agW;subst za;have h:=h.aj (sg rr g.mb (seen.push bn1) g.ck);refine go ?_;refine WL.v (uD h (vX eD) rfl) ?_;refine gb fun VQ w h=> ?_;refine Sl.gs fun w h _=> ?_;refine qI (fun zF=> ?_) (fun zF=> ?_)
  · refine go ?_;refine WL.e (jI (v:=r1.val (.slice ad1 r1.data.length cd1)) (h.aj (bV tG .u64 ks mO)) underlying231 underlying30 rfl rfl rfl) ?_;rintro _ w h;refine gw ?_;exact⟨seen.push bn1,⟨_,iR ks k1 (r1.val (.slice ad1 r1.data.length cd1)) mO,fV ks k1 mO,aD ⟨rfl,rfl,rfl,rfl,rfl,rfl,rfl,rfl,rfl,rfl,trivial⟩,T8 hK fe.2.1 (vX eD) zF,h.to⟩,xB eD⟩
  refine qD ?_;exact⟨seen.push bn1,⟨_,ks,mO,aD ⟨rfl,rfl,rfl,rfl,rfl,rfl,rfl,rfl,rfl,rfl,trivial⟩,PM hK fe.2.1 (vX eD) zF,h.to⟩,xB eD⟩
 refine go ?_;refine W.cf ?_;refine W.exit ?_;refine W.seq ?_;refine W.seq ?_;have Qo:=(On.jH (h.aj (bV tG .u64 ks mO))).1;have hD:MP aa (cX g.s.done (iY g.s id floor)) ks:=T9 cD hK mw Qo.1;have zD:¬(id=0∨id<(u.cA i).floor):=by rw[←GS];rintro (e|e);exact Fy e;exact c3 e
 rw[←GS] at oA;refine qD ?_;have iG:=look_ok hD id;rcases iG with⟨r2,dv2,Eg,Aw,vJ⟩|⟨Eg,Aw,dX⟩;have hf2:=Cells.form (On.reads (h.aj (aY aa)) (aB.aa vJ));obtain⟨ad2,cd2,agY,_⟩:=hf2;subst agY;have SU:=(On.jH (h.aj (bV tG .u64 ks mO))).2;refine WL.v (pG (v:=r2.val (.slice ad2 r2.data.length cd2)) (o:=true) SU underlying231 underlying30 zeroValue38 rfl rfl (by rw[Aw];rfl) (by rw[Aw];rfl)) ?_;rotate_left;have SU:=(On.jH (h.aj (bV tG .u64 ks mO))).2;refine WL.v (pG (v:=.agg #[.int .i64 0,.int .i64 0,.int .i64 0,.slice none 0 0,.int .i64 0]) (o:=false) SU underlying231 underlying30 zeroValue38 rfl rfl (by rw[Aw];rfl) (by rw[Aw];rfl)) ?_;rotate_left
 ·
  refine gb fun B7 w h=> ?_;refine Sl.gs fun w h _=> ?_;refine qD ?_;refine WL.e (bI (v:=.int .u64 (iY g.s id floor)) h sizeOf30 rfl rfl rfl (ult hg (by decide)) (vt _)) ?_;rintro _ w h;have er1:({g with s:={g.s with floor:=(iY g.s id floor)}}:GX).row=g.row.set 1 (.int .u64 (iY g.s id floor)):=rfl;rw[uset hg (by decide) er1] at h;have vh:(gs.set i ({g with s:={g.s with floor:=(iY g.s id floor)}}:GX))[i]? =some ({g with s:={g.s with floor:=(iY g.s id floor)}}:GX):=by rw[List.getElem?_set,if_pos rfl,if_pos NZ]
  refine go ?_;refine WL.e (bI (v:=.map (some tG)) h sizeOf231 rfl rfl rfl (ult vh (by decide)) (vt _)) ?_;rintro _ w h;have er2:({g with s:=g.s.k4 (iY g.s id floor) (cX g.s.done (iY g.s id floor)),mb:=tG,ck:=mO,kvs:=ks}:GX).row=({g with s:={g.s with floor:=(iY g.s id floor)}}:GX).row.set 2 (.map (some tG)):=rfl;rw[uset vh (by decide) er2,List.set_set] at h;have h:=eE.close NZ (pF (g:=({g with s:=g.s.k4 (iY g.s id floor) (cX g.s.done (iY g.s id floor)),mb:=tG,ck:=mO,kvs:=ks}:GX)) hD (((h.aj (eE (gE aa) (gs.eraseIdx i))).aj (bV tG .u64 ks mO)).aj (mV g)))
  have hm':(gs.set i ({g with s:=g.s.k4 (iY g.s id floor) (cX g.s.done (iY g.s id floor)),mb:=tG,ck:=mO,kvs:=ks}:GX)).map (·.s)=(u.oy i (lI u i id floor)).g∧(gs.set i ({g with s:=g.s.k4 (iY g.s id floor) (cX g.s.done (iY g.s id floor)),mb:=tG,ck:=mO,kvs:=ks}:GX)).map (·.mb)=ms.set i tG:=by
    have:=Gw (g':=({g with s:=g.s.k4 (iY g.s id floor) (cX g.s.done (iY g.s id floor)),mb:=tG,ck:=mO,kvs:=ks}:GX)) (i:=i) hm;rw[show({g with s:=g.s.k4 (iY g.s id floor) (cX g.s.done (iY g.s id floor)),mb:=tG,ck:=mO,kvs:=ks}:GX).s=lI u i id floor from by unfold lI;rw[←GS]] at this;exact this
  have h:=iw hm' (EE hl) (((h.g.aj (aX bt u.t.cells 323)).aj (mR 321 bs u.s)).aj (aX bu (dg bs bt (gs.set i ({g with s:=g.s.k4 (iY g.s id floor) (cX g.s.done (iY g.s id floor)),mb:=tG,ck:=mO,kvs:=ks}:GX))) 236));refine qC ?_ (C:=DG h (aB.to (T:=[aY aa]) (aB.aa vJ)) (oA _ (List.mem_filter.1 (PV Eg)).1));rintro _ w ⟨a85,rfl,h⟩;refine Sl.gs fun w h _=> ?_;refine qR ?_;exact⟨(u.oy i (lI u i id floor)),r2,false,.slice a85 r2.data.length r2.data.length,ms.set i tG,aa,PY zD (by rw[←GS];exact Eg),rfl,(fun _ hp=>hp),h.to⟩
 refine gb fun B7 w h=> ?_;refine Sl.gs fun w h _=> ?_;refine go ?_;refine W.cs ?_;refine W.seq ?_;refine W.seq ?_;have Ef:ks.length=(cX g.s.done (iY g.s id floor)).length:=by have:=hD.1.length_eq;simpa using this
 refine go ?_;refine WL.v (Jm (On.jH (h.aj (bV tG .u64 ks mO))).2 rfl underlying231 rfl Ef) ?_;refine qI (fun VI=> ?_) (fun VI=> ?_)
 · refine Sl.gs fun w h _=> ?_;refine qR ?_;have h:=eE.close NZ (pF cD (((h.aj (eE (gE aa) (gs.eraseIdx i))).aj (bV g.mb .u64 g.kvs g.ck)).aj (mV g)));rw[iH hg] at h;have h:=iw hm hl (((h.g.aj (aX bt u.t.cells 323)).aj (mR 321 bs u.s)).aj (aX bu (dg bs bt gs) 236));have h:On W0 (bC (.slice none 0 0) (plain 8 0 0:Rp).data::_) w:=h.bB 1 none;exact⟨u,plain 8 0 0,false,.slice none 0 0,ms,aa,(MZ zD (by rw[←GS];exact Eg) (by rw[←GS];omega)),rfl,(fun _ hp=>hp),h.to⟩
 refine go ?_;refine WL.e (bI (v:=.int .u64 (iY g.s id floor)) h sizeOf30 rfl rfl rfl (ult hg (by decide)) (vt _)) ?_;rintro _ w h;have er1:({g with s:={g.s with floor:=(iY g.s id floor)}}:GX).row=g.row.set 1 (.int .u64 (iY g.s id floor)):=rfl;rw[uset hg (by decide) er1] at h;have vh:(gs.set i ({g with s:={g.s with floor:=(iY g.s id floor)}}:GX))[i]? =some ({g with s:={g.s with floor:=(iY g.s id floor)}}:GX):=by rw[List.getElem?_set,if_pos rfl,if_pos NZ]
 refine go ?_;refine WL.e (bI (v:=.map (some tG)) h sizeOf231 rfl rfl rfl (ult vh (by decide)) (vt _)) ?_;rintro _ w h;have er2:({g with s:=g.s.k4 (iY g.s id floor) (cX g.s.done (iY g.s id floor)),mb:=tG,ck:=mO,kvs:=ks}:GX).row=({g with s:={g.s with floor:=(iY g.s id floor)}}:GX).row.set 2 (.map (some tG)):=rfl;rw[uset vh (by decide) er2,List.set_set] at h;have h:=eE.close NZ (pF (g:=({g with s:=g.s.k4 (iY g.s id floor) (cX g.s.done (iY g.s id floor)),mb:=tG,ck:=mO,kvs:=ks}:GX)) hD (((h.aj (eE (gE aa) (gs.eraseIdx i))).aj (bV tG .u64 ks mO)).aj (mV g)))
 have hm':(gs.set i ({g with s:=g.s.k4 (iY g.s id floor) (cX g.s.done (iY g.s id floor)),mb:=tG,ck:=mO,kvs:=ks}:GX)).map (·.s)=(u.oy i (lI u i id floor)).g∧(gs.set i ({g with s:=g.s.k4 (iY g.s id floor) (cX g.s.done (iY g.s id floor)),mb:=tG,ck:=mO,kvs:=ks}:GX)).map (·.mb)=ms.set i tG:=by
   have:=Gw (g':=({g with s:=g.s.k4 (iY g.s id floor) (cX g.s.done (iY g.s id floor)),mb:=tG,ck:=mO,kvs:=ks}:GX)) (i:=i) hm;rw[show({g with s:=g.s.k4 (iY g.s id floor) (cX g.s.done (iY g.s id floor)),mb:=tG,ck:=mO,kvs:=ks}:GX).s=lI u i id floor from by unfold lI;rw[←GS]] at this;exact this
 have h:=iw hm' (EE hl) (((h.g.aj (aX bt u.t.cells 323)).aj (mR 321 bs u.s)).aj (aX bu (dg bs bt (gs.set i ({g with s:=g.s.k4 (iY g.s id floor) (cX g.s.done (iY g.s id floor)),mb:=tG,ck:=mO,kvs:=ks}:GX))) 236));refine qC ?_ (C:=ab6 (u:=(u.oy i (lI u i id floor))) xF (A8 hl hi Ce) N0 h.g (aB.to C) hd);rintro _ w ⟨u',r',PT,heq,rfl,h⟩;have ET:=Own.form h;obtain⟨ad,cd,oC,_⟩:=ET;subst oC;refine Sl.gs fun w h _=> ?_;refine qC ?_ (C:=DG h (aB.cF) (by have:=PX (u:=(u.oy i (lI u i id floor))) (hh:=(i:Int)) (c:=(⟨kind,at_,n,data,key,new,cz,force⟩:Cm));rw[heq] at this;have this:r'.data.length≤1000:=this;omega));rintro _ w ⟨xG,rfl,h⟩;have hg9:=ab8 (u:=(u.oy i (lI u i id floor))) (c:=(⟨kind,at_,n,data,key,new,cz,force⟩:Cm)) hi xF (A8 hl hi Ce) N0;rw[heq] at hg9;have ag2:u'.cA i=lI u i id floor:=by unfold Un.cA;rw[hg9];exact Dm hl hi
 have acd:(u'.cA i).floor=(lI u i id floor).floor∧(u'.cA i).done=(lI u i id floor).done:=by rw[ag2];exact⟨rfl,rfl⟩
 have h:=On.mU ((h.aj (aY aa)).aj (bC (.slice xG r'.data.length r'.data.length) r'.data));have h:=PU (p:=(.slice xG r'.data.length r'.data.length,r'.data)) (h.aj (qb 236 321 323 bu aa (ms.set i tG) u'));have aA:=yy h;obtain⟨GY,BU,wk,Ia,Aw,h⟩:=aA;have aA:=ED Ia Aw hi;obtain⟨g2,zf,X5⟩:=aA;have ag3:i<wk.length:=(List.getElem?_eq_some_iff.1 zf).1;have h:=eE.open zf (h.aj (eE (gE ((.slice xG r'.data.length r'.data.length,r'.data)::aa)) wk));have aA:=KL h;obtain⟨vH,h⟩:=aA
 have ag4:g2.mb=tG:=by
   have e1:=abL Ia.2 zf;rw[List.getElem?_set,if_pos rfl,if_pos (by rw[←hm.2,List.length_map];exact NZ)] at e1;exact(Option.some.inj e1).symm
 have MC:g2.s.done=(cX g.s.done (iY g.s id floor)):=by rw[X5,acd.2];unfold lI;rw[←GS];rfl
 have hfn:g2.s.floor=(iY g.s id floor):=by rw[X5,acd.1];unfold lI;rw[←GS];rfl
 refine WL.e (jI (v:=r'.val (.slice xG r'.data.length r'.data.length)) (h.aj (bV g2.mb .u64 g2.kvs g2.ck)) underlying231 underlying30 (congrArg (fun q=>Value.map (some q)) ag4.symm) rfl rfl) ?_;rintro _ w h;have ace:=MR (ck:=g2.ck) vH (List.mem_cons_self ..) (by rw[MC];exact dX);rw[MC] at ace
 have er3:({g2 with s:=g2.s.k4 (iY g.s id floor) ((cX g.s.done (iY g.s id floor))++[(id,r')]),kvs:=iR g2.kvs id (r'.val (.slice xG r'.data.length r'.data.length)) g2.ck,ck:=fV g2.kvs id g2.ck}:GX).row=g2.row:=by
   show[_,Value.int .u64 (iY g.s id floor),_]=[_,Value.int .u64 g2.s.floor,_];rw[hfn];rfl
 have h:=eE.close ag3 (pF (g:=({g2 with s:=g2.s.k4 (iY g.s id floor) ((cX g.s.done (iY g.s id floor))++[(id,r')]),kvs:=iR g2.kvs id (r'.val (.slice xG r'.data.length r'.data.length)) g2.ck,ck:=fV g2.kvs id g2.ck}:GX)) ace (h.g.aj (mV g2)));have h:=h.aj (aX bu (dg GY BU wk) 236);rw[show dg GY BU wk=dg GY BU (wk.set i ({g2 with s:=g2.s.k4 (iY g.s id floor) ((cX g.s.done (iY g.s id floor))++[(id,r')]),kvs:=iR g2.kvs id (r'.val (.slice xG r'.data.length r'.data.length)) g2.ck,ck:=fV g2.kvs id g2.ck}:GX)) from by show _::_::_=_::_::(wk.set i ({g2 with s:=g2.s.k4 (iY g.s id floor) ((cX g.s.done (iY g.s id floor))++[(id,r')]),kvs:=iR g2.kvs id (r'.val (.slice xG r'.data.length r'.data.length)) g2.ck,ck:=fV g2.kvs id g2.ck}:GX)).flatMap GX.row;rw[MY zf er3]] at h
 have yw:(wk.set i ({g2 with s:=g2.s.k4 (iY g.s id floor) ((cX g.s.done (iY g.s id floor))++[(id,r')]),kvs:=iR g2.kvs id (r'.val (.slice xG r'.data.length r'.data.length)) g2.ck,ck:=fV g2.kvs id g2.ck}:GX)).map (·.s)=(u'.oy i ((u'.cA i).k4 (iY g.s id floor) ((cX g.s.done (iY g.s id floor))++[(id,r')]))).g∧(wk.set i ({g2 with s:=g2.s.k4 (iY g.s id floor) ((cX g.s.done (iY g.s id floor))++[(id,r')]),kvs:=iR g2.kvs id (r'.val (.slice xG r'.data.length r'.data.length)) g2.ck,ck:=fV g2.kvs id g2.ck}:GX)).map (·.mb)=ms.set i tG:=by
   have:=T7 (g':=({g2 with s:=g2.s.k4 (iY g.s id floor) ((cX g.s.done (iY g.s id floor))++[(id,r')]),kvs:=iR g2.kvs id (r'.val (.slice xG r'.data.length r'.data.length)) g2.ck,ck:=fV g2.kvs id g2.ck}:GX)) Ia zf rfl;rw[←X5];exact this
 have h:=iw yw (EE Aw) (((h.g.aj (aX BU u'.t.cells 323)).aj (mR 321 GY u'.s)).aj (aX bu (dg GY BU (wk.set i ({g2 with s:=g2.s.k4 (iY g.s id floor) ((cX g.s.done (iY g.s id floor))++[(id,r')]),kvs:=iR g2.kvs id (r'.val (.slice xG r'.data.length r'.data.length)) g2.ck,ck:=fV g2.kvs id g2.ck}:GX))) 236));refine Sl.gs fun w h _=> ?_;refine qR ?_;exact⟨_,r',true,.slice ad r'.data.length cd,ms.set i tG,((.slice xG r'.data.length r'.data.length,r'.data)::aa),by rw[PZ zD (by rw[←GS];exact Eg) (by rw[←GS];omega) heq,←GS],rfl,(fun _ hp=>List.mem_cons_of_mem _ hp),h.to⟩
end Go.Proofs.YtcplmndikhjehaaGreat
namespace Go.Proofs.YtcplmndikhjehaaGreat
open Go.Proofs.Tryz
open Go Go.Sl Go.Sl.eM Go.Sl.dA Go.Sl.gU Go.Sl.pe
set_option maxHeartbeats 0
set_option maxRecDepth 8000
variable{b bt bw e e2 m m2 p p2 x:Nat}
variable{W0 w:World}{L F:List aC}
theorem EU{A B A2 B2 H:Prop}(h:(A∧B∧H)∨(A2∧B2∧H)):H:=by
 rcases h with⟨_,_,h⟩|⟨_,_,h⟩<;>exact h
theorem Bl{e p m:Int}(h:On W0 L w):Cs 41 [.agg #[.int .u64 e,.int .i64 p,.int .i64 m]] w fun v w'=>v=.bool (decide (bK p m))∧On W0 L w':=by
 refine qO ?_;refine gb fun b1 w h=> ?_;refine qI (fun c4=> ?_) (fun c4=> ?_)
 ·
  refine go ?_;refine WL.q (cL rfl rfl) (fun c9=> ?_) (fun c9=> ?_)
  ·
   refine qR ?_
   first
     |exact⟨congrArg Value.bool (decide_eq_true (show bK p m by unfold bK;omega)).symm,h.to⟩
     |exact⟨congrArg Value.bool (decide_eq_false (show ¬bK p m by unfold bK;omega)).symm,h.to⟩
     |exact⟨congrArg Value.bool (decide_eq_decide.2 (by unfold bK;omega)),h.to⟩
  refine qD ?_;refine qR ?_
  first
    |exact⟨congrArg Value.bool (decide_eq_true (show bK p m by unfold bK;omega)).symm,h.to⟩
    |exact⟨congrArg Value.bool (decide_eq_false (show ¬bK p m by unfold bK;omega)).symm,h.to⟩
    |exact⟨congrArg Value.bool (decide_eq_decide.2 (by unfold bK;omega)),h.to⟩
 refine qI (fun c8=> ?_) (fun c8=> ?_)
 ·
  refine go ?_;refine WL.q (cL rfl rfl) (fun CY=> ?_) (fun CY=> ?_)
  ·
   refine qR ?_
   first
     |exact⟨congrArg Value.bool (decide_eq_true (show bK p m by unfold bK;omega)).symm,h.to⟩
     |exact⟨congrArg Value.bool (decide_eq_false (show ¬bK p m by unfold bK;omega)).symm,h.to⟩
     |exact⟨congrArg Value.bool (decide_eq_decide.2 (by unfold bK;omega)),h.to⟩
  refine qD ?_;refine qR ?_
  first
    |exact⟨congrArg Value.bool (decide_eq_true (show bK p m by unfold bK;omega)).symm,h.to⟩
    |exact⟨congrArg Value.bool (decide_eq_false (show ¬bK p m by unfold bK;omega)).symm,h.to⟩
    |exact⟨congrArg Value.bool (decide_eq_decide.2 (by unfold bK;omega)),h.to⟩
 refine qR ?_
 first
   |exact⟨congrArg Value.bool (decide_eq_true (show bK p m by unfold bK;omega)).symm,h.to⟩
   |exact⟨congrArg Value.bool (decide_eq_false (show ¬bK p m by unfold bK;omega)).symm,h.to⟩
   |exact⟨congrArg Value.bool (decide_eq_decide.2 (by unfold bK;omega)),h.to⟩
theorem tH(he:e<18446744073709551616)(hp:p<256)(hm:m<256)(h:On W0 L w):Cs 43 [.agg #[.int .u64 (e:Int),.int .i64 (p:Int),.int .i64 (m:Int)]] w fun v w'=>∃a,v=.slice a (dw e p m).length (dw e p m).length∧On W0 (bC (.slice a (dw e p m).length (dw e p m).length) (dw e p m)::L) w':=by
 refine qO ?_;refine gb fun b1 w h=> ?_;refine qT fun w h=> ?_;refine WT.l 1 rfl isAgg30 rfl (h.aS rfl) ?_;refine WT.f 3 1 rfl underlying71 rfl sizeOf3 rfl rfl ?_;refine WT.l 4 rfl isAgg3 rfl (h.aS rfl) ?_;refine WT.p 5 rfl (fun w'=>(fC underlying3 underlying30 rfl (by show(0:Int)≤_;omega) (by show _≤(18446744073709551615:Int);omega))) ?_;refine WT.f 7 2 rfl underlying71 rfl sizeOf3 rfl rfl ?_;refine WT.l 8 rfl isAgg3 rfl (h.aS rfl) ?_;refine WT.p 9 rfl (fun w'=>(fC underlying3 underlying30 rfl (by show(0:Int)≤_;omega) (by show _≤(18446744073709551615:Int);omega))) ?_;refine WT.e 2 [true,true,false] rfl (ag call78 (dm (n:=8) (bs:=[]) h aB.rL (by decide) (by decide) he (by decide))) ?_;rintro _ w ⟨a5,rfl,h⟩;have h:On W0 (bC (.slice a5 (be e 8).length (be e 8).length) (be e 8)::_) w:=h;refine qW ?_;refine WT.e 6 [true,false] rfl (ag call78 (dm (n:=1) (bs:=(be e 8)) h (aB.cF (v:=.slice a5 (be e 8).length (be e 8).length)) (by decide) (by decide) (by omega) (by simp only[List.length_append,aT];decide))) ?_;rintro _ w ⟨a9,rfl,h⟩;refine qW ?_;refine WT.e 10 [false] rfl (ag call78 (dm (n:=1) h (aB.cF) (by decide) (by decide) (by omega) (by simp only[List.length_append,aT];decide))) ?_;rintro _ w ⟨VT,rfl,h⟩;refine⟨trivial, ?_⟩;refine qU ?_;refine qR ?_;have h:On W0 (bC (.slice VT (dw e p m).length (dw e p m).length) (dw e p m)::_) w:=h;exact⟨VT,rfl,h.to⟩
theorem xH{ax:Option Addr}{cx:Nat}{s:List UInt8}(h:On W0 L w)(C:aB L (Bytes (.slice ax s.length cx) s)):Cs 119 [.slice ax s.length cx] w fun v w'=>((s.length=10∧bK (mF s 8:Int) (mF s 9:Int))∧v=.tuple #[.agg #[.int .u64 (B8 s:Int),.int .i64 (mF s 8:Int),.int .i64 (mF s 9:Int)],.int .i64 0]∧On W0 L w')∨(¬(s.length=10∧bK (mF s 8:Int) (mF s 9:Int))∧v=.tuple #[.agg #[.int .u64 0,.int .i64 0,.int .i64 0],.int .i64 2]∧On W0 L w'):=by
 refine qO ?_;refine gb fun b2 w h=> ?_;refine qC ?_ (C:=jS h (aB.to C));rintro v0 w hg;have h:=EU hg
 have aA:∃(z:Nat) (t:Bool),(s.length=10→z=B8 s)∧z<18446744073709551616∧v0=.tuple #[.int .u64 (z:Int),.bool t]:=by
   rcases hg with⟨_,hv,_⟩|⟨dX,hv,_⟩
   · exact⟨B8 s,true,fun _=>rfl,TE s,hv⟩
   exact⟨0,false,fun Ux=>absurd (show _ by omega) dX,by decide,hv⟩
 obtain⟨ze,tze,ag5,al6,WQ⟩:=aA;clear hg;subst WQ;refine qC ?_ (C:=jS h (aB.to C));rintro v0 w hg;have h:=EU hg
 have aA:∃(z:Nat) (t:Bool),(s.length=10→z=mF s 8)∧z<256∧v0=.tuple #[.int .u64 (z:Int),.bool t]:=by
   rcases hg with⟨_,hv,_⟩|⟨dX,hv,_⟩
   · exact⟨mF s 8,true,fun _=>rfl,KC s 8,hv⟩
   exact⟨0,false,fun Ux=>absurd (show _ by omega) dX,by decide,hv⟩
 obtain⟨zp,tzp,acf,al7,WQ⟩:=aA;clear hg;subst WQ;refine qC ?_ (C:=jS h (aB.to C));rintro v0 w hg;have h:=EU hg
 have aA:∃(z:Nat) (t:Bool),(s.length=10→z=mF s 9)∧z<256∧v0=.tuple #[.int .u64 (z:Int),.bool t]:=by
   rcases hg with⟨_,hv,_⟩|⟨dX,hv,_⟩
   · exact⟨mF s 9,true,fun _=>rfl,KC s 9,hv⟩
   exact⟨0,false,fun Ux=>absurd (show _ by omega) dX,by decide,hv⟩
 obtain⟨zm,tzm,acg,al8,WQ⟩:=aA;clear hg;subst WQ;refine qB fun Ib w h=> ?_;refine gs fun w h _=> ?_;refine go ?_;refine WL.q (e7 rfl rfl) (fun Uw=> ?_) (fun Uw=> ?_)
 · refine qS fun w h _=> ?_;refine qR ?_;exact .inr ⟨fun hh=>by omega,rfl,h.to⟩
 refine qC ?_ (C:=Bl h);rintro _ w ⟨rfl,h⟩;refine WL.v (ey rfl) ?_;refine qI (fun c6=> ?_) (fun c6=> ?_)
 · refine qS fun w h _=> ?_;refine qR ?_;exact .inr ⟨fun hh=>by have e1:=acf hh.1;have e2:=acg hh.1;subst e1;subst e2;exact c6 hh.2,rfl,h.to⟩
 refine gs fun w h _=> ?_;refine qR ?_;have Ux:s.length=10:=by omega
 have e0:=ag5 Ux;have e1:=acf Ux;have e2:=acg Ux;subst e0;subst e1;subst e2;exact .inl ⟨⟨Ux,Decidable.not_not.1 c6⟩,rfl,h.to⟩
theorem JJ{d:Dk}(hr:bK (p:Int) (m:Int))(he:e<18446744073709551616)(gH:d.rM 3)(hn:0≤d.n)(h:On W0 (aQ 109 221 b d::L) w):Cs 21 [b,.agg #[.int .u64 (e:Int),.int .i64 (p:Int),.int .i64 (m:Int)]] w fun v w'=>v=.int .i64 (dG d 0 (dw e p m)).1∧On W0 (aQ 109 221 b (dG d 0 (dw e p m)).2::L) w':=by
 refine qO ?_;have Sy:p<256∧m<256:=by unfold bK at hr;omega
 refine gb fun b3 w h=> ?_;refine qC ?_ (C:=Bl h);rintro _ w ⟨rfl,h⟩;refine WL.v (ey rfl) ?_;refine qI (fun c2=> ?_) (fun c2=> ?_)
 · refine qR ?_;exact absurd hr c2
 refine qC ?_ (C:=tH he Sy.1 Sy.2 h);rintro _ w ⟨sA,rfl,h⟩;refine qC ?_ (C:=Dd gH hn (h.aj (aQ 109 221 b d)) (aB.cF));rintro _ w ⟨rfl,h⟩;refine qR ?_;exact⟨rfl,h.to⟩
theorem Qp{n:Nat}{d:Dk}(e0:lG d 0=(some (n,(dw e p m)),0))(hr:bK (p:Int) (m:Int))(he:e<18446744073709551616)(hn:0≤d.n)(h:On W0 (aQ 109 221 b d::L) w):Cs 79 [.pointer (some ⟨b,0,none⟩)] w fun v w'=>∃bw bt,v=.tuple #[.pointer (some ⟨bw,0,none⟩),.int .i64 0]∧On W0 (aX bw [.pointer (some ⟨bt,0,none⟩),.int .u64 (e:Int),.int .i64 (p:Int),.int .i64 (m:Int)] 225::dM 204 bt b 0 n (dw e p m)::aQ 109 221 b d::L) w':=by
 refine qO ?_;have Sy:p<256∧m<256:=by unfold bK at hr;omega
 refine qC ?_ (C:=AV hn h);rintro _ w hg;rcases hg with⟨bt,n2,abg,e1,hv,h⟩|⟨e1,_,_,_⟩;rotate_left
 · rw[e0] at e1;cases e1
 rw[e0] at e1;cases e1;subst hv;refine qE ?_;refine WL.e (ag call66 (Gj (by rw[eG];decide) h)) ?_;rintro _ w ⟨I5,rfl,h⟩;refine qC ?_ (C:=xH h (aB.cF));rintro _ w hg;rw[Es (show e<256^8 from he),KA Sy.1,KB Sy.2,eG] at hg;rcases hg with⟨_,rfl,h⟩|⟨dX,_,_⟩;rotate_left
 · exact absurd ⟨rfl,hr⟩ dX
 refine gb fun b6 w h=> ?_;refine gs fun w h _=> ?_;refine qE ?_;refine gb fun X6 w h=> ?_;refine qR ?_;exact⟨X6,bt,rfl,h.to⟩
theorem KX(h:On W0 (aX bw [bt,.int .u64 (e:Int),.int .i64 (p:Int),.int .i64 (m:Int)] 225::L) w):Cs 199 [bw] w fun v w'=>v=.agg #[.int .u64 (e:Int),.int .i64 (p:Int),.int .i64 (m:Int)]∧On W0 (aX bw [bt,.int .u64 (e:Int),.int .i64 (p:Int),.int .i64 (m:Int)] 225::L) w':=by
 refine qO ?_;refine gb fun b2 w h=> ?_;refine gs fun w h _=> ?_;refine qR ?_;exact⟨rfl,h.to⟩
theorem KY(hx:x+1<18446744073709551616)(h:On W0 (aX bw [bt,.int .u64 (e:Int),.int .i64 (p:Int),.int .i64 (m:Int)] 225::L) w):Cs 266 [bw,.int .u64 (x:Int),.agg #[.int .u64 (e2:Int),.int .i64 (p2:Int),.int .i64 (m2:Int)]] w fun v w'=>v=.bool (decide (e=x∧bK (p2:Int) (m2:Int)∧e2=x+1))∧On W0 (aX bw [bt,.int .u64 (e:Int),.int .i64 (p:Int),.int .i64 (m:Int)] 225::L) w':=by
 refine qO ?_;refine gb fun b5 w h=> ?_;refine qI (fun c6=> ?_) (fun c6=> ?_)
 ·
  refine qR ?_
  first
    |exact⟨congrArg Value.bool (decide_eq_true (show(e=x∧bK (p2:Int) (m2:Int)∧e2=x+1) from⟨by omega,by first|assumption|exact Decidable.not_not.1 ‹_›,by omega⟩)).symm,h.to⟩
    |exact⟨congrArg Value.bool (decide_eq_false (show ¬(e=x∧bK (p2:Int) (m2:Int)∧e2=x+1) from fun hh=>by omega)).symm,h.to⟩
    |exact⟨congrArg Value.bool (decide_eq_false (show ¬(e=x∧bK (p2:Int) (m2:Int)∧e2=x+1) from fun hh=>absurd hh.2.1 ‹_›)).symm,h.to⟩
 refine qC ?_ (C:=Bl h);rintro _ w ⟨rfl,h⟩;refine WL.v (ey rfl) ?_;refine qI (fun mP=> ?_) (fun mP=> ?_)
 ·
  refine qR ?_
  first
    |exact⟨congrArg Value.bool (decide_eq_true (show(e=x∧bK (p2:Int) (m2:Int)∧e2=x+1) from⟨by omega,by first|assumption|exact Decidable.not_not.1 ‹_›,by omega⟩)).symm,h.to⟩
    |exact⟨congrArg Value.bool (decide_eq_false (show ¬(e=x∧bK (p2:Int) (m2:Int)∧e2=x+1) from fun hh=>by omega)).symm,h.to⟩
    |exact⟨congrArg Value.bool (decide_eq_false (show ¬(e=x∧bK (p2:Int) (m2:Int)∧e2=x+1) from fun hh=>absurd hh.2.1 ‹_›)).symm,h.to⟩
 refine go ?_;refine WL.v (cT (k:=.u64) (m:=x) (n:=1) rfl rfl (Int.ofNat_le.2 (show _≤18446744073709551615 by omega))) ?_;refine WL.v (iE rfl rfl (by omega)) ?_;refine go ?_;refine WL.v (cT (k:=.u64) (m:=x) (n:=1) rfl rfl (Int.ofNat_le.2 (show _≤18446744073709551615 by omega))) ?_;refine qI (fun pW=> ?_) (fun pW=> ?_)
 ·
  refine qR ?_
  first
    |exact⟨congrArg Value.bool (decide_eq_true (show(e=x∧bK (p2:Int) (m2:Int)∧e2=x+1) from⟨by omega,by first|assumption|exact Decidable.not_not.1 ‹_›,by omega⟩)).symm,h.to⟩
    |exact⟨congrArg Value.bool (decide_eq_false (show ¬(e=x∧bK (p2:Int) (m2:Int)∧e2=x+1) from fun hh=>by omega)).symm,h.to⟩
    |exact⟨congrArg Value.bool (decide_eq_false (show ¬(e=x∧bK (p2:Int) (m2:Int)∧e2=x+1) from fun hh=>absurd hh.2.1 ‹_›)).symm,h.to⟩
 refine qR ?_
 first
   |exact⟨congrArg Value.bool (decide_eq_true (show(e=x∧bK (p2:Int) (m2:Int)∧e2=x+1) from⟨by omega,by first|assumption|exact Decidable.not_not.1 ‹_›,by omega⟩)).symm,h.to⟩
   |exact⟨congrArg Value.bool (decide_eq_false (show ¬(e=x∧bK (p2:Int) (m2:Int)∧e2=x+1) from fun hh=>by omega)).symm,h.to⟩
   |exact⟨congrArg Value.bool (decide_eq_false (show ¬(e=x∧bK (p2:Int) (m2:Int)∧e2=x+1) from fun hh=>absurd hh.2.1 ‹_›)).symm,h.to⟩
theorem X7(hx:x+1<18446744073709551616)(hm:¬(e=x∧bK (p2:Int) (m2:Int)∧e2=x+1))(h:On W0 (aX bw [bt,.int .u64 (e:Int),.int .i64 (p:Int),.int .i64 (m:Int)] 225::L) w):Cs 197 [bw,.int .u64 (x:Int),.agg #[.int .u64 (e2:Int),.int .i64 (p2:Int),.int .i64 (m2:Int)]] w fun v w'=>v=.tuple #[.agg #[.int .u64 (e:Int),.int .i64 (p:Int),.int .i64 (m:Int)],.bool false,.int .i64 0]∧On W0 (aX bw [bt,.int .u64 (e:Int),.int .i64 (p:Int),.int .i64 (m:Int)] 225::L) w':=by
 refine qO ?_;refine gb fun b5 w h=> ?_;refine gb fun b6 w h=> ?_;refine qC ?_ (C:=KY hx (h.aj (aX bw [bt,.int .u64 (e:Int),.int .i64 (p:Int),.int .i64 (m:Int)] 225)));rintro _ w ⟨rfl,h⟩;refine WL.v (ey rfl) ?_;refine qI (fun c2=> ?_) (fun c2=> ?_)
 · refine gs fun w h _=> ?_;refine go ?_;refine W.ret (bf.Oo (vs:=[.int .u64 _,.int .i64 _,.int .i64 _]) (v2:=.bool _) (v3:=.int .i64 _) h results197 isAgg71 sizeOf71 rfl rfl rfl rfl rfl ?_);exact⟨rfl,h.to⟩
 exact absurd (Decidable.not_not.1 c2) hm
theorem X8{n:Nat}{d:Dk}(hx:x+1<18446744073709551616)(hm:(e=x∧bK (p2:Int) (m2:Int)∧e2=x+1))(gH:d.rM 2)(zD:n+1<256^8)(h:On W0 (aX bw [bt,.int .u64 (e:Int),.int .i64 (p:Int),.int .i64 (m:Int)] 225::dM 204 bt b 0 n (dw e p m)::aQ 109 221 b d::L) w):Cs 197 [bw,.int .u64 (x:Int),.agg #[.int .u64 (e2:Int),.int .i64 (p2:Int),.int .i64 (m2:Int)]] w fun v w'=>((ff d 0 n (dw e2 p2 m2)).1=0∧v=.tuple #[.agg #[.int .u64 (e2:Int),.int .i64 (p2:Int),.int .i64 (m2:Int)],.bool true,.int .i64 0]∧On W0 (aX bw [bt,.int .u64 (e2:Int),.int .i64 (p2:Int),.int .i64 (m2:Int)] 225::dM 204 bt b 0 (n+1) (dw e2 p2 m2)::aQ 109 221 b (ff d 0 n (dw e2 p2 m2)).2::L) w')∨((ff d 0 n (dw e2 p2 m2)).1≠0∧v=.tuple #[.agg #[.int .u64 (e:Int),.int .i64 (p:Int),.int .i64 (m:Int)],.bool false,.int .i64 (ff d 0 n (dw e2 p2 m2)).1]∧On W0 (aX bw [bt,.int .u64 (e:Int),.int .i64 (p:Int),.int .i64 (m:Int)] 225::dM 204 bt b 0 n (dw e p m)::aQ 109 221 b (ff d 0 n (dw e2 p2 m2)).2::L) w'):=by
 refine qO ?_;have Sy:p2<256∧m2<256:=by have:=hm.2.1;unfold bK at this;omega
 have ZN:e2<18446744073709551616:=by omega
 refine gb fun b5 w h=> ?_;refine gb fun b6 w h=> ?_;refine qC ?_ (C:=KY hx (h.aj (aX bw [bt,.int .u64 (e:Int),.int .i64 (p:Int),.int .i64 (m:Int)] 225)));rintro _ w ⟨rfl,h⟩;refine WL.v (ey rfl) ?_;refine qI (fun c2=> ?_) (fun c2=> ?_)
 · exact absurd hm c2
 refine qT fun w h=> ?_;refine WT.l 3 rfl isAgg140 rfl (h.aS rfl) ?_;refine WT.gF (vs:=[.int .u64 _,.int .i64 _,.int .i64 _]) 4 rfl (by kernel_rfl) isAgg71 sizeOf71 rfl rfl (h.fR (n:=3) rfl) rfl rfl ?_;refine WT.e 5 [false,true] rfl (ag call43 (tH ZN Sy.1 Sy.2 h)) ?_;rintro _ w ⟨a24,rfl,h⟩;refine qW ?_;refine WT.e 6 [false] rfl (ag call110 (Po gH ⟨Int.le_refl 0,by decide⟩ zD ((h.aj (aQ 109 221 b d)).aj (dM 204 bt b 0 n (dw e p m))) (aB.cF))) ?_;rintro v25 w ⟨ach,h⟩;have aA:∃r,r=(ff d 0 n (dw e2 p2 m2)):=⟨_,rfl⟩;obtain⟨r,hr⟩:=aA;rw[←hr] at h ach;subst ach;refine⟨trivial, ?_⟩;refine WT.a 7 rfl ?_;refine WT.dn ?_;refine qI (fun c8=> ?_) (fun c8=> ?_)
 · refine gs fun w h _=> ?_;refine go ?_;refine W.ret (bf.Oo (vs:=[.int .u64 _,.int .i64 _,.int .i64 _]) (v2:=.bool _) (v3:=.int .i64 _) h results197 isAgg71 sizeOf71 rfl rfl rfl rfl rfl ?_);rw[if_neg c8,if_neg c8] at h;refine .inr ⟨by rw[←hr];exact c8,by rw[←hr], ?_⟩;rw[←hr];exact h.to
 refine gs fun w h _=> ?_;refine gs fun w h _=> ?_;refine go ?_;refine W.ret (bf.Oo (vs:=[.int .u64 _,.int .i64 _,.int .i64 _]) (v2:=.bool _) (v3:=.int .i64 _) h results197 isAgg71 sizeOf71 rfl rfl rfl rfl rfl ?_);have c8:=Decidable.not_not.1 c8;rw[if_pos c8,if_pos c8] at h;refine .inl ⟨by rw[←hr];exact c8,rfl, ?_⟩;rw[←hr];exact h.to
end Go.Proofs.YtcplmndikhjehaaGreat
namespace Go.Proofs.YtcplmndikhjehaaGreat
open Go.Proofs.Tryz
open Go Go.Sl Go.Sl.eM Go.Sl.gU Go.Sl.gW Go.Sl.pe Go.Sl.kM Go.Sl.pM
set_option maxHeartbeats 0
set_option maxRecDepth 8000
variable{W0 w:World}{L F:List aC}
theorem Uy(h:On W0 L w):Cs 145 [] w fun v w'=>∃a,v=.slice a JA.length JA.length∧On W0 (bC (.slice a JA.length JA.length) JA::L) w':=by
 refine qO ?_;refine go ?_;refine WL.e (aZ (zl:=[.int .u8 0]) (out:=[.int .u8 _]) h underlying28 sizeOf5 zeroValue5 (by decide) (by kernel_rfl) rfl rfl (by simp) fz rfl rfl (by simp[maxLen])) ?_;rintro _ w ⟨b1,rfl,h⟩;refine qC ?_ (C:=oN (bs:=[3]) h (aB.cF (v:=.slice (some ⟨b1,0,none⟩) 1 1)) (by decide));rintro _ w ⟨a2,rfl,h⟩;refine qR ?_;have e:JA=dR [3]:=rfl;rw[e];exact⟨a2,rfl,h.to⟩
theorem wm{e p m:Nat}(he:e<18446744073709551616)(hp:p<256)(hm:m<256)(h:On W0 L w):Cs 198 [.agg #[.int .u64 (e:Int),.int .i64 (p:Int),.int .i64 (m:Int)]] w fun v w'=>∃a,v=.slice a (zj e p m).length (zj e p m).length∧On W0 (bC (.slice a (zj e p m).length (zj e p m).length) (zj e p m)::L) w':=by
 refine qO ?_;have fH:=aG;have hel:=eG e p m;refine gb fun b1 w h=> ?_;refine go ?_;refine WL.e (aZ (zl:=[.int .u8 0]) (out:=[.int .u8 _]) h underlying28 sizeOf5 zeroValue5 (by decide) (by kernel_rfl) rfl rfl (by simp) fz rfl rfl (by simp[maxLen])) ?_;rintro _ w ⟨b3,rfl,h⟩;refine qC ?_ (C:=tH he hp hm h);rintro _ w ⟨a5,rfl,h⟩;refine WL.e (bU (bytes:=1) h rfl rfl (h.aR) underlying28 rfl rfl rfl rfl rfl (by omega) (by omega) cR) ?_;rintro v6 w ⟨a6,c6,hv,h⟩;have aA:∃Q9,Q9=[5]++dw e p m:=⟨_,rfl⟩;obtain⟨Q9,hQ⟩:=aA;have M3:1+(dw e p m).length=Q9.length:=by rw[hQ,List.length_append];rfl
 have e3:aL [5]++aL (dw e p m)=aL Q9:=by rw[hQ];exact(List.map_append ..).symm
 have h:On W0 (Own 1 (.slice a6 (1+(dw e p m).length) c6) (1+(dw e p m).length) (aL [5]++aL (dw e p m))::_) w:=h;rw[e3,M3] at h;rw[M3] at hv;subst hv;have h:On W0 (bC (.slice a6 Q9.length c6) Q9::_) w:=h;refine qC ?_ (C:=oN (bs:=Q9) h (aB.cF (v:=.slice a6 Q9.length c6)) (by omega));rintro _ w ⟨a7,rfl,h⟩;refine qR ?_;have e:zj e p m=dR Q9:=by rw[hQ];rfl
 rw[e];exact⟨a7,rfl,h.to⟩
theorem Uz{x:Nat}(hx:x<18446744073709551616){e p m:Nat}(he:e<18446744073709551616)(hp:p<256)(hm:m<256)(h:On W0 L w):Cs 290 [.int .u64 (x:Int),.agg #[.int .u64 (e:Int),.int .i64 (p:Int),.int .i64 (m:Int)]] w fun v w'=>∃a,v=.slice a (GM x e p m).length (GM x e p m).length∧On W0 (bC (.slice a (GM x e p m).length (GM x e p m).length) (GM x e p m)::L) w':=by
 refine qO ?_;have fH:=aG;have hel:=eG e p m;refine gb fun b3 w h=> ?_;refine qT fun w h=> ?_;refine WT.m 1 rfl ?_;refine WT.gF (vs:=[.int .u64 _,.int .i64 _,.int .i64 _]) 3 rfl (by kernel_rfl) isAgg71 sizeOf71 rfl rfl (h.fR (n:=3) rfl) rfl rfl ?_;refine WT.e 0 [true] rfl (aZ (zl:=[.int .u8 0]) (out:=[.int .u8 _]) h underlying28 sizeOf5 zeroValue5 (by decide) (by kernel_rfl) rfl rfl (by simp) fz rfl rfl (by simp[maxLen])) ?_;rintro _ w ⟨b5,rfl,h⟩;refine⟨⟨(h.fR (n:=3) rfl),trivial⟩, ?_⟩;refine WT.e 2 [true] rfl (ag call78 (dm (n:=8) (bs:=[4]) h (aB.cF) (by decide) (by decide) hx (by decide))) ?_;rintro v7 w ⟨a7,hv,h⟩;have aA:∃Y,Y=[4]++be x 8:=⟨_,rfl⟩;obtain⟨Y,hY⟩:=aA;have hYl:Y.length=9:=by rw[hY,List.length_append,aT];rfl
 rw[←hY] at hv h;subst hv;refine⟨⟨(h.fR (n:=3) rfl),trivial⟩, ?_⟩;refine WT.e 4 [false] rfl (ag call43 (tH he hp hm h)) ?_;rintro _ w ⟨a9,rfl,h⟩;refine⟨trivial, ?_⟩;refine WT.e 5 [] rfl (bU (bytes:=1) h rfl rfl (h.aR) underlying28 rfl rfl rfl rfl rfl (by omega) (by omega) cR) ?_;rintro v10 w ⟨sA,mP,hv,h⟩;have aA:∃Q9,Q9=Y++dw e p m:=⟨_,rfl⟩;obtain⟨Q9,hQ⟩:=aA;have M3:Y.length+(dw e p m).length=Q9.length:=by rw[hQ,List.length_append]
 have e3:aL Y++aL (dw e p m)=aL Q9:=by rw[hQ];exact(List.map_append ..).symm
 have h:On W0 (Own 1 (.slice sA (Y.length+(dw e p m).length) mP) (Y.length+(dw e p m).length) (aL Y++aL (dw e p m))::_) w:=h;rw[e3,M3] at h;rw[M3] at hv;subst hv;have h:On W0 (bC (.slice sA Q9.length mP) Q9::_) w:=h;refine⟨trivial, ?_⟩;refine WT.e 6 [] rfl (ag call113 (oN h (aB.cF) (by omega))) ?_;rintro _ w ⟨NT,rfl,h⟩;refine⟨trivial, ?_⟩;refine qU ?_;refine qR ?_;have e:GM x e p m=dR Q9:=by rw[hQ,hY];rfl
 rw[e];exact⟨NT,rfl,h.to⟩
theorem Cg{b:List UInt8}{a0:Option Addr}{c0:Nat}(nj:b.length≤1000000)(h:On W0 L w)(C:aB L (Bytes (.slice a0 b.length c0) b)):Cs 200 [.slice a0 b.length c0] w fun v w'=>∃(e p m:Nat) (ok:Bool),v=.tuple #[.agg #[.int .u64 (e:Int),.int .i64 (p:Int),.int .i64 (m:Int)],.bool ok]∧oQ b=(if ok then some (e,p,m) else none)∧On W0 L w':=by
 refine qO ?_;have fH:=aG;refine gb fun b2 w h=> ?_;refine qC ?_ (C:=lU h (aB.to C) nj);rintro v9 w ⟨a9,c9,hv,h⟩;have P6:=sI b;have aA:∃Q,Q=gp b:=⟨_,rfl⟩;obtain⟨Q8,KQ⟩:=aA;have aA:∃er,er=(eX b).2:=⟨_,rfl⟩;obtain⟨er,NX⟩:=aA;rw[←KQ,←NX] at hv;rw[←KQ] at h P6;subst hv;refine go ?_;refine WL.q (e7 rfl rfl) (fun CS=> ?_) (fun CS=> ?_)
 ·
  refine qS fun w h _=> ?_;refine go ?_;refine W.ret (bf.rX (vs:=[.int .u64 _,.int .i64 _,.int .i64 _]) (v2:=.bool _) h results200 isAgg71 sizeOf71 rfl rfl rfl rfl ?_);have e:oQ b=none:=by unfold oQ;rw[←NX,if_neg (fun hh=>CS hh.1)]
  exact⟨0,0,0,false,rfl,e,h.to⟩
 refine go ?_;refine WL.q (cL rfl rfl) (fun tq=> ?_) (fun tq=> ?_)
 ·
  refine qS fun w h _=> ?_;refine go ?_;refine W.ret (bf.rX (vs:=[.int .u64 _,.int .i64 _,.int .i64 _]) (v2:=.bool _) h results200 isAgg71 sizeOf71 rfl rfl rfl rfl ?_);have e:oQ b=none:=by unfold oQ;rw[←KQ,if_neg (fun hh=>by have:=(List.getElem?_eq_some_iff.1 hh.2).1;omega)]
  exact⟨0,0,0,false,rfl,e,h.to⟩
 have yg:=Cells.bounds (h.aR (v:=.slice a9 Q8.length c9));have aA:=Cells.addr (h.aR (v:=.slice a9 Q8.length c9)) (by omega);obtain⟨ba,oa,Ej⟩:=aA;subst Ej;have aA:∃x,Q8[0]? =some x:=⟨_,List.getElem?_eq_getElem (by omega)⟩;obtain⟨x0,vu⟩:=aA;have C0:aB [bC (.slice (some ⟨ba,oa,none⟩) Q8.length c9) Q8] (Bytes (.slice (some ⟨ba,oa,none⟩) Q8.length c9) Q8):=aB.cF;have aA:=lR (k:=1) C0 (by omega) yg.1;obtain⟨a1,c1,eY,C1⟩:=aA;have aA:∃R,R=Q8.drop 1:=⟨_,rfl⟩;obtain⟨R,hR⟩:=aA;rw[←hR] at eY C1;refine qD ?_;refine WL.l isAgg5 rfl ((h.aR (v:=.slice (some ⟨ba,oa,none⟩) Q8.length c9)).elem (i:=0) (vs:=[.int .u8 (x0.toNat:Int)]) (by omega) (dJ vu) 0 _ rfl) ?_;refine qI (fun c3=> ?_) (fun c3=> ?_)
 ·
  refine qS fun w h _=> ?_;refine go ?_;refine W.ret (bf.rX (vs:=[.int .u64 _,.int .i64 _,.int .i64 _]) (v2:=.bool _) h results200 isAgg71 sizeOf71 rfl rfl rfl rfl ?_)
  have e:oQ b=none:=by
    unfold oQ;rw[←KQ,if_neg];rintro ⟨_,hh⟩;rw[vu] at hh;cases hh;exact c3 rfl
  exact⟨0,0,0,false,rfl,e,h.to⟩
 refine go ?_;refine WL.v (iP (n:=Q8.length) (l:=1) underlying28 sizeOf5 rfl rfl (by omega) eY) ?_;refine WL.e (ag call119 (xH h (aB.to C1))) ?_;rintro _ w hg;rcases hg with⟨cD,rfl,h⟩|⟨dX,rfl,h⟩
 ·
  refine gb fun b6 w h=> ?_;refine gs fun w h _=> ?_;refine qS fun w h _=> ?_;refine go ?_;refine W.ret (bf.rX (vs:=[.int .u64 _,.int .i64 _,.int .i64 _]) (v2:=.bool _) h results200 isAgg71 sizeOf71 rfl rfl rfl rfl ?_)
  have e:oQ b=EL R:=by
    unfold oQ;rw[←KQ,←NX,←hR,vu,if_pos ⟨by omega,congrArg some (UInt8.toNat_inj.1 (show x0.toNat=5 by omega))⟩]
  have e2:EL R=some (B8 R,mF R 8,mF R 9):=by unfold EL;rw[if_pos cD]
  exact⟨B8 R,mF R 8,mF R 9,true,rfl,e.trans e2,h.to⟩
 refine gb fun b6 w h=> ?_;refine gs fun w h _=> ?_;refine qS fun w h _=> ?_;refine go ?_;refine W.ret (bf.rX (vs:=[.int .u64 _,.int .i64 _,.int .i64 _]) (v2:=.bool _) h results200 isAgg71 sizeOf71 rfl rfl rfl rfl ?_)
 have e:oQ b=EL R:=by
   unfold oQ;rw[←KQ,←NX,←hR,vu,if_pos ⟨by omega,congrArg some (UInt8.toNat_inj.1 (show x0.toNat=5 by omega))⟩]
 have e2:EL R=none:=by unfold EL;rw[if_neg dX]
 exact⟨0,0,0,false,rfl,e.trans e2,h.to⟩
end Go.Proofs.YtcplmndikhjehaaGreat
namespace Go.Sl
open Go
variable{b ck et t:Nat}{p:Int×Int}{v:Value}{x y:Operand}
abbrev KS:=(Int×Int)×Value×Nat
def jl(k1 k2:IntKind)(p:Int×Int):Value:=.agg #[.int k1 p.1,.int k2 p.2]
def mL(k1 k2:IntKind)(x:KS):MapEntry:={key:=jl k1 k2 x.1,val:=x.2.1,born:=x.2.2}
def k8(k1 k2:IntKind)(kvs:List KS)(ck:Nat):Obj:=.map (kvs.map (mL k1 k2)).toArray ck
def xI(kvs:List KS)(ck:Nat):Prop:=(kvs.map (·.1)).Nodup
def eS(b:Nat)(k1 k2:IntKind)(kvs:List KS)(ck:Nat):aC:=fun h=>xI kvs ck∧h b=some (k8 k1 k2 kvs ck)
def kD(kvs:List KS)(k:Int×Int):Option Value:=(kvs.find? fun x=>x.1==k).map (·.2.1)
def wo(kvs:List KS)(k:Int×Int)(v:Value)(ck:Nat):List KS:=if kvs.any (fun x=>x.1==k) then kvs.map fun x=>if x.1=k then(k,v,x.2.2) else x else kvs++[(k,v,ck)]
def pI(kvs:List KS)(k:Int×Int)(ck:Nat):Nat:=if kvs.any (fun x=>x.1==k) then ck else ck+1
structure jT(P:Program)(kt:TypeId)(k1 k2:IntKind):Prop where
 fld : ∃ f1 f2 : Field, P.underlying kt = some (.struct #[f1, f2]) ∧ f1.name ≠ "_" ∧ f2.name ≠ "_" ∧ f1.offset = 0 ∧ f2.offset = 1 ∧ P.underlying f1.type = some (.int k1) ∧ P.underlying f2.type = some (.int k2) ∧
   (∀w,(isAgg f1.type).run P w=.ok false w)∧(∀w,(isAgg f2.type).run P w=.ok false w)
 held:P.stoodInHeld kt=false
section
variable{P:Program}{W0 w:World}{L:List aC}{ρ:Operand→Value}{d:Option Nat}{ty:TypeId}{pos:String}{af:Array Edge}{g:Option (Nat×Bool)}{kt:TypeId}{k1 k2:IntKind}
theorem UA(hk:jT P kt k1 k2)(p q:Int×Int):(Op.equal kt (jl k1 k2 p) (jl k1 k2 q)).run P w=.ok (decide (p=q)) w:=by
 obtain⟨f1,f2,hU,uI,rN,ho1,ho2,hE1,hE2,hA1,hA2⟩:=hk.fld;have hH:=hk.held;have e1:∀a b:Int,(Op.equalIn 9999 f1.type (.int k1 a) (.int k1 b)).run P w=.ok (a==b) w:=fun a b=>FN hE1 9998;have e2:∀a b:Int,(Op.equalIn 9999 f2.type (.int k2 a) (.int k2 b)).run P w=.ok (a==b) w:=fun a b=>FN hE2 9998;obtain⟨a,b⟩:=p;obtain⟨c,c'⟩:=q;unfold Op.equal Op.maxDepth jl;rw[show(10000:Nat)=9999+1 from rfl];unfold Op.equalIn;by_cases h1:a=c<;>by_cases h2:b=c'<;>simp[run_underlying hU,hH,part,hA1,hA2,ho1,ho2,uI,rN,e1,e2,h1,h2]
theorem nW(hk:jT P kt k1 k2)(e:Bool)(p:Int×Int):(Instr.checkKey e 10000 kt (jl k1 k2 p)).run P w=.ok () w:=by
 obtain⟨f1,f2,hU,uI,rN,ho1,ho2,hE1,hE2,hA1,hA2⟩:=hk.fld;have c1:∀(w:World) (a:Int),(Instr.checkKey e 9999 f1.type (.int k1 a)).run P w=.ok () w:=fun w a=>kU hE1 e 9998;have c2:∀(w:World) (a:Int),(Instr.checkKey e 9999 f2.type (.int k2 a)).run P w=.ok () w:=fun w a=>kU hE2 e 9998;unfold jl;rw[show(10000:Nat)=9999+1 from rfl];unfold Instr.checkKey;simp[run_underlying hU,part,hA1,hA2,ho1,ho2,uI,rN,c1,c2]
theorem GZ(hk:jT P kt k1 k2)(p:Int×Int):∀(kvs:List KS) (i:Nat),(Instr.findAsking kt (jl k1 k2 p) (kvs.map (mL k1 k2)) i).run P w=.ok ((kvs.findIdx? fun x=>x.1==p).bind fun j=>(kvs[j]?).map fun x=>(i+j,x.2.1)) w:=by
 intro kvs
 induction kvs with
 |nil=>intro i;rfl
 | cons x kvs ih=>
   intro i;rw[List.map_cons];unfold Instr.findAsking;have he:(Op.equal kt (jl k1 k2 p) (jl k1 k2 x.1)).run P w=.ok (decide (p=x.1)) w:=UA hk p x.1;by_cases h:p=x.1
   · subst h
     simp[he,List.findIdx?_cons,mL]
   have h2:(x.1==p)=false:=by simpa using fun e=>h e.symm
   have hx:(mL k1 k2 x).key=jl k1 k2 x.1:=rfl;rw[hx];simp only[Sem.run_bind,he,decide_eq_false h,Result.andThen];simp only[Bool.false_eq_true,if_false];rw[ih (i+1),List.findIdx?_cons,h2];simp only[Bool.false_eq_true,if_false];cases kvs.findIdx? fun x=>x.1==p with
   |none=>rfl
   |some j=>simp;cases kvs[j]? <;>simp;omega
theorem qg(hk:jT P kt k1 k2)(p:Int×Int)(kvs:List KS):(Instr.findKey kt (jl k1 k2 p) (kvs.map (mL k1 k2))).run P w=.ok ((kvs.findIdx? fun x=>x.1==p).bind fun j=>(kvs[j]?).map fun x=>(j,x.2.1)) w:=by
 obtain⟨f1,f2,hU,_⟩:=hk.fld;have ha:=GZ (w:=w) hk p kvs 0;simp only[Nat.zero_add] at ha;cases kvs with
 |nil=>simp[Instr.findKey,run_underlying hU,Instr.findNow]
 | cons x kvs=>
   have hn:Instr.findNow (.struct #[f1,f2]) (jl k1 k2 p) ((x::kvs).map (mL k1 k2)) 0=none:=by
     simp[Instr.findNow,Instr.sameNow,jl]
   unfold Instr.findKey;simp only[Sem.run_bind,run_underlying hU,hn,Result.andThen];exact ha
theorem DH(kvs:List KS)(k:Int×Int):kD kvs k=(kvs.findIdx? fun x=>x.1==k).bind fun j=>(kvs[j]?).map (·.2.1):=by
 unfold kD
 induction kvs with
 |nil=>rfl
 | cons x kvs ih=>
   rw[List.find?_cons,List.findIdx?_cons];cases h:x.1==k
   · rw[ih]
     simp only[Bool.false_eq_true,if_false];cases kvs.findIdx? fun x=>x.1==k with
     |none=>rfl
     |some j=>simp
   simp
theorem On.DI{kvs:List KS}(H:On W0 (eS b k1 k2 kvs ck::L) w):xI kvs ck∧w.heap[b]? =some (k8 k1 k2 kvs ck):=by
 obtain⟨h1,h2,dd,s1,s2,⟨hf,a⟩,r⟩:=H.sat;exact⟨hf,s1 _ _ a⟩
theorem On.Qq{kvs:List KS}(H:On W0 (eS b k1 k2 kvs ck::L) w):xI kvs ck∧On W0 (vf b (k8 k1 k2 kvs ck)::L) w:=by
 obtain⟨h1,h2,dd,s1,s2,⟨hf,a⟩,r⟩:=H.sat;exact⟨hf,H.os,H.output,H.tape,H.size,h1,h2,dd,s1,s2,a,r⟩
theorem On.DJ{kvs:List KS}(hf:xI kvs ck)(H:On W0 (vf b (k8 k1 k2 kvs ck)::L) w):On W0 (eS b k1 k2 kvs ck::L) w:=H.head fun h a=>⟨hf,a⟩
theorem On.zL{kvs FO:List KS}{VD:Nat}(hf:xI FO VD)(H:On W0 (eS b k1 k2 kvs ck::L) w):On W0 (eS b k1 k2 FO VD::L) {w with heap:=w.heap.setIfInBounds b (k8 k1 k2 FO VD)}:=by
 obtain⟨_,H⟩:=H.Qq;have hb:=H.block 0 rfl;have dW:b<w.heap.size:=(Array.getElem?_eq_some_iff.1 hb).1;refine On.DJ hf (H.set 0 rfl rfl rfl rfl (by simp) ?_ ?_)
 · simp[Array.getElem?_setIfInBounds,dW]
 intro k hk;simp[Array.getElem?_setIfInBounds,Ne.symm hk]
theorem wq(k1 k2:IntKind)(H:On W0 L w):nr P ρ ⟨d,.makeMap t none,ty,pos,af,g⟩ w (fun v w'=>∃b,v=.map (some b)∧On W0 (eS b k1 k2 [] 0::L) w'):=by
 refine .inl ⟨.map (some w.heap.size),w.alloc (.map #[] 0), ?_,_,rfl,On.DJ List.nodup_nil (H.alloc _)⟩;have hn:(newObj (.map #[] 0)).run P w=.ok w.heap.size (w.alloc (.map #[] 0)):=rfl;simp[execOp,Instr.makeMap,hn]
theorem kE{kvs:List KS}(hb:w.heap[b]? =some (k8 k1 k2 kvs ck)):(getObj b).run P w=.ok (.map (kvs.map (mL k1 k2)).toArray ck) w:=MapKept.run_getObj_map (by exact hb)
theorem Ch{z:Value}{o:Bool}{kvs:List KS}(hk:jT P kt k1 k2)(hb:w.heap[b]? =some (k8 k1 k2 kvs ck))(hU:P.underlying t=some (.map kt et))(hZ:∀w,(zeroValue et).run P w=.ok z w)(hx:ρ x=.map (some b))(hy:ρ y=jl k1 k2 p)
   (hv:(kD kvs p).getD z=v) (ho:(kD kvs p).isSome=o):(execOp ρ ⟨d,.lookup t x y true,ty,pos,af,g⟩).run P w=.ok (.value (.tuple #[v,.bool o])) w:=by
 subst hv;subst ho;have hf:=qg (w:=w) hk p kvs;have se:=kE (P:=P) hb;rw[DH];have BQ:∀e,(Instr.checkKey e 10000 kt (jl k1 k2 p)).run P w=.ok () w:=fun e=>nW hk e p;cases oK:kvs.findIdx? fun x=>x.1==p with
 | none=>
   rw[oK] at hf;simp only[Option.bind_none] at hf⊢;simp[execOp,Instr.lookup,run_underlying hU,hx,hy,se,BQ,hf,hZ]
 | some j=>
   rw[oK] at hf;have hj:=(List.findIdx?_eq_some_iff_getElem.1 oK).1;have hg:kvs[j]? =some kvs[j]:=by simp
   simp only[Option.bind_some,hg,Option.map_some] at hf⊢;simp[execOp,Instr.lookup,run_underlying hU,hx,hy,se,BQ,hf]
theorem G0{z:Value}{kvs:List KS}(hk:jT P kt k1 k2)(hb:w.heap[b]? =some (k8 k1 k2 kvs ck))(hU:P.underlying t=some (.map kt et))(hZ:∀w,(zeroValue et).run P w=.ok z w)(hx:ρ x=.map (some b))(hy:ρ y=jl k1 k2 p)
   (hv:(kD kvs p).getD z=v):(execOp ρ ⟨d,.lookup t x y false,ty,pos,af,g⟩).run P w=.ok (.value v) w:=by
 subst hv;have hf:=qg (w:=w) hk p kvs;have se:=kE (P:=P) hb;rw[DH];have BQ:∀e,(Instr.checkKey e 10000 kt (jl k1 k2 p)).run P w=.ok () w:=fun e=>nW hk e p;cases oK:kvs.findIdx? fun x=>x.1==p with
 | none=>
   rw[oK] at hf;simp only[Option.bind_none] at hf⊢;simp[execOp,Instr.lookup,run_underlying hU,hx,hy,se,BQ,hf,hZ]
 | some j=>
   rw[oK] at hf;have hj:=(List.findIdx?_eq_some_iff_getElem.1 oK).1;have hg:kvs[j]? =some kvs[j]:=by simp
   simp only[Option.bind_some,hg,Option.map_some] at hf⊢;simp[execOp,Instr.lookup,run_underlying hU,hx,hy,se,BQ,hf]
theorem G1:(Instr.keyThatStays (jl k1 k2 p) (jl k1 k2 p)).run P w=.ok (jl k1 k2 p) w:=by
 have h:Instr.sameBits 10000 (jl k1 k2 p) (jl k1 k2 p)=true:=by
   rw[show(10000:Nat)=9999+1 from rfl]
   have h9:∀k a,Instr.sameBits 9999 (.int k a) (.int k a)=true:=fun k a=>by
     rw[show(9999:Nat)=9998+1 from rfl];simp[Instr.sameBits]
   unfold jl Instr.sameBits;simp[h9]
 unfold Instr.keyThatStays;rw[if_pos h];rfl
theorem G2{kvs:List KS}{j:Nat}(hn:(kvs.map (·.1)).Nodup)(hj:(kvs.findIdx? fun x=>x.1==p)=some j)(ck:Nat):
   ((kvs.map (mL k1 k2)).toArray.modify j fun e=>{e with key:=jl k1 k2 p,val:=v})=((wo kvs p v ck).map (mL k1 k2)).toArray:=by
 obtain⟨dW,hk,_⟩:=List.findIdx?_eq_some_iff_getElem.1 hj;have tN:kvs.any (fun x=>x.1==p)=true:=List.any_eq_true.2 ⟨kvs[j],by simp,hk⟩;have Sv:kvs[j].1=p:=by simpa using hk
 unfold wo;rw[if_pos tN];apply Array.ext
 · simp
 intro i h1 h2;simp at h1 h2;by_cases Te:i=j
 · subst Te
   simp[Array.getElem_modify,mL,Sv]
 have l5:kvs[i].1≠p:=by
   intro he;have h3:(kvs.map (·.1))[i]'(by simpa using h1)=(kvs.map (·.1))[j]'(by simpa using dW):=by simp[he,Sv]
   exact Te ((List.getElem_inj hn).1 h3)
 simp[Array.getElem_modify,Ne.symm Te,l5]
theorem Nc{kvs:List KS}:(wo kvs p v ck).map (·.1)=if kvs.any (fun x=>x.1==p) then kvs.map (·.1) else kvs.map (·.1)++[p]:=by
 unfold wo;split
 · rw[List.map_map]
   refine List.map_congr_left fun x _=> ?_;show(if x.1=p then(p,v,x.2.2) else x).1=x.1;split
   · rename_i he;exact he.symm
   rfl
 rw[List.map_append];rfl
theorem G3{kvs:List KS}(h:xI kvs ck):xI (wo kvs p v ck) (pI kvs p ck):=by
 unfold xI;rw[Nc];split
 · exact h
 rename_i ha;refine List.nodup_append.2 ⟨h,by simp, ?_⟩;intro a WS b wV;simp at wV;subst wV;rintro rfl;obtain⟨y,hy,he⟩:=List.mem_map.1 WS;exact ha (List.any_eq_true.2 ⟨y,hy,by simpa using he⟩)
theorem Bn{m:Operand}{kvs:List KS}(hk:jT P kt k1 k2)(H:On W0 (eS b k1 k2 kvs ck::L) w)(hU:P.underlying t=some (.map kt et))(hm:ρ m=.map (some b))(hy:ρ y=jl k1 k2 p)(hx:ρ x=v):
   nr P ρ ⟨d,.mapUpdate t m y x,ty,pos,af,g⟩ w (fun _ w'=>On W0 (eS b k1 k2 (wo kvs p v ck) (pI kvs p ck)::L) w'):=by
 obtain⟨fe,hb⟩:=H.DI;have hO:=H.zL (G3 (p:=p) (v:=v) fe);have hf:=qg (w:=w) hk p kvs;have se:=kE (P:=P) hb;have FQ:∀o,(setObj b o).run P w=.ok () {w with heap:=w.heap.setIfInBounds b o}:=fun o=>MapKept.run_setObj_map o (by exact hb);have BQ:∀e,(Instr.checkKey e 10000 kt (jl k1 k2 p)).run P w=.ok () w:=fun e=>nW hk e p;refine .inr (.inl ⟨_, ?_,hO⟩);cases oK:kvs.findIdx? fun x=>x.1==p with
 | none=>
   rw[oK] at hf;simp only[Option.bind_none] at hf
   have tN:kvs.any (fun x=>x.1==p)=false:=by
     rw[List.any_eq_false];intro x hx;have:=List.findIdx?_eq_none_iff.1 oK x hx;simpa using this
   have e1:k8 k1 k2 (wo kvs p v ck) (pI kvs p ck)=.map ((kvs.map (mL k1 k2)).toArray.push {key:=jl k1 k2 p,val:=v,born:=ck}) (ck+1):=by
     unfold k8 wo pI;rw[if_neg (by rw[tN];decide),if_neg (by rw[tN];decide)];simp[mL]
   rw[e1];simp[execOp,Instr.mapUpdate,run_underlying hU,hm,hy,hx,se,BQ,hf,FQ]
 | some j=>
   rw[oK] at hf;have hj:=(List.findIdx?_eq_some_iff_getElem.1 oK).1;have Ol:=(List.findIdx?_eq_some_iff_getElem.1 oK).2.1;have hg:kvs[j]? =some kvs[j]:=by simp
   simp only[Option.bind_some,hg,Option.map_some] at hf;have tN:kvs.any (fun x=>x.1==p)=true:=List.any_eq_true.2 ⟨kvs[j],by simp,Ol⟩;have Sv:kvs[j].1=p:=by simpa using Ol
   have e1:k8 k1 k2 (wo kvs p v ck) (pI kvs p ck)=.map ((kvs.map (mL k1 k2)).toArray.modify j fun e=>{e with key:=jl k1 k2 p,val:=v}) ck:=by
     unfold k8 pI;rw[if_pos tN,G2 fe oK ck]
   rw[e1];simp[execOp,Instr.mapUpdate,run_underlying hU,hm,hy,hx,se,BQ,hf,FQ,hg,mL,Sv,G1]
end
end Go.Sl
namespace Go.Sl
open Go
variable{b ck et t:Nat}{m x y:Operand}{p:Int×Int}{z:Value}
theorem qi{α β:Type}(f:α→β):∀(l:List α) (i:Nat),(l.map f).eraseIdx i=(l.eraseIdx i).map f
 |[],_=>by simp
 |_::_,0=>by simp
 |x::l,i+1=>by simp[qi f l i]
theorem yD{α:Type}(f:α→α):∀(l:List α) (x:α),(l++[x]).modify l.length f=l++[f x]
 |[],x=>rfl
 |y::l,x=>by simp[yD f l x]
def rP(l:List KS)(k:Int×Int):List KS:=l.eraseP fun x=>x.1==k
section
variable{P:Program}{W0 w:World}{L:List aC}{ρ:Operand→Value}{d:Option Nat}{ty:TypeId}{pos:String}{af:Array Edge}{g:Option (Nat×Bool)}{kt:TypeId}{k1 k2:IntKind}
theorem Qr{kvs:List KS}(h:xI kvs ck):xI (rP kvs p) ck:=by
 unfold xI rP at*;exact(List.eraseP_sublist.map _).nodup h
theorem yE{kvs:List KS}{qK:Array TypeId}(hk:jT P kt k1 k2)(H:On W0 (eS b k1 k2 kvs ck::L) w)(ht:qK[0]? =some t)(EP:qK[1]? =some kt)(hU:P.underlying t=some (.map kt et))(hm:ρ m=.map (some b))(hy:ρ y=jl k1 k2 p):
   nr P ρ ⟨d,.call {callee:=.builtin .delete,args:=#[m,y],argTypes:=qK},ty,pos,af,g⟩ w (fun _ w'=>On W0 (eS b k1 k2 (rP kvs p) ck::L) w'):=by
 obtain⟨fe,hb⟩:=H.DI;have hO:=H.zL (Qr (p:=p) fe);have hf:=qg (w:=w) hk p kvs;have se:=kE (P:=P) hb;have FQ:∀o,(setObj b o).run P w=.ok () {w with heap:=w.heap.setIfInBounds b o}:=fun o=>MapKept.run_setObj_map o (by exact hb);have BQ:∀e,(Instr.checkKey e 10000 kt (jl k1 k2 p)).run P w=.ok () w:=fun e=>nW hk e p;refine .inl ⟨.tuple #[],_, ?_,hO⟩
 have e0:rP kvs p=match kvs.findIdx? fun x=>x.1==p with|none=>kvs|some i=>kvs.eraseIdx i:=by
   unfold rP;rw[List.eraseP_eq_eraseIdx];rfl
 cases oK:kvs.findIdx? fun x=>x.1==p with
 | none=>
   rw[oK] at hf e0;simp only[Option.bind_none] at hf e0;have e1:k8 k1 k2 (rP kvs p) ck=.map (kvs.map (mL k1 k2)).toArray ck:=by rw[e0];rfl
   rw[e1];simp[execOp,resolve,invoke,builtin,hm,hy,Builtin.delete_,ht,EP,run_underlying hU,se,FQ,BQ,hf]
 | some j=>
   rw[oK] at hf e0;have hj:=(List.findIdx?_eq_some_iff_getElem.1 oK).1;have hg:kvs[j]? =some kvs[j]:=by simp
   simp only[Option.bind_some,hg,Option.map_some] at hf e0
   have e1:k8 k1 k2 (rP kvs p) ck=.map ((kvs.map (mL k1 k2)).toArray.eraseIdxIfInBounds j) ck:=by
     rw[e0];unfold k8
     congr 1
     rw[Array.eraseIdxIfInBounds,dif_pos (by simpa using hj)];simp;exact(qi _ _ _).symm
   rw[e1];simp[execOp,resolve,invoke,builtin,hm,hy,Builtin.delete_,ht,EP,run_underlying hU,se,FQ,BQ,hf,hg]
theorem Nf{v:Value}{kvs:List KS}(hk:jT P kt k1 k2)(H:On W0 (eS b k1 k2 kvs ck::L) w)(hU:P.underlying t=some (.map kt et))(hZ:∀w,(zeroValue et).run P w=.ok z w)(hx:ρ x=.map (some b))(hy:ρ y=jl k1 k2 p)
   (hv:(kD kvs p).getD z=v):nr P ρ ⟨d,.lookup t x y false,ty,pos,af,g⟩ w (fun v' w'=>v'=v∧On W0 (eS b k1 k2 kvs ck::L) w'):=
 .inl ⟨v,w,G0 hk H.DI.2 hU hZ hx hy hv,rfl,H⟩
theorem G4{kvs:List KS}(hk:jT P kt k1 k2)(H:On W0 (eS b k1 k2 kvs ck::L) w)(hU:P.underlying t=some (.map kt et))(hZ:∀w,(zeroValue et).run P w=.ok z w)(hx:ρ x=.map (some b))(hy:ρ y=jl k1 k2 p):
   nr P ρ ⟨d,.lookup t x y true,ty,pos,af,g⟩ w (fun v' w'=>v'=.tuple #[(kD kvs p).getD z,.bool (kD kvs p).isSome]∧On W0 (eS b k1 k2 kvs ck::L) w'):=
 .inl ⟨_,w,Ch hk H.DI.2 hU hZ hx hy rfl rfl,rfl,H⟩
theorem Bo{kvs:List KS}(h:kD kvs p=none):(kvs.findIdx? fun x=>x.1==p)=none:=by
 rw[List.findIdx?_eq_none_iff];intro x hx;unfold kD at h;rw[Option.map_eq_none_iff,List.find?_eq_none] at h;simpa using h x hx
theorem uk{kvs:List KS}(hk:jT P kt k1 k2)(H:On W0 (eS b k1 k2 kvs ck::L) w)(hn:kD kvs p=none)(hU:P.underlying t=some (.map kt et))(hZ:∀w,(zeroValue et).run P w=.ok z w)(hm:ρ m=.map (some b))(hy:ρ y=jl k1 k2 p):
   nr P ρ ⟨d,.mapEntry t m y,ty,pos,af,g⟩ w (fun v w'=>v=.tuple #[z,.int .i64 (ck:Int)]∧On W0 (eS b k1 k2 (kvs++[(p,z,ck)]) (ck+1)::L) w'):=by
 obtain⟨fe,hb⟩:=H.DI;have hi:=Bo hn
 have tN:kvs.any (fun x=>x.1==p)=false:=by
   rw[List.any_eq_false];intro x hx;have:=List.findIdx?_eq_none_iff.1 hi x hx;simpa using this
 have hO:=H.zL (G3 (p:=p) (v:=z) fe);have e1:wo kvs p z ck=kvs++[(p,z,ck)]:=by unfold wo;rw[if_neg (by rw[tN];decide)]
 have e2:pI kvs p ck=ck+1:=by unfold pI;rw[if_neg (by rw[tN];decide)]
 rw[e1,e2] at hO;have hf:=qg (w:=w) hk p kvs;rw[hi] at hf;simp only[Option.bind_none] at hf;have se:=kE (P:=P) hb;have FQ:∀o,(setObj b o).run P w=.ok () {w with heap:=w.heap.setIfInBounds b o}:=fun o=>MapKept.run_setObj_map o (by exact hb);have BQ:∀e,(Instr.checkKey e 10000 kt (jl k1 k2 p)).run P w=.ok () w:=fun e=>nW hk e p;refine .inl ⟨.tuple #[z,.int .i64 (ck:Int)],_, ?_,rfl,hO⟩
 have e3:k8 k1 k2 (kvs++[(p,z,ck)]) (ck+1)=.map ((kvs.map (mL k1 k2)).toArray.push {key:=jl k1 k2 p,val:=z,born:=ck}) (ck+1):=by
   unfold k8;simp[mL]
 rw[e3];simp[execOp,Instr.mapEntry,run_underlying hU,hm,hy,se,BQ,hf,FQ,hZ,goInt]
theorem um{v:Value}{kvs:List KS}{c0:Nat}(H:On W0 (eS b k1 k2 (kvs++[(p,z,c0)]) ck::L) w)(hb0:∀x∈kvs,x.2.2<c0)(hm:ρ m=.map (some b))(hy:ρ y=.int .i64 (c0:Int))(hx:ρ x=v):
   nr P ρ ⟨d,.entryStore t m y x,ty,pos,af,g⟩ w (fun _ w'=>On W0 (eS b k1 k2 (kvs++[(p,v,c0)]) ck::L) w'):=by
 obtain⟨fe,hb⟩:=H.DI
 have Qo:xI (kvs++[(p,v,c0)]) ck:=by
   unfold xI at*;rw[List.map_append] at fe⊢;exact fe
 have hO:=H.zL Qo;have se:=kE (P:=P) hb;have FQ:∀o,(setObj b o).run P w=.ok () {w with heap:=w.heap.setIfInBounds b o}:=fun o=>MapKept.run_setObj_map o (by exact hb);refine .inr (.inl ⟨_, ?_,hO⟩)
 have ahb:((kvs++[(p,z,c0)]).map (mL k1 k2)).toArray.findIdx? (fun e=>(e.born:Int)==(c0:Int))=some kvs.length:=by
   rw[List.findIdx?_toArray,List.map_append,List.findIdx?_append]
   have h1:(kvs.map (mL k1 k2)).findIdx? (fun e=>(e.born:Int)==(c0:Int))=none:=by
     rw[List.findIdx?_eq_none_iff];intro e he;obtain⟨y,hy,rfl⟩:=List.mem_map.1 he;have:=hb0 y hy;simp[mL];omega
   rw[h1];simp[mL,List.findIdx?_cons]
 have e1:k8 k1 k2 (kvs++[(p,v,c0)]) ck=.map (((kvs++[(p,z,c0)]).map (mL k1 k2)).toArray.modify kvs.length fun e=>{e with val:=v}) ck:=by
   unfold k8
   congr 1
   have e2:=yD (fun e:MapEntry=>{e with val:=v}) (kvs.map (mL k1 k2)) (mL k1 k2 (p,z,c0));rw[List.length_map] at e2;rw[List.modify_toArray,List.map_append,List.map_append,List.map_singleton,List.map_singleton,e2];rfl
 rw[e1];have hai:(asInt (.int .i64 (c0:Int))).run P w=.ok (c0:Int) w:=rfl
 have Iz:(Instr.entryStore t (.map (some b)) (.int .i64 (c0:Int)) v).run P w=.ok () {w with heap:=w.heap.setIfInBounds b (.map (((kvs++[(p,z,c0)]).map (mL k1 k2)).toArray.modify kvs.length fun e=>{e with val:=v}) ck)}:=by
   unfold Instr.entryStore;simp only[Sem.run_bind,se,Result.andThen,hai];rw[ahb];exact FQ _
 simp[execOp,hm,hy,hx,Iz]
end
end Go.Sl
namespace Go.Sl.rH
open Go Go.Sl Go.Sl.eM Go.Sl.gW Go.Sl.kM Go.Sl.pe Go.Sl.pM Go.Sl.mG Go.Sl.pO Go.Sl.pN
open Go.Sl.oB (wr)
structure kJ where
 hd:Hd
 tn:Nat
 es:List En
 cn:Nat
structure Ci where
 e:Nat
 p:Nat
 m:Nat
structure rQ where
 run:Nat
 dO:Nat
 lK:Bool
 oD:Nat
structure xJ where
 index:Nat
 host:Int
 id:Nat
 c:Cm
abbrev Ig:=List KV×Nat
abbrev Cj:=List KS×Nat
structure Nd where
 self:Nat
 blocks:Nat
 bQ:Nat
 s:kJ
 now:Int
 out:List Pk
 bD:List xJ
 unit:Un
 aW:Nat
 iB:Ci
 known:Bool
 asked:Ig
 heard:Int
 aH:Bool
 count:Nat
 run:Option rQ
 both:Bool
 want:Option Ci
 seen:Int
 wait:Option Cj
 log:Option Cj
 cZ:Nat
 dO:Nat
 dV:Nat
 kept:Int
def gu(s:kJ):Nat:=s.hd.base+s.es.length
def mY(s:kJ)(i:Nat):Option En:=if i≤s.hd.base then none else s.es[i - s.hd.base - 1]?
def aci(s:kJ)(h:Hd):kJ:={s with hd:=h,tn:=s.tn+1,cn:=s.cn+2}
def kG(s:kJ)(e:Nat):Option kJ:=
 if e<s.hd.bl then none else if e=s.hd.bl then some s
 else if e<uT∧s.tn+1<uT∧s.cn≤900000000 then some (aci s {s.hd with bl:=e}) else none
def wu(s:kJ)(e:En):Option kJ:=
 if e.idx=gu s+1∧e.ep<uT∧e.data.length≤2000∧ow.jB (s.es.map mQ)+ow.bO (mQ e).length≤256∧s.hd.base+s.es.length<4000000000000000000∧s.hd.first+s.es.length<4000000000000000000∧s.cn≤900000000∧s.es.length<1000 then
   some {s with es:=s.es++[e],cn:=s.cn+1+ow.bO (mQ e).length} else none
def mM(s:kJ):Prop:=s.hd.base+s.es.length<4000000000000000000∧s.es.length≤1000
instance(s:kJ):Decidable (mM s):=by unfold mM;infer_instance
abbrev cB(n:Nd):Nat:=gu n.s
abbrev lW(n:Nd):Nat:=n.s.hd.bl
def jm(s:kJ)(i:Nat):Nat:=match mY s i with|some e=>e.ep|none=>0
abbrev sQ(n:Nd)(i:Nat):Nat:=jm n.s i
def uo(n:Nd)(to:Int)(d:Dt):Option Nd:=if n.out.length≤1000 then some {n with out:=n.out++[⟨to,d⟩]} else none
def yF(n:Nd)(m:Ms):Option Nd:=if Qe {m with bl:=lW n}=true∧m.data.length≤1000 then uo n 1 (.ms {m with bl:=lW n}) else none
abbrev zo(m i:Nat):Bool:=decide (m / 2^i % 2=1)
abbrev KZ(n:Nd)(i:Nat):Bool:=zo n.iB.m i
def mZ(n:Nd):Nd:={n with cZ:=n.bQ*4294967296+(n.dV+1) % 4294967296,dO:=0,dV:=(n.dV+1) % 4294967296,kept:=n.now}
def Bp(n:Nd):Option Nd:=if mM n.s∧n.s.hd.bl≠0 then yF n ⟨6,0,n.cZ,0,cB n,sQ n (cB n),0,[]⟩ else none
abbrev xK(n:Nd)(m:Ms):Bool:=decide (n.dO≠0)&&decide (m.run=n.cZ)&&decide (m.dO=n.dO)
def wA(n:Nd):Option Nd:=if mM n.s then yF n ⟨10,0,n.cZ,n.dO,cB n,0,0,[]⟩ else none
def Bq(n:Nd)(e:Nat):Option Nd:=if n.s.hd.bl=0 then none else(kG n.s e).map fun s=>{n with s:=s}
def K0(m:Cj)(k:Int×Int)(v:Value):Cj:=(wo m.1 k v m.2,pI m.1 k m.2)
def G5(n:Nd)(host:Int)(id:Nat)(r:Rp)(done:Bool)(hint:Int):Option Nd:=if r.data.length≤100000∧id<uT then uo n (wr (16+host)) (.JC ⟨host,id,r,done,hint⟩) else none
def dS(host:Int)(id:Nat):Int×Int:=(host,(id:Int))
def tI(n:Nd)(o:Od)(r:Rp)(fresh:Bool):Option Nd:=
 if n.aH then
   n.wait.bind fun wt=>n.log.bind fun lg=>
     (if(kD wt.1 (dS o.host o.id)).isSome=true∧(fresh=true∨r.st≠8) then G5 n o.host o.id r true 0 else some n).map fun n=>
       {n with wait:=some (rP wt.1 (dS o.host o.id),wt.2),log:=some (rP lg.1 (dS o.host o.id),lg.2)}
 else some n
def quiet(u:Un):Bool:=decide (u.t.hold= -1)&&u.g.all fun g=>g.dN.isEmpty&&g.done.all fun x=>decide (x.2.data.length≤1000)
def K1(u:Un)(o:Od):Option (Un×Rp×Bool):=
 if quiet u=true∧0≤o.host∧o.host<8∧(o.c.kind=2∨o.c.kind=3∨o.c.kind=6)∧o.c.data.length≤1000 then some (qc u o.host.toNat o.id o.floor o.c) else none
def wB(n:Nd):Option Nd:=if n.s.hd.base≤n.aW∧n.aW - n.s.hd.base≤32∧n.aW<uT then some n else none
def V6(n:Nd)(e:En):Option Nd:=if xC e.data=true∧n.bD.length≤1000∧n.aW+1<uT then
   (K1 n.unit (EJ e.data).1).bind fun x=>
     tI {n with aW:=n.aW+1,unit:=x.1,bD:=if x.2.2 then n.bD++[⟨n.aW+1,(EJ e.data).1.host,(EJ e.data).1.id,(EJ e.data).1.c⟩] else n.bD} (EJ e.data).1 x.2.1 x.2.2
 else none
def uU:Nat→Nd→Nat→Option Nd
 |0,n,to=>if n.aW<to then none else some n
 |f+1,n,to=>if n.aW<to then(if mM n.s∧(n.s.es.all fun e=>decide (e.data.length≤900))=true then(mY n.s (n.aW+1)).bind fun e=>(V6 n e).bind fun n=>uU f n to else none) else some n
theorem JK{f:Nat}{n n3:Nd}{to:Nat}(hc:¬n.aW<to)(h:uU f n to=some n3):n3=n:=by
 cases f<;>(unfold uU at h;rw[if_neg hc] at h;exact(Option.some.inj h).symm)
def applyN(n:Nd)(to:Nat):Option Nd:=(uU (to - n.aW) n to).bind wB
abbrev tJ(n:Nd):Bool:=KZ n (1 - n.self)||n.both
abbrev Qs(n:Nd):Bool:= !tJ n&&decide (n.iB.e=lW n)
def jQ(n:Nd):Option Nd:=
 if mM n.s then
   if tJ n then
     match n.run with
     |none=>some n
     |some r=>if r.lK then applyN n (min (cB n) r.oD) else some n
   else applyN n (cB n)
 else none
def nX(n:Nd)(i:Nat):Option Nd:=n.run.bind fun r=>if mM n.s∧1≤i∧n.s.es.all (fun e=>decide (e.data.length≤900)&&decide (e.ep<uT))=true then
   (mY n.s i).bind fun e=>yF n ⟨9,0,r.run,r.dO,i,sQ n (i - 1),n.aW,be e.ep 8++e.data⟩
 else none
def Qt(n:Nd)(x:Nat)(r:Ci):Option Nd:=if r.e<uT∧x<uT then uo {n with asked:=(iR n.asked.1 r.e (.bool true) n.asked.2,fV n.asked.1 r.e n.asked.2)} 2 (.Uj x r.e r.p r.m) else none
def K2(n:Nd)(m:Nat):Option Nd:=
 if n.iB.e≠lW n then none
 else match n.want with
   |some _=>none
   |none=>if n.iB.e+1<uT then Qt {n with want:=some ⟨n.iB.e+1,n.self,m⟩} n.iB.e ⟨n.iB.e+1,n.self,m⟩ else none
def Qu(n:Nd):Option Nd:=K2 n (2^n.self)
def EV(n:Nd):Option Nd:=n.run.bind fun r=>if r.lK then none else yF n ⟨7,0,r.run,r.dO,0,0,n.aW,[]⟩
def yG(n:Nd):Option Nd:=match n.run with
 |none=>some n
 |some r=>if mM n.s then
     if r.lK=true∧r.oD=cB n∧Qs n=true∧n.want.isNone=true then K2 {n with both:=true,seen:=n.now} 3 else some n
   else none
def UB(n:Nd):Nat×Nat:=match n.run with|none=>(0,0)|some r=>(r.run,r.dO)
def yH(n:Nd):Option Nd:=if mM n.s then yF n ⟨11,0,(UB n).1,(UB n).2,cB n,0,n.aW,[]⟩ else none
def sR:Nat→Nd→Nat→Nat→Option Nd
 |0,n,i,to=>if i≤to then none else some n
 |f+1,n,i,to=>if i≤to then(nX n i).bind fun n=>sR f n (i+1) to else some n
def qj(n:Nd)(from_:Nat):Option Nd:=n.run.bind fun r=>if mM n.s∧r.oD+9<uT then sR 9 n (max from_ (r.oD+1)) (min (cB n) (r.oD+8)) else none
def Ng(n:Nd)(m:Ms):Option Nd:=match n.run with
 |none=>if n.aH=false then some n else none
 |some r=>if mM n.s∧n.aH=true∧m.run=r.run∧m.dO=r.dO∧m.index≤cB n∧m.index+9<uT∧r.oD+9<uT then
     (jQ {n with run:=some {r with oD:=max r.oD m.index,lK:=true},seen:=n.now}).bind fun n2=>
     (qj n2 ((if r.lK then r.oD+8 else m.index)+1)).bind yG
   else none
def acj(n:Nd)(last bl:Nat):Bool:=decide (n.s.hd.base≤last)&&decide (last≤cB n)&&decide (sQ n last=bl)
def xL(n:Nd)(m:Ms):Option Nd:=
 if n.aH=false then some n
 else if lW n<m.bl then none
 else if mM n.s∧m.aW=0∧acj n m.index m.prev=true∧(match n.run with|none=>true|some r=>decide (r.run≠m.run))=true then
   EV {n with count:=(n.count+1) % 4294967296,run:=some ⟨m.run,n.bQ*4294967296+(n.count+1) % 4294967296,false,0⟩}
 else none
def G6(n:Nd)(bl:Nat):Option Nd:=(kG n.s bl).bind fun s=>
 if n.aH then
   (jQ {n with s:=s,both:=false,want:=none,seen:=n.now}).bind fun n=>yG n
 else if mM s then
   (applyN (mZ {n with s:=s,aH:=true,run:=none,both:=false,want:=none,seen:=n.now,wait:=some ([],0),log:=some ([],0)}) (gu s)).bind fun n=>yH n
 else none
def EW(n:Nd)(re rp:Nat):Option Nd:=
 if KZ n n.self=true∧0<re∧(rp=n.self∨10≤wr (n.now - n.heard)) then
   if re+1<uT then Qt n re ⟨re+1,n.self,2^n.self⟩ else none
 else some n
def uV(n:Nd)(r:Ci):Option Nd:=
 if n.known=true∧r.e<n.iB.e then none
 else
   let n1:Nd:={n with iB:=r,known:=true}
   if n.s.hd.bl=0 then none
   else if n.aH=true∧r.e≤lW n then some n1
   else
     let cZ:=decide (r.p=n.self)&&(dL n.asked.1 r.e).isSome
     if n.aH=true∧cZ=false then none
     else if cZ=true∧lW n<r.e then G6 n1 r.e
     else if n.aH then none
     else EW n1 r.e r.p
def K3(n:Nd)(m:Ms):Option Nd:=
 if m.run=n.cZ∧m.dO≠0∧n.dO≠m.dO∧n.dO=0∧m.prev=0 then(Bq {n with dO:=m.dO,kept:=n.now} m.bl).bind wA else none
def EY(n:Nd)(m:Ms):Option Nd:=
 if xK n m=false then some n
 else(Bq n m.bl).bind fun n=>
   if mM n.s∧8≤m.data.length∧m.index=cB n+1∧m.prev=sQ n (cB n) then
     (wu n.s ⟨m.index,uJ (m.data.take 8),m.data.drop 8⟩).bind fun s=>if mM s then
     (applyN {n with s:=s,kept:=n.now} (min m.aW (gu s))).bind wA else none
   else none
def zM(n:Nd)(m:Ms):Option Nd:=
 if n.dO≠0∧xK n m=false then(Bp (mZ n))
 else if n.dO=0 then some n
 else(Bq n m.bl).bind fun n=>
   if mM n.s then(applyN {n with kept:=n.now} (min m.aW (cB n))).bind wA else none
def UC(n:Nd)(m:Ms):Option Nd:=
 if m.bl<lW n∨n.aH=true then none
 else
   let n1:Nd:={n with heard:=n.now}
   if m.kind=7 then K3 n1 m else if m.kind=9 then EY n1 m else if m.kind=11 then zM n1 m else none
def Qv(n:Nd)(m:Ms):Option Nd:=
 if m.kind=6 then xL n m else if m.kind=10 then Ng n m
 else if m.kind=7∨m.kind=9∨m.kind=11 then UC n m else none
def tV(m:Cj)(k:Int×Int)(v:Value):Cj:=(m.1++[(k,v,m.2)],m.2+1)
def sH(m:Cj)(k:Int×Int):Bool:=(kD m.1 k).isNone&&m.1.all fun x=>decide (x.2.2<m.2)
def EZ(n:Nd)(k:Int×Int)(o:Od):Option Nd:=n.wait.bind fun wt=>n.log.bind fun lg=>if mM n.s∧sH wt k=true∧sH lg k=true∧Cb o=true∧o.c.data.length≤1000 then
     (wu n.s ⟨cB n+1,lW n,GB o⟩).bind fun s=>
       let n1:Nd:={n with s:=s,wait:=some (tV wt k (.bool true)),log:=some (tV lg k (.int .u64 ((cB n+1:Nat):Int)))}
       (match n.run with
         |none=>some n1
         | some r => if r.oD + 8 < uT then if r.lK = true ∧ cB n + 1 ≤ r.oD + 8 then nX n1 (cB n + 1) else some n1 else none).bind jQ
   else none
def wC(n:Nd)(wt lg:Cj)(host:Int)(o:Od)(r:Rp)(fresh:Bool):Option Nd:=
 if(kD lg.1 (dS host o.id)).isSome then some {n with wait:=some (K0 wt (dS host o.id) (.bool true))}
 else if fresh then EZ n (dS host o.id) o
 else if r.st≠8 then G5 n host o.id r true 0
 else none
def wD(n:Nd)(host:Int)(o:Od):Option Nd:=
 if o.host≠host∨o.host<0∨7<o.host∨1000<o.c.data.length then none
 else if n.aH=false then G5 n host o.id V4 false (if wr (n.now - n.heard)<10∧n.dO≠0 then 1 - (n.self:Int) else -1)
 else n.wait.bind fun wt=>n.log.bind fun lg=>(K1 n.unit o).bind fun x=>wC n wt lg host o x.2.1 x.2.2
def Ya(n:Nd)(from_:Int)(d:Dt):Option Nd:=
 if d.ok then match d with
   | .iB e p m=>if from_=2 then uV n ⟨e,p,m⟩ else none
   | .ms m=>if from_=1 then Qv n m else none
   | .JB o=>if 16≤from_ then wD n (wr (from_ - 16)) o else none
   |_=>none
 else none
def wE(n:Nd):Option Nd:=
 let n1:=if n.dO≠0∧10≤wr (n.now - n.kept) then mZ n else n
 if n1.dO=0∧n1.now.tmod 2=0 then Bp n1 else some n1
def E0(n:Nd):Option Nd:=
 if(match n.run with|none=>true|some r=>if r.lK then decide (n.s.hd.base≤r.oD) else decide (n.s.hd.base=0))=true then
   (if n.now.tmod 2 = 0 then (yH n).bind fun n =>
       match n.run with
       |none=>some n
       |some r=>if r.lK then qj n 0 else none
     else some n).bind fun n =>
   (if tJ n=true∧10≤wr (n.now - n.seen) then Qu n else some n).bind fun n=>
   (yG n).bind fun n=>
   if n.now.tmod 3≠0 then some n
   else match n.want with
     |some w=>if 1≤w.e∧w.e<uT∧w.p≤255∧w.m≤255 then Qt n (w.e - 1) w else none
     |none=>if n.iB.e≠lW n then none else some n
 else none
def K4(n:Nd):Option Nd:=
 let n1:Nd:={n with now:=wr (n.now+1)}
 if n1.aH then E0 n1
 else(if n1.now.tmod 3=0∧(n1.known=false∨n1.iB.p=n1.self∨10≤wr (n1.now - n1.heard)) then uo n1 2 .get else some n1).bind wE
def mC(s:kJ):Option kJ:=if s.hd.aJ+1<4294967296∧s.tn+1<uT∧s.cn≤900000000∧mM s∧s.hd.first≤4000000000000000000 then some {s with hd:={s.hd with aJ:=s.hd.aJ+1},tn:=s.tn+1,cn:=s.cn+2} else none
def wF(self blocks:Nat)(s:kJ)(bQ:Nat):Option Nd:=(mC s).bind fun s=>
 if s.hd.base=0∧s.hd.size=0∧1≤blocks∧blocks≤1024 then
   some (mZ ⟨self,blocks,bQ,s,0,[],[],pE blocks,0,⟨0,0,0⟩,false,([],0),0,false,0,none,false,none,0,none,none,0,0,0,0⟩)
 else none
structure Jd where
 r:Ci
 tn:Nat
 out:List Pk
 cn:Nat
instance(p m:Int):Decidable (bK p m):=by unfold bK;infer_instance
def G7(w:Ci)(x:Nat)(r:Ci):Bool:=decide (w.e=x)&&decide (r.e=x+1)
def Br(j:Jd)(from_:Int):Option Jd:=if j.out.length≤1000 then some {j with out:=j.out++[⟨from_,.iB j.r.e j.r.p j.r.m⟩]} else none
def inJ(j:Jd)(from_:Int)(d:Dt):Option Jd:=
 if from_<0∨1<from_∨d.ok=false then none
 else match d with
   | .get=>Br j from_
   | .Uj x e p m=>if x+1<uT∧j.tn+1<uT∧j.cn≤900000000 then
       Br (if G7 j.r x ⟨e,p,m⟩ then{j with r:=⟨e,p,m⟩,tn:=j.tn+1,cn:=j.cn+2} else j) from_ else none
   |_=>none
end Go.Sl.rH
namespace Go.Sl
open Go Go.Sl.gW
structure Kd where
 α:Type
 P:Value→α→aC
def At(k:Kd)(v:Value)(x:k.α):aC:=k.P v x
class nL(k:Kd)(L:List aC)(v:Value)(x:outParam k.α)(L':outParam (List aC)):Prop where
 h:∀h,Sat L h→Sat (At k v x::L') h
section
variable{k:Kd}{L L':List aC}{v:Value}{x:k.α}{A:aC}{b e:Nat}{l:List Value}{aa:aE}
instance:nL k (At k v x::L) v x L:=⟨fun _ h=>h⟩
instance(priority:=low)[s:nL k L v x L']:nL k (A::L) v x (A::L'):=⟨fun h H=>(Sat.aI s.h H).swap⟩
class FB(L:List aC)(b:Nat)(l:outParam (List Value))(e:outParam Nat)(L':outParam (List aC)):Prop where
 h:∀h,Sat L h→Sat (aX b l e::L') h
instance:FB (aX b l e::L) b l e L:=⟨fun _ h=>h⟩
instance(priority:=low)[s:FB L b l e L']:FB (A::L) b l e (A::L'):=⟨fun h H=>(Sat.aI s.h H).swap⟩
class DK(L:List aC)(aa:outParam aE)(L':outParam (List aC)):Prop where
 h:∀h,Sat L h→Sat (aY aa::L') h
instance:DK (aY aa::L) aa L:=⟨fun _ h=>h⟩
instance(priority:=low)[s:DK L aa L']:DK (A::L) aa (A::L'):=⟨fun h H=>(Sat.aI s.h H).swap⟩
end
theorem iZ{α:Type}{p:Prop}[Decidable p]{x:Option α}{y:α}(h:(if p then x else none)=some y):p∧x=some y:=by
 by_cases c:p
 · rw[if_pos c] at h;exact⟨c,h⟩
 rw[if_neg c] at h;cases h
theorem Ck{α:Type}{p:Prop}[Decidable p]{x:Option α}{y:α}(h:(if p then none else x)=some y):¬p∧x=some y:=by
 by_cases c:p
 · rw[if_pos c] at h;cases h
 rw[if_neg c] at h;exact⟨c,h⟩
theorem cG{α β:Type}{o:Option α}{f:α→Option β}{y:β}(h:o.bind f=some y):∃a,o=some a∧f a=some y:=Option.bind_eq_some_iff.1 h
theorem q7{α β:Type}{o:Option α}{f:α→β}{y:β}(h:o.map f=some y):∃a,o=some a∧f a=y:=Option.map_eq_some_iff.1 h
class cI(p q:aE):Prop where
 h:∀x∈p,x∈q
instance cI.yZ{p:aE}:cI p p:=⟨fun _ h=>h⟩
theorem cI.trans{p q r:aE}(a:cI p q)(b:cI q r):cI p r:=⟨fun x h=>b.h x (a.h x h)⟩
theorem cI.cons{p:aE}{x:Value×List UInt8}:cI p (x::p):=⟨fun _ h=>List.mem_cons_of_mem _ h⟩
end Go.Sl
namespace Go.Proofs.YtcplmndikhjehaaGreat
open Go Go.Sl Go.Sl.eM Go.Sl.gW Go.Sl.kM Go.Sl.pe Go.Sl.pM Go.Sl.mG Go.Sl.pO Go.Sl.rH Go.Sl.pN Go.Sl.gU
open Go.Sl.oB (wr)
set_option maxHeartbeats 0
set_option maxRecDepth 8000
variable{b bd:Nat}{vr:Value}
variable{W0 w:World}{L F:List aC}
def tW(x:xJ×Value):List Value:=.int .u64 x.1.index:: .int .i64 x.1.host:: .int .u64 x.1.id::x.1.c.cells x.2
theorem Qw(x:xJ×Value):(tW x).length=11:=rfl
abbrev yI(aa:aE):Kd:=⟨List Pk,fun v l=>Ex fun(xo:List (Pk×Value))=>Pack (xo.map (·.1)=l∧cW aa (·.data) xo) [Own 2 v l.length (xo.flatMap mW)]⟩
abbrev G8(aa:aE):Kd:=⟨List xJ,fun v l=>Ex fun(xo:List (xJ×Value))=>Pack (xo.map (·.1)=l∧cW aa (·.c.data) xo) [Own 11 v l.length (xo.flatMap tW)]⟩
abbrev kK (b : Nat) : Kd := ⟨kJ, fun v s => Ex fun (x : Nat × Nat × Nat × ow.Rg × dA.Dk) => Pack (v = .pointer (some ⟨x.1, 0, none⟩) ∧ SI x.2.2.2.2 s.hd s.tn [] s.es x.2.2.2.1 ∧ x.2.2.2.2.calls ≤ s.cn)
 [gA 152 x.1 b x.2.1 x.2.2.1 s.hd [] s.es, dM 204 x.2.1 b 0 s.tn (mG.cK s.hd), ow.dz 311 x.2.2.1 b x.2.2.2.1, dA.aQ 109 221 b x.2.2.2.2]⟩
abbrev Ih(aa:aE):Kd:=⟨Un,fun v u=>Ex fun(x:Nat×List Nat)=>Pack (v=.pointer (some ⟨x.1,0,none⟩)) [qb 236 321 323 x.1 aa x.2 u]⟩
abbrev E1:Kd:=⟨Ig,fun v m=>Ex fun(b:Nat)=>Pack (v=.map (some b)∧∀x∈m.1,x.2.1=.bool true) [bV b .u64 m.1 m.2]⟩
abbrev xM : Kd := ⟨Option rQ, fun v r => match r with
 |none=>Pack (v=.pointer none) []
 | some r => Ex fun (b : Nat) => Pack (v = .pointer (some ⟨b, 0, none⟩)) [aX b [.int .u64 r.run, .int .u64 r.dO, .bool true, .bool true, .bool r.lK, .int .u64 r.oD, .slice none 0 0, .int .u64 0] 354]⟩
abbrev rI : Kd := ⟨Option Ci, fun v r => match r with
 |none=>Pack (v=.pointer none) []
 | some r => Ex fun (b : Nat) => Pack (v = .pointer (some ⟨b, 0, none⟩)) [aX b [.int .u64 r.e, .int .i64 r.p, .int .i64 r.m] 71]⟩
abbrev uq : Kd := ⟨Option Cj, fun v m => match m with
 |none=>Pack (v=.map none) []
 | some m => Ex fun (b : Nat) => Pack (v = .map (some b) ∧ ∀ x ∈ m.1, x.2.1 = .bool true) [eS b .i64 .u64 m.1 m.2]⟩
abbrev Cn : Kd := ⟨Option Cj, fun v m => match m with
 |none=>Pack (v=.map none) []
 | some m => Ex fun (b : Nat) => Pack (v = .map (some b)) [eS b .i64 .u64 m.1 m.2]⟩
def dF(n:Nd):Prop:=n.self≤1∧n.bQ<4294967296∧n.iB.p≤255∧n.iB.m≤255
structure NdV where
 oa:Option Addr
 oc:Nat
 ca:Option Addr
 cc:Nat
 bs:Nat
 bu:Nat
 ba:Nat
 vw:Value
 v1:Value
 v2:Value
def dZ(b bd:Nat)(p0:aE)(vr:Value)(n:Nd):aC:=Ex fun(y:NdV×aE)=>Pack (dF n∧cI p0 y.2)
 [aX b [.int .i64 n.self,.int .i64 n.blocks,.int .u32 n.bQ,.pointer (some ⟨bd,0,none⟩),.pointer (some ⟨y.1.bs,0,none⟩),.bool false,.int .i64 n.now,.slice y.1.oa n.out.length y.1.oc,.slice y.1.ca n.bD.length y.1.cc,.pointer (some ⟨y.1.bu,0,none⟩),.int .u64 n.aW,.int .u64 0,.int .u64 0,.int .u64 n.iB.e,.int .i64 n.iB.p,.int .i64 n.iB.m,.bool n.known,.map (some y.1.ba),.int .i64 n.heard,.bool n.aH,.int .u32 n.count,vr,.bool n.both,y.1.vw,.int .i64 n.seen,y.1.v1,y.1.v2,.int .u64 n.cZ,.int .u64 n.dO,.int .u32 n.dV,.bool false,.slice none 0 0,.map none,.int .u64 0,.int .i64 n.kept] 182,At (yI y.2) (.slice y.1.oa n.out.length y.1.oc) n.out,At (G8 y.2) (.slice y.1.ca n.bD.length y.1.cc) n.bD,At (kK bd) (.pointer (some ⟨y.1.bs,0,none⟩)) n.s,At (Ih y.2) (.pointer (some ⟨y.1.bu,0,none⟩)) n.unit,At E1 (.map (some y.1.ba)) n.asked,At xM vr n.run,At rI y.1.vw n.want,At uq y.1.v1 n.wait,At Cn y.1.v2 n.log,aY y.2]
theorem gJ{p0:aE}{n:Nd}(H:On W0 (dZ b bd p0 vr n::L) w):∃(oa:Option Addr) (oc:Nat) (ca:Option Addr) (cc bs bu ba:Nat) (vw v1 v2:Value) (aa:aE),dF n∧cI p0 aa∧
   On W0 (aX b [.int .i64 n.self,.int .i64 n.blocks,.int .u32 n.bQ,.pointer (some ⟨bd,0,none⟩),.pointer (some ⟨bs,0,none⟩),.bool false,.int .i64 n.now,.slice oa n.out.length oc,.slice ca n.bD.length cc,.pointer (some ⟨bu,0,none⟩),.int .u64 n.aW,.int .u64 0,.int .u64 0,.int .u64 n.iB.e,.int .i64 n.iB.p,.int .i64 n.iB.m,.bool n.known,.map (some ba),.int .i64 n.heard,.bool n.aH,.int .u32 n.count,vr,.bool n.both,vw,.int .i64 n.seen,v1,v2,.int .u64 n.cZ,.int .u64 n.dO,.int .u32 n.dV,.bool false,.slice none 0 0,.map none,.int .u64 0,.int .i64 n.kept] 182::At (yI aa) (.slice oa n.out.length oc) n.out::At (G8 aa) (.slice ca n.bD.length cc) n.bD::At (kK bd) (.pointer (some ⟨bs,0,none⟩)) n.s::At (Ih aa) (.pointer (some ⟨bu,0,none⟩)) n.unit::At E1 (.map (some ba)) n.asked::At xM vr n.run::At rI vw n.want::At uq v1 n.wait::At Cn v2 n.log::aY aa::L) w:=by
 obtain⟨⟨⟨oa,oc,ca,cc,bs,bu,ba,vw,v1,v2⟩,aa⟩,H⟩:=H.ex;obtain⟨⟨h1,h2⟩,H⟩:=H.unpack;exact⟨oa,oc,ca,cc,bs,bu,ba,vw,v1,v2,aa,h1,h2,H⟩
theorem BV{L1:List aC}{p0:aE}{n:Nd}[f:Ad L (dZ b bd p0 vr n) L1](H:On W0 L w):dF n∧On W0 L w:=by
 obtain⟨h1,_,y,h2,_⟩:=(H.imp f.out).sat.fact;exact⟨h2.1,H⟩
class jY(L:List aC)(b:Nat)(bd:outParam Nat)(p0:aE)(vr:outParam Value)(n:outParam Nd)(L':outParam (List aC)):Prop where
 h:dF n→∀h,Sat L h→Sat (dZ b bd p0 vr n::L') h
instance{b bd:Nat}{p0:aE}{vr:Value}{n:Nd}:jY (dZ b bd p0 vr n::L) b bd p0 vr n L:=⟨fun _ _ h=>h⟩
instance(priority:=low){b bd:Nat}{p0:aE}{vr:Value}{n:Nd}{L':List aC}{A:aC}[s:jY L b bd p0 vr n L']:jY (A::L) b bd p0 vr n (A::L'):=⟨fun k h H=>(Sat.aI (s.h k) H).swap⟩
theorem ack{aa:aE}{a:Option Addr}{k c:Nat}{l:List Pk}{h:Hp}(H:Sat (At (yI aa) (.slice a k c) l::L) h):k=l.length:=by
 obtain⟨h1,_,x,_,s⟩:=H.fact;obtain⟨h2,_,o⟩:=s.fact;obtain⟨a',c',e,_⟩:=o.cells.form;simp only[Value.slice.injEq] at e;exact e.2.1
theorem acm{aa:aE}{a:Option Addr}{k c:Nat}{l:List xJ}{h:Hp}(H:Sat (At (G8 aa) (.slice a k c) l::L) h):k=l.length:=by
 obtain⟨h1,_,x,_,s⟩:=H.fact;obtain⟨h2,_,o⟩:=s.fact;obtain⟨a',c',e,_⟩:=o.cells.form;simp only[Value.slice.injEq] at e;exact e.2.1
theorem bF{p0:aE}{n n':Nd}{L':List aC}[g:jY L b bd p0 vr n' L'](e:n'=n)(k:dF n)(h:On W0 L w):On W0 (dZ b bd p0 vr n::L') w:=by subst e;exact h.imp (g.h k)
abbrev yJ(self blocks bQ bd bs:Nat)(now:Int)(oa:Option Addr)(ol oc:Nat)(ca:Option Addr)(cl cc bu aW re rp rm:Nat)(known:Bool)(ba:Nat)(heard:Int)(aH:Bool)(count:Nat)(vr:Value)(both:Bool)(vw:Value)(seen:Int)(v1 v2:Value)(cZ dO dV:Nat)(kept:Int):List Value:=[.int .i64 (self:Int),.int .i64 (blocks:Int),.int .u32 (bQ:Int),.pointer (some ⟨bd,0,none⟩),.pointer (some ⟨bs,0,none⟩),.bool false,.int .i64 now,.slice oa ol oc,.slice ca cl cc,.pointer (some ⟨bu,0,none⟩),.int .u64 (aW:Int),.int .u64 0,.int .u64 0,.int .u64 (re:Int),.int .i64 (rp:Int),.int .i64 (rm:Int),.bool known,.map (some ba),.int .i64 heard,.bool aH,.int .u32 (count:Int),vr,.bool both,vw,.int .i64 seen,v1,v2,.int .u64 (cZ:Int),.int .u64 (dO:Int),.int .u32 (dV:Int),.bool false,.slice none 0 0,.map none,.int .u64 0,.int .i64 kept]
instance(priority:=50) acn {b bd:Nat} {p0 aa:aE} {self blocks bQ aW re rp rm count cZ dO dV:Nat} {now heard seen kept:Int} {known aH both:Bool} {oa ca:Option Addr} {ol oc cl cc bs bu ba:Nat} {vr vw v1 v2:Value} {out:List Pk} {bD:List xJ} {s:kJ} {unit:Un} {asked:Ig} {run:Option rQ} {want:Option Ci} {wait log:Option Cj} {L0 L1 L2 L3 L4 L5 L6 L7 L8 L9 L10:List aC}
   [f0:FB L b [.int .i64 (self:Int),.int .i64 (blocks:Int),.int .u32 (bQ:Int),.pointer (some ⟨bd,0,none⟩),.pointer (some ⟨bs,0,none⟩),.bool false,.int .i64 now,.slice oa ol oc,.slice ca cl cc,.pointer (some ⟨bu,0,none⟩),.int .u64 (aW:Int),.int .u64 0,.int .u64 0,.int .u64 (re:Int),.int .i64 (rp:Int),.int .i64 (rm:Int),.bool known,.map (some ba),.int .i64 heard,.bool aH,.int .u32 (count:Int),vr,.bool both,vw,.int .i64 seen,v1,v2,.int .u64 (cZ:Int),.int .u64 (dO:Int),.int .u32 (dV:Int),.bool false,.slice none 0 0,.map none,.int .u64 0,.int .i64 kept] 182 L0] [f1:DK L0 aa L1] [f2:nL (yI aa) L1 (.slice oa ol oc) out L2] [f3:nL (G8 aa) L2 (.slice ca cl cc) bD L3] [f4:nL (kK bd) L3 (.pointer (some ⟨bs,0,none⟩)) s L4] [f5:nL (Ih aa) L4 (.pointer (some ⟨bu,0,none⟩)) unit L5] [f6:nL E1 L5 (.map (some ba)) asked L6] [f7:nL xM L6 vr run L7] [f8:nL rI L7 vw want L8] [f9:nL uq L8 v1 wait L9] [f10:nL Cn L9 v2 log L10] [sb:cI p0 aa]:
   jY L b bd p0 vr ⟨self, blocks, bQ, s, now, out, bD, unit, aW, ⟨re, rp, rm⟩, known, asked, heard, aH, count, run, both, want, seen, wait, log, cZ, dO, dV, kept⟩ L10 := ⟨fun k h H => by
 have H := f0.h _ H;have H := H.aI f1.h;have H := H.aI fun _ H => H.aI fun _ H => f2.h _ H;have H := H.aI fun _ H => H.aI fun _ H => H.aI fun _ H => f3.h _ H;have H := H.aI fun _ H => H.aI fun _ H => H.aI fun _ H => H.aI fun _ H => f4.h _ H;have H := H.aI fun _ H => H.aI fun _ H => H.aI fun _ H => H.aI fun _ H => H.aI fun _ H => f5.h _ H;have H := H.aI fun _ H => H.aI fun _ H => H.aI fun _ H => H.aI fun _ H => H.aI fun _ H => H.aI fun _ H => f6.h _ H;have H := H.aI fun _ H => H.aI fun _ H => H.aI fun _ H => H.aI fun _ H => H.aI fun _ H => H.aI fun _ H => H.aI fun _ H => f7.h _ H;have H := H.aI fun _ H => H.aI fun _ H => H.aI fun _ H => H.aI fun _ H => H.aI fun _ H => H.aI fun _ H => H.aI fun _ H => H.aI fun _ H => f8.h _ H;have H := H.aI fun _ H => H.aI fun _ H => H.aI fun _ H => H.aI fun _ H => H.aI fun _ H => H.aI fun _ H => H.aI fun _ H => H.aI fun _ H => H.aI fun _ H => f9.h _ H;have H := H.aI fun _ H => H.aI fun _ H => H.aI fun _ H => H.aI fun _ H => H.aI fun _ H => H.aI fun _ H => H.aI fun _ H => H.aI fun _ H => H.aI fun _ H => H.aI fun _ H => f10.h _ H;have e1 := ack (H.tail.tail);have e2 := acm H.tail.tail.tail;subst e1 e2;have H : Sat ([aX b [.int .i64 (self : Int), .int .i64 (blocks : Int), .int .u32 (bQ : Int), .pointer (some ⟨bd, 0, none⟩), .pointer (some ⟨bs, 0, none⟩), .bool false, .int .i64 now, .slice oa out.length oc, .slice ca bD.length cc, .pointer (some ⟨bu, 0, none⟩), .int .u64 (aW : Int), .int .u64 0, .int .u64 0, .int .u64 (re : Int), .int .i64 (rp : Int), .int .i64 (rm : Int), .bool known, .map (some ba), .int .i64 heard, .bool aH, .int .u32 (count : Int), vr, .bool both, vw, .int .i64 seen, v1, v2, .int .u64 (cZ : Int), .int .u64 (dO : Int), .int .u32 (dV : Int), .bool false, .slice none 0 0, .map none, .int .u64 0, .int .i64 kept] 182, aY aa, At (yI aa) (.slice oa out.length oc) out, At (G8 aa) (.slice ca bD.length cc) bD, At (kK bd) (.pointer (some ⟨bs, 0, none⟩)) s, At (Ih aa) (.pointer (some ⟨bu, 0, none⟩)) unit, At E1 (.map (some ba)) asked, At xM vr run, At rI vw want, At uq v1 wait, At Cn v2 log] ++ L10) h := H;refine (Sat.uv H).imp fun h s => ⟨(⟨oa, oc, ca, cc, bs, bu, ba, vw, v1, v2⟩, aa), ⟨k, sb⟩, ?_⟩;exact (To.out h s)⟩
end Go.Proofs.YtcplmndikhjehaaGreat
