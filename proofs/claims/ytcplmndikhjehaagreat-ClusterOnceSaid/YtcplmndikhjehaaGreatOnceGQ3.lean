/-
  Texts of a proof as one.
-/
import Derived.Test.YtcplmndikhjehaaGreatOnceGQ2
set_option linter.unusedVariables false
set_option linter.unusedSimpArgs false
namespace Go.Proofs.YtcplmndikhjehaaGreat
open Go.Proofs.Tryz
open Go Go.Sl Go.Sl.eM
set_option maxHeartbeats 0
set_option maxRecDepth 8000
variable{ax:Option Addr}{bs:List UInt8}{cx s:Nat}
variable{W0 w:World}{L F:List aC}
theorem OZ{to:Nat}(h:On W0 L w)(C:aB L (Bytes (.slice ax bs.length cx) bs))(hb0:0<bs.length)(hb:bs.length≤to)(ht:to≤4096):Calls Tryz.prog 114 #[.slice ax bs.length cx,.int .i64 (to:Int)] (w) (wU fun r w'=>∃a,r=.slice a (gI bs to).length (gI bs to).length∧On W0 (bC (.slice a (gI bs to).length (gI bs to).length) (gI bs to)::L) w'):=by
 refine qO ?_;have fH:=aG;refine qC ?_ (C:=bG h C (by omega));rintro _ w ⟨a7,c7,rfl,h⟩;refine qE ?_;refine W.loop (fun(k:Nat) env w=>bs.length+k≤to∧∃(j:Env) (ao:Option Addr) (co:Nat),env=eu j [(1,.int .i64 (to:Int)),(5,.slice ao (bs++List.replicate k 0).length co)]∧On W0 (bC (.slice ao (bs++List.replicate k 0).length co) (bs++List.replicate k 0)::L) w) (fun k=>to - k) (0) ?_ ?_
 · have e0:bs++List.replicate 0 0=bs:=by simp
   exact⟨by omega,_,a7,c7,aD ⟨rfl,(by rw[e0];rfl),trivial⟩,(by rw[e0];exact h)⟩
 rintro k env w ⟨hk,j,ao,co,rfl,h⟩;have ja:(bs++List.replicate k 0).length=bs.length+k:=by rw[List.length_append,List.length_replicate]
 refine go ?_;refine WL.v (oJ rfl rfl (by omega) (by omega)) ?_;refine WL.q (e7 rfl rfl) (fun CY=> ?_) (fun CY=> ?_)
 ·
  refine go ?_;refine W.ct ?_;refine W.skip ?_;refine W.block ?_
  have dW:bs.length+k<to:=by
    by_cases e:bs.length+k=to
    · exfalso
      apply CY;rw[ja,e];exact Int.emod_self
    omega
  refine go ?_;refine WL.e (aZ (zl:=[.int .u8 0]) (out:=[.int .u8 _]) h underlying28 sizeOf5 zeroValue5 (by decide) (by kernel_rfl) rfl rfl (by simp) fz rfl rfl (by simp[maxLen])) ?_;rintro _ w ⟨b21,rfl,h⟩;refine WL.e (bU (bytes:=1) h rfl rfl (h.aR) underlying28 rfl rfl rfl rfl rfl (by omega) (by omega) (by simp[Value.oneCell'])) ?_;rintro _ w ⟨a22,CZ,rfl,h⟩;have Tx:aL (bs++List.replicate k 0)++[.int .u8 0]=aL ((bs++List.replicate k 0)++[0]):=by simp[aL,tY]
  rw[Tx] at h;refine gw ?_;have e1:bs++List.replicate (k+1) 0=(bs++List.replicate k 0)++[0]:=by rw[List.replicate_succ',List.append_assoc]
  have el:(bs++List.replicate (k+1) 0).length=(bs++List.replicate k 0).length+1:=by rw[e1,List.length_append];rfl
  exact⟨k+1,⟨by omega,_,a22,CZ,aD ⟨rfl,(by rw[el];rfl),trivial⟩,(by unfold bC;rw[el,e1];exact h.to)⟩,by show to - (k+1)<to - k;omega⟩
 refine qC ?_ (C:=cU h);rintro _ w ⟨rfl,h⟩;refine qR ?_
 have aaV:bs.length+k=to:=by
   have afM:=Decidable.not_not.1 CY;rw[ja] at afM;by_cases e:bs.length+k=to
   · exact e
   exfalso;have h1:(((bs.length+k:Nat):Int)) % (to:Int)=((bs.length+k:Nat):Int):=Int.emod_eq_of_lt (by omega) (by omega);omega
 have e2:gI bs to=(bs++List.replicate k 0):=by unfold gI;rw[show to - bs.length=k by omega]
 rw[e2];exact⟨ao,rfl,h⟩
theorem O0(h:On W0 L w):Cs 301 [] w fun v w'=>v=.agg (uK 16).toArray∧On W0 L w':=by
 refine qO ?_;refine gb fun b0 w h=> ?_;refine gb fun b1 w h=> ?_;refine gw ?_;refine W.seq ?_;refine W.seq ?_;have h:=Own.CL (n:=16) (size:=1) h rfl (by decide);have h:On W0 (Own 1 (.slice (some ⟨b1,0,none⟩) 16 16) 16 (uK 0)::aX b0 [.int .u32 0,.int .u32 0,.int .u32 0,.int .u32 0,.int .u32 0,.int .u32 0,.int .u32 0,.int .u32 0,.int .u32 0,.int .u32 0,.int .u32 0,.int .u32 0,.int .u32 0,.int .u32 0,.int .u32 0,.int .u32 0] 411::L) w:=h;refine go ?_;refine W.loop (fun(i:Nat) env w=>i≤16∧∃j,env=eu j [(0,b0),(1,b1),(4,.int .i64 (i:Nat))]∧On W0 (Own 1 (.slice (some ⟨b1,0,none⟩) 16 16) 16 (uK i)::aX b0 [.int .u32 0,.int .u32 0,.int .u32 0,.int .u32 0,.int .u32 0,.int .u32 0,.int .u32 0,.int .u32 0,.int .u32 0,.int .u32 0,.int .u32 0,.int .u32 0,.int .u32 0,.int .u32 0,.int .u32 0,.int .u32 0] 411::L) w) (fun i=>16 - i) (0) ?_ ?_
 · exact⟨by omega,_,aD ⟨rfl,rfl,rfl,trivial⟩,h⟩
 rintro i env w ⟨hi,j,rfl,h⟩;refine qI (fun c6=> ?_) (fun c6=> ?_)
 ·
  refine W.skip ?_;refine W.seq ?_;refine W.block ?_;refine W.sr ?_;refine gw ?_;refine W.seq ?_;have Xb:i<16:=by omega
  refine qD ?_;refine W.loop (fun(k:Nat) env w=>k≤4∧∃j,env=eu j [(0,b0),(1,b1),(2,.int .i64 (i:Nat)),(3,.int .u32 (Kw k i:Nat)),(4,.int .i64 (i:Nat)),(9,.int .i64 (k:Nat))]∧On W0 (Own 1 (.slice (some ⟨b1,0,none⟩) 16 16) 16 (uK i)::aX b0 [.int .u32 0,.int .u32 0,.int .u32 0,.int .u32 0,.int .u32 0,.int .u32 0,.int .u32 0,.int .u32 0,.int .u32 0,.int .u32 0,.int .u32 0,.int .u32 0,.int .u32 0,.int .u32 0,.int .u32 0,.int .u32 0] 411::L) w) (fun k=>4 - k) (0) ?_ ?_
  · exact⟨by omega,_,aD ⟨rfl,rfl,rfl,rfl,rfl,rfl,trivial⟩,h⟩
  rintro k env w ⟨hk,j,rfl,h⟩;have dW:Kw k i<4294967296:=OY (by omega) k;have akt:=CU dW;have Ia:Kw k i % 2^1<2:=Nat.mod_lt _ (by decide);refine qI (fun oM=> ?_) (fun oM=> ?_)
  · refine go ?_;refine WL.v (jb (m:=Kw k i) (j:=1) rfl rfl (by decide)) ?_;refine go ?_;refine WL.v (jc (k:=.u32) 1 (m:=Kw k i) (n:=1) rfl rfl (Int.ofNat_le.2 (show _≤4294967295 by omega)) (by decide) rfl) ?_;refine WL.v (IV (m:=Kw k i % 2^1) rfl Ia) ?_;refine WL.v (Ai (k:=.u32) (m:=Kw k i % 2^1*4294967295) (n:=Mh) rfl rfl (Int.ofNat_le.2 (show _≤4294967295 by omega)) (by decide)) ?_;refine WL.v (pR (k:=.u32) (m:=Kw k i / 2^1) (n:=Kw k i % 2^1*4294967295&&&Mh) rfl rfl (Int.ofNat_le.2 (show _≤4294967295 by omega)) (Int.ofNat_le.2 (show _≤4294967295 from Nat.le_trans Nat.and_le_right (by decide))) (Int.ofNat_le.2 (show _≤4294967295 by rw[CV];omega))) ?_;refine go ?_;refine WL.v (di rfl rfl (by omega) (by omega)) ?_;refine gw ?_;exact⟨k+1,⟨by omega,_,aD ⟨rfl,rfl,rfl,(congrArg (fun z:Nat=>Value.int .u32 (z:Int)) (CV (Kw k i))),rfl,rfl,trivial⟩,h⟩,by show 4 - (k+1)<4 - k;omega⟩
  refine W.exit ?_;have SA:k=4:=by omega
  subst SA;refine go ?_;refine WL.v (bg underlying411 sizeOf58 rfl rfl (by omega) (by omega)) ?_;refine WL.e (kS (v:=.int .u32 (Kw 4 i:Nat)) (k:=i*1) h sizeOf58 rfl rfl rfl (by omega)) ?_;rintro _ w h;refine go ?_;refine WL.v (di rfl rfl (by omega) (by omega)) ?_;refine gw ?_;rw[afL,OW i Xb] at h;exact⟨i+1,⟨by omega,_,aD ⟨rfl,rfl,rfl,trivial⟩,h⟩,by show 16 - (i+1)<16 - i;omega⟩
 refine W.exit ?_;refine W.seq ?_;have Xb:i=16:=by omega
 subst Xb;refine go ?_;refine WL.v (gi isAgg411 sizeOf411 rfl rfl (fun j u hj=>(h.aR (v:=.slice (some ⟨b1,0,none⟩) 16 16)).cell rfl (by omega) hj)) ?_;refine WL.e (uz h sizeOf411 rfl rfl (mD 16) (by simpa using OX 16) rfl (fun k _ _=>vt k)) ?_;rintro _ w h;rw[Ei (by rw[mD];rfl)] at h;refine go ?_;refine W.ret (bf.uA (vs:=uK 16) h results301 isAgg411 sizeOf411 rfl rfl (mD 16) ?_);exact⟨rfl,h.to⟩
theorem Xc(hs:s<4294967296)(h:On W0 L w)(C:aB L (Bytes (.slice ax bs.length cx) bs)):Cs 300 [.agg (uK 16).toArray,.int .u32 (s:Int),.slice ax bs.length cx] w fun v w'=>v=.int .u32 ((4294967295^^^gl (4294967295^^^s) bs:Nat):Int)∧On W0 L w':=by
 refine qO ?_;have fH:=aG;have aA:=Cells.bounds (h.aO C);obtain⟨yg,IT⟩:=aA;have hs0:4294967295^^^s<4294967296:=Nat.xor_lt_two_pow (n:=32) (by decide) hs;refine qB fun b3 w h=> ?_;have h:=Own.CL (n:=16) (size:=1) h (mD 16) (by decide);refine go ?_;refine WL.v (ym rfl hs) ?_;refine go ?_;refine W.loop (fun(k:Nat) env w=>k≤bs.length∧∃j,env=eu j [(3,b3),(7,.int .u32 (gl (4294967295^^^s) (bs.take k):Nat)),(12,.slice ax bs.length cx),(13,.int .i64 (bs.length:Nat)),(14,.int .i64 (k:Nat))]∧On W0 (Own 1 (.slice (some ⟨b3,0,none⟩) 16 16) 16 (uK 16)::L) w) (fun k=>bs.length - k) (0) ?_ ?_
 · exact⟨Nat.zero_le _,_,aD ⟨rfl,rfl,rfl,rfl,rfl,trivial⟩,h⟩
 rintro k env w ⟨hk,j,rfl,h⟩;refine qI (fun c6=> ?_) (fun c6=> ?_)
 ·
  refine W.skip ?_;refine W.seq ?_;refine W.block ?_;refine W.seq ?_;have aA:∃c,bs[k]? =some c:=⟨bs[k]'(by omega),List.getElem?_eq_getElem _⟩;obtain⟨c,hc⟩:=aA;have hCC:=h.aO C;have aA:=Cells.addr hCC (by omega);obtain⟨ba,oa,Ej⟩:=aA;subst Ej;have hc8:=c.toNat_lt;have hv:=Ku hs0 (bs.take k);have Ek:(gl (4294967295^^^s) (bs.take k)^^^c.toNat)<4294967296:=Nat.xor_lt_two_pow (n:=32) hv (by omega);have aa4:((gl (4294967295^^^s) (bs.take k)^^^c.toNat) / 2^4^^^s4 ((gl (4294967295^^^s) (bs.take k)^^^c.toNat) % 2^4))=s4 (gl (4294967295^^^s) (bs.take k)^^^c.toNat):=zy _;have Ia:((gl (4294967295^^^s) (bs.take k)^^^c.toNat) / 2^4^^^s4 ((gl (4294967295^^^s) (bs.take k)^^^c.toNat) % 2^4))<4294967296:=by rw[aa4];exact Ay Ek
  have hd1:(gl (4294967295^^^s) (bs.take k)^^^c.toNat) % 2^4<16:=Nat.mod_lt _ (by decide);have Ss:((gl (4294967295^^^s) (bs.take k)^^^c.toNat) / 2^4^^^s4 ((gl (4294967295^^^s) (bs.take k)^^^c.toNat) % 2^4)) % 2^4<16:=Nat.mod_lt _ (by decide)
  have Kx:gl (4294967295^^^s) (bs.take (k+1))=((gl (4294967295^^^s) (bs.take k)^^^c.toNat) / 2^4^^^s4 ((gl (4294967295^^^s) (bs.take k)^^^c.toNat) % 2^4)) / 2^4^^^s4 (((gl (4294967295^^^s) (bs.take k)^^^c.toNat) / 2^4^^^s4 ((gl (4294967295^^^s) (bs.take k)^^^c.toNat) % 2^4)) % 2^4):=by
    rw[zy,aa4,pT hc,Mi];rfl
  refine qD ?_;refine WL.l isAgg5 rfl ((h.aO C).elem (i:=k) (vs:=[.int .u8 (c.toNat:Int)]) (by omega) (dJ hc) 0 _ rfl) ?_;refine qD ?_;refine WL.v (pR (k:=.u32) (m:=gl (4294967295^^^s) (bs.take k)) (n:=c.toNat) rfl rfl (Int.ofNat_le.2 (show _≤4294967295 by omega)) (Int.ofNat_le.2 (show _≤4294967295 by omega)) (Int.ofNat_le.2 (show _≤4294967295 by omega))) ?_;refine go ?_;refine WL.v (jb (m:=(gl (4294967295^^^s) (bs.take k)^^^c.toNat)) (j:=4) rfl rfl (by decide)) ?_;refine go ?_;refine WL.v (jc 4 (m:=(gl (4294967295^^^s) (bs.take k)^^^c.toNat)) (n:=15) rfl rfl (Int.ofNat_le.2 (show _≤4294967295 by omega)) (by decide) rfl) ?_;refine WL.v (bg underlying411 sizeOf58 rfl rfl (by omega) (by show _<(16:Int);omega)) ?_;refine WL.l isAgg58 rfl ((h.aR (v:=.slice (some ⟨b3,0,none⟩) 16 16)).elem (i:=(gl (4294967295^^^s) (bs.take k)^^^c.toNat) % 2^4) (vs:=[.int .u32 (s4 ((gl (4294967295^^^s) (bs.take k)^^^c.toNat) % 2^4):Nat)]) (by omega) (Kv (by omega)) 0 _ rfl) ?_;refine WL.v (pR (k:=.u32) (m:=(gl (4294967295^^^s) (bs.take k)^^^c.toNat) / 2^4) (n:=s4 ((gl (4294967295^^^s) (bs.take k)^^^c.toNat) % 2^4)) rfl rfl (Int.ofNat_le.2 (show _≤4294967295 by omega)) (Int.ofNat_le.2 (show _≤4294967295 by have:=Ay (v:=(gl (4294967295^^^s) (bs.take k)^^^c.toNat) % 2^4) (by omega);omega)) (Int.ofNat_le.2 (show _≤4294967295 by rw[zy];have:=Ay Ek;omega))) ?_;refine go ?_;refine WL.v (jb (m:=((gl (4294967295^^^s) (bs.take k)^^^c.toNat) / 2^4^^^s4 ((gl (4294967295^^^s) (bs.take k)^^^c.toNat) % 2^4))) (j:=4) rfl rfl (by decide)) ?_;refine go ?_;refine WL.v (jc 4 (m:=((gl (4294967295^^^s) (bs.take k)^^^c.toNat) / 2^4^^^s4 ((gl (4294967295^^^s) (bs.take k)^^^c.toNat) % 2^4))) (n:=15) rfl rfl (Int.ofNat_le.2 (show _≤4294967295 by omega)) (by decide) rfl) ?_;refine WL.v (bg underlying411 sizeOf58 rfl rfl (by omega) (by show _<(16:Int);omega)) ?_;refine WL.l isAgg58 rfl ((h.aR (v:=.slice (some ⟨b3,0,none⟩) 16 16)).elem (i:=((gl (4294967295^^^s) (bs.take k)^^^c.toNat) / 2^4^^^s4 ((gl (4294967295^^^s) (bs.take k)^^^c.toNat) % 2^4)) % 2^4) (vs:=[.int .u32 (s4 (((gl (4294967295^^^s) (bs.take k)^^^c.toNat) / 2^4^^^s4 ((gl (4294967295^^^s) (bs.take k)^^^c.toNat) % 2^4)) % 2^4):Nat)]) (by omega) (Kv (by omega)) 0 _ rfl) ?_;refine WL.v (pR (k:=.u32) (m:=((gl (4294967295^^^s) (bs.take k)^^^c.toNat) / 2^4^^^s4 ((gl (4294967295^^^s) (bs.take k)^^^c.toNat) % 2^4)) / 2^4) (n:=s4 (((gl (4294967295^^^s) (bs.take k)^^^c.toNat) / 2^4^^^s4 ((gl (4294967295^^^s) (bs.take k)^^^c.toNat) % 2^4)) % 2^4)) rfl rfl (Int.ofNat_le.2 (show _≤4294967295 by omega)) (Int.ofNat_le.2 (show _≤4294967295 by have:=Ay (v:=((gl (4294967295^^^s) (bs.take k)^^^c.toNat) / 2^4^^^s4 ((gl (4294967295^^^s) (bs.take k)^^^c.toNat) % 2^4)) % 2^4) (by omega);omega)) (Int.ofNat_le.2 (show _≤4294967295 by rw[zy];have:=Ay Ia;omega))) ?_;refine go ?_;refine WL.v (di rfl rfl (by omega) (by omega)) ?_;refine gw ?_;exact⟨k+1,⟨by omega,_,aD ⟨rfl,(congrArg (fun z:Nat=>Value.int .u32 (z:Int)) Kx).symm,rfl,rfl,rfl,trivial⟩,h⟩,by show bs.length - (k+1)<bs.length - k;omega⟩
 refine go ?_;refine WL.v (ym rfl (Ku hs0 _)) ?_;refine qR ?_;have e:bs.take k=bs:=List.take_of_length_le (by omega);exact⟨by rw[e],h.tail⟩
theorem Ty(hs:s<4294967296)(h:On W0 L w)(C:aB L (Bytes (.slice ax bs.length cx) bs)):Cs 253 [.int .u32 (s:Int),.slice ax bs.length cx] w fun v w'=>v=.int .u32 ((4294967295^^^gl (4294967295^^^s) bs:Nat):Int)∧On W0 L w':=by
 refine qO ?_;refine qC ?_ (C:=O0 h);rintro _ w ⟨rfl,h⟩;refine qC ?_ (C:=Xc hs h C);rintro _ w ⟨rfl,h⟩;refine qR ?_;exact⟨rfl,h⟩
theorem O1(h:On W0 L w)(C:aB L (Bytes (.slice ax bs.length cx) bs)):Cs 186 [.slice ax bs.length cx] w fun v w'=>v=.int .u32 (Az bs:Int)∧On W0 L w':=by
 refine qO ?_;refine qC ?_ (C:=Ty (s:=0) (by decide) h C);rintro _ w ⟨rfl,h⟩;refine qR ?_;exact⟨rfl,h⟩
theorem O2{a:Option Addr}{c:Nat}(hb:bs.length≤1000000000000)(h:On W0 (Own 1 (.slice a bs.length c) bs.length (aL bs)::L) w):Cs 185 [.slice a bs.length c,.int .u32 (s:Int)] w fun v w'=>∃a c,v=.slice a (bs.length+4) c∧On W0 (Own 1 (.slice a (bs.length+4) c) (bs.length+4) (aL (bs++four s))::L) w':=by
 refine qO ?_;have fH:=aG;refine qD ?_;refine WL.v (jb (m:=s) (j:=8) rfl rfl (by decide)) ?_;refine qD ?_;refine WL.v (jb (m:=s) (j:=16) rfl rfl (by decide)) ?_;refine qD ?_;refine WL.v (jb (m:=s) (j:=24) rfl rfl (by decide)) ?_;refine qD ?_;refine WL.e (kq (out:=[.int .u8 _,.int .u8 _,.int .u8 _,.int .u8 _]) h underlying28 sizeOf5 zeroValue5 rfl (by decide) rfl rfl rfl) ?_;rintro _ w ⟨B7,rfl,h⟩;refine WL.e (bU (bytes:=1) h rfl rfl (h.aR) underlying28 rfl rfl rfl rfl rfl (by omega) (by omega) (fun u hu=>cR (bs:=four s) u hu)) ?_;rintro _ w ⟨Mj,C4,rfl,h⟩;have h:On W0 (Own 1 (.slice Mj (bs.length+4) C4) (bs.length+4) (aL bs++aL (four s))::_) w:=h;rw[show aL bs++aL (four s)=aL (bs++four s) by simp[aL]] at h;refine qR ?_;exact⟨Mj,C4,rfl,h.to⟩
theorem oN(h:On W0 L w)(C:aB L (Bytes (.slice ax bs.length cx) bs))(hb:bs.length≤1000000000000):Cs 113 [.slice ax bs.length cx] w fun v w'=>∃a,v=.slice a (dR bs).length (dR bs).length∧On W0 (bC (.slice a (dR bs).length (dR bs).length) (dR bs)::L) w':=by
 refine qO ?_;refine qC ?_ (C:=bG h C (by omega));rintro _ w ⟨a4,c4,rfl,h⟩;refine qC ?_ (C:=O1 h (aB.to C));rintro _ w ⟨rfl,h⟩;refine qC ?_ (C:=O2 hb h);rintro _ w ⟨a7,c7,hv,h⟩;have el:bs.length+4=(dR bs).length:=by unfold dR;rw[List.length_append];rfl
 rw[el] at hv h;subst hv;refine qC ?_ (C:=cU h);rintro _ w ⟨rfl,h⟩;refine qR ?_;exact⟨a7,rfl,h⟩
theorem O3{ay:Option Addr}{cy:Nat}{cs:List UInt8}(h:On W0 L w)(C:aB L (Bytes (.slice ax bs.length cx) bs))(C2:aB L (Bytes (.slice ay cs.length cy) cs)):Cs 228 [.slice ax bs.length cx,.slice ay cs.length cy] w fun v w'=>v=.bool (decide (bs=cs))∧On W0 L w':=by
 refine qO ?_;have fH:=aG;have aA:=Cells.bounds (h.aO C);obtain⟨yg,IT⟩:=aA;have aA:=Cells.bounds (h.aO C2);obtain⟨aku,akv⟩:=aA;refine qI (fun c2=> ?_) (fun c2=> ?_)
 · refine qR ?_;exact⟨by rw[decide_eq_false (fun e=>c2 (by rw[e]))],h⟩
 refine W.skip ?_;refine W.seq ?_;refine W.seq ?_;have hlen:bs.length=cs.length:=by omega
 refine go ?_;refine W.loop (fun(k:Nat) env w=>k≤bs.length∧bs.take k=cs.take k∧∃j,env=eu j [(0,.slice ax bs.length cx),(1,.slice ay cs.length cy),(12,.int .i64 (bs.length:Nat)),(13,.int .i64 (k:Nat))]∧On W0 L w) (fun k=>bs.length - k) (0) ?_ ?_
 · exact⟨Nat.zero_le _,rfl,_,aD ⟨rfl,rfl,rfl,rfl,trivial⟩,h⟩
 rintro k env w ⟨hk,O4,j,rfl,h⟩;refine qI (fun mP=> ?_) (fun mP=> ?_)
 ·
  refine W.skip ?_;refine W.seq ?_;refine W.block ?_;refine W.seq ?_;have aA:∃x,bs[k]? =some x:=⟨bs[k]'(by omega),List.getElem?_eq_getElem _⟩;obtain⟨x,hx⟩:=aA;have aA:∃y,cs[k]? =some y:=⟨cs[k]'(by omega),List.getElem?_eq_getElem _⟩;obtain⟨y,hy⟩:=aA;have hCC:=h.aO C;have aA:=Cells.addr hCC (by omega);obtain⟨ba,oa,Ej⟩:=aA;subst Ej;have hCD:=h.aO C2;have aA:=Cells.addr hCD (by omega);obtain⟨bb,ob,VK⟩:=aA;subst VK;refine qG fun w h=> ?_;refine X.lc rfl ((h.aO C).elem (i:=k) (vs:=[.int .u8 (x.toNat:Int)]) (by omega) (dJ hx) 0 _ rfl) ?_;refine qD ?_;refine X.lc rfl ((h.aO C2).elem (i:=k) (vs:=[.int .u8 (y.toNat:Int)]) (by omega) (dJ hy) 0 _ rfl) ?_;refine qI (fun oM=> ?_) (fun oM=> ?_)
  ·
   refine qR ?_
   first
     |exact⟨by rw[decide_eq_false (fun e=>oM (by rw[e] at hx;rw[hx] at hy;cases hy;rfl))],h⟩
     | (have e : bs = cs := by
          rw[List.take_of_length_le (show bs.length≤k by omega),List.take_of_length_le (show cs.length≤k by omega)] at O4;exact O4
        exact ⟨by rw [decide_eq_true e], h⟩)
  refine go ?_;refine WL.v (di rfl rfl (by omega) (by omega)) ?_;refine gw ?_;have hxy:x=y:=UInt8.toNat_inj.1 (by have:=Decidable.not_not.1 oM;omega);exact⟨k+1,⟨by omega,by rw[pT hx,pT hy,O4,hxy],_,aD ⟨rfl,rfl,rfl,rfl,trivial⟩,h⟩,by show bs.length - (k+1)<bs.length - k;omega⟩
 refine qR ?_
 first
   |exact⟨by rw[decide_eq_false (fun e=>oM (by rw[e] at hx;rw[hx] at hy;cases hy;rfl))],h⟩
   | (have e : bs = cs := by
        rw[List.take_of_length_le (show bs.length≤k by omega),List.take_of_length_le (show cs.length≤k by omega)] at O4;exact O4
      exact ⟨by rw [decide_eq_true e], h⟩)
theorem C5{ay:Option Addr}{cy:Nat}{cs:List UInt8}(h:On W0 L w)(C:aB L (Bytes (.slice ax bs.length cx) bs))(C2:aB L (Bytes (.slice ay cs.length cy) cs)):Cs 181 [.slice ax bs.length cx,.slice ay cs.length cy] w fun v w'=>v=.bool (decide (bs=cs))∧On W0 L w':=by
 refine qO ?_;refine go ?_;refine WL.v (jx underlying28 underlying5 underlying9 rfl (h.aO C)) ?_;refine go ?_;refine WL.v (jx underlying28 underlying5 underlying9 rfl (h.aO C2)) ?_;refine WL.v (uy rfl rfl) ?_;refine qR ?_;exact⟨congrArg Value.bool (decide_eq_decide.2 (by simp only[Go.ByteArray.toList_eq])),h⟩
theorem El(h:On W0 L w)(C:aB L (Bytes (.slice ax bs.length cx) bs))(hb:bs.length≤1000000000000):Cs 149 [.slice ax bs.length cx] w fun v w'=>((eX bs).2=0∧4≤bs.length∧∃a,v=.tuple #[.slice a (bs.take (bs.length - 4)).length (bs.take (bs.length - 4)).length,.int .i64 0]∧On W0 (bC (.slice a (bs.take (bs.length - 4)).length (bs.take (bs.length - 4)).length) (bs.take (bs.length - 4))::L) w')∨((eX bs).2≠0∧v=.tuple #[.slice none 0 0,.int .i64 (eX bs).2]∧On W0 L w'):=by
 refine qO ?_;have fH:=aG;have aA:=Cells.bounds (h.aO C);obtain⟨yg,IT⟩:=aA;refine qI (fun c2=> ?_) (fun c2=> ?_)
 ·
  refine qR ?_;have e:eX bs=([],3):=by unfold eX;rw[if_pos (by omega)]
  exact .inr ⟨by rw[e];decide,by rw[e],h⟩
 refine W.skip ?_;refine W.seq ?_;have aA:∃B,B=bs.take (bs.length - 4):=⟨_,rfl⟩;obtain⟨B,hBe⟩:=aA;have aA:∃T,T=bs.drop (bs.length - 4):=⟨_,rfl⟩;obtain⟨T,hTe⟩:=aA;have Tz:B.length=bs.length - 4:=by rw[hBe,List.length_take];omega
 have hTl:T.length=4:=by rw[hTe,List.length_drop];omega
 have gB:aB L (Bytes (.slice ax B.length cx) B):=by rw[hBe];exact F9 C (by omega)
 have hct:=kr (l:=B.length) C yg (by omega) (Nat.le_refl _);have e4:(bs.drop B.length).take (bs.length - B.length)=T:=by rw[hTe,Tz];exact List.take_of_length_le (by rw[List.length_drop];omega)
 rw[e4] at hct;obtain⟨a',c',eY,gT⟩:=hct;have hop:eX bs=if four (Az B)≠T then([],4) else(B,0):=by unfold eX;rw[if_neg (by omega),←hBe,←hTe]
 refine go ?_;refine WL.v (tr (m:=bs.length) (n:=4) (r:=B.length) rfl rfl (by omega) (by omega) Tz.symm) ?_;refine WL.v (rW underlying28 sizeOf5 rfl rfl (by omega)) ?_;refine qT fun w h=> ?_;refine WT.m 3 rfl ?_;refine WT.m 4 rfl ?_;refine WT.p 5 rfl (fun w'=>(kO underlying28 rfl)) ?_;refine WT.p 6 rfl (fun w'=>(iP (n:=bs.length) (l:=B.length) underlying28 sizeOf5 rfl rfl (by omega) eY)) ?_;refine WT.e 1 [] rfl (ag call186 (O1 h gB)) ?_;rintro _ w ⟨rfl,h⟩;refine⟨trivial, ?_⟩;refine WT.e 2 [] rfl (ag call185 (O2 (bs:=[]) (by decide) (h.bB 1 none))) ?_;rintro _ w ⟨tu,kY,rfl,h⟩;have h:On W0 (Own 1 (.slice tu (four (Az B)).length kY) (four (Az B)).length (aL (four (Az B)))::L) w:=h;refine⟨trivial, ?_⟩;refine WT.e 7 [] rfl (ag call228 (O3 (bs:=four (Az B)) h (aB.cF) (aB.to gT))) ?_;rintro _ w ⟨rfl,h⟩;refine⟨trivial, ?_⟩;refine WT.p 8 rfl (fun w'=>(ey rfl)) ?_;refine qU ?_;refine W.lN rfl (fun c8=> ?_) (fun c8=> ?_)
 · refine qR ?_;rw[if_pos c8] at hop;exact .inr ⟨by rw[hop];decide,by rw[hop],h.to⟩
 refine qC ?_ (C:=bG h (aB.to gB) (by omega));rintro _ w ⟨a23,wX,rfl,h⟩;refine qC ?_ (C:=cU h);rintro _ w ⟨rfl,h⟩;refine qR ?_;rw[if_neg c8] at hop;refine .inl ⟨by rw[hop],by omega,a23, ?_, ?_⟩
 · rw[←hBe]
 rw[←hBe];exact h.to
end Go.Proofs.YtcplmndikhjehaaGreat
namespace Go.Proofs.YtcplmndikhjehaaGreat
open Go.Proofs.Tryz
open Go Go.Sl Go.Sl.dA
set_option maxHeartbeats 0
set_option maxRecDepth 8000
variable{W0 w:World}{L F:List aC}
theorem IW{n:Int}(h:On W0 L w):Cs 19 [.int .i64 n] w fun v w'=>(1≤n∧n≤4096∧∃b,v=.tuple #[.pointer (some ⟨b,0,none⟩),.int .i64 0]∧On W0 (aQ 109 221 b (Mb n)::L) w')∨(¬(1≤n∧n≤4096)∧v=.tuple #[.pointer none,.int .i64 1]∧On W0 L w'):=by
 refine qO ?_;refine go ?_;refine WL.q (cH rfl rfl) (fun c5=> ?_) (fun c5=> ?_)
 · refine qD ?_;refine qR ?_;exact .inr ⟨by omega,rfl,h⟩
 refine qI (fun c2=> ?_) (fun c2=> ?_)
 · refine qR ?_;exact .inr ⟨by omega,rfl,h⟩
 refine go ?_;refine WL.e (mu (kd:=.i64) h) ?_;rintro _ w ⟨mb,rfl,h⟩;refine WL.v (aP (pl:=[(0,1),(1,1),(2,1),(3,1),(4,1),(5,1),(6,1)]) (out:=[.int .i64 _,.map _,.bool _,.bool _,.int .i64 _,.slice _ _ _,.int .i64 _]) underlying109 zeroValue109 (fun w=>by kernel_rfl) rfl fz rfl) ?_;refine gb fun C6 w h=> ?_;refine qR ?_;refine .inl ⟨by omega,by omega,C6,rfl, ?_⟩;have h2:=(eE.nil (A:=kI 221 []) h).Ac;have h3:=On.bB h2 1 none;have cD:Dk.ok (Mb n):=⟨by show n≤4096;omega,by show(0:Int)≤0;omega,List.nodup_nil,fun x hx=>by cases hx⟩;have h4:=gN (rows:=[]) cD rfl (show On W0 (aX C6 [.int .i64 n,.map (some mb),.bool false,.bool false,.int .i64 0,.slice none 0 0,.int .i64 0] 109::bV mb .i64 [] 0::eE (kI 221 []) []::aY []::Own 1 (.slice none 0 0) 0 []::L) w from h3.to);exact kW h4
theorem Ky{b:Nat}{d:Dk}{k:Int}(h:On W0 (aQ 109 221 b d::L) w):Cs 106 [b,.int .i64 k] w fun v w'=>(NS d k=0∧∃br,v=.tuple #[.slice (some ⟨br,0,none⟩) 512 512,.int .i64 0]∧On W0 (Own 1 (.slice (some ⟨br,0,none⟩) 512 512) 512 (aL (bL d k))::aQ 109 221 b d::L) w')∨(NS d k≠0∧v=.tuple #[.slice none 0 0,.int .i64 (NS d k)]∧On W0 (aQ 109 221 b d::L) w'):=by
 refine qO ?_;refine qC ?_ (C:=IS h);rintro _ w ⟨rfl,h⟩;refine qI (fun c3=> ?_) (fun c3=> ?_)
 · refine qR ?_;have e:=WV (k:=k) (rfl:mB d=mB d) c3;exact .inr ⟨by rw[e];exact c3,by rw[e],h⟩
 refine W.skip ?_;refine W.seq ?_;refine W.seq ?_;have ki:mB d=0:=Decidable.not_not.1 c3;refine qC ?_ (C:=aaO h);rintro _ w ⟨rfl,h⟩;refine WL.v (ey rfl) ?_;refine qI (fun c8=> ?_) (fun c8=> ?_)
 · refine qR ?_;have ha:=Tn ki c8;exact .inr ⟨by rw[ha];decide,by rw[ha],h⟩
 refine W.skip ?_;refine W.seq ?_;have fH:=aG;have hre:=WW ki (Decidable.not_not.1 c8);refine go ?_;refine WL.e (kR (n:=512) (bytes:=1) h rfl rfl underlying28 rfl rfl rfl rfl rfl (by omega) (by omega)) ?_;rintro _ w ⟨TA,rfl,h⟩;refine gw ?_;refine W.seq ?_;refine W.seq ?_;have aA:=sj (h.aj (aQ 109 221 b d));obtain⟨pa,pc,h⟩:=aA;have aA:=si h;obtain⟨mb,ck,rows,aa,cD,hm,h⟩:=aA;have aA:=On.jH h.p1;obtain⟨fe,Sx⟩:=aA;have OM:=F0 fe;refine qD ?_;have iG:=uF rows k;rcases iG with⟨ON,dX⟩|⟨i,r,hi,hk,ON⟩<;>(have hl:=congrArg (fun o:Option Value=>o.getD (.pointer none)) ON)<;>refine WL.v (gZ Sx underlying107 underlying3 zeroValue219 rfl rfl hl) ?_
 · refine qD ?_;refine qR ?_;refine .inl ⟨hre,TA,rfl, ?_⟩;rw[ID hm ON,show aL (List.replicate 512 0)=List.replicate 512 (.int .u8 0) by unfold aL;rw[List.map_replicate];rfl];have h:=gN (mb:=mb) (ck:=ck) (T:=109) (TS:=221) (b:=b) (pa:=pa) (pn:=d.aV.length) (pc:=pc) (aa:=aa) (L:=Own 1 (.slice pa d.aV.length pc) d.aV.length (fK d.aV)::Own 1 (.slice (some ⟨TA,0,none⟩) 512 512) 512 (List.replicate 512 (.int .u8 0))::L) cD hm h.to;exact(kW h).p1
 refine go ?_;refine WL.v (fq underlying219 rfl rfl) ?_;refine go ?_;refine W.ct ?_;have h:=eE.open hi (h.aj (eE (kI 221 aa) rows));refine qC ?_ (C:=OJ h);rintro _ w ⟨ZK,uI,h⟩;have aA:=ZK.form (h.aj (aY aa));obtain⟨an,cn,hnv,vg,hnm⟩:=aA;subst hnv;refine WL.e (Am (h.aj (Own 1 (.slice (some ⟨TA,0,none⟩) 512 512) 512 (List.replicate 512 (.int .u8 0)))) rfl rfl (h.aO (T:=[aY aa]) (fu.eN ZK)) rfl underlying28 sizeOf5 (lo:=0) (by omega) (cR)) ?_;rintro _ w ⟨_,h⟩;rw[LU] at h;refine qR ?_;refine .inl ⟨hre,TA,rfl, ?_⟩;rw[IE hm OM (List.mem_of_getElem? hi) hk];have h:=eE.close (List.getElem?_eq_some_iff.1 hi).1 ((h.aj (eE (kI 221 aa) (rows.eraseIdx i))).aj (kI 221 aa r));rw[iH hi] at h;have h:=gN (mb:=mb) (ck:=ck) (T:=109) (TS:=221) (b:=b) (pa:=pa) (pn:=d.aV.length) (pc:=pc) (aa:=aa) (L:=Own 1 (.slice pa d.aV.length pc) d.aV.length (fK d.aV)::Own 1 (.slice (some ⟨TA,0,none⟩) 512 512) 512 (aL (full r.s.now))::L) cD hm h.to;exact(kW h).p1
theorem AA{b:Nat}{d:Dk}(gH:d.low)(h:On W0 (aQ 109 221 b d::L) w):Cs 77 [b] w fun v w'=>v=.int .i64 (ek d).1∧On W0 (aQ 109 221 b (ek d).2::L) w':=by
 refine qO ?_;have aaX:=w8 h;refine qC ?_ (C:=IS h);rintro _ w ⟨rfl,h⟩;refine qI (fun c3=> ?_) (fun c3=> ?_)
 · refine qR ?_;have e:=LM (rfl:mB d=mB d) c3;exact⟨by rw[e],by rw[e];exact h⟩
 refine W.skip ?_;refine W.seq ?_;refine W.seq ?_;have ki:mB d=0:=Decidable.not_not.1 c3;refine qC ?_ (C:=Kt gH h);rintro _ w ⟨rfl,h⟩;refine qI (fun c9=> ?_) (fun c9=> ?_)
 · refine qR ?_;have e:=FX ki c9;exact⟨by rw[e],by rw[e];exact h⟩
 refine W.skip ?_;refine W.seq ?_;refine W.seq ?_;have Ko:(dP d).1=0:=Decidable.not_not.1 c9;have ua:=CQ ki Ko;have aA:∃d2,d2=(dP d).2:=⟨_,rfl⟩;obtain⟨d2,Ss⟩:=aA;rw[←Ss] at h ua;have aA:=sj h;obtain⟨pa,pc,h⟩:=aA;have aA:=si h;obtain⟨mb,ck,rows,aa,cD,hm,h⟩:=aA;have aA:=On.jH h.p1;obtain⟨fe,Sx⟩:=aA;refine go ?_;refine WL.e (w5 (h.aj (bV mb .i64 (rows.map Rw.kv) ck)) underlying107 rfl) ?_;rintro _ w ⟨rr,rfl,h⟩;refine go ?_;refine W.loop (fun(seen:Array Nat) env w=>∃j,env=eu j [(21,rr)]∧On W0 (sg rr mb seen ck::bV mb .i64 (rows.map Rw.kv) ck::eE (kI 221 aa) (uG (fun s=>⟨s.now,[]⟩) seen rows)::aX b [.int .i64 d2.n,.map (some mb),.bool d2.off,.bool d2.dead,.int .i64 d2.cJ,.slice pa d2.aV.length pc,.int .i64 d2.calls] 109::aY aa::Own 1 (.slice pa d2.aV.length pc) d2.aV.length (fK d2.aV)::L) w) (fun seen=>(iX (rows.map Rw.kv) seen).length) (#[]) ?_ ?_
 · exact⟨_,aD ⟨rfl,trivial⟩,by rw[LR];exact h.to⟩
 rintro seen env w ⟨j,rfl,h⟩;refine go ?_;refine WL.e (Ap h.g rfl) ?_;rintro _ w h0;rcases h0 with⟨mw,rfl,h⟩|⟨e1,eD,rfl,h⟩;rotate_left
 ·
  refine go ?_;refine W.ct ?_;refine W.skip ?_;refine W.block ?_;refine W.seq ?_;have aA:=Tp eD;obtain⟨i,r,hi,rfl,VL⟩:=aA;have yX:r∈rows:=List.mem_of_getElem? hi;have aa8:=LV fe;have Gb:=LS eD
  change On W0 (sg rr mb (seen.push r.born) ck::bV mb .i64 (rows.map Rw.kv) ck::_) w at h
  refine go ?_;refine WL.v (uD h (Tq eD) rfl) ?_;refine gw ?_;have hlen:i<(uG (fun s=>⟨s.now,[]⟩) seen rows).length:=by rw[OE];exact(List.getElem?_eq_some_iff.1 hi).1
  have h:=eE.open (OC hi VL) (h.aj (eE (kI 221 aa) (uG (fun s=>⟨s.now,[]⟩) seen rows)));refine qC ?_ (C:=OJ h);rintro _ w ⟨ZK,uI,h⟩;have aA:=ZK.form (h.aj (aY aa));obtain⟨an,cn,hnv,vg,hnm⟩:=aA;subst hnv;have aA:=mC h.g;obtain⟨vk,a,c,vs,LK,za,jE,h⟩:=aA;refine gs fun w h _=> ?_;refine gs fun w h _=> ?_;refine gw ?_;have hq:=(h.bB 1 none).aj (aX r.p [.slice an r.s.now.length cn,.slice none 0 0] 221);have h:=fX (r:={r with s:=⟨r.s.now,[]⟩}) ZK uI uE hq;have h:=eE.close hlen ((h.aj (eE (kI 221 aa) ((uG (fun s=>⟨s.now,[]⟩) seen rows).eraseIdx i))).aj (kI 221 aa {r with s:=⟨r.s.now,[]⟩}));rw[OD aa8 hi VL] at h;exact⟨seen.push r.born,⟨_,aD ⟨rfl,trivial⟩,h.to⟩,Gb⟩
 refine qD ?_;refine qR ?_;have ny:=OB (f:=(fun s=>⟨s.now,[]⟩)) mw;rw[ny] at h;have hkv:(rows.map fun r=>{r with s:=(⟨r.s.now,[]⟩:iS)}).map Rw.kv=rows.map Rw.kv:=by rw[List.map_map];rfl
 rw[←hkv] at h;have Ia:oY d2.m=(rows.map fun r=>{r with s:=(⟨r.s.now,[]⟩:iS)}).map Rw.ks:=by unfold oY;rw[hm,List.map_map,List.map_map];rfl
 have h:=gN (T:=109) (TS:=221) (b:=b) (pa:=pa) (pn:=d2.aV.length) (pc:=pc) (mb:=mb) (ck:=ck) (aa:=aa) (L:=Own 1 (.slice pa d2.aV.length pc) d2.aV.length (fK d2.aV)::L) cD.flush Ia h.to;refine⟨by rw[ua], ?_⟩;rw[ua];exact kW h
end Go.Proofs.YtcplmndikhjehaaGreat
namespace Go.Sl.gU
open Go Go.Sl Go.Sl.eM Go.Sl.dA
theorem ku{bs:List UInt8}{n:Nat}(h:bs.length≤n):(gI bs n).length=n:=by
 unfold gI;rw[List.length_append,List.length_replicate];omega
theorem gm(bs:List UInt8):(dR bs).length=bs.length+4:=by unfold dR;rw[List.length_append];rfl
theorem xh(bs:List UInt8):eX (dR bs)=(bs,0):=by
 have hl:=gm bs
 have e1:(dR bs).take ((dR bs).length - 4)=bs:=by
   rw[hl,Nat.add_sub_cancel];unfold dR;exact List.take_left
 have e2:(dR bs).drop ((dR bs).length - 4)=four (Az bs):=by
   rw[hl,Nat.add_sub_cancel];unfold dR;exact List.drop_left
 unfold eX;rw[if_neg (by omega),e1,e2,if_neg (by simp)]
def jL:List UInt8:=[84,87,73,78]
def g9(number:Nat)(value:List UInt8):List UInt8:=jL++be number 8++be value.length 2++value
def bW(number:Nat)(value:List UInt8):List UInt8:=dR (gI (g9 number value) 508)
def AB(number:Nat)(value:List UInt8):List UInt8×Int:=if 488<value.length then([],5) else(bW number value,0)
theorem nC(number:Nat)(value:List UInt8):(g9 number value).length=14+value.length:=by
 unfold g9;simp only[List.length_append,aT];rfl
theorem oO{number:Nat}{value:List UInt8}(h:value.length≤488):(bW number value).length=512:=by
 unfold bW;rw[gm,ku (by rw[nC];omega)]
def tO(s:List UInt8):Nat:=uJ ((s.drop 4).take 8)
def vL(s:List UInt8):Nat:=uJ ((s.drop 12).take 2)
def pX(s:List UInt8):List UInt8:=(s.drop 14).take (vL s)
def bE(s:List UInt8):Nat×List UInt8×Int:=
 if s.length≠512 then(0,[],3) else if(eX s).2≠0 then(0,[],(eX s).2) else
 if 488<vL (s.take 508) then(0,[],2) else if(AB (tO (s.take 508)) (pX (s.take 508))).1≠s then(0,[],2) else(tO (s.take 508),pX (s.take 508),0)
theorem TB{number:Nat}{value:List UInt8}(h:number<256^8):tO (gI (g9 number value) 508)=number:=by
 unfold tO gI g9
 have e:((jL++be number 8++be value.length 2++value++List.replicate (508 - (jL++be number 8++be value.length 2++value).length) 0).drop 4).take 8=be number 8:=by
   rw[List.append_assoc,List.append_assoc,List.append_assoc,show(4:Nat)=jL.length from rfl,List.drop_left,show(8:Nat)=(be number 8).length by rw[aT]]
   conv=>lhs;rw[aT]
   conv=>lhs;rw[show(8:Nat)=(be number 8).length by rw[aT]]
   rw[aT];have:=List.take_left (l₁:=be number 8) (l₂:=be value.length 2++(value++List.replicate (508 - (jL++(be number 8++(be value.length 2++value))).length) 0));rw[aT] at this;exact this
 rw[e,sw h]
theorem nT{a b c:List UInt8}{n m:Nat}(hn:a.length=n)(hm:b.length=m):((a++(b++c)).drop n).take m=b:=by
 subst hn;subst hm;rw[List.drop_left,List.take_left]
theorem Kz{number:Nat}{value:List UInt8}(h:value.length≤488):vL (gI (g9 number value) 508)=value.length:=by
 unfold vL gI g9;have e:jL++be number 8++be value.length 2++value++List.replicate (508 - (jL++be number 8++be value.length 2++value).length) 0=(jL++be number 8)++(be value.length 2++(value++List.replicate (508 - (jL++be number 8++be value.length 2++value).length) 0)):=by simp
 rw[e,nT (by rw[List.length_append,aT];rfl) (aT _ _),sw (by omega)]
theorem TC{number:Nat}{value:List UInt8}(h:value.length≤488):pX (gI (g9 number value) 508)=value:=by
 unfold pX;rw[Kz h];unfold gI g9;have e:jL++be number 8++be value.length 2++value++List.replicate (508 - (jL++be number 8++be value.length 2++value).length) 0=(jL++be number 8++be value.length 2)++(value++List.replicate (508 - (jL++be number 8++be value.length 2++value).length) 0):=by simp
 rw[e,nT (by rw[List.length_append,List.length_append,aT,aT];rfl) rfl]
theorem AD{number:Nat}{value:List UInt8}(hn:number<256^8)(hv:value.length≤488):bE (bW number value)=(number,value,0):=by
 have hl:=oO (number:=number) hv;have hp:(gI (g9 number value) 508).length=508:=ku (by rw[nC];omega)
 have e1:(bW number value).take 508=gI (g9 number value) 508:=by
   unfold bW dR
   conv=>lhs;rw[←hp]
   rw[hp];have:=List.take_left (l₁:=gI (g9 number value) 508) (l₂:=four (Az (gI (g9 number value) 508)));rw[hp] at this;exact this
 unfold bE;rw[if_neg (by rw[hl];decide),e1,TB hn,Kz hv,TC hv];have e2:eX (bW number value)=(gI (g9 number value) 508,0):=xh _;rw[e2];rw[if_neg (by show ¬((0:Int)≠0);decide),if_neg (by omega)];have e3:AB number value=(bW number value,0):=by unfold AB;rw[if_neg (by omega)]
 rw[e3,if_neg (by simp)]
theorem uL(s:List UInt8):(bE s).1<256^8:=by
 have key:∀l:List UInt8,uJ ((l.drop 4).take 8)<256^8:=fun l=>Nat.lt_of_lt_of_le (su _) (Nat.pow_le_pow_right (by decide) (by rw[List.length_take];omega));unfold bE
 repeat' split
 all_goals first|(show 0<256^8;decide)|exact key _
theorem Gc:(bE (List.replicate 512 0)).2.2=4∨(bE (List.replicate 512 0)).2.2=2:=by
 unfold bE;have hl:(List.replicate 512 (0:UInt8)).length=512:=List.length_replicate;rw[if_neg (by rw[hl];decide)];by_cases h:(eX (List.replicate 512 0)).2≠0
 · rw[if_pos h]
   unfold eX at h⊢;rw[if_neg (by rw[hl];decide)] at h⊢;split at h
   · rename_i h2;rw[if_pos h2];exact .inl rfl
   exact absurd rfl h
 rw[if_neg h];split
 · exact .inr rfl
 rw[if_pos]
 · exact .inr rfl
 intro e;unfold AB at e;split at e
 · have:=congrArg List.length e
   rw[hl] at this;cases this
 have h0:=congrArg (fun l:List UInt8=>l[0]?) e;have h1:(bW (tO ((List.replicate 512 (0:UInt8)).take 508)) (pX ((List.replicate 512 (0:UInt8)).take 508)))[0]? =some 84:=rfl;have h0:(bW (tO ((List.replicate 512 (0:UInt8)).take 508)) (pX ((List.replicate 512 (0:UInt8)).take 508)))[0]? =(List.replicate 512 (0:UInt8))[0]? :=h0;rw[h1] at h0;exact absurd h0 (by decide)
def zb(d:Dk)(at_:Int):Prop:=0≤at_∧at_<d.n - 1
instance(d:Dk)(at_:Int):Decidable (zb d at_):=by unfold zb;exact inferInstance
def sB(d:Dk)(at_:Int)(s:List UInt8):Nat→Int×Dk
 |0=>bT d at_ []
 |1=>bT (bT d at_ []).2 (at_+1) s
 |_=>ek (bT (bT d at_ []).2 (at_+1) s).2
def zc(d:Dk)(at_:Int)(s:List UInt8):Nat→Dk
 |0=>d
 |i+1=>(sB d at_ s i).2
def dG(d:Dk)(at_:Int)(value:List UInt8):Int×Dk:=
 if ¬zb d at_ then(1,d) else if 488<value.length then(5,d) else
 if(sB d at_ (bW 1 value) 0).1≠0 then sB d at_ (bW 1 value) 0 else
 if(sB d at_ (bW 1 value) 1).1≠0 then sB d at_ (bW 1 value) 1 else sB d at_ (bW 1 value) 2
abbrev TV:=Option (Nat×List UInt8)
def fY(acc:TV)(i:Nat)(s:List UInt8):TV:=
 if(bE s).2.2≠0∨(bE s).1 % 2≠i∨(∃x∈acc,(bE s).1<x.1) then acc else some ((bE s).1,(bE s).2.1)
def dH(d:Dk)(at_:Int):Nat→TV
 |0=>none
 |i+1=>fY (dH d at_ i) i (bL d (at_+i))
def lG(d:Dk)(at_:Int):TV×Int:=if ¬zb d at_ then(none,1) else if mB d≠0 then(none,mB d) else
 match dH d at_ 2 with|none=>(none,2)|some x=>(some x,0)
def ff(d:Dk)(at_:Int)(number:Nat)(value:List UInt8):Int×Dk:=
 if 488<value.length then(5,d) else
 if(bT d (at_+((number+1:Nat):Int) % 2) (bW (number+1) value)).1≠0 then bT d (at_+((number+1:Nat):Int) % 2) (bW (number+1) value) else
 ek (bT d (at_+((number+1:Nat):Int) % 2) (bW (number+1) value)).2
def dM(TT bt b:Nat)(at_:Int)(number:Nat)(value:List UInt8):aC:=Ex fun(y:Option Addr×Nat)=>Pack (number<256^8)
 [aX bt [b,.int .i64 at_,.int .u64 (number:Int),.slice y.1 value.length y.2] TT,bC (.slice y.1 value.length y.2) value]
section
variable{W0 w:World}{L:List aC}{TT bt b:Nat}{at_:Int}{number:Nat}{value:List UInt8}
theorem IX(H:On W0 (dM TT bt b at_ number value::L) w):∃(a:Option Addr) (c:Nat),number<256^8∧
   On W0 (aX bt [b,.int .i64 at_,.int .u64 (number:Int),.slice a value.length c] TT::bC (.slice a value.length c) value::L) w:=by
 obtain⟨⟨a,c⟩,H⟩:=H.ex;obtain⟨h,H⟩:=H.unpack;exact⟨a,c,h,H⟩
theorem l6{a:Option Addr}{c:Nat}(h:number<256^8)(H:On W0 (aX bt [b,.int .i64 at_,.int .u64 (number:Int),.slice a value.length c] TT::bC (.slice a value.length c) value::L) w):
   On W0 (dM TT bt b at_ number value::L) w:=On.rT (a,c) (On.pack h H)
end
end Go.Sl.gU
namespace Go.Sl.dA
open Go Go.Sl
variable{k:Int}
def Dk.rM(d:Dk)(k:Int):Prop:=d.calls+k≤1000000000000∧d.cJ≤1000000000000000000
theorem Dk.rM.low{d:Dk}(h:d.rM k)(hk:0≤k):d.low:=⟨by have:=h.1;omega,h.2⟩
theorem C7{d:Dk}(h:d.rM (k+1)):(dP d).2.rM k:=by
 obtain⟨h1,h2⟩:=h;rcases oL (d:=d) with⟨_,a,e,e1,e2⟩|⟨e0,e⟩
 · rw[e]
   refine⟨by show d.calls+1+k≤_;omega, ?_⟩;show a≤_;by_cases hp:0<d.cJ
   · have:=(e1 hp).2;omega
   have:=e2 hp;omega
 rw[e];have hc:=Ed {d with cJ:=0} d.aV;refine⟨by rw[hc];show d.calls+k≤_;omega, ?_⟩;unfold iu;split<;>(show(0:Int)≤_;decide)
theorem qY{d:Dk}{j:Int}{bs:List UInt8}(h:d.rM (k+1)):(bT d j bs).2.rM k:=by
 have h0:d.rM k:=⟨by have:=h.1;omega,h.2⟩;unfold bT;split
 · exact h0
 split
 · exact h0
 split
 · exact C7 h
 exact C7 h
theorem zz(d:Dk):(dP d).2.n=d.n:=by
 rcases oL (d:=d) with⟨_,a,e,_⟩|⟨_,e⟩
 · rw[e]
 rw[e];exact OH _ _
theorem vM(d:Dk)(k:Int)(bs:List UInt8):(bT d k bs).2.n=d.n:=by
 unfold bT;split
 · rfl
 split
 · rfl
 split
 · exact zz d
 exact zz d
theorem AE(d:Dk):(ek d).2.n=d.n:=by
 unfold ek;split
 · rfl
 split
 · exact zz d
 exact zz d
end Go.Sl.dA
namespace Go.Sl.gU
open Go Go.Sl Go.Sl.eM Go.Sl.dA
end Go.Sl.gU
namespace Go.Sl.gU
open Go Go.Sl Go.Sl.eM Go.Sl.dA
variable{at_:Int}{i:Nat}
def tvN(x:TV):Nat:=(x.map (·.1)).getD 0
def tvV(x:TV):List UInt8:=(x.map (·.2)).getD []
theorem Em{d:Dk}(h:zb d at_)(hi:i<2):NS d (at_+i)=mB d:=by
 obtain⟨h1,h2⟩:=h;unfold NS;split
 · rfl
 rename_i h3;rw[if_pos ⟨by omega,by omega⟩];exact(Decidable.not_not.1 h3).symm
theorem kz{acc:TV}{s:List UInt8}(h:(bE s).2.2≠0∨(bE s).1 % 2≠i∨(acc.isSome=true∧(bE s).1<tvN acc)):fY acc i s=acc:=by
 unfold fY;rw[if_pos];rcases h with h|h|⟨h1,h2⟩
 · exact .inl h
 · exact .inr (.inl h)
 refine .inr (.inr ?_);cases acc with
 |none=>cases h1
 |some x=>exact⟨x,rfl,h2⟩
theorem oP{acc:TV}{s:List UInt8}(h1:(bE s).2.2=0)(h2:(bE s).1 % 2=i)(h3:acc.isSome=true→¬(bE s).1<tvN acc):fY acc i s=some ((bE s).1,(bE s).2.1):=by
 unfold fY;rw[if_neg];rintro (h|h|⟨x,hx,h⟩)
 · exact h h1
 · exact h h2
 cases acc with
 |none=>cases hx
 | some y=>
   cases hx;exact h3 rfl h
theorem Mk{d:Dk}(h:¬zb d at_):lG d at_=(none,1):=by unfold lG;rw[if_pos h]
theorem O5{d:Dk}(h:zb d at_)(h2:mB d≠0):lG d at_=(none,mB d):=by unfold lG;rw[if_neg (fun hh=>hh h),if_pos h2]
theorem AF{d:Dk}(h:zb d at_)(h2:mB d=0)(h3:dH d at_ 2=none):lG d at_=(none,2):=by unfold lG;rw[if_neg (fun hh=>hh h),if_neg (by rw[h2];decide),h3]
theorem AG{d:Dk}{x:Nat×List UInt8}(h:zb d at_)(h2:mB d=0)(h3:dH d at_ 2=some x):lG d at_=(some x,0):=by unfold lG;rw[if_neg (fun hh=>hh h),if_neg (by rw[h2];decide),h3]
end Go.Sl.gU
namespace Go.Sl.gU
open Go Go.Sl Go.Sl.eM Go.Sl.dA
variable{at_:Int}{v:List UInt8}
structure Live(d:Dk):Prop where
 off:d.off=false
 dead:d.dead=false
 cJ:d.cJ=0
theorem Live.st{d:Dk}(h:Live d):mB d=0:=by unfold mB;rw[if_neg (by rw[h.dead];decide),if_neg (by rw[h.off];decide)]
theorem Live.call{d:Dk}(h:Live d):dP d=(0,{d with calls:=d.calls+1}):=Au (by rw[h.cJ];decide)
theorem Eo{bs:List UInt8}(h:bs.length=512):full bs=bs:=by
 unfold full;rw[List.take_of_length_le (by omega),h];simp
theorem xj{d:Dk}{k:Int}{o:Option iS}(h:je d.m k=o):bL d k=(o.map fun s=>full s.now).getD (List.replicate 512 0):=by
 unfold bL kV;rw[h]
theorem jW{d:Dk}{k:Int}{bs:List UInt8}(h:Live d)(hk:0≤k∧k<d.n)(hb:bs.length≤512):
   bT d k bs=(0,{d with calls:=d.calls+1,m:=oX d.m k bs})∧Live (bT d k bs).2∧∀k',bL (bT d k bs).2 k'=if k'=k then full bs else bL d k':=by
 have e:bT d k bs=(0,{d with calls:=d.calls+1,m:=oX d.m k bs}):=by
   rw[CO h.st ⟨hk.1,hk.2,hb⟩ (by rw[h.call]),h.call]
 rw[e];refine⟨rfl,⟨h.off,h.dead,h.cJ⟩,fun k'=> ?_⟩;have hl:=OA d.m k bs k';by_cases Ol:k'=k
 · rw[if_pos Ol] at hl⊢
   rw[xj hl];show full (iS.now _)=_;unfold iS.now;simp
 rw[if_neg Ol] at hl⊢;rw[xj hl];rfl
theorem lQ{d:Dk}(h:Live d):ek d=(0,{d with calls:=d.calls+1,m:=oY d.m})∧Live (ek d).2∧∀k',bL (ek d).2 k'=bL d k':=by
 have e:ek d=(0,{d with calls:=d.calls+1,m:=oY d.m}):=by
   rw[CQ h.st (by rw[h.call]),h.call]
 rw[e];refine⟨rfl,⟨h.off,h.dead,h.cJ⟩,fun k'=> ?_⟩;have hl:=IC d.m k';rw[xj hl];unfold bL kV;cases je d.m k' with
 |none=>rfl
 |some s=>rfl
theorem sC{d:Dk}(h:Live d)(hi:zb d at_)(hv:v.length≤488):
   (dG d at_ v).1=0∧Live (dG d at_ v).2∧(dG d at_ v).2.n=d.n∧(dG d at_ v).2.calls=d.calls+3∧
   ∀k,bL (dG d at_ v).2 k=if k=at_+1 then bW 1 v else if k=at_ then List.replicate 512 0 else bL d k:=by
 have IB:=hi;obtain⟨h1,h2⟩:=IB;have hs:(bW 1 v).length=512:=oO hv;obtain⟨e1,l1,r1⟩:=jW (bs:=[]) h ⟨h1,by omega⟩ (by decide);have n1:=vM d at_ [];obtain⟨e2,l2,r2⟩:=jW (k:=at_+1) (bs:=bW 1 v) l1 ⟨by omega,by rw[n1];omega⟩ (by omega);have n2:=vM (bT d at_ []).2 (at_+1) (bW 1 v);obtain⟨e3,l3,r3⟩:=lQ l2;have n3:=AE (bT (bT d at_ []).2 (at_+1) (bW 1 v)).2
 have ef:dG d at_ v=ek (bT (bT d at_ []).2 (at_+1) (bW 1 v)).2:=by
   unfold dG;rw[if_neg (fun hh=>hh hi),if_neg (by omega)];have f0:(sB d at_ (bW 1 v) 0).1=0:=by show(bT d at_ []).1=0;rw[e1]
   have f1:(sB d at_ (bW 1 v) 1).1=0:=by show(bT (bT d at_ []).2 (at_+1) (bW 1 v)).1=0;rw[e2]
   rw[if_neg (by rw[f0];decide),if_neg (by rw[f1];decide)];rfl
 rw[ef];refine⟨by rw[e3],l3,by rw[n3,n2,n1], ?_,fun k=> ?_⟩
 · rw[e3]
   show(bT (bT d at_ []).2 (at_+1) (bW 1 v)).2.calls+1=_;rw[e2];show(bT d at_ []).2.calls+1+1=_;rw[e1];show d.calls+1+1+1=_;omega
 rw[r3,r2];by_cases hk:k=at_+1
 · rw[if_pos hk,if_pos hk,Eo hs]
 rw[if_neg hk,if_neg hk,r1];by_cases zA:k=at_
 · rw[if_pos zA,if_pos zA];rfl
 rw[if_neg zA,if_neg zA]
theorem AH{d:Dk}{number:Nat}(h:Live d)(hi:zb d at_)(hv:v.length≤488):
   (ff d at_ number v).1=0∧Live (ff d at_ number v).2∧(ff d at_ number v).2.n=d.n∧(ff d at_ number v).2.calls=d.calls+2∧
   ∀k,bL (ff d at_ number v).2 k=if k=at_+((number+1:Nat):Int) % 2 then bW (number+1) v else bL d k:=by
 have IB:=hi;obtain⟨h1,h2⟩:=IB;have hs:(bW (number+1) v).length=512:=oO hv;obtain⟨q,hq⟩:∃q:Int,q=((number+1:Nat):Int) % 2:=⟨_,rfl⟩;have TD:q=0∨q=1:=by omega
 obtain⟨e1,l1,r1⟩:=jW (k:=at_+q) (bs:=bW (number+1) v) h ⟨by omega,by omega⟩ (by omega);have n1:=vM d (at_+q) (bW (number+1) v);obtain⟨e3,l3,r3⟩:=lQ l1;have n3:=AE (bT d (at_+q) (bW (number+1) v)).2
 have ep:ff d at_ number v=ek (bT d (at_+q) (bW (number+1) v)).2:=by
   subst hq;unfold ff;rw[if_neg (by omega),if_neg (by rw[e1];show ¬((0:Int)≠0);decide)]
 rw[ep,←hq];refine⟨by rw[e3],l3,by rw[n3,n1], ?_,fun k=> ?_⟩
 · rw[e3]
   show(bT d (at_+q) (bW (number+1) v)).2.calls+1=_;rw[e1];show d.calls+1+1=_;omega
 rw[r3,r1];split
 · exact Eo hs
 rfl
theorem Ml{d:Dk}{n p:Nat}{X:List UInt8}(h:mB d=0)(hi:zb d at_)(hn:n<256^8)(hv:v.length≤488)(hp:n % 2=p)
   (h1:bL d (at_+p)=bW n v) (h2:bL d (at_+(1 - p:Nat))=X) (hx:(bE X).2.2≠0∨(bE X).1<n):lG d at_=(some (n,v),0):=by
 have hu:=AD hn hv;refine AG hi h ?_;have vJ:p=0∨p=1:=by omega
 rcases vJ with rfl|rfl
 · have e0:dH d at_ 1=some (n,v):=by
     show fY none 0 (bL d (at_+(0:Nat)))=_;rw[h1,oP (by rw[hu]) (by rw[hu];exact hp) (fun hh=>by cases hh),hu]
   show fY (dH d at_ 1) 1 (bL d (at_+(1:Nat)))=_;rw[e0];have h2':bL d (at_+(1:Nat))=X:=h2;rw[h2'];refine kz ?_;rcases hx with hx|hx
   · exact .inl hx
   by_cases afQ:(bE X).1 % 2≠1
   · exact .inr (.inl afQ)
   exact .inr (.inr ⟨rfl,hx⟩)
 have h2':bL d (at_+(0:Nat))=X:=h2;show fY (dH d at_ 1) 1 (bL d (at_+(1:Nat)))=_;rw[h1,oP (by rw[hu]) (by rw[hu];exact hp) ?_,hu];rw[hu];show(fY none 0 (bL d (at_+(0:Nat)))).isSome=true→¬n<tvN (fY none 0 (bL d (at_+(0:Nat))));rw[h2'];unfold fY;split
 · intro hh;cases hh
 rename_i dX;intro _;show ¬n<(bE X).1;rcases hx with hx|hx
 · exact absurd (.inl hx) dX
 omega
theorem AI:(bE (List.replicate 512 0)).2.2≠0:=by
 rcases Gc with h|h<;>(rw[h];decide)
theorem IY{d:Dk}(h:mB d=0)(hi:zb d at_)(h1:∀k,bL d k=List.replicate 512 0):lG d at_=(none,2):=by
 refine AF hi h ?_;show fY (fY none 0 (bL d (at_+(0:Nat)))) 1 (bL d (at_+(1:Nat)))=none;rw[h1,h1,kz (.inl AI),kz (.inl AI)]
theorem Ep(n:Int):Live (Mb n):=⟨rfl,rfl,rfl⟩
end Go.Sl.gU
namespace Go.Sl.gU
open Go Go.Sl Go.Sl.eM Go.Sl.dA
variable{at_:Int}{v:List UInt8}
structure vN(d:Dk)(at_:Int)(n:Nat)(v:List UInt8):Prop where
 live:Live d
 AJ:zb d at_
 num:n<256^8
 len:v.length≤488
 here:bL d (at_+((n % 2:Nat):Int))=bW n v
 other:(bE (bL d (at_+((1 - n % 2:Nat):Int)))).2.2≠0∨(bE (bL d (at_+((1 - n % 2:Nat):Int)))).1<n
theorem vN.opens{d:Dk}{n:Nat}(T:vN d at_ n v):lG d at_=(some (n,v),0):=
 Ml T.live.st T.AJ T.num T.len rfl T.here rfl T.other
theorem vN.format{d:Dk}(h:Live d)(hi:zb d at_)(hv:v.length≤488):vN (dG d at_ v).2 at_ 1 v:=by
 obtain⟨e,l,n,c,r⟩:=sC h hi hv;refine⟨l, ?_,by decide,hv, ?_,.inl ?_⟩
 · unfold zb at hi⊢;rw[n];exact hi
 · rw[r,if_pos (by show at_+((1:Nat):Int)=_;omega)]
 rw[r,if_neg (by show ¬at_+((0:Nat):Int)=_;omega),if_pos (by show at_+((0:Nat):Int)=_;omega)];exact AI
theorem vN.put{d:Dk}{n:Nat}{v2:List UInt8}(T:vN d at_ n v)(hn:n+1<256^8)(hv:v2.length≤488):vN (ff d at_ n v2).2 at_ (n+1) v2:=by
 obtain⟨e,l,hnn,c,r⟩:=AH (number:=n) T.live T.AJ hv;refine⟨l, ?_,hn,hv, ?_, ?_⟩
 · have:=T.AJ;unfold zb at this⊢;rw[hnn];exact this
 · rw[r,if_pos (by omega)]
 have e1:1 - (n+1) % 2=n % 2:=by omega
 rw[r,if_neg (by omega),e1,T.here,AD T.num T.len];exact .inr (Nat.lt_succ_self n)
end Go.Sl.gU
namespace Go.Sl.ow
open Go Go.Sl Go.Sl.eM Go.Sl.dA Go.Sl.gU
def bO(n:Nat):Nat:=max (n / 480+(if n % 480=0 then 0 else 1)) 1
def pY:List UInt8:=[82,73,78,71]
def kC(number aJ part parts:Nat)(b:List UInt8):List UInt8:=pY++be number 8++be aJ 4++be part 2++be parts 2++be b.length 2++b
def jF(number aJ part parts:Nat)(b:List UInt8):List UInt8:=dR (gI (kC number aJ part parts b) 508)
def lH(number aJ part parts:Nat)(b:List UInt8):List UInt8×Int:=
 if parts≤part∨65535<parts then([],1) else if 480<b.length then([],5) else(jF number aJ part parts b,0)
theorem nD(number aJ part parts:Nat)(b:List UInt8):(kC number aJ part parts b).length=22+b.length:=by
 unfold kC;simp only[List.length_append,aT];show 4+8+4+2+2+2+b.length=_;omega
theorem mE{number aJ part parts:Nat}{b:List UInt8}(h:b.length≤480):(jF number aJ part parts b).length=512:=by
 unfold jF;rw[gm,ku (by rw[nD];omega)]
structure Un where
 number:Nat
 aJ:Nat
 part:Nat
 parts:Nat
 b:List UInt8
 err:Int
def bM(s:List UInt8)(a k:Nat):Nat:=uJ ((s.drop a).take k)
def xk(s:List UInt8):List UInt8:=(s.drop 22).take (bM s 20 2)
def bJ(s:List UInt8):Un:=
 if s.length≠512 then⟨0,0,0,0,[],3⟩ else if(eX s).2≠0 then⟨0,0,0,0,[],(eX s).2⟩ else
 if 480<bM (s.take 508) 20 2 then⟨0,0,0,0,[],2⟩ else
 if(lH (bM (s.take 508) 4 8) (bM (s.take 508) 12 4) (bM (s.take 508) 16 2) (bM (s.take 508) 18 2) (xk (s.take 508))).2≠0∨
   (lH (bM (s.take 508) 4 8) (bM (s.take 508) 12 4) (bM (s.take 508) 16 2) (bM (s.take 508) 18 2) (xk (s.take 508))).1≠s then⟨0,0,0,0,[],2⟩ else
 ⟨bM (s.take 508) 4 8,bM (s.take 508) 12 4,bM (s.take 508) 16 2,bM (s.take 508) 18 2,xk (s.take 508),0⟩
theorem pZ(s:List UInt8)(a k:Nat):bM s a k<256^k:=Nat.lt_of_lt_of_le (su _) (Nat.pow_le_pow_right (by decide) (by rw[List.length_take];omega))
theorem gn{x y:List UInt8}{v a k:Nat}(ha:x.length=a)(hv:v<256^k):bM (x++(be v k++y)) a k=v:=by
 unfold bM;rw[nT ha (aT _ _),sw hv]
section
variable{number aJ part parts:Nat}{b:List UInt8}
theorem Gd(h1:number<256^8)(h2:aJ<256^4)(h3:part<256^2)(h4:parts<256^2)(h5:b.length≤480):
   bM (gI (kC number aJ part parts b) 508) 4 8=number∧bM (gI (kC number aJ part parts b) 508) 12 4=aJ∧bM (gI (kC number aJ part parts b) 508) 16 2=part∧
   bM (gI (kC number aJ part parts b) 508) 18 2=parts∧bM (gI (kC number aJ part parts b) 508) 20 2=b.length∧xk (gI (kC number aJ part parts b) 508)=b:=by
 have e:∃z:List UInt8,gI (kC number aJ part parts b) 508=pY++be number 8++be aJ 4++be part 2++be parts 2++be b.length 2++b++z:=⟨_,rfl⟩;obtain⟨z,e⟩:=e;rw[e];have l0:pY.length=4:=rfl
 have hl:bM (pY++be number 8++be aJ 4++be part 2++be parts 2++be b.length 2++b++z) 20 2=b.length:=by
   have:=gn (x:=pY++be number 8++be aJ 4++be part 2++be parts 2) (y:=b++z) (v:=b.length) (a:=20) (k:=2) (by simp only[List.length_append,aT,l0]) (by omega);simp only[List.append_assoc] at this⊢;exact this
 refine⟨?_, ?_, ?_, ?_,hl, ?_⟩
 · have:=gn (x:=pY) (y:=be aJ 4++be part 2++be parts 2++be b.length 2++b++z) (a:=4) rfl h1
   simp only[List.append_assoc] at this⊢;exact this
 · have:=gn (x:=pY++be number 8) (y:=be part 2++be parts 2++be b.length 2++b++z) (a:=12) (by simp only[List.length_append,aT,l0]) h2
   simp only[List.append_assoc] at this⊢;exact this
 · have:=gn (x:=pY++be number 8++be aJ 4) (y:=be parts 2++be b.length 2++b++z) (a:=16) (by simp only[List.length_append,aT,l0]) h3
   simp only[List.append_assoc] at this⊢;exact this
 · have:=gn (x:=pY++be number 8++be aJ 4++be part 2) (y:=be b.length 2++b++z) (a:=18) (by simp only[List.length_append,aT,l0]) h4
   simp only[List.append_assoc] at this⊢;exact this
 unfold xk;rw[hl,List.append_assoc _ b z];exact nT (by simp only[List.length_append,aT,l0]) rfl
theorem yo(h1:number<256^8)(h2:aJ<256^4)(h3:part<parts)(h4:parts≤65535)(h5:b.length≤480):bJ (jF number aJ part parts b)=⟨number,aJ,part,parts,b,0⟩:=by
 have hl:=mE (number:=number) (aJ:=aJ) (part:=part) (parts:=parts) h5;have hp:(gI (kC number aJ part parts b) 508).length=508:=ku (by rw[nD];omega)
 have e1:(jF number aJ part parts b).take 508=gI (kC number aJ part parts b) 508:=by
   unfold jF dR;have:=List.take_left (l₁:=gI (kC number aJ part parts b) 508) (l₂:=four (Az (gI (kC number aJ part parts b) 508)));rw[hp] at this;exact this
 obtain⟨f1,f2,f3,f4,f5,f6⟩:=Gd (part:=part) (parts:=parts) h1 h2 (by omega) (by omega) h5;have e2:eX (jF number aJ part parts b)=(gI (kC number aJ part parts b) 508,0):=xh _;have e3:lH number aJ part parts b=(jF number aJ part parts b,0):=by unfold lH;rw[if_neg (by omega),if_neg (by omega)]
 unfold bJ;rw[if_neg (by rw[hl];decide),e1,f1,f2,f3,f4,f5,f6,e2,e3,if_neg (by show ¬((0:Int)≠0);decide),if_neg (by omega),if_neg (by simp)]
end
theorem Ge{s:List UInt8}(h:(bJ s).err=0):s=jF (bJ s).number (bJ s).aJ (bJ s).part (bJ s).parts (bJ s).b:=by
 unfold bJ at h⊢;by_cases h1:s.length≠512
 · rw[if_pos h1] at h;exact absurd h (by decide)
 rw[if_neg h1] at h⊢;by_cases h2:(eX s).2≠0
 · rw[if_pos h2] at h;exact absurd h h2
 rw[if_neg h2] at h⊢;by_cases h3:480<bM (s.take 508) 20 2
 · rw[if_pos h3] at h;exact absurd h (by decide)
 rw[if_neg h3] at h⊢;generalize hP:lH (bM (s.take 508) 4 8) (bM (s.take 508) 12 4) (bM (s.take 508) 16 2) (bM (s.take 508) 18 2) (xk (s.take 508))=P at h⊢;by_cases h4:P.2≠0∨P.1≠s
 · rw[if_pos h4] at h;exact absurd h (by decide)
 rw[if_neg h4];have h5:P.2=0:=Decidable.not_not.1 fun hh=>h4 (.inl hh);have h6:P.1=s:=Decidable.not_not.1 fun hh=>h4 (.inr hh);unfold lH at hP;split at hP
 · subst hP;exact absurd h5 (by decide)
 split at hP
 · subst hP;exact absurd h5 (by decide)
 subst hP;exact h6.symm
theorem Mm(number aJ part parts:Nat)(b:List UInt8):(jF number aJ part parts b)[0]? =some 82:=rfl
theorem Er:(bJ (List.replicate 512 0)).err≠0:=by
 generalize hs:List.replicate 512 (0:UInt8)=s;intro h;have e:=Ge h;have h1:=Mm (bJ s).number (bJ s).aJ (bJ s).part (bJ s).parts (bJ s).b;rw[←e,←hs] at h1;cases h1
end Go.Sl.ow
namespace Go.Sl.pe
open Go Go.Sl Go.Sl.eM Go.Sl.dA Go.Sl.gU
variable{e m:Nat}
def bK(p m:Int):Prop:=(p=0∧(m=1∨m=3))∨(p=1∧(m=2∨m=3))
instance(p m:Int):Decidable (bK p m):=inferInstanceAs (Decidable ((p=0∧(m=1∨m=3))∨(p=1∧(m=2∨m=3))))
def dw(e p m:Nat):List UInt8:=be e 8++be p 1++be m 1
theorem eG(e p m:Nat):(dw e p m).length=10:=by unfold dw;simp only[List.length_append,aT]
def mF(s:List UInt8)(k:Nat):Nat:=uJ ((s.drop k).take 1)
def B8(s:List UInt8):Nat:=uJ ((s.drop 0).take 8)
theorem Es{p:Nat}(h:e<256^8):B8 (dw e p m)=e:=by
 unfold B8 dw;have:=nT (a:=[]) (c:=be p 1++be m 1) (n:=0) rfl (aT e 8);rw[List.append_assoc];rw[show([]:List UInt8)++(be e 8++(be p 1++be m 1))=be e 8++(be p 1++be m 1) from rfl] at this;rw[this,sw h]
theorem KA{p:Nat}(h:p<256):mF (dw e p m) 8=p:=by
 unfold mF dw;have:=nT (c:=be m 1) (aT e 8) (aT p 1);rw[List.append_assoc,this,sw (by omega)]
theorem KB{p:Nat}(h:m<256):mF (dw e p m) 9=m:=by
 unfold mF dw;have:=nT (a:=be e 8++be p 1) (c:=[]) (n:=9) (by rw[List.length_append,aT,aT]) (aT m 1);rw[List.append_nil] at this;rw[this,sw (by omega)]
theorem KC(s:List UInt8)(k:Nat):mF s k<256:=by
 have h:=su ((s.drop k).take 1);have h2:256^((s.drop k).take 1).length≤256^1:=Nat.pow_le_pow_right (by decide) (by rw[List.length_take];omega);unfold mF;omega
theorem TE(s:List UInt8):B8 s<18446744073709551616:=by
 have h:=su ((s.drop 0).take 8);have h2:256^((s.drop 0).take 8).length≤256^8:=Nat.pow_le_pow_right (by decide) (by rw[List.length_take];omega);unfold B8;omega
structure TwS(s0 s1:List UInt8)(n:Nat)(v:List UInt8):Prop where
 num:n<256^8
 len:v.length≤488
 here:(n % 2=0∧s0=bW n v∧((bE (full s1)).2.2≠0∨(bE (full s1)).1<n))∨(n % 2=1∧s1=bW n v∧((bE (full s0)).2.2≠0∨(bE (full s0)).1<n))
section
variable{s0 s1 x v v2:List UInt8}{a c:Int}{ps p:List Int}{n:Nat}{off:Bool}
end
end Go.Sl.pe
namespace Go.Sl.ow
open Go Go.Sl Go.Sl.eM Go.Sl.dA Go.Sl.gU
variable{i j:Nat}
def fE(b:List UInt8)(i:Nat):List UInt8:=(b.drop (i*480)).take 480
theorem C8(n:Nat):1≤bO n:=Nat.le_max_right _ _
theorem O6(n:Nat):n≤bO n*480:=by unfold bO;split<;>omega
theorem uM{n:Nat}(h:i+1<bO n):(i+1)*480<n:=by unfold bO at h;split at h<;>omega
theorem p5(b:List UInt8)(i:Nat):(fE b i).length≤480:=by unfold fE;rw[List.length_take];omega
theorem IZ{b:List UInt8}(h:i+1<bO b.length):(fE b i).length=480:=by
 have:=uM h;unfold fE;rw[List.length_take,List.length_drop];omega
theorem Mn{b:List UInt8}(h:i+1=bO b.length):0<(fE b i).length∨bO b.length=1:=by
 by_cases h1:bO b.length=1
 · exact .inr h1
 have:=uM (n:=b.length) (i:=i - 1) (by omega);refine .inl ?_;unfold fE;rw[List.length_take,List.length_drop];omega
theorem uN(b:List UInt8)(i:Nat):b.take (i*480)++fE b i=b.take ((i+1)*480):=by
 unfold fE;rw[show(i+1)*480=i*480+480 by omega,List.take_add]
theorem Mo(b:List UInt8):b.take (bO b.length*480)=b:=List.take_of_length_le (O6 _)
theorem O7(b:List UInt8)(i:Nat):(b.drop (i*480)).take (min ((i+1)*480) b.length - i*480)=fE b i:=by
 unfold fE;by_cases h:(i+1)*480≤b.length
 · rw[Nat.min_eq_left h,show(i+1)*480 - i*480=480 by omega]
 rw[Nat.min_eq_right (by omega),List.take_of_length_le (by rw[List.length_drop];omega),List.take_of_length_le (by rw[List.length_drop];omega)]
def jM(at_ n place i:Nat):Int:=((at_+(place+i) % n:Nat):Int)
theorem vO{at_ n place:Nat}(hn:0<n):0≤jM at_ n place i∧jM at_ n place i<((at_+n:Nat):Int):=by
 have:=Nat.mod_lt (place+i) hn;unfold jM;omega
theorem Xd{n a:Nat}(hi:i<n)(hj:j<n)(h:(a+i) % n=(a+j) % n):i=j:=by
 have h1:=Nat.div_add_mod (a+i) n;have h2:=Nat.div_add_mod (a+j) n;rw[h] at h1
 have key:∀x y:Nat,n*x+j=n*y+i→i=j:=by
   intro x y e;rcases Nat.lt_trichotomy x y with hxy|rfl|hxy
   · have:=Nat.mul_le_mul_left n (show x+1≤y from hxy)
     rw[Nat.mul_add] at this;omega
   · omega
   have:=Nat.mul_le_mul_left n (show y+1≤x from hxy);rw[Nat.mul_add] at this;omega
 exact key ((a+i) / n) ((a+j) / n) (by omega)
theorem Gf{at_ n place:Nat}(hi:i<n)(hj:j<n)(h:jM at_ n place i=jM at_ n place j):i=j:=Xd (a:=place) hi hj (by unfold jM at h;omega)
theorem Gg{at_ n place u:Nat}:jM at_ n ((place+u) % n) i=jM at_ n place (u+i):=by
 unfold jM;rw[Nat.mod_add_mod,Nat.add_assoc]
def Xe(d:Dk)(at_ n place number aJ:Nat)(b:List UInt8):Prop:=∀i,i<bO b.length→bL d (jM at_ n place i)=jF number aJ i (bO b.length) (fE b i)
def TF(d:Dk)(at_ n place number least aJ:Nat):Prop:=
 (bJ (bL d (jM at_ n place 0))).err≠0∨(bJ (bL d (jM at_ n place 0))).number≠number∨(bJ (bL d (jM at_ n place 0))).part≠0∨
 (bJ (bL d (jM at_ n place 0))).aJ<least∨aJ<(bJ (bL d (jM at_ n place 0))).aJ
def pg(d:Dk)(at_ n place number aJ:Nat)(b:List UInt8):Nat→Dk
 |0=>d
 |i+1=>(bT (pg d at_ n place number aJ b i) (jM at_ n place i) (jF number aJ i (bO b.length) (fE b i))).2
section
variable{d:Dk}{at_ n place number aJ:Nat}{b:List UInt8}
theorem p6(h:Live d)(hn:0<n)(eD:((at_+n:Nat):Int)≤d.n):∀i,Live (pg d at_ n place number aJ b i)∧(pg d at_ n place number aJ b i).n=d.n∧(pg d at_ n place number aJ b i).calls=d.calls+i
 |0=>⟨h,rfl,by show d.calls=d.calls+((0:Nat):Int);omega⟩
 | i+1=>by
   obtain⟨l,e,c⟩:=p6 h hn eD i;have hp:=vO (at_:=at_) (place:=place) (i:=i) hn;obtain⟨e1,l1,_⟩:=jW (bs:=jF number aJ i (bO b.length) (fE b i)) l ⟨hp.1,by omega⟩ (by rw[mE (p5 _ _)];omega);refine⟨l1,(vM _ _ _).trans e, ?_⟩;show(bT _ _ _).2.calls=_;rw[e1];show(pg d at_ n place number aJ b i).calls+1=_;rw[c];omega
theorem Gh(h:Live d)(hn:0<n)(eD:((at_+n:Nat):Int)≤d.n)(i:Nat)(k':Int):
   bL (pg d at_ n place number aJ b (i+1)) k'=if k'=jM at_ n place i then jF number aJ i (bO b.length) (fE b i) else bL (pg d at_ n place number aJ b i) k':=by
 obtain⟨l,e,c⟩:=p6 (place:=place) (number:=number) (aJ:=aJ) (b:=b) h hn eD i;have hp:=vO (at_:=at_) (place:=place) (i:=i) hn;have hl:=mE (number:=number) (aJ:=aJ) (part:=i) (parts:=bO b.length) (p5 b i);obtain⟨_,_,r⟩:=jW (bs:=jF number aJ i (bO b.length) (fE b i)) l ⟨hp.1,by omega⟩ (by omega);have:=r k';rw[Eo hl] at this;exact this
theorem AK(h:Live d)(hn:0<n)(eD:((at_+n:Nat):Int)≤d.n){k':Int}:∀i,(∀j,j<i→k'≠jM at_ n place j)→bL (pg d at_ n place number aJ b i) k'=bL d k'
 |0,_=>rfl
 | i+1,hk=>by
   rw[Gh h hn eD,if_neg (hk i (Nat.lt_succ_self i))];exact AK h hn eD i fun j hj=>hk j (by omega)
theorem AL(h:Live d)(hn:0<n)(eD:((at_+n:Nat):Int)≤d.n):∀i j,j<i→i≤n→bL (pg d at_ n place number aJ b i) (jM at_ n place j)=jF number aJ j (bO b.length) (fE b j)
 |0,j,hj,_=>by omega
 | i+1,j,hj,hi=>by
   rw[Gh h hn eD];by_cases e:j=i
   · subst e;rw[if_pos rfl]
   rw[if_neg (fun hh=>e (Gf (by omega) (by omega) hh))];exact AL h hn eD i j (by omega) (by omega)
end
abbrev LB:=Nat×List UInt8
def gO(l:List LB):Nat:=(l.map fun x=>bO x.2.length).sum
def pz(l:List LB):Nat:=(l.getLast?.map (·.1)).getD 0
theorem C9(l:List LB)(x:LB):gO (l++[x])=gO l+bO x.2.length:=by unfold gO;simp
theorem I0(l:List LB)(x:LB):pz (l++[x])=x.1:=by unfold pz;simp
structure KD(d:Dk)(at_ n place first aJ:Nat)(l:List LB):Prop where
 here:∀j x,l[j]? =some x→Xe d at_ n ((place+gO (l.take j)) % n) (first+j) x.1 x.2∧pz (l.take j)≤x.1∧x.1≤aJ∧x.2.length≤32768
 used:gO l≤n
 gone:gO l=n∨TF d at_ n ((place+gO l) % n) (first+l.length) (pz l) aJ
theorem uc(l:List LB)(j:Nat):gO (l.take j)≤gO l:=by
 unfold gO
 conv=>rhs;rw[←List.take_append_drop j l]
 rw[List.map_append,List.sum_append];omega
theorem AM{l:List LB}{x:LB}(h:l[j]? =some x):l.take (j+1)=l.take j++[x]:=by rw[List.take_add_one,h];rfl
theorem AN{l:List LB}{x:LB}(h:l[j]? =some x):gO (l.take (j+1))=gO (l.take j)+bO x.2.length:=by rw[AM h,C9]
def Flat(d:Dk):Prop:=∀x∈d.m,x.2.wait=[]
theorem AO{d:Dk}(h:Live d):Flat (ek d).2:=by
 rw[(lQ h).1];intro x hx;have hx:x∈oY d.m:=hx;unfold oY at hx;obtain⟨y,_,rfl⟩:=List.mem_map.1 hx;rfl
end Go.Sl.ow
namespace Go.Sl.ow
open Go Go.Sl Go.Sl.eM Go.Sl.dA Go.Sl.gU
variable{a:Option Addr}{wY:List (List UInt8)}{c:Nat}
structure Rg where
 at_:Nat
 n:Nat
 first:Nat
 place:Nat
 used:Nat
 aJ:Nat
 l:List LB
def Rg.next(g:Rg):Nat:=g.first+g.l.length
structure Rg.ok(g:Rg):Prop where
 n2:2≤g.n
 n4:g.n≤4096
 VM:g.at_≤4096
 place:g.place<g.n
 used:g.used≤g.n
 first:g.first+g.l.length≤9000000000000000000
 aJ:g.aJ<4294967296
 sum:g.used=gO g.l
 afS:∀x∈g.l,x.2.length≤32768∧x.1<g.n
def rD(g:Rg)(b:List UInt8):Rg:={g with used:=g.used+bO b.length,place:=(g.place+bO b.length) % g.n,l:=g.l++[(g.place,b)]}
theorem jN:∀(l:List LB),l.length≤gO l
 |[]=>Nat.zero_le _
 | x::l=>by
   have h1:=C8 x.2.length;have h2:=jN l;have e:gO (x::l)=bO x.2.length+gO l:=rfl;rw[e,List.length_cons];omega
theorem Rg.ok.afT{g:Rg}(h:g.ok){b:List UInt8}(hb:b.length≤32768)(hr:g.used+bO b.length≤g.n)(hf:g.first+g.l.length+1≤9000000000000000000):(rD g b).ok:=by
 refine⟨h.n2,h.n4,h.VM,Nat.mod_lt _ (by have:=h.n2;omega),hr, ?_,h.aJ, ?_, ?_⟩
 · show g.first+(g.l++[(g.place,b)]).length≤_
   rw[List.length_append,List.length_singleton];omega
 · show g.used+bO b.length=gO (g.l++[(g.place,b)])
   rw[C9,h.sum]
 intro x hx;rcases List.mem_append.1 hx with hx|hx
 · exact h.afS x hx
 rw[List.mem_singleton.1 hx];exact⟨hb,h.place⟩
abbrev RX:=Nat×Value×List UInt8
def RX.row(x:RX):List Value:=[.int .i64 (x.1:Int),x.2.1]
def RX.key(x:RX):LB:=(x.1,x.2.2)
def Et(aa:aE)(ws:List RX):Prop:=∀x∈ws,fu aa x.2.1 x.2.2∧x.2.1.oneCell'=true
def rgV(b:Nat)(g:Rg)(a:Option Addr)(c:Nat):List Value:=
 [b,.int .i64 (g.at_:Int),.int .i64 (g.n:Int),.int .u64 (g.first:Int),.int .i64 (g.place:Int),.int .i64 (g.used:Int),.int .u32 (g.aJ:Int),.slice a g.l.length c]
def dz(TR br b:Nat)(g:Rg):aC:=Ex fun(y:Option Addr×Nat×List RX×aE)=>Pack ((g.ok∧y.2.2.1.map RX.key=g.l)∧Et y.2.2.2 y.2.2.1)
 [aX br (rgV b g y.1 y.2.1) TR,Own 2 (.slice y.1 g.l.length y.2.1) g.l.length (y.2.2.1.flatMap RX.row),aY y.2.2.2]
section
variable{W0 w:World}{L:List aC}{TR br b:Nat}{g:Rg}
theorem kZ(H:On W0 (dz TR br b g::L) w):∃(a:Option Addr) (c:Nat) (ws:List RX) (aa:aE),g.ok∧ws.map RX.key=g.l∧Et aa ws∧
   On W0 (aX br [b, .int .i64 (g.at_ : Int), .int .i64 (g.n : Int), .int .u64 (g.first : Int), .int .i64 (g.place : Int), .int .i64 (g.used : Int), .int .u32 (g.aJ : Int), .slice a g.l.length c] TR ::
     Own 2 (.slice a g.l.length c) g.l.length (ws.flatMap RX.row) :: aY aa :: L) w := by
 obtain⟨⟨a,c,ws,aa⟩,H⟩:=H.ex;obtain⟨⟨⟨h0,h1⟩,h2⟩,H⟩:=H.unpack;exact⟨a,c,ws,aa,h0,h1,h2,H⟩
theorem eH{ws:List RX}{aa:aE}(h0:g.ok)(h1:ws.map RX.key=g.l)(h2:Et aa ws)
   (H : On W0 (aX br [b, .int .i64 (g.at_ : Int), .int .i64 (g.n : Int), .int .u64 (g.first : Int), .int .i64 (g.place : Int), .int .i64 (g.used : Int), .int .u32 (g.aJ : Int), .slice a g.l.length c] TR ::
     Own 2 (.slice a g.l.length c) g.l.length (ws.flatMap RX.row) :: aY aa :: L) w) : On W0 (dz TR br b g :: L) w :=
 On.rT (a,c,ws,aa) (On.pack ⟨⟨h0,h1⟩,h2⟩ H)
theorem O8(H:On W0 (dz TR br b g::L) w):g.ok:=by
 obtain⟨_,_,_,_,h,_⟩:=kZ H;exact h
theorem O9(ws:List RX)(x:RX):(ws++[x]).flatMap RX.row=ws.flatMap RX.row++x.row:=by simp
abbrev VX:=Value×List UInt8
def AP(a:Option Addr)(c:Nat)(wY:List (List UInt8)):aC:=Ex fun(y:List VX×aE)=>Pack (y.1.map (·.2)=wY∧∀x∈y.1,fu y.2 x.1 x.2∧x.1.oneCell'=true)
 [Own 1 (.slice a wY.length c) wY.length (y.1.map (·.1)),aY y.2]
theorem Pa(H:On W0 (AP a c wY::L) w):∃(ws:List VX) (aa:aE),ws.map (·.2)=wY∧(∀x∈ws,fu aa x.1 x.2∧x.1.oneCell'=true)∧
   On W0 (Own 1 (.slice a wY.length c) wY.length (ws.map (·.1))::aY aa::L) w:=by
 obtain⟨⟨ws,aa⟩,H⟩:=H.ex;obtain⟨⟨h1,h2⟩,H⟩:=H.unpack;exact⟨ws,aa,h1,h2,H⟩
theorem I1{ws:List VX}{aa:aE}(h1:ws.map (·.2)=wY)(h2:∀x∈ws,fu aa x.1 x.2∧x.1.oneCell'=true)
   (H:On W0 (Own 1 (.slice a wY.length c) wY.length (ws.map (·.1))::aY aa::L) w):On W0 (AP a c wY::L) w:=On.rT (ws,aa) (On.pack ⟨h1,h2⟩ H)
theorem TH(H:On W0 L w):On W0 (AP none 0 []::L) w:=
 I1 (ws:=[]) (aa:=[]) rfl (fun x hx=>by cases hx) (H.Ac.bB 1 none)
theorem Pb{a2:Option Addr}{c2:Nat}{v:Value}{b:List UInt8}{ws:List VX}{aa:aE}(h1:ws.map (·.2)=wY)(h2:∀x∈ws,fu aa x.1 x.2∧x.1.oneCell'=true)(hv:v.oneCell'=true)
   (H:On W0 (Own 1 (.slice a2 (wY.length+1) c2) (wY.length+1) (ws.map (·.1)++[v])::bC v b::aY aa::L) w):On W0 (AP a2 c2 (wY++[b])::L) w:=by
 have h3:=(On.mU H.p2.p2).p1;have e:(wY++[b]).length=wY.length+1:=by simp
 refine I1 (ws:=ws++[(v,b)]) (by rw[List.map_append,h1];rfl) ?_ (by rw[e,List.map_append];exact h3);intro x hx;rcases List.mem_append.1 hx with hx|hx
 · exact⟨(h2 x hx).1.mono fun p hp=>List.mem_cons_of_mem _ hp,(h2 x hx).2⟩
 rw[List.mem_singleton.1 hx];exact⟨.inl (List.mem_cons_self ..),hv⟩
theorem Mp{a2:Option Addr}{c2:Nat}{v:Value}{bs:List UInt8}{ws:List RX}{aa:aE}(hb:bs.length≤32768)(hr:g.used+bO bs.length≤g.n)(hf:g.first+g.l.length+1≤9000000000000000000)
   (h0:g.ok) (h1:ws.map RX.key=g.l) (h2:Et aa ws) (hv:v.oneCell'=true)
   (H : On W0 (aX br [b, .int .i64 (g.at_ : Int), .int .i64 (g.n : Int), .int .u64 (g.first : Int), .int .i64 (((g.place + bO bs.length) % g.n : Nat) : Int), .int .i64 ((g.used + bO bs.length : Nat) : Int), .int .u32 (g.aJ : Int), .slice a2 (g.l.length + 1) c2] TR ::
     Own 2 (.slice a2 (g.l.length + 1) c2) (g.l.length + 1) (ws.flatMap RX.row ++ [.int .i64 (g.place : Int), v]) :: bC v bs :: aY aa :: L) w) : On W0 (dz TR br b (rD g bs) :: L) w := by
 have e:(rD g bs).l.length=g.l.length+1:=by show(g.l++[(g.place,bs)]).length=_;simp
 have h3:=On.mU ((H.aj (aY aa)).aj (bC v bs));refine eH (a:=a2) (c:=c2) (ws:=ws++[(g.place,v,bs)]) (aa:=(v,bs)::aa) (h0.afT hb hr hf) (by rw[List.map_append,h1];rfl) ?_ ?_
 · intro x hx
   rcases List.mem_append.1 hx with hx|hx
   · exact⟨(h2 x hx).1.mono fun p hp=>List.mem_cons_of_mem _ hp,(h2 x hx).2⟩
   rw[List.mem_singleton.1 hx];exact⟨.inl (List.mem_cons_self ..),hv⟩
 rw[e,O9];exact h3.p2.p2
end
end Go.Sl.ow
namespace Go.Sl.ow
open Go Go.Sl Go.Sl.eM Go.Sl.dA Go.Sl.gU
variable{b:List UInt8}{aJ number part parts:Nat}
def hdR(number aJ:Nat):List UInt8:=pY++be number 8++be aJ 4
def p7(number aJ:Nat)(xs:List Nat):List UInt8:=hdR number aJ++xs.flatMap (fun x=>be x 2)
theorem I2(number aJ:Nat):(hdR number aJ).length=16:=by unfold hdR;simp only[List.length_append,aT];rfl
theorem sD(number aJ:Nat):∀xs:List Nat,(p7 number aJ xs).length=16+2*xs.length
 |[]=>by unfold p7;rw[List.length_append,I2];rfl
 | x::xs=>by
   have h:=sD number aJ xs;unfold p7 at h⊢;rw[List.length_append] at h⊢;rw[List.flatMap_cons,List.length_append,aT,List.length_cons];omega
theorem Pc(number aJ:Nat)(xs:List Nat)(x:Nat):p7 number aJ (xs++[x])=p7 number aJ xs++be x 2:=by
 unfold p7;rw[List.flatMap_append,←List.append_assoc];simp
theorem Mq(number aJ part parts:Nat)(b:List UInt8):p7 number aJ [part,parts,b.length]++b=kC number aJ part parts b:=by
 unfold p7 hdR kC;simp[List.append_assoc]
theorem Mr{i x:Nat}{xs:List Nat}(h:xs[i]? =some x):p7 number aJ (xs.take (i+1))=p7 number aJ (xs.take i)++be x 2:=by
 rw[List.take_add_one,h];exact Pc ..
theorem Pd{xs:List Nat}{i x:Nat}(h:xs[i]? =some x):((xs.map fun(q:Nat)=>Value.int .i64 (q:Int)).drop (i*1)).take 1=[.int .i64 (x:Int)]:=by
 have dW:=(List.getElem?_eq_some_iff.1 h).1;rw[Nat.mul_one,List.drop_eq_getElem_cons (by simpa using dW)];simp[(List.getElem?_eq_some_iff.1 h).2]
theorem Gi(h1:part<parts)(h2:parts≤65535)(h3:b.length≤480):lH number aJ part parts b=(jF number aJ part parts b,0):=by
 unfold lH;rw[if_neg (by omega),if_neg (by omega)]
theorem Pe(h1:¬part<parts):lH number aJ part parts b=([],1):=by
 unfold lH;rw[if_pos (by omega)]
theorem I3(h1:part<parts)(h2:parts≤65535)(h3:¬b.length≤480):lH number aJ part parts b=([],5):=by
 unfold lH;rw[if_neg (by omega),if_pos (by omega)]
end Go.Sl.ow
namespace Go.Proofs.YtcplmndikhjehaaGreat
open Go.Proofs.Tryz
open Go Go.Sl Go.Sl.eM Go.Sl.dA Go.Sl.gU Go.Sl.ow
set_option maxHeartbeats 0
set_option maxRecDepth 8000
variable{W0 w:World}{L F:List aC}
theorem Eu{n:Nat}(hn:n≤1000000000000)(h:On W0 L w):Cs 252 [.int .i64 (n:Int)] w fun v w'=>v=.int .i64 (bO n:Int)∧On W0 L w':=by
 refine qO ?_;refine go ?_;refine WL.v (Aq (m:=n) (n:=0) (r:=n) rfl rfl (by omega)) ?_;refine WL.v (gM (m:=n) (n:=480) rfl rfl (by omega) (by decide)) ?_;refine go ?_;refine WL.v (dr (m:=n / 480) (n:=480) rfl rfl (by omega)) ?_;refine qI (fun c3=> ?_) (fun c3=> ?_)
 · refine qD ?_;refine WL.v (Aq (m:=n / 480+1) (n:=1) (r:=bO n) rfl rfl (by unfold bO;split<;>omega)) ?_;refine qR ?_;exact⟨rfl,h⟩
 refine go ?_;refine WL.v (Aq (m:=n / 480) (n:=1) (r:=bO n) rfl rfl (by unfold bO;split<;>omega)) ?_;refine qR ?_;exact⟨rfl,h⟩
theorem Pf{ax:Option Addr}{cx:Nat}{bb:List UInt8}{number aJ part parts:Nat}(hn:number<18446744073709551616)(hl:aJ<4294967296)(hp:part<65536)(hps:parts<65536)(h:On W0 L w)(C:aB L (Bytes (.slice ax bb.length cx) bb)):Cs 299 [.int .u64 (number:Int),.int .u32 (aJ:Int),.int .i64 (part:Int),.int .i64 (parts:Int),.slice ax bb.length cx] w fun v w'=>(part<parts∧bb.length≤480∧(lH number aJ part parts bb)=((jF number aJ part parts bb),0)∧∃a,v=.tuple #[.slice a (jF number aJ part parts bb).length (jF number aJ part parts bb).length,.int .i64 0]∧On W0 (bC (.slice a (jF number aJ part parts bb).length (jF number aJ part parts bb).length) (jF number aJ part parts bb)::L) w')∨((lH number aJ part parts bb).1=[]∧(lH number aJ part parts bb).2≠0∧v=.tuple #[.slice none 0 0,.int .i64 (lH number aJ part parts bb).2]∧On W0 L w'):=by
 refine qO ?_;have fH:=aG;refine go ?_;refine WL.v (dB rfl rfl (by omega)) ?_;refine go ?_;refine WL.q (eA rfl rfl) (fun BR=> ?_) (fun BR=> ?_)
 · refine qD ?_;refine qR ?_;have e:=Pe (number:=number) (aJ:=aJ) (b:=bb) (show ¬part<parts by omega);exact .inr ⟨by rw[e],by rw[e];show(1:Int)≠0;decide,by rw[e],h⟩
 refine qE ?_;refine W.lN rfl (fun c7=> ?_) (fun c7=> ?_)
 · refine qR ?_;have e:=I3 (number:=number) (aJ:=aJ) (b:=bb) (show part<parts by omega) (by omega) (by omega);exact .inr ⟨by rw[e],by rw[e];show(5:Int)≠0;decide,by rw[e],h⟩
 refine go ?_;refine WL.e (kq (out:=[.int .u8 _,.int .u8 _,.int .u8 _,.int .u8 _]) h underlying28 sizeOf5 zeroValue5 rfl (by decide) rfl rfl rfl) ?_;rintro _ w ⟨b31,rfl,h⟩;refine WL.e (qP h rfl (by omega) underlying28 underlying5) ?_;rintro _ w ⟨rfl,h⟩;refine qC ?_ (C:=dm (n:=8) (bs:=pY) h (aB.cF (v:=.slice (some ⟨b31,0,none⟩) 4 4)) (by decide) (by decide) hn (by decide));rintro _ w ⟨a34,rfl,h⟩;have l34:(pY++be number 8).length=12:=by rw[List.length_append,aT];rfl
 refine qC ?_ (C:=dm (n:=4) h (aB.cF) (by decide) (by decide) (by omega) (by omega));rintro _ w ⟨Pg,rfl,h⟩;refine go ?_;refine WL.e (aZ (zl:=[.int .i64 0,.int .i64 0,.int .i64 0]) (out:=[.int .i64 _,.int .i64 _,.int .i64 _]) h underlying22 sizeOf3 zeroValue3 (by decide) (by kernel_rfl) rfl rfl (by simp) fz rfl rfl (by simp[maxLen])) ?_;rintro _ w ⟨VN,rfl,h⟩;refine go ?_;refine W.loop (fun(i:Nat) env w=>i≤3∧∃(j:Env) (ao:Option Addr),env=eu j [(4,.slice ax bb.length cx),(12,.slice ao (p7 number aJ ([part,parts,bb.length].take i)).length (p7 number aJ ([part,parts,bb.length].take i)).length),(42,.slice (some ⟨VN,0,none⟩) 3 3),(43,.int .i64 3),(44,.int .i64 (i:Nat))]∧On W0 (bC (.slice ao (p7 number aJ ([part,parts,bb.length].take i)).length (p7 number aJ ([part,parts,bb.length].take i)).length) (p7 number aJ ([part,parts,bb.length].take i))::Own 1 (.slice (some ⟨VN,0,none⟩) 3 3) 3 ([part,parts,bb.length].map fun(q:Nat)=>Value.int .i64 (q:Int))::L) w) (fun i=>3 - i) (0) ?_ ?_
 · have h:On W0 (Own 1 (.slice (some ⟨VN,0,none⟩) 3 3) 3 ([part,parts,bb.length].map fun(q:Nat)=>Value.int .i64 (q:Int))::_) w:=h
   have e0:p7 number aJ ([part,parts,bb.length].take 0)=pY++be number 8++be aJ 4:=by unfold p7 hdR;simp
   refine⟨Nat.zero_le _,_,Pg,aD ⟨rfl,(by rw[e0];rfl),rfl,rfl,rfl,trivial⟩, ?_⟩;rw[e0];exact h.to
 rintro i env w ⟨hi,j,ao,rfl,h⟩;have r7:=sD number aJ ([part,parts,bb.length].take i);have htl:([part,parts,bb.length].take i).length≤3:=by rw[List.length_take];exact Nat.min_le_right ..
 refine qI (fun oM=> ?_) (fun oM=> ?_)
 ·
  refine W.skip ?_;refine W.seq ?_;refine W.block ?_;refine W.seq ?_;have hi3:i<3:=by omega
  have aA:∃x,[part,parts,bb.length][i]? =some x:=⟨[part,parts,bb.length][i]'hi3,List.getElem?_eq_getElem _⟩;obtain⟨x,hx⟩:=aA
  have hxb:x<65536:=by
    have hm:=List.mem_of_getElem? hx;simp only[List.mem_cons,List.not_mem_nil,or_false] at hm;omega
  refine qD ?_;refine WL.l isAgg3 rfl ((h.aR (v:=.slice (some ⟨VN,0,none⟩) 3 3)).elem (i:=i) (vs:=[.int .i64 (x:Int)]) (by omega) (Pd hx) 0 _ rfl) ?_;refine qC ?_ (C:=dm (n:=2) h (aB.cF) (by decide) (by decide) (by omega) (by omega));rintro _ w ⟨a51,rfl,h⟩;refine go ?_;refine WL.v (di rfl rfl (by omega) (by omega)) ?_;refine gw ?_;have e1:=Mr (number:=number) (aJ:=aJ) hx;refine⟨i+1,⟨by omega,_,a51,aD ⟨rfl,(by rw[e1];rfl),rfl,rfl,rfl,trivial⟩, ?_⟩,by show 3 - (i+1)<3 - i;omega⟩;rw[e1];exact h.to
 refine W.exit ?_;refine W.seq ?_;have aA:i=3:=by omega
 obtain rfl:=aA;have nj:bb.length≤480:=by omega
 have afV:(p7 number aJ ([part,parts,bb.length].take 3)).length=22:=sD number aJ [part,parts,bb.length];refine go ?_;refine WL.e (bU (bytes:=1) h rfl rfl (h.aO C) underlying28 rfl rfl rfl rfl rfl (by omega) (by omega) cR) ?_;rintro _ w ⟨a55,c55,hv,h⟩;have e55:(p7 number aJ ([part,parts,bb.length].take 3)).length+bb.length=(kC number aJ part parts bb).length:=by rw[nD,afV]
 rw[e55] at hv h;subst hv;have e2:aL (p7 number aJ ([part,parts,bb.length].take 3))++aL bb=aL (kC number aJ part parts bb):=by rw[←Mq];unfold aL;rw[←List.map_append];rfl
 rw[e2] at h;have lb:=nD number aJ part parts bb;refine qC ?_ (C:=OZ (to:=508) h (aB.cF) (by omega) (by omega) (by decide));rintro _ w ⟨a56,rfl,h⟩;have lp:(gI (kC number aJ part parts bb) 508).length=508:=ku (by omega);refine qC ?_ (C:=oN h (aB.cF) (by rw[lp];decide));rintro _ w ⟨a57,rfl,h⟩;refine qR ?_;have h3:On W0 (bC (.slice a57 (jF number aJ part parts bb).length (jF number aJ part parts bb).length) (jF number aJ part parts bb)::_) w:=h;have h2:On W0 (bC (.slice a57 (jF number aJ part parts bb).length (jF number aJ part parts bb).length) (jF number aJ part parts bb)::L) w:=h3.to;exact .inl ⟨by omega,nj,Gi (by omega) (by omega) nj,a57,rfl,h2⟩
theorem sE{a:Option Addr}{b8 at_ n:Nat}{B:List UInt8}(h1:1≤n)(h8:n≤8)(eD:at_+n≤B.length)(h:On W0 (bC (.slice a B.length B.length) B::aX b8 [.slice a B.length B.length] 28::L) w):Cs 298 [.int .i64 (at_:Int),.int .i64 (n:Int),b8] w fun v w'=>v=.int .u64 (bM B at_ n:Int)∧On W0 (bC (.slice a B.length B.length) B::aX b8 [.slice a B.length B.length] 28::L) w':=by
 refine qO ?_;refine qC ?_ (C:=jS h (aB.cF));rintro _ w hg;rcases hg with⟨_,hv,h⟩|⟨dX,_,_⟩;rotate_left
 · exact absurd (show _ by omega) dX
 have hv:_=Value.tuple #[.int .u64 (bM B at_ n:Int),.bool true]:=hv;subst hv;refine qR ?_;exact⟨rfl,h⟩
theorem TI{ax:Option Addr}{cx:Nat}{s:List UInt8}(h:On W0 L w)(C:aB L (Bytes (.slice ax s.length cx) s))(zB:s.length≤1000000):Cs 250 [.slice ax s.length cx] w fun v w'=>((bJ s).err=0∧∃a c,v=.tuple #[.int .u64 ((bJ s).number:Int),.int .u32 ((bJ s).aJ:Int),.int .i64 ((bJ s).part:Int),.int .i64 ((bJ s).parts:Int),.slice a (bJ s).b.length c,.int .i64 0]∧On W0 (bC (.slice a (bJ s).b.length c) (bJ s).b::L) w')∨((bJ s).err≠0∧v=.tuple #[.int .u64 0,.int .u32 0,.int .i64 0,.int .i64 0,.slice none 0 0,.int .i64 (bJ s).err]∧On W0 L w'):=by
 refine qO ?_;have fH:=aG;refine qI (fun c2=> ?_) (fun c2=> ?_)
 ·
  refine go ?_;refine W.ret (bf.r6 (v1:=.int .u64 _) (v2:=.int .u32 _) (v3:=.int .i64 _) (v4:=.int .i64 _) (v5:=.slice _ _ _) (v6:=.int .i64 _) results250 rfl rfl rfl rfl rfl rfl ?_);have e:bJ s=⟨0,0,0,0,[],3⟩:=by unfold bJ;rw[if_pos (by omega)]
  exact .inr ⟨by rw[e];show(3:Int)≠0;decide,by rw[e],h⟩
 refine W.skip ?_;refine W.seq ?_;have hs:s.length=512:=by omega
 have eB:s.take (s.length - 4)=s.take 508:=by rw[hs]
 have aA:∃B,B=s.take 508:=⟨_,rfl⟩;obtain⟨B,hB⟩:=aA;have Tz:B.length=508:=by rw[hB,List.length_take];omega
 refine qC ?_ (C:=El h C (by omega));rintro _ w hg;rcases hg with⟨ho,_,Mj,hv,h⟩|⟨ho,hv,h⟩
 ·
  rw[eB,←hB] at hv h;subst hv
  have hu:bJ s=if 480<bM B 20 2 then⟨0,0,0,0,[],2⟩ else
      if(lH (bM B 4 8) (bM B 12 4) (bM B 16 2) (bM B 18 2) (xk B)).2≠0∨(lH (bM B 4 8) (bM B 12 4) (bM B 16 2) (bM B 18 2) (xk B)).1≠s then⟨0,0,0,0,[],2⟩ else
      ⟨bM B 4 8,bM B 12 4,bM B 16 2,bM B 18 2,xk B,0⟩:=by
    unfold bJ;rw[if_neg (by omega),if_neg (by rw[ho];decide),←hB]
  refine gb fun b8 w h=> ?_;refine gs fun w h _=> ?_;refine go ?_;refine WL.v (bY rfl rfl rfl) ?_;refine go ?_;refine W.cs ?_;refine W.seq ?_;have h:=h.aj (bC (.slice Mj B.length B.length) B);have f1:=pZ B 4 8;have f2:=pZ B 12 4;have f3:=pZ B 16 2;have f4:=pZ B 18 2;have f5:=pZ B 20 2;refine qD ?_;refine WL.e (nP rfl call298 rfl rfl (sE (at_:=4) (n:=8) (by decide) (by decide) (by omega) h)) ?_;rintro _ w ⟨rfl,h⟩;refine go ?_;refine WL.e (nP rfl call298 rfl rfl (sE (at_:=12) (n:=4) (by decide) (by decide) (by omega) h)) ?_;rintro _ w ⟨rfl,h⟩;refine qD ?_;refine WL.e (nP rfl call298 rfl rfl (sE (at_:=16) (n:=2) (by decide) (by decide) (by omega) h)) ?_;rintro _ w ⟨rfl,h⟩;refine qD ?_;refine WL.e (nP rfl call298 rfl rfl (sE (at_:=18) (n:=2) (by decide) (by decide) (by omega) h)) ?_;rintro _ w ⟨rfl,h⟩;refine qD ?_;refine WL.e (nP rfl call298 rfl rfl (sE (at_:=20) (n:=2) (by decide) (by decide) (by omega) h)) ?_;rintro _ w ⟨rfl,h⟩;refine qI (fun oM=> ?_) (fun oM=> ?_)
  · refine go ?_;refine W.ret (bf.r6 (v1:=.int .u64 _) (v2:=.int .u32 _) (v3:=.int .i64 _) (v4:=.int .i64 _) (v5:=.slice _ _ _) (v6:=.int .i64 _) results250 rfl rfl rfl rfl rfl rfl ?_);rw[if_pos (by omega)] at hu;exact .inr ⟨by rw[hu];show(2:Int)≠0;decide,by rw[hu],h.to⟩
  refine W.skip ?_;refine W.seq ?_;have hle:bM B 20 2≤480:=by omega
  rw[if_neg (by omega)] at hu;have eY:=kr (L:=[bC (.slice Mj B.length B.length) B]) (l:=22) (h:=22+bM B 20 2) aB.own (Nat.le_refl _) (by omega) (by omega);have Xa:22+bM B 20 2 - 22=bM B 20 2:=by omega
  have evl:(B.drop 22).take (bM B 20 2)=xk B:=rfl;rw[Xa,evl] at eY;obtain⟨a',c',eY,gV⟩:=eY;have hvl:(xk B).length=bM B 20 2:=by unfold xk;rw[List.length_take,List.length_drop];omega
  refine go ?_;refine WL.v (gK (m:=22) (n:=bM B 20 2) rfl rfl (by omega)) ?_;refine WL.v (nO (l:=22) (h:=22+bM B 20 2) underlying28 sizeOf5 rfl rfl rfl (by omega) (by omega) eY) ?_;refine WL.e (ag call34 (bG h (aB.to gV) (by omega))) ?_;rintro _ w ⟨VO,c45,rfl,h⟩;refine qC ?_ (C:=cU h);rintro _ w ⟨rfl,h⟩;refine qC ?_ (C:=Pf f1 f2 f3 f4 h (aB.cF));rintro _ w hg;rcases hg with⟨dW,_,hp,a53,rfl,h⟩|⟨_,hp,afZ,h⟩
  ·
   refine qE ?_;refine WL.e (ag call181 (C5 h (aB.cF) (aB.to C))) ?_;rintro _ w ⟨rfl,h⟩;refine WL.v (ey rfl) ?_;refine qI (fun wX=> ?_) (fun wX=> ?_)
   · refine go ?_;refine W.ret (bf.r6 (v1:=.int .u64 _) (v2:=.int .u32 _) (v3:=.int .i64 _) (v4:=.int .i64 _) (v5:=.slice _ _ _) (v6:=.int .i64 _) results250 rfl rfl rfl rfl rfl rfl ?_);rw[hp,if_pos (.inr wX)] at hu;exact .inr ⟨by rw[hu];show(2:Int)≠0;decide,by rw[hu],h.to⟩
   refine go ?_;refine W.ret (bf.r6 (v1:=.int .u64 _) (v2:=.int .u32 _) (v3:=.int .i64 _) (v4:=.int .i64 _) (v5:=.slice _ _ _) (v6:=.int .i64 _) results250 rfl rfl rfl rfl rfl rfl ?_);rw[hp,if_neg (fun hh=>by rcases hh with hh|hh;exact hh rfl;exact wX hh)] at hu;refine .inl ⟨by rw[hu],VO,(xk B).length,by rw[hu], ?_⟩;rw[hu];exact h.to
  subst afZ;refine qE ?_;refine W.ret (bf.r6 (v1:=.int .u64 _) (v2:=.int .u32 _) (v3:=.int .i64 _) (v4:=.int .i64 _) (v5:=.slice _ _ _) (v6:=.int .i64 _) results250 rfl rfl rfl rfl rfl rfl ?_);rw[if_pos (.inl hp)] at hu;exact .inr ⟨by rw[hu];show(2:Int)≠0;decide,by rw[hu],h.to⟩
 subst hv;refine gb fun b8 w h=> ?_;refine gs fun w h _=> ?_;refine qE ?_;refine W.ret (bf.r6 (v1:=.int .u64 _) (v2:=.int .u32 _) (v3:=.int .i64 _) (v4:=.int .i64 _) (v5:=.slice _ _ _) (v6:=.int .i64 _) results250 rfl rfl rfl rfl rfl rfl ?_);have hu:bJ s=⟨0,0,0,0,[],(eX s).2⟩:=by unfold bJ;rw[if_neg (by omega),if_pos ho]
 exact .inr ⟨by rw[hu];exact ho,by rw[hu],h.to⟩
end Go.Proofs.YtcplmndikhjehaaGreat
namespace Go.Sl.ow
open Go Go.Sl Go.Sl.eM Go.Sl.dA Go.Sl.gU
def rE(g:Rg)(bs:List (List UInt8)):Rg:=bs.foldl rD g
def jB(bs:List (List UInt8)):Nat:=(bs.map fun b=>bO b.length).sum
theorem zC(g:Rg)(bs:List (List UInt8))(b:List UInt8):rE g (bs++[b])=rD (rE g bs) b:=by unfold rE;rw[List.foldl_append];rfl
theorem p8(bs:List (List UInt8))(b:List UInt8):jB (bs++[b])=jB bs+bO b.length:=by unfold jB;simp
theorem sF(l:List LB):jB (l.map (·.2))=gO l:=by unfold jB gO;rw[List.map_map];rfl
structure TJ(g h:Rg)(bs:List (List UInt8)):Prop where
 at_:h.at_=g.at_
 n:h.n=g.n
 first:h.first=g.first
 aJ:h.aJ=g.aJ
 used:h.used=g.used+jB bs
 len:h.l.length=g.l.length+bs.length
 row:h.l.map (·.2)=g.l.map (·.2)++bs
theorem xu(g:Rg):∀bs:List (List UInt8),TJ g (rE g bs) bs:=by
 intro bs;generalize hn:bs.length=n
 induction n generalizing bs with
 | zero=>
   have:bs=[]:=List.eq_nil_of_length_eq_zero hn;subst this;exact⟨rfl,rfl,rfl,rfl,rfl,rfl,by show _=_++[];rw[List.append_nil];rfl⟩
 | succ n ih=>
   obtain⟨cs,b,rfl⟩:∃cs b,bs=cs++[b]:=⟨bs.dropLast,bs.getLast (by intro e;subst e;cases hn),(List.dropLast_concat_getLast _).symm⟩;have hc:cs.length=n:=by simpa using hn
   obtain⟨h1,h2,h3,h4,h5,h6,h7⟩:=ih cs hc;rw[zC];refine⟨h1,h2,h3,h4, ?_, ?_, ?_⟩
   · show(rE g cs).used+_=_
     rw[h5,p8];omega
   · show((rE g cs).l++_).length=_
     rw[List.length_append,List.length_append,h6];simp;omega
   show((rE g cs).l++[((rE g cs).place,b)]).map (·.2)=_;rw[List.map_append,h7];simp
theorem Mt{g:Rg}(hp:g.place<g.n)(bs:List (List UInt8)):(rE g bs).place=(g.place+jB bs) % g.n:=by
 generalize hn:bs.length=n
 induction n generalizing bs with
 | zero=>
   have:bs=[]:=List.eq_nil_of_length_eq_zero hn;subst this;show g.place=(g.place+0) % g.n;rw[Nat.add_zero,Nat.mod_eq_of_lt hp]
 | succ n ih=>
   obtain⟨cs,b,rfl⟩:∃cs b,bs=cs++[b]:=⟨bs.dropLast,bs.getLast (by intro e;subst e;cases hn),(List.dropLast_concat_getLast _).symm⟩;have hc:cs.length=n:=by simpa using hn
   rw[zC];show((rE g cs).place+_) % (rE g cs).n=_;rw[ih cs hc,(xu g cs).n,p8,Nat.mod_add_mod,Nat.add_assoc]
end Go.Sl.ow
namespace Go.Proofs.YtcplmndikhjehaaGreat
open Go.Proofs.Tryz
open Go Go.Sl Go.Sl.eM Go.Sl.dA Go.Sl.gU Go.Sl.ow
set_option maxHeartbeats 0
set_option maxRecDepth 8000
variable{ax:Option Addr}{b br cx:Nat}
variable{W0 w:World}{L F:List aC}
theorem AQ{g:Rg}(h:On W0 (dz 311 br b g::L) w):Cs 251 [br] w fun v w'=>v=.int .u64 (g.next:Int)∧On W0 (dz 311 br b g::L) w':=by
 refine qO ?_;have aA:=kZ h;obtain⟨a,c,ws,aa,cD,jE,ja,h⟩:=aA;have hlen:g.l.length≤4096:=by have h1:=jN g.l;have h2:=cD.sum;have h3:=cD.used;have h4:=cD.n4;omega
 have AR:=cD.first;have AS:=cD.aJ;have Da:=cD.used;have rN:=cD.n2;have I4:=cD.n4;have Mu:=cD.VM;have Mv:=cD.place;have fH:=aG;refine go ?_;refine W.ez Tryz.follows h (by kernel_rfl) fun w h=> ?_;refine qD ?_;refine X.v (fun _=>(cT (k:=.u64) (m:=g.first) (n:=g.l.length) rfl rfl (Int.ofNat_le.2 (show _≤18446744073709551615 by omega)))) ?_;refine qR ?_;exact⟨rfl,eH cD jE ja h⟩
theorem Ph{g:Rg}(h:On W0 (dz 311 br b g::L) w):Cs 377 [br] w fun v w'=>v=.int .i64 ((g.n - g.used:Nat):Int)∧On W0 (dz 311 br b g::L) w':=by
 refine qO ?_;have aA:=kZ h;obtain⟨a,c,ws,aa,cD,jE,ja,h⟩:=aA;have hlen:g.l.length≤4096:=by have h1:=jN g.l;have h2:=cD.sum;have h3:=cD.used;have h4:=cD.n4;omega
 have AR:=cD.first;have AS:=cD.aJ;have Da:=cD.used;have rN:=cD.n2;have I4:=cD.n4;have Mu:=cD.VM;have Mv:=cD.place;have fH:=aG;refine go ?_;refine W.ez Tryz.follows h (by kernel_rfl) fun w h=> ?_;refine qN ?_;refine qR ?_;exact⟨rfl,eH cD jE ja h⟩
theorem VP{g:Rg}{ws:List RX}(h:ws.map RX.key=g.l):ws.length=g.l.length:=by rw[←h,List.length_map]
theorem Mw{g:Rg}{d:Dk}(gH:d.low)(h:On W0 (dz 311 br b g::aQ 109 221 b d::L) w):Cs 351 [br] w fun v w'=>v=.int .i64 (ek d).1∧On W0 (dz 311 br b g::aQ 109 221 b (ek d).2::L) w':=by
 refine qO ?_;have aA:=kZ h;obtain⟨a,c,ws,aa,cD,jE,ja,h⟩:=aA;have hlen:g.l.length≤4096:=by have h1:=jN g.l;have h2:=cD.sum;have h3:=cD.used;have h4:=cD.n4;omega
 have AR:=cD.first;have AS:=cD.aJ;have Da:=cD.used;have rN:=cD.n2;have I4:=cD.n4;have Mu:=cD.VM;have Mv:=cD.place;have fH:=aG;refine qC ?_ (C:=AA gH (h.aj (aQ 109 221 b d)));rintro _ w ⟨rfl,h⟩;refine qR ?_;exact⟨rfl,eH (a:=a) (c:=c) cD jE ja h.to⟩
theorem KE{g:Rg}{bb:List UInt8}(hb:bb.length≤32768)(hr:g.used+bO bb.length≤g.n)(hf:g.first+g.l.length+1≤9000000000000000000)(h:On W0 (dz 311 br b g::L) w)(C:aB L (Bytes (.slice ax bb.length cx) bb)):Cs 184 [br,.slice ax bb.length cx] w fun v w'=>v=.tuple #[]∧On W0 (dz 311 br b (rD g bb)::L) w':=by
 refine qO ?_;have aA:=kZ h;obtain⟨a,c,ws,aa,cD,jE,ja,h⟩:=aA;have hlen:g.l.length≤4096:=by have h1:=jN g.l;have h2:=cD.sum;have h3:=cD.used;have h4:=cD.n4;omega
 have AR:=cD.first;have AS:=cD.aJ;have Da:=cD.used;have rN:=cD.n2;have I4:=cD.n4;have Mu:=cD.VM;have Mv:=cD.place;have fH:=aG;refine go ?_;refine W.draw Tryz.follows h (fun w h=> ?_);refine WT.m 0 rfl ?_;refine WT.m 1 rfl ?_;refine WT.n 2 rfl rfl ?_;refine WT.f 3 7 rfl underlying311 rfl sizeOf309 rfl rfl ?_;refine WT.l 4 rfl isAgg309 rfl (h.aS rfl) ?_;refine WT.m 5 rfl ?_;refine WT.n 6 rfl rfl ?_;refine WT.f 7 4 rfl underlying311 rfl sizeOf3 rfl rfl ?_;refine WT.l 8 rfl isAgg3 rfl (h.aS rfl) ?_;refine WT.m 9 rfl ?_;refine WT.e 10 [true,true] rfl (ag call34 (bG h (aB.to C) (by omega))) ?_;rintro _ w ⟨Xf,pW,rfl,h⟩;refine qW ?_;refine WT.p 11 rfl (fun w'=>(aP (pl:=[(0,1),(1,1)]) (out:=[.int .i64 _,.slice _ _ _]) underlying377 zeroValue377 (fun w=>by kernel_rfl) rfl fz rfl)) ?_;refine WT.e 12 [false,true] rfl (aZ (zl:=[.int .i64 0,.slice none 0 0]) (out:=[.int .i64 _,.slice _ _ _]) h underlying309 sizeOf377 zeroValue377 (by decide) (by kernel_rfl) rfl rfl (by simp) fz rfl rfl (by simp[maxLen])) ?_;rintro _ w ⟨VQ,rfl,h⟩;refine qW ?_;refine WT.e 13 [false] rfl (bU (bytes:=32) h rfl rfl (h.aR) underlying309 rfl rfl rfl rfl rfl (by omega) (by omega) (by simp[Value.oneCell'])) ?_;rintro _ w ⟨I5,tq,rfl,h⟩;refine⟨trivial, ?_⟩;refine WT.n 14 rfl rfl ?_;refine WT.f 15 7 rfl underlying311 rfl sizeOf309 rfl rfl ?_;refine WT.e 16 [] rfl (bI (v:=.slice _ _ _) h sizeOf309 rfl rfl rfl rfl rfl) ?_;rintro _ w h
 try simp only[Nat.zero_add,Nat.add_zero,List.set_cons_zero,List.set_cons_succ] at h
 refine⟨trivial, ?_⟩;refine WT.dn ?_;refine go ?_;refine W.draw Tryz.follows h (fun w h=> ?_);refine WT.m 0 rfl ?_;refine WT.n 1 rfl rfl ?_;refine WT.f 2 5 rfl underlying311 rfl sizeOf3 rfl rfl ?_;refine WT.l 3 rfl isAgg3 rfl (h.aS rfl) ?_;refine WT.m 4 rfl ?_;refine WT.p 5 rfl (fun w'=>(kO underlying28 rfl)) ?_;refine WT.e 6 [true] rfl (ag call252 (Eu (by omega) h)) ?_;rintro _ w ⟨rfl,h⟩;refine qW ?_;refine WT.p 7 rfl (fun w'=>(gK (m:=g.used) (n:=bO bb.length) rfl rfl (by omega))) ?_;refine WT.n 8 rfl rfl ?_;refine WT.f 9 5 rfl underlying311 rfl sizeOf3 rfl rfl ?_;refine WT.e 10 [false] rfl (bI (v:=.int .i64 _) h sizeOf3 rfl rfl rfl rfl rfl) ?_;rintro _ w h
 try simp only[Nat.zero_add,Nat.add_zero,List.set_cons_zero,List.set_cons_succ] at h
 refine⟨trivial, ?_⟩;refine WT.dn ?_;refine W.draw Tryz.follows h (fun w h=> ?_);refine WT.m 0 rfl ?_;refine WT.m 1 rfl ?_;refine WT.n 2 rfl rfl ?_;refine WT.f 3 4 rfl underlying311 rfl sizeOf3 rfl rfl ?_;refine WT.l 4 rfl isAgg3 rfl (h.aS rfl) ?_;refine WT.m 5 rfl ?_;refine WT.p 6 rfl (fun w'=>(kO underlying28 rfl)) ?_;refine WT.m 9 rfl ?_;refine WT.n 10 rfl rfl ?_;refine WT.f 11 2 rfl underlying311 rfl sizeOf3 rfl rfl ?_;refine WT.l 12 rfl isAgg3 rfl (h.aS rfl) ?_;refine WT.e 7 [true,true] rfl (ag call252 (Eu (by omega) h)) ?_;rintro _ w ⟨rfl,h⟩;refine qW ?_;refine WT.p 8 rfl (fun w'=>(gK (m:=g.place) (n:=bO bb.length) rfl rfl (by omega))) ?_;refine WT.p 13 rfl (fun w'=>(mz (m:=g.place+bO bb.length) (n:=g.n) rfl rfl (by omega))) ?_;refine WT.n 14 rfl rfl ?_;refine WT.f 15 4 rfl underlying311 rfl sizeOf3 rfl rfl ?_;refine WT.e 16 [false,false] rfl (bI (v:=.int .i64 _) h sizeOf3 rfl rfl rfl rfl rfl) ?_;rintro _ w h
 try simp only[Nat.zero_add,Nat.add_zero,List.set_cons_zero,List.set_cons_succ] at h
 refine⟨trivial, ?_⟩;refine WT.dn (bf.yW (bf.r0 results184 ?_));exact⟨rfl,Mp (a2:=I5) (c2:=tq) (v:=.slice Xf bb.length pW) hb hr hf cD jE ja rfl h.to⟩
theorem I6{d:Dk}{k:Int}{bs:List UInt8}(hl:Live d)(hk:0≤k∧k<d.n)(hbs:bs.length≤512)(gH:d.low)(h:On W0 (aQ 109 221 b d::L) w)(C:aB L (Bytes (.slice ax bs.length cx) bs)):Cs 75 [b,.int .i64 k,.slice ax bs.length cx] w fun v w'=>v=.int .i64 0∧On W0 (aQ 109 221 b (bT d k bs).2::L) w':=(vI gH h C).mono fun e w' he=>by
 obtain⟨v,he,hv⟩:=he;refine⟨v,he, ?_⟩;obtain⟨hv,h⟩:=hv;rw[(jW hl hk hbs).1] at hv;exact⟨hv,h⟩
theorem tC{d:Dk}{k:Int}(hs:mB d=0)(hk:0≤k∧k<d.n)(h:On W0 (aQ 109 221 b d::L) w):Cs 106 [b,.int .i64 k] w fun v w'=>∃bq,v=.tuple #[.slice (some ⟨bq,0,none⟩) 512 512,.int .i64 0]∧On W0 (Own 1 (.slice (some ⟨bq,0,none⟩) 512 512) 512 (aL (bL d k))::aQ 109 221 b d::L) w':=(Ky h).mono fun e w' he=>by
 obtain⟨v,he,hv⟩:=he;refine⟨v,he, ?_⟩;rcases hv with⟨_,hv⟩|⟨dX,_⟩
 · exact hv
 exact absurd (by unfold NS;rw[if_neg (by rw[hs];decide),if_pos hk]) dX
theorem Mx{g:Rg}{bb:List UInt8}{d:Dk}(hl:Live d)(gH:d.calls+g.n≤1000000000000)(eD:((g.at_+g.n:Nat):Int)≤d.n)(hb:bb.length≤1000000000)(hf:g.first+g.l.length+1≤9000000000000000000)(h:On W0 (dz 311 br b g::aQ 109 221 b d::L) w)(C:aB L (Bytes (.slice ax bb.length cx) bb)):Cs 350 [br,.slice ax bb.length cx] w fun v w'=>(32768<bb.length∧v=.tuple #[.int .u64 0,.int .i64 5]∧On W0 (dz 311 br b g::aQ 109 221 b d::L) w')∨(bb.length≤32768∧g.n<g.used+bO bb.length∧v=.tuple #[.int .u64 0,.int .i64 7]∧On W0 (dz 311 br b g::aQ 109 221 b d::L) w')∨(bb.length≤32768∧g.used+bO bb.length≤g.n∧v=.tuple #[.int .u64 (g.next:Int),.int .i64 0]∧On W0 (dz 311 br b (rD g bb)::aQ 109 221 b (pg d g.at_ g.n g.place g.next g.aJ bb (bO bb.length))::L) w'):=by
 refine qO ?_;have My:=O8 h;have rN:=My.n2;have I4:=My.n4;have Da:=My.used;have AS:=My.aJ;have Mu:=My.VM;have Mv:=My.place;have fH:=aG;refine qC ?_ (C:=Eu (n:=bb.length) (by omega) h);rintro _ w ⟨rfl,h⟩;refine qI (fun c4=> ?_) (fun c4=> ?_)
 · refine qR ?_;exact .inl ⟨by omega,rfl,h⟩
 refine qC ?_ (C:=Ph h);rintro _ w ⟨rfl,h⟩;refine qI (fun c8=> ?_) (fun c8=> ?_)
 · refine qR ?_;exact .inr (.inl ⟨by omega,by omega,rfl,h⟩)
 refine qC ?_ (C:=AQ h);rintro _ w ⟨rfl,h⟩;refine gw ?_;refine W.seq ?_;refine W.seq ?_;have nj:bb.length≤32768:=by omega
 have Db:g.used+bO bb.length≤g.n:=by omega
 have aA:=kZ h;obtain⟨a,c,ws,aa,cD,jE,ja,h⟩:=aA;have zD:bO bb.length≤4096:=by omega
 have hnx:g.next<18446744073709551616:=by show g.first+g.l.length<_;omega
 have SB:0<g.n:=by omega
 refine go ?_;refine W.loop (fun(i:Nat) env w=>i≤bO bb.length∧∃j,env=eu j [(0,br),(1,.slice ax bb.length cx),(6,.int .i64 (bO bb.length:Int)),(7,.int .u64 (g.next:Int)),(26,.int .i64 (bO bb.length:Int)),(27,.int .i64 (i:Nat))]∧On W0 (aQ 109 221 b (pg d g.at_ g.n g.place g.next g.aJ bb i)::aX br [b,.int .i64 (g.at_:Int),.int .i64 (g.n:Int),.int .u64 (g.first:Int),.int .i64 (g.place:Int),.int .i64 (g.used:Int),.int .u32 (g.aJ:Int),.slice a g.l.length c] 311::Own 2 (.slice a g.l.length c) g.l.length (ws.flatMap RX.row)::aY aa::L) w) (fun i=>bO bb.length - i) (0) ?_ ?_
 · have h0:On W0 (aQ 109 221 b d::aX br [b,.int .i64 (g.at_:Int),.int .i64 (g.n:Int),.int .u64 (g.first:Int),.int .i64 (g.place:Int),.int .i64 (g.used:Int),.int .u32 (g.aJ:Int),.slice a g.l.length c] 311::Own 2 (.slice a g.l.length c) g.l.length (ws.flatMap RX.row)::aY aa::L) w:=h.to
   exact⟨Nat.zero_le _,_,aD ⟨rfl,rfl,rfl,rfl,rfl,rfl,trivial⟩,h0⟩
 rintro i env w ⟨hi,j,rfl,h⟩;have aA:=p6 (place:=g.place) (number:=g.next) (aJ:=g.aJ) (b:=bb) hl SB eD i;obtain⟨hli,hni,hci⟩:=aA;have Ir:=vO (at_:=g.at_) (place:=g.place) (i:=i) SB;refine qI (fun tq=> ?_) (fun tq=> ?_)
 ·
  refine W.skip ?_;refine W.seq ?_;have IB:i<bO bb.length:=by omega
  have akB:i*480≤bb.length:=by
    have aA:=Nat.eq_zero_or_pos i;rcases aA with h0|h0
    · subst h0;omega
    have:=uM (n:=bb.length) (i:=i - 1) (by omega);omega
  have hCb:=(h.reads (aB.to C)).bounds;have eY:=kr (l:=i*480) (h:=min ((i+1)*480) bb.length) C hCb.1 (by omega) (Nat.min_le_right _ _);rw[O7] at eY;obtain⟨ap,cp,eY,gP⟩:=eY;have Mg:=p5 bb i;refine go ?_;refine W.ez Tryz.follows h (by kernel_rfl) fun w h=> ?_;refine go ?_;refine X.v (fun _=>(dr (m:=i) (n:=480) rfl rfl (by omega))) ?_;refine qD ?_;refine X.v (fun _=>(dr (m:=i+1) (n:=480) rfl rfl (by omega))) ?_;refine go ?_;refine X.v (fun _=>(Oq (m:=(i+1)*480) (n:=bb.length) (r:=min ((i+1)*480) bb.length) rfl rfl rfl)) ?_;refine X.v (fun _=>(nO (l:=i*480) (h:=min ((i+1)*480) bb.length) underlying28 sizeOf5 rfl rfl rfl (by omega) (by omega) eY)) ?_;refine X.e (ag call299 (Pf hnx AS (by omega) (by omega) h (aB.to gP))) ?_;rintro _ w hg;rcases hg with⟨_,_,_,a48,rfl,h⟩|⟨_,hp,_⟩;rotate_left
  · exact absurd (by rw[Gi (by omega) (by omega) Mg]) hp
  have zB:=mE (number:=g.next) (aJ:=g.aJ) (part:=i) (parts:=bO bb.length) Mg;refine go ?_;refine W.ez Tryz.follows h (by kernel_rfl) fun w h=> ?_;refine qN ?_;refine X.v (fun _=>(mz (m:=g.place+i) (n:=g.n) rfl rfl (by omega))) ?_;refine X.v (fun _=>(gK (m:=g.at_) (n:=(g.place+i) % g.n) rfl rfl (by have:=Nat.mod_lt (g.place+i) SB;omega))) ?_;refine qC ?_ (C:=I6 (k:=jM g.at_ g.n g.place i) (bs:=(jF g.next g.aJ i (bO bb.length) (fE bb i))) hli ⟨Ir.1,by omega⟩ (by omega) ⟨by omega,by rw[hli.cJ];decide⟩ (h.aj (aQ 109 221 b (pg d g.at_ g.n g.place g.next g.aJ bb i))) (aB.cF (v:=.slice a48 (jF g.next g.aJ i (bO bb.length) (fE bb i)).length (jF g.next g.aJ i (bO bb.length) (fE bb i)).length)));rintro _ w ⟨rfl,h⟩;have h:On W0 (aQ 109 221 b (pg d g.at_ g.n g.place g.next g.aJ bb (i+1))::_) w:=h;refine go ?_;refine WL.v (bY rfl rfl rfl) ?_;refine go ?_;refine W.cf ?_;refine go ?_;refine WL.v (di rfl rfl (by omega) (by omega)) ?_;refine gw ?_;exact⟨i+1,⟨by omega,_,aD ⟨rfl,rfl,rfl,rfl,rfl,rfl,trivial⟩,h.to⟩,by show bO bb.length - (i+1)<bO bb.length - i;omega⟩
 refine W.exit ?_;refine W.seq ?_;have aA:i=bO bb.length:=by omega
 obtain rfl:=aA;have h:=eH (TR:=311) (br:=br) (b:=b) (a:=a) (c:=c) (L:=aQ 109 221 b (pg d g.at_ g.n g.place g.next g.aJ bb (bO bb.length))::L) cD jE ja h.to;refine qC ?_ (C:=KE nj Db hf h (aB.to C));rintro _ w ⟨rfl,h⟩;refine qR ?_;exact .inr (.inr ⟨nj,Db,rfl,h⟩)
end Go.Proofs.YtcplmndikhjehaaGreat
namespace Go.Proofs.YtcplmndikhjehaaGreat
open Go.Proofs.Tryz
open Go Go.Sl Go.Sl.eM Go.Sl.dA Go.Sl.gU Go.Sl.ow
set_option maxHeartbeats 0
set_option maxRecDepth 8000
variable{W0 w:World}{L F:List aC}
theorem Dc{ax:Option Addr}{cx n:Nat}{s:List UInt8}(hn:s.length=n)(zB:n≤1000000)(h:On W0 L w)(C:aB L (Cells 1 (.slice ax n cx) n (aL s))):Cs 250 [.slice ax n cx] w fun v w'=>((bJ s).err=0∧∃a c,v=.tuple #[.int .u64 ((bJ s).number:Int),.int .u32 ((bJ s).aJ:Int),.int .i64 ((bJ s).part:Int),.int .i64 ((bJ s).parts:Int),.slice a (bJ s).b.length c,.int .i64 0]∧On W0 (bC (.slice a (bJ s).b.length c) (bJ s).b::L) w')∨((bJ s).err≠0∧v=.tuple #[.int .u64 0,.int .u32 0,.int .i64 0,.int .i64 0,.slice none 0 0,.int .i64 (bJ s).err]∧On W0 L w'):=by
 subst hn;exact TI h C zB
theorem Mz{br b:Nat}{g:Rg}{d:Dk}{least:Nat}(se:g.used=g.n∨(g.used<g.n∧TF d g.at_ g.n g.place g.next least g.aJ))(hs:mB d=0)(eD:((g.at_+g.n:Nat):Int)≤d.n)(h:On W0 (dz 311 br b g::aQ 109 221 b d::L) w):Cs 182 [br,.int .u32 (least:Int)] w fun v w'=>v=.tuple #[.slice none 0 0,.int .u32 0,.bool false,.int .i64 0]∧On W0 (dz 311 br b g::aQ 109 221 b d::L) w':=by
 refine qO ?_;have aA:=kZ h;obtain⟨a,c,ws,aa,cD,jE,ja,h⟩:=aA;have hlen:g.l.length≤4096:=by have h1:=jN g.l;have h2:=cD.sum;have h3:=cD.used;have h4:=cD.n4;omega
 have AR:=cD.first;have AS:=cD.aJ;have Da:=cD.used;have rN:=cD.n2;have I4:=cD.n4;have Mu:=cD.VM;have Mv:=cD.place;have fH:=aG;have SB:0<g.n:=by omega
 have hi0:(0:Nat)<1:=by decide
 refine go ?_;refine W.loop (fun(i:Nat) env w=>i=0∧∃j,env=eu j [(0,br),(1,.int .u32 (least:Int)),(4,.slice none 0 0),(5,.int .u32 0),(6,.bool false),(7,.int .i64 0),(8,.int .i64 1),(9,.int .i64 (i:Nat))]∧On W0 (aX br [b,.int .i64 (g.at_:Int),.int .i64 (g.n:Int),.int .u64 (g.first:Int),.int .i64 (g.place:Int),.int .i64 (g.used:Int),.int .u32 (g.aJ:Int),.slice a g.l.length c] 311::Own 2 (.slice a g.l.length c) g.l.length (ws.flatMap RX.row)::aY aa::aQ 109 221 b d::L) w) (fun i=>1 - i) (0) ?_ ?_
 · exact⟨rfl,_,aD ⟨rfl,rfl,rfl,rfl,rfl,rfl,rfl,rfl,trivial⟩,h.to⟩
 rintro i env w ⟨hi,j,rfl,h⟩;have Ir:=vO (at_:=g.at_) (place:=g.place) (i:=i) SB;refine qE ?_;refine W.ez Tryz.follows h (by kernel_rfl) fun w h=> ?_;refine qN ?_;refine qI (fun CS=> ?_) (fun CS=> ?_)
 · refine go ?_;refine W.ret (bf.r4 (v1:=.slice _ _ _) (v2:=.int .u32 _) (v3:=.bool _) (v4:=.int .i64 _) results182 rfl rfl rfl rfl ?_);exact⟨rfl,eH (a:=a) (c:=c) cD jE ja h.to⟩
 refine qD ?_
 have abd:TF d g.at_ g.n g.place g.next least g.aJ:=by
   rcases se with hh|⟨_,hh⟩
   · omega
   exact hh
 refine W.ez Tryz.follows h (by kernel_rfl) fun w h=> ?_;refine qN ?_;refine X.v (fun _=>(mz (m:=g.place+i) (n:=g.n) rfl rfl (by omega))) ?_;refine X.v (fun _=>(gK (m:=g.at_) (n:=(g.place+i) % g.n) rfl rfl (by have:=Nat.mod_lt (g.place+i) SB;omega))) ?_;refine X.e (ag call106 (tC (k:=(jM g.at_ g.n g.place i)) hs ⟨Ir.1,by omega⟩ (h.aj (aQ 109 221 b d)))) ?_;rintro _ w ⟨bq,rfl,h⟩;refine qE ?_;refine WL.e (ag call250 (Dc (vE _ _) (by decide) h (aB.cF))) ?_;rintro _ w hg;rcases hg with⟨SC,au,cu,rfl,h⟩|⟨SC,rfl,h⟩
 ·
  refine qE ?_;refine WL.e (ag call251 (AQ (b:=b) (eH (a:=a) (c:=c) (L:=bC (.slice au (bJ (bL d (jM g.at_ g.n g.place i))).b.length cu) (bJ (bL d (jM g.at_ g.n g.place i))).b::Own 1 (.slice (some ⟨bq,0,none⟩) 512 512) 512 (aL (bL d (jM g.at_ g.n g.place i)))::aQ 109 221 b d::L) cD jE ja h.to))) ?_;rintro _ w ⟨rfl,h⟩;have aA:=kZ h;obtain⟨a_,c_,ws_,aiQ,_,TK,TL,h⟩:=aA;refine WL.q (e7 rfl rfl) (fun c77=> ?_) (fun c77=> ?_)
  · refine qD ?_;refine W.ret (bf.r4 (v1:=.slice _ _ _) (v2:=.int .u32 _) (v3:=.bool _) (v4:=.int .i64 _) results182 rfl rfl rfl rfl ?_);exact⟨rfl,eH (a:=a_) (c:=c_) cD TK TL h.to⟩
  refine qN ?_;refine WL.q (e7 rfl rfl) (fun c82=> ?_) (fun c82=> ?_)
  · refine qD ?_;refine W.ret (bf.r4 (v1:=.slice _ _ _) (v2:=.int .u32 _) (v3:=.bool _) (v4:=.int .i64 _) results182 rfl rfl rfl rfl ?_);exact⟨rfl,eH (a:=a_) (c:=c_) cD TK TL h.to⟩
  refine qN ?_;refine WL.q (cH rfl rfl) (fun c87=> ?_) (fun c87=> ?_)
  · refine qD ?_;refine W.ret (bf.r4 (v1:=.slice _ _ _) (v2:=.int .u32 _) (v3:=.bool _) (v4:=.int .i64 _) results182 rfl rfl rfl rfl ?_);exact⟨rfl,eH (a:=a_) (c:=c_) cD TK TL h.to⟩
  refine qN ?_;refine WL.q (iU rfl rfl) (fun c95=> ?_) (fun c95=> ?_)
  · refine qD ?_;refine W.ret (bf.r4 (v1:=.slice _ _ _) (v2:=.int .u32 _) (v3:=.bool _) (v4:=.int .i64 _) results182 rfl rfl rfl rfl ?_);exact⟨rfl,eH (a:=a_) (c:=c_) cD TK TL h.to⟩
  exfalso;subst hi;have VR:(bJ (bL d (jM g.at_ g.n g.place 0))).part=0:=by omega
  have uI:(bJ (bL d (jM g.at_ g.n g.place 0))).number=g.next:=by omega
  rcases abd with hh|hh|hh|hh|hh
  · exact hh SC
  · exact hh uI
  · exact hh VR
  · omega
  omega
 refine qE ?_;refine W.ret (bf.r4 (v1:=.slice _ _ _) (v2:=.int .u32 _) (v3:=.bool _) (v4:=.int .i64 _) results182 rfl rfl rfl rfl ?_);exact⟨rfl,eH (a:=a) (c:=c) cD jE ja h.to⟩
theorem MA{br b:Nat}{g:Rg}{d:Dk}{least l2:Nat}{bb:List UInt8}(H:Xe d g.at_ g.n g.place g.next l2 bb)(hle:least≤l2)(Pj:l2≤g.aJ)(hb:bb.length≤32768)(Db:g.used+bO bb.length≤g.n)(hs:mB d=0)(eD:((g.at_+g.n:Nat):Int)≤d.n)(h:On W0 (dz 311 br b g::aQ 109 221 b d::L) w):Cs 182 [br,.int .u32 (least:Int)] w fun v w'=>∃a c,v=.tuple #[.slice a bb.length c,.int .u32 (l2:Int),.bool true,.int .i64 0]∧On W0 (bC (.slice a bb.length c) bb::dz 311 br b g::aQ 109 221 b d::L) w':=by
 refine qO ?_;have aA:=kZ h;obtain⟨a,c,ws,aa,cD,jE,ja,h⟩:=aA;have hlen:g.l.length≤4096:=by have h1:=jN g.l;have h2:=cD.sum;have h3:=cD.used;have h4:=cD.n4;omega
 have AR:=cD.first;have AS:=cD.aJ;have Da:=cD.used;have rN:=cD.n2;have I4:=cD.n4;have Mu:=cD.VM;have Mv:=cD.place;have fH:=aG;have SB:0<g.n:=by omega
 have ZK:=C8 bb.length;have aA:∃N,N=bO bb.length:=⟨_,rfl⟩;obtain⟨N,hN⟩:=aA;have hnx:g.next<256^8:=by show g.first+g.l.length<18446744073709551616;omega
 have af4:l2<256^4:=by show l2<4294967296;omega
 have h:=eH cD jE ja h;clear jE ja;refine go ?_;refine W.loop (fun(i:Nat) env w=>i≤N∧∃(j:Env) (ao:Option Addr) (co:Nat),env=eu j [(0,br),(1,.int .u32 (least:Int)),(4,.slice ao (bb.take (i*480)).length co),(5,.int .u32 ((if i=0 then 0 else l2:Nat):Int)),(6,.bool (decide (i=N))),(7,.int .i64 0),(8,.int .i64 ((if i=0 then 1 else N:Nat):Int)),(9,.int .i64 (i:Nat))]∧On W0 (bC (.slice ao (bb.take (i*480)).length co) (bb.take (i*480))::dz 311 br b g::aQ 109 221 b d::L) w) (fun i=>N - i) (0) ?_ ?_
 · exact⟨Nat.zero_le _,_,none,0,aD ⟨rfl,rfl,(by rw[Nat.zero_mul];rfl),rfl,(by rw[decide_eq_false (by omega)];rfl),rfl,rfl,rfl,trivial⟩,(by rw[Nat.zero_mul];exact h.bB 1 none)⟩
 rintro i env w ⟨hi,j,ao,co,rfl,h⟩;have Ir:=vO (at_:=g.at_) (place:=g.place) (i:=i) SB;have aA:∃Wt:Nat,Wt=(if i=0 then 1 else N):=⟨_,rfl⟩;obtain⟨Wt,hWt⟩:=aA;have aA:∃Lf:Nat,Lf=(if i=0 then 0 else l2):=⟨_,rfl⟩;obtain⟨Lf,hLf⟩:=aA;rw[←hWt,←hLf];have hW1:i<N→i<Wt:=fun hh=>by rw[hWt];split<;>omega
 have hW2:i=N→Wt=N:=fun hh=>by rw[hWt,if_neg (by omega)]
 refine qI (fun c8=> ?_) (fun c8=> ?_)
 ·
  have IB:i<N:=by
    have aA:=Nat.lt_or_ge i N;rcases aA with hh|hh
    · exact hh
    have:=hW2 (by omega);omega
  refine qD ?_;have af6:=kZ (h.aj (dz 311 br b g));obtain⟨a,c,ws,aa,_,jE,ja,h⟩:=af6;refine W.ez Tryz.follows h (by kernel_rfl) fun w h=> ?_;refine qN ?_;refine X.v (fun _=>(nM rfl rfl (by omega))) ?_;refine qD ?_;refine W.ez Tryz.follows h (by kernel_rfl) fun w h=> ?_;refine qN ?_;refine X.v (fun _=>(mz (m:=g.place+i) (n:=g.n) rfl rfl (by omega))) ?_;refine X.v (fun _=>(gK (m:=g.at_) (n:=(g.place+i) % g.n) rfl rfl (by have:=Nat.mod_lt (g.place+i) SB;omega))) ?_;refine X.e (ag call106 (tC (k:=(jM g.at_ g.n g.place i)) hs ⟨Ir.1,by omega⟩ (h.aj (aQ 109 221 b d)))) ?_;rintro _ w ⟨bq,rfl,h⟩;have hrd:(bL d (jM g.at_ g.n g.place i))=(jF g.next l2 i (bO bb.length) (fE bb i)):=H i (by omega);rw[hrd] at h;have Mg:=p5 bb i;have Xg:=yo (part:=i) (parts:=bO bb.length) hnx af4 (by omega) (by omega) Mg;refine qE ?_;refine WL.e (ag call250 (Dc (mE Mg) (by decide) h (aB.cF))) ?_;rintro _ w hg;rw[Xg] at hg;rcases hg with⟨_,au,cu,rfl,h⟩|⟨SC,_,_⟩;rotate_left
  · exact absurd rfl SC
  refine qE ?_;refine WL.e (ag call251 (AQ (b:=b) (eH (a:=a) (c:=c) (L:=bC (.slice au (fE bb i).length cu) (fE bb i)::bC (.slice ao (bb.take (i*480)).length co) (bb.take (i*480))::aQ 109 221 b d::L) cD jE ja h.to))) ?_;rintro _ w ⟨rfl,h⟩;have aA:=kZ h;obtain⟨a,c,ws,aa,_,jE,ja,h⟩:=aA;refine WL.v (bY rfl rfl rfl) ?_;refine qN ?_;refine WL.v (bY rfl rfl rfl) ?_;refine qN ?_;refine WL.v (dB rfl rfl (by show ¬((l2:Int)<(least:Int));omega)) ?_;refine qN ?_;refine WL.v (eV rfl rfl (by show ¬((g.aJ:Int)<(l2:Int));omega)) ?_;refine WL.pf ?_;refine go ?_;refine W.cs ?_;refine W.cut (fun env w=>∃(j:Env),env=eu j [(0,br),(1,.int .u32 (least:Int)),(4,.slice ao (bb.take (i*480)).length co),(5,.int .u32 (l2:Int)),(7,.int .i64 0),(8,.int .i64 (N:Int)),(9,.int .i64 (i:Nat)),(13,.int .u32 (l2:Int)),(14,.int .i64 (i:Nat)),(15,.int .i64 (N:Int)),(16,.slice au (fE bb i).length cu)]∧On W0 (bC (.slice au (fE bb i).length cu) (fE bb i)::bC (.slice ao (bb.take (i*480)).length co) (bb.take (i*480))::aX br [b,.int .i64 (g.at_:Int),.int .i64 (g.n:Int),.int .u64 (g.first:Int),.int .i64 (g.place:Int),.int .i64 (g.used:Int),.int .u32 (g.aJ:Int),.slice a g.l.length c] 311::Own 2 (.slice a g.l.length c) g.l.length (ws.flatMap RX.row)::aY aa::aQ 109 221 b d::L) w) ?_ ?_
  ·
   refine qI (fun w9=> ?_) (fun w9=> ?_)
   · refine qD ?_;exact⟨_,aD ⟨rfl,rfl,rfl,rfl,rfl,(by rw[hN];rfl),rfl,rfl,rfl,(by rw[hN];rfl),rfl,trivial⟩,h.to⟩
   refine qD ?_;have hi0:i≠0:=by omega
   have hW:Wt=N:=by rw[hWt,if_neg hi0]
   have hL:Lf=l2:=by rw[hLf,if_neg hi0]
   exact⟨_,aD ⟨rfl,rfl,rfl,(by rw[←hL];rfl),rfl,(by rw[←hW];rfl),rfl,rfl,rfl,(by rw[hN];rfl),rfl,trivial⟩,h.to⟩
  rintro env w ⟨j,rfl,h⟩;refine W.seq ?_;have hpf:=IZ (b:=bb) (i:=i);have hpe:=Mn (b:=bb) (i:=i);have akH:=p5 bb i;refine go ?_;refine WL.v (iq rfl rfl (by omega) (by omega)) ?_;refine WL.q (cH rfl rfl) (fun af7=> ?_) (fun af7=> ?_)
  ·
   refine qE ?_;refine WL.e (bU (bytes:=1) h rfl rfl (h.aR) underlying28 rfl rfl rfl rfl rfl (by have:=List.length_take_le (i*480) bb;have:=List.length_take (i:=i*480) (l:=bb);omega) (by have:=List.length_take (i:=i*480) (l:=bb);omega) cR) ?_;rintro _ w ⟨AT,AU,rfl,h⟩;refine go ?_;refine WL.v (iq rfl rfl (by omega) (by omega)) ?_;refine WL.v (cL rfl rfl) ?_;refine go ?_;refine WL.v (di rfl rfl (by omega) (by omega)) ?_;refine gw ?_;have e1:=uN bb i;have yp:((bb.take (i*480))).length+(fE bb i).length=((bb.take ((i+1)*480))).length:=by rw[←List.length_append,e1]
   have e2:aL ((bb.take (i*480)))++aL (fE bb i)=aL ((bb.take ((i+1)*480))):=by rw[←e1];exact(List.map_append ..).symm
   rw[e2,yp] at h;have e5:(l2:Int)=((if i+1=0 then 0 else l2:Nat):Int):=by rw[if_neg (by omega)]
   have e8:(N:Int)=((if i+1=0 then 1 else N:Nat):Int):=by rw[if_neg (by omega)]
   have e6:decide ((i:Int)=(N:Int) - 1)=decide (i+1=N):=by congr 1;exact propext ⟨fun hh=>by omega,fun hh=>by omega⟩
   refine⟨i+1,⟨by omega,_,AT,AU,aD ⟨rfl,rfl,congrArg (fun q=>Value.slice AT q AU) yp,congrArg (Value.int .u32) e5,congrArg Value.bool e6,rfl,congrArg (Value.int .i64) e8,rfl,trivial⟩, ?_⟩,by show N - (i+1)<N - i;omega⟩;exact(eH (TR:=311) (br:=br) (b:=b) (a:=a) (c:=c) (L:=bC (.slice AT ((bb.take ((i+1)*480))).length AU) ((bb.take ((i+1)*480)))::aQ 109 221 b d::L) cD jE ja h.to).to
  refine qN ?_;refine WL.v (iq rfl rfl (by omega) (by omega)) ?_;refine WL.v (gL rfl rfl (by omega)) ?_;refine go ?_;refine WL.q (iU rfl rfl) (fun af8=> ?_) (fun af8=> ?_)
  ·
   refine qE ?_;refine WL.e (bU (bytes:=1) h rfl rfl (h.aR) underlying28 rfl rfl rfl rfl rfl (by have:=List.length_take_le (i*480) bb;have:=List.length_take (i:=i*480) (l:=bb);omega) (by have:=List.length_take (i:=i*480) (l:=bb);omega) cR) ?_;rintro _ w ⟨AT,AU,rfl,h⟩;refine go ?_;refine WL.v (iq rfl rfl (by omega) (by omega)) ?_;refine WL.v (cL rfl rfl) ?_;refine go ?_;refine WL.v (di rfl rfl (by omega) (by omega)) ?_;refine gw ?_;have e1:=uN bb i;have yp:((bb.take (i*480))).length+(fE bb i).length=((bb.take ((i+1)*480))).length:=by rw[←List.length_append,e1]
   have e2:aL ((bb.take (i*480)))++aL (fE bb i)=aL ((bb.take ((i+1)*480))):=by rw[←e1];exact(List.map_append ..).symm
   rw[e2,yp] at h;have e5:(l2:Int)=((if i+1=0 then 0 else l2:Nat):Int):=by rw[if_neg (by omega)]
   have e8:(N:Int)=((if i+1=0 then 1 else N:Nat):Int):=by rw[if_neg (by omega)]
   have e6:decide ((i:Int)=(N:Int) - 1)=decide (i+1=N):=by congr 1;exact propext ⟨fun hh=>by omega,fun hh=>by omega⟩
   refine⟨i+1,⟨by omega,_,AT,AU,aD ⟨rfl,rfl,congrArg (fun q=>Value.slice AT q AU) yp,congrArg (Value.int .u32) e5,congrArg Value.bool e6,rfl,congrArg (Value.int .i64) e8,rfl,trivial⟩, ?_⟩,by show N - (i+1)<N - i;omega⟩;exact(eH (TR:=311) (br:=br) (b:=b) (a:=a) (c:=c) (L:=bC (.slice AT ((bb.take ((i+1)*480))).length AU) ((bb.take ((i+1)*480)))::aQ 109 221 b d::L) cD jE ja h.to).to
  refine qE ?_;refine WL.e (bU (bytes:=1) h rfl rfl (h.aR) underlying28 rfl rfl rfl rfl rfl (by have:=List.length_take_le (i*480) bb;have:=List.length_take (i:=i*480) (l:=bb);omega) (by have:=List.length_take (i:=i*480) (l:=bb);omega) cR) ?_;rintro _ w ⟨AT,AU,rfl,h⟩;refine go ?_;refine WL.v (iq rfl rfl (by omega) (by omega)) ?_;refine WL.v (cL rfl rfl) ?_;refine go ?_;refine WL.v (di rfl rfl (by omega) (by omega)) ?_;refine gw ?_;have e1:=uN bb i;have yp:((bb.take (i*480))).length+(fE bb i).length=((bb.take ((i+1)*480))).length:=by rw[←List.length_append,e1]
  have e2:aL ((bb.take (i*480)))++aL (fE bb i)=aL ((bb.take ((i+1)*480))):=by rw[←e1];exact(List.map_append ..).symm
  rw[e2,yp] at h;have e5:(l2:Int)=((if i+1=0 then 0 else l2:Nat):Int):=by rw[if_neg (by omega)]
  have e8:(N:Int)=((if i+1=0 then 1 else N:Nat):Int):=by rw[if_neg (by omega)]
  have e6:decide ((i:Int)=(N:Int) - 1)=decide (i+1=N):=by congr 1;exact propext ⟨fun hh=>by omega,fun hh=>by omega⟩
  refine⟨i+1,⟨by omega,_,AT,AU,aD ⟨rfl,rfl,congrArg (fun q=>Value.slice AT q AU) yp,congrArg (Value.int .u32) e5,congrArg Value.bool e6,rfl,congrArg (Value.int .i64) e8,rfl,trivial⟩, ?_⟩,by show N - (i+1)<N - i;omega⟩;exact(eH (TR:=311) (br:=br) (b:=b) (a:=a) (c:=c) (L:=bC (.slice AT ((bb.take ((i+1)*480))).length AU) ((bb.take ((i+1)*480)))::aQ 109 221 b d::L) cD jE ja h.to).to
 have hi3:i=N:=by
   have aA:=Nat.lt_or_ge i N;rcases aA with hh|hh
   · have:=hW1 hh;omega
   omega
 refine go ?_;refine W.ret (bf.r4 (v1:=.slice _ _ _) (v2:=.int .u32 _) (v3:=.bool _) (v4:=.int .i64 _) results182 rfl rfl rfl rfl ?_);subst hi3;have e:bb.take (i*480)=bb:=by rw[hN];exact Mo bb
 have hLe:Lf=l2:=by rw[hLf,if_neg (by omega)]
 subst hLe;rw[e] at h;rw[e,decide_eq_true rfl];exact⟨ao,co,rfl,h⟩
end Go.Proofs.YtcplmndikhjehaaGreat
namespace Go.Sl.ow
open Go Go.Sl Go.Sl.eM Go.Sl.dA Go.Sl.gU
def tD(at_ n first place aJ:Nat):Rg:=⟨at_,n,first,place,0,aJ,[]⟩
theorem Xh{at_ n first place aJ:Nat}(rN:2≤n)(I4:n≤4096)(BS:at_≤4096)(hp:place<n)(hf:first≤4000000000000000000)(Pj:aJ<4294967296):(tD at_ n first place aJ).ok:=
 ⟨rN,I4,BS,hp,Nat.zero_le _,by show first+0≤_;omega,Pj,rfl,fun x hx=>by cases hx⟩
theorem Pm{ws:List VX}{aa:aE}{wY:List (List UInt8)}{i:Nat}{b:List UInt8}(h1:ws.map (·.2)=wY)(h2:∀x∈ws,fu aa x.1 x.2∧x.1.oneCell'=true)(hb:wY[i]? =some b):∃v,(ws.map (·.1))[i]? =some v∧fu aa v b:=by
 rw[←h1,List.getElem?_map] at hb;cases hq:ws[i]? with
 |none=>rw[hq] at hb;cases hb
 | some x=>
   rw[hq] at hb;cases hb;exact⟨x.1,by rw[List.getElem?_map,hq];rfl,(h2 x (List.mem_of_getElem? hq)).1⟩
theorem TM{xs:List Value}{i:Nat}{v:Value}(h:xs[i]? =some v):(xs.drop (i*1)).take 1=[v]:=by
 obtain⟨dW,e⟩:=List.getElem?_eq_some_iff.1 h;rw[Nat.mul_one,List.drop_eq_getElem_cons dW,e];rfl
end Go.Sl.ow
namespace Go.Proofs.YtcplmndikhjehaaGreat
open Go.Proofs.Tryz
open Go Go.Sl Go.Sl.eM Go.Sl.dA Go.Sl.gU Go.Sl.ow
set_option maxHeartbeats 0
set_option maxRecDepth 8000
variable{n:Nat}
variable{W0 w:World}{L F:List aC}
theorem I7{br b at_ first place aJ k:Nat}{d:Dk}{l:List LB}(C:KD d at_ n place first aJ l)(hk:k≤l.length)(hp:place<n)(hs:mB d=0)(eD:((at_+n:Nat):Int)≤d.n)(h:On W0 (dz 311 br b (rE (tD at_ n first place aJ) ((l.map (·.2)).take k))::aQ 109 221 b d::L) w):
   Cs 182 [br,.int .u32 (pz (l.take k):Int)] w fun v w'=>(∃(x:LB) (a:Option Addr) (c:Nat),l[k]? =some x∧x.2.length≤32768∧(rE (tD at_ n first place aJ) ((l.map (·.2)).take k)).used+bO x.2.length≤(rE (tD at_ n first place aJ) ((l.map (·.2)).take k)).n∧v=.tuple #[.slice a x.2.length c,.int .u32 (x.1:Int),.bool true,.int .i64 0]∧On W0 (bC (.slice a x.2.length c) x.2::dz 311 br b (rE (tD at_ n first place aJ) ((l.map (·.2)).take k))::aQ 109 221 b d::L) w')∨(k=l.length∧v=.tuple #[.slice none 0 0,.int .u32 0,.bool false,.int .i64 0]∧On W0 (dz 311 br b (rE (tD at_ n first place aJ) ((l.map (·.2)).take k))::aQ 109 221 b d::L) w'):=by
 have F:=xu (tD at_ n first place aJ) ((l.map (·.2)).take k);have ja:=Mt (g:=(tD at_ n first place aJ)) hp ((l.map (·.2)).take k);have hu:jB ((l.map (·.2)).take k)=gO (l.take k):=by rw[←List.map_take];exact sF _
 have nj:((l.map (·.2)).take k).length=k:=by rw[List.length_take,List.length_map];omega
 have h1:(rE (tD at_ n first place aJ) ((l.map (·.2)).take k)).next=first+k:=by unfold Rg.next;rw[F.first,F.len,nj];show first+(0+k)=_;omega
 have h2:(rE (tD at_ n first place aJ) ((l.map (·.2)).take k)).used=gO (l.take k):=by rw[F.used,hu];show 0+_=_;omega
 have h3:(rE (tD at_ n first place aJ) ((l.map (·.2)).take k)).place=(place+gO (l.take k)) % n:=by rw[ja,hu];rfl
 have h4:(rE (tD at_ n first place aJ) ((l.map (·.2)).take k)).n=n:=F.n;have h5:(rE (tD at_ n first place aJ) ((l.map (·.2)).take k)).at_=at_:=F.at_;have h6:(rE (tD at_ n first place aJ) ((l.map (·.2)).take k)).aJ=aJ:=F.aJ;rcases Nat.lt_or_ge k l.length with dW|B1
 · have hx:l[k]? =some l[k]:=List.getElem?_eq_getElem dW
   generalize l[k]=x at hx;obtain⟨c1,c2,c3,c4⟩:=C.here k x hx;have ki:=AN hx;have hle:=uc l (k+1);have hcu:=C.used;have Db:(rE (tD at_ n first place aJ) ((l.map (·.2)).take k)).used+bO x.2.length≤(rE (tD at_ n first place aJ) ((l.map (·.2)).take k)).n:=by rw[h2,h4];omega
   refine(MA (by rw[h5,h4,h3,h1];exact c1) c2 (by rw[h6];exact c3) c4 Db hs (by rw[h5,h4];exact eD) h).mono fun e w' he=> ?_;obtain⟨v,he,a,c,hv,h⟩:=he;exact⟨v,he,.inl ⟨x,a,c,hx,c4,Db,hv,h⟩⟩
 have Ef:k=l.length:=by omega
 subst Ef;have hcu:=C.used;rw[List.take_length] at h2 h3;rw[List.take_length];refine(Mz ?_ hs (by rw[h5,h4];exact eD) h).mono fun e w' he=> ?_
 · rw[h2,h4,h5,h3,h1,h6]
   rcases C.gone with hg|hg
   · exact .inl hg
   rcases Nat.lt_or_ge (gO l) n with hh|hh
   · exact .inr ⟨hh,hg⟩
   exact .inl (by omega)
 obtain⟨v,he,hv,h⟩:=he;exact⟨v,he,.inr ⟨rfl,hv,h⟩⟩
theorem MB{a:Option Addr}{c:Nat}{xs:List Value}(h:On W0 (Own 1 (.slice a n c) n xs::L) w):
   Cs 183 [.slice a n c] w fun v w'=>v=.slice a n n∧On W0 (Own 1 (.slice a n n) n xs::L) w':=by
 refine qO ?_;have aA:=Own.form h;obtain⟨a',c',hv,vg,rz,jK⟩:=aA;simp only[Value.slice.injEq] at hv;obtain⟨rfl,_,rfl⟩:=hv;refine go ?_;refine WL.v (iO underlying212 sizeOf28 rfl rfl rfl (by omega) (by omega)) ?_;refine qR ?_;exact⟨rfl,Own.clip h⟩
theorem Pn{b at_ first place aJ:Nat}{d:Dk}{l:List LB}(C:KD d at_ n place first aJ l)(rN:2≤n)(I4:n≤4096)(BS:at_≤4096)(hp:place<n)(hf:first≤4000000000000000000)(Pj:aJ<4294967296)(hs:mB d=0)(eD:((at_+n:Nat):Int)≤d.n)(h:On W0 (aQ 109 221 b d::L) w):Cs 111 [b,.int .i64 (at_:Int),.int .i64 (n:Int),.int .u64 (first:Int),.int .i64 (place:Int),.int .u32 (aJ:Int)] w fun v w'=>∃br a,v=.tuple #[.pointer (some ⟨br,0,none⟩),.slice a (l.map (·.2)).length (l.map (·.2)).length,.int .i64 0]∧On W0 (dz 311 br b (rE (tD at_ n first place aJ) (l.map (·.2)))::AP a (l.map (·.2)).length (l.map (·.2))::aQ 109 221 b d::L) w':=by
 refine qO ?_;have af9:=w8 h;have MC:=af9.1;have fH:=aG;have hcu:=C.used;have zE:=jN l;refine qE ?_;refine WL.e (ag call63 (nS h)) ?_;rintro _ w ⟨rfl,h⟩;refine qE ?_;refine WL.e (ag call63 (nS h)) ?_;rintro _ w ⟨rfl,h⟩;refine qE ?_;refine gb fun VS w h=> ?_;refine qC ?_ (C:=tC (k:=(at_:Int)) hs ⟨by omega,by omega⟩ (h.aj (aQ 109 221 b d)));rintro _ w ⟨bq,rfl,h⟩;refine go ?_;refine WL.v (bY rfl rfl rfl) ?_;refine go ?_;refine W.cs ?_;refine W.sr ?_;refine gw ?_;refine W.sr ?_;refine gw ?_;have h:=eH (ws:=[]) (Xh rN I4 BS hp hf Pj) rfl (fun x hx=>by cases hx) (show On W0 (aX VS [b,.int .i64 (at_:Int),.int .i64 (n:Int),.int .u64 (first:Int),.int .i64 (place:Int),.int .i64 0,.int .u32 (aJ:Int),.slice none 0 0] 311::Own 2 (.slice none 0 0) 0 []::aY []::aQ 109 221 b d::L) w from(h.Ac.bB 2 none).to);refine go ?_;refine W.loop (fun(k:Nat) env w=>k≤l.length∧∃(j:Env) (ao:Option Addr) (co:Nat),env=eu j [(15,VS),(18,.slice ao ((l.map (·.2)).take k).length co),(19,.int .u32 (pz (l.take k):Int))]∧On W0 (AP ao co ((l.map (·.2)).take k)::dz 311 VS b (rE (tD at_ n first place aJ) ((l.map (·.2)).take k))::aQ 109 221 b d::L) w) (fun k=>l.length - k) (0) ?_ ?_
 · exact⟨Nat.zero_le _,_,none,0,aD ⟨rfl,rfl,rfl,trivial⟩,TH h⟩
 rintro k env w ⟨hk,j,ao,co,rfl,h⟩;have F:=xu (tD at_ n first place aJ) ((l.map (·.2)).take k);have nj:((l.map (·.2)).take k).length=k:=by rw[List.length_take,List.length_map];omega
 have Ff:=F.first;have Fl:=F.len;have Fa:(rE (tD at_ n first place aJ) ((l.map (·.2)).take k)).first=first:=Ff
 have Fb:(rE (tD at_ n first place aJ) ((l.map (·.2)).take k)).l.length=k:=by rw[Fl,nj];show 0+k=k;omega
 refine qC ?_ (C:=I7 (br:=VS) (b:=b) (k:=k) C hk hp hs eD (L:=AP ao co ((l.map (·.2)).take k)::L) h.to);rintro _ w hg;rcases hg with⟨x,a77,c77,hx,hxb,Db,rfl,h⟩|⟨Ef,rfl,h⟩
 ·
  refine qE ?_;refine WL.e (ag call184 (KE hxb Db (by rw[Fa,Fb];omega) (h.aj (dz 311 VS b (rE (tD at_ n first place aJ) ((l.map (·.2)).take k)))) (aB.cF))) ?_;rintro _ w ⟨rfl,h⟩;refine qC ?_ (C:=bG h (aB.cF (v:=.slice a77 x.2.length c77)) (by omega));rintro _ w ⟨a98,c98,rfl,h⟩;refine qC ?_ (C:=cU h);rintro _ w ⟨rfl,h⟩;have aA:=Pa (h.aj (AP ao co ((l.map (·.2)).take k)));obtain⟨ws,aa,jE,ja,h⟩:=aA;have hwl:((l.map (·.2)).take k).length≤4096:=by omega
  refine WL.e (aZ (zl:=[.slice none 0 0]) (out:=[.slice _ _ _]) h underlying212 sizeOf28 zeroValue28 (by decide) (by kernel_rfl) rfl rfl (by simp) fz rfl rfl (by simp[maxLen])) ?_;rintro _ w ⟨akL,rfl,h⟩;refine WL.e (bU (bytes:=24) h rfl rfl (h.aR) underlying212 rfl rfl rfl rfl rfl (by omega) (by omega) (by simp[Value.oneCell'])) ?_;rintro _ w ⟨Xi,Xj,rfl,h⟩;refine gw ?_;have wW:(l.map (·.2))[k]? =some x.2:=by rw[List.getElem?_map,hx];rfl
  have e1:((l.map (·.2)).take (k+1))=((l.map (·.2)).take k)++[x.2]:=by rw[List.take_add_one,wW];rfl
  have e2:pz (l.take (k+1))=x.1:=by rw[AM hx,I0]
  have e3:((l.map (·.2)).take k).length+1=((l.map (·.2)).take (k+1)).length:=by rw[e1,List.length_append];rfl
  have dW:=(List.getElem?_eq_some_iff.1 hx).1;have h:=Pb (a2:=Xi) (c2:=Xj) (v:=.slice a98 x.2.length x.2.length) (b:=x.2) (L:=dz 311 VS b (rD (rE (tD at_ n first place aJ) ((l.map (·.2)).take k)) x.2)::aQ 109 221 b d::L) jE ja rfl h.to;rw[←zC,←e1] at h;exact⟨k+1,⟨by omega,_,Xi,Xj,aD ⟨rfl,congrArg (fun q=>Value.slice Xi q Xj) e3,congrArg (fun q:Nat=>Value.int .u32 (q:Int)) e2.symm,trivial⟩,h⟩,by show l.length - (k+1)<l.length - k;omega⟩
 refine go ?_;refine WL.v (bY rfl rfl rfl) ?_;refine go ?_;refine W.cf ?_;refine go ?_;refine WL.v (cQ rfl) ?_;refine go ?_;refine W.ct ?_;refine W.seq ?_;have e:((l.map (·.2)).take k)=l.map (·.2):=List.take_of_length_le (by rw[List.length_map];omega);rw[e] at h;rw[e];have aA:=Pa (h.aj (AP ao co (l.map (·.2))));obtain⟨ws,aa,jE,ja,h⟩:=aA;refine qC ?_ (C:=MB h);rintro _ w ⟨rfl,h⟩;refine qR ?_;have h:=I1 (a:=ao) (c:=(l.map (·.2)).length) (L:=dz 311 VS b (rE (tD at_ n first place aJ) (l.map (·.2)))::aQ 109 221 b d::L) jE ja h.to;exact⟨VS,ao,rfl,h.to⟩
end Go.Proofs.YtcplmndikhjehaaGreat
namespace Go.Proofs.YtcplmndikhjehaaGreat
open Go Go.Sl Go.Sl.eM Go.Sl.dA Go.Sl.gU Go.Sl.ow
set_option maxHeartbeats 0
set_option maxRecDepth 8000
variable{W0 w:World}{L F:List aC}
theorem MD{b at_ n first place aJ:Nat}{d:Dk}{l:List LB}{wY:List (List UInt8)}(hbs:l.map (·.2)=wY)(C:KD d at_ n place first aJ l)(rN:2≤n)(I4:n≤4096)(BS:at_≤4096)(hp:place<n)(hf:first≤4000000000000000000)(Pj:aJ<4294967296)(hs:mB d=0)(eD:((at_+n:Nat):Int)≤d.n)(h:On W0 (aQ 109 221 b d::L) w):Cs 111 [b,.int .i64 (at_:Int),.int .i64 (n:Int),.int .u64 (first:Int),.int .i64 (place:Int),.int .u32 (aJ:Int)] w fun v w'=>∃br a,v=.tuple #[.pointer (some ⟨br,0,none⟩),.slice a wY.length wY.length,.int .i64 0]∧On W0 (dz 311 br b (rE (tD at_ n first place aJ) wY)::AP a wY.length wY::aQ 109 221 b d::L) w':=(Pn C rN I4 BS hp hf Pj hs eD h).mono fun e w' he=>by
 obtain⟨v,he,hv⟩:=he;refine⟨v,he, ?_⟩;rw[hbs] at hv;exact hv
theorem Ev{br b:Nat}{g:Rg}{ax:Option Addr}{cx:Nat}{bb:List UInt8}{d:Dk}(hl:Live d)(gH:d.calls+g.n≤1000000000000)(eD:((g.at_+g.n:Nat):Int)≤d.n)(hb:bb.length≤32768)(Db:g.used+bO bb.length≤g.n)(hf:g.first+g.l.length+1≤9000000000000000000)(h:On W0 (dz 311 br b g::aQ 109 221 b d::L) w)(C:aB L (Bytes (.slice ax bb.length cx) bb)):Cs 350 [br,.slice ax bb.length cx] w fun v w'=>v=.tuple #[.int .u64 (g.next:Int),.int .i64 0]∧∃d',d'=(pg d g.at_ g.n g.place g.next g.aJ bb (bO bb.length))∧Live d'∧d'.n=d.n∧d'.calls=d.calls+(bO bb.length:Nat)∧On W0 (dz 311 br b (rD g bb)::aQ 109 221 b d'::L) w':=(Mx hl gH eD (by omega) hf h C).mono fun e w' he=>by
 obtain⟨v,he,hv⟩:=he;refine⟨v,he, ?_⟩;have cD:=O8 h;have rN:=cD.n2;obtain⟨l1,l2,l3⟩:=p6 (place:=g.place) (number:=g.next) (aJ:=g.aJ) (b:=bb) hl (by omega) eD (bO bb.length);rcases hv with⟨hh,_⟩|⟨_,hh,_⟩|⟨_,_,hv,h⟩
 · omega
 · omega
 exact⟨hv,_,rfl,l1,l2,l3,h⟩
end Go.Proofs.YtcplmndikhjehaaGreat
namespace Go.Proofs.YtcplmndikhjehaaGreat
open Go.Proofs.Tryz
open Go Go.Sl Go.Sl.eM Go.Sl.dA Go.Sl.gU
set_option maxHeartbeats 0
set_option maxRecDepth 8000
variable{W0 w:World}{L F:List aC}
theorem Ew{ax:Option Addr}{cx:Nat}{value:List UInt8}{number:Nat}(hn:number<18446744073709551616)(h:On W0 L w)(C:aB L (Bytes (.slice ax value.length cx) value)):Cs 73 [.int .u64 (number:Int),.slice ax value.length cx] w fun v w'=>(value.length≤488∧∃a,v=.tuple #[.slice a (bW number value).length (bW number value).length,.int .i64 0]∧On W0 (bC (.slice a (bW number value).length (bW number value).length) (bW number value)::L) w')∨(488<value.length∧v=.tuple #[.slice none 0 0,.int .i64 5]∧On W0 L w'):=by
 refine qO ?_;have fH:=aG;refine qI (fun c2=> ?_) (fun c2=> ?_)
 · refine qR ?_;exact .inr ⟨by omega,rfl,h⟩
 refine go ?_;refine WL.e (kq (out:=[.int .u8 _,.int .u8 _,.int .u8 _,.int .u8 _]) h underlying28 sizeOf5 zeroValue5 rfl (by decide) rfl rfl rfl) ?_;rintro _ w ⟨Ib,rfl,h⟩;refine WL.e (qP h rfl (by omega) underlying28 underlying5) ?_;rintro _ w ⟨rfl,h⟩;refine qC ?_ (C:=dm (v:=number) (n:=8) (bs:=jL) h (aB.cF (v:=.slice (some ⟨Ib,0,none⟩) 4 4)) (by decide) (by decide) hn (by decide));rintro _ w ⟨VT,rfl,h⟩;have l13:(jL++be number 8).length=12:=by rw[List.length_append,aT];rfl
 refine qC ?_ (C:=dm (v:=value.length) (n:=2) (bs:=(jL++be number 8)) h (aB.cF (v:=.slice VT (jL++be number 8).length (jL++be number 8).length)) (by decide) (by decide) (by omega) (by omega));rintro _ w ⟨I5,rfl,h⟩;have TN:((jL++be number 8)++be value.length 2).length=14:=by rw[List.length_append,aT,l13]
 refine go ?_;refine WL.e (bU (bytes:=1) h rfl rfl (h.aO C) underlying28 rfl rfl rfl rfl rfl (by omega) (by omega) cR) ?_;rintro _ w ⟨a20,zF,hv,h⟩;have e20:((jL++be number 8)++be value.length 2).length+value.length=(g9 number value).length:=by rw[nC,TN]
 rw[e20] at hv h;subst hv;have e2:aL ((jL++be number 8)++be value.length 2)++aL value=aL (g9 number value):=by unfold g9 aL;rw[←List.map_append]
 rw[e2] at h;have lb:=nC number value;refine qC ?_ (C:=OZ (to:=508) (bs:=g9 number value) h (aB.cF (v:=.slice a20 (g9 number value).length zF)) (by omega) (by omega) (by decide));rintro _ w ⟨a21,rfl,h⟩;have lp:(gI (g9 number value) 508).length=508:=ku (by omega);refine qC ?_ (C:=oN (bs:=gI (g9 number value) 508) h (aB.cF (v:=.slice a21 (gI (g9 number value) 508).length (gI (g9 number value) 508).length)) (by rw[lp];decide));rintro _ w ⟨a22,rfl,h⟩;refine qR ?_;have h2:On W0 (bC (.slice a22 (dR (gI (g9 number value) 508)).length (dR (gI (g9 number value) 508)).length) (dR (gI (g9 number value) 508))::L) w:=h.to;exact .inl ⟨by omega,a22,rfl,h2⟩
theorem ME{ax:Option Addr}{cx:Nat}{s:List UInt8}(h:On W0 L w)(C:aB L (Bytes (.slice ax s.length cx) s))(zB:s.length≤1000000):Cs 107 [.slice ax s.length cx] w fun v w'=>((bE s).2.2=0∧∃a c,v=.tuple #[.int .u64 ((bE s).1:Int),.slice a (bE s).2.1.length c,.int .i64 0]∧On W0 (bC (.slice a (bE s).2.1.length c) (bE s).2.1::L) w')∨((bE s).2.2≠0∧v=.tuple #[.int .u64 0,.slice none 0 0,.int .i64 (bE s).2.2]∧On W0 L w'):=by
 refine qO ?_;have fH:=aG;refine go ?_;refine WL.q (e7 rfl rfl) (fun nB=> ?_) (fun nB=> ?_)
 ·
  refine qD ?_;refine qR ?_;have e:bE s=(0,[],3):=by unfold bE;rw[if_pos (by omega)]
  exact .inr ⟨by rw[e];show(3:Int)≠0;decide,by rw[e],h⟩
 refine go ?_;refine W.cs ?_;refine W.seq ?_;have hs:s.length=512:=by omega
 have eB:s.take (s.length - 4)=s.take 508:=by rw[hs]
 have aA:∃B,B=s.take 508:=⟨_,rfl⟩;obtain⟨B,hB⟩:=aA;have Tz:B.length=508:=by rw[hB,List.length_take];omega
 refine qC ?_ (C:=El h C (by omega));rintro _ w hg;rcases hg with⟨ho,_,tu,hv,h⟩|⟨ho,hv,h⟩
 ·
  rw[eB,←hB] at hv h;subst hv
  have hu:bE s=if 488<vL B then(0,[],2) else if(AB (tO B) (pX B)).1≠s then(0,[],2) else(tO B,pX B,0):=by
    unfold bE;rw[if_neg (by omega),if_neg (by rw[ho];decide),←hB]
  refine qE ?_;refine WL.e (ag call109 (jS h (aB.cF))) ?_;rintro _ w hg;rcases hg with⟨_,hv,h⟩|⟨dX,_,_⟩;rotate_left
  · exact absurd (show _ by omega) dX
  have hv:_=Value.tuple #[.int .u64 (tO B:Int),.bool true]:=hv;subst hv;refine qC ?_ (C:=jS (at_:=12) (n:=2) (bs:=B) h (aB.cF (v:=.slice tu B.length B.length)));rintro _ w hg;rcases hg with⟨_,hv,h⟩|⟨dX,_,_⟩;rotate_left
  · exact absurd (show _ by omega) dX
  have hv:_=Value.tuple #[.int .u64 (vL B:Int),.bool true]:=hv;subst hv;refine qI (fun kY=> ?_) (fun kY=> ?_)
  · refine qR ?_;rw[if_pos (by omega)] at hu;exact .inr ⟨by rw[hu];show(2:Int)≠0;decide,by rw[hu],h.to⟩
  refine W.skip ?_;refine W.seq ?_;have hle:vL B≤488:=by omega
  rw[if_neg (by omega)] at hu;have eY:=kr (L:=[bC (.slice tu B.length B.length) B]) (l:=14) (h:=14+vL B) aB.own (Nat.le_refl _) (by omega) (by omega);have Xa:14+vL B - 14=vL B:=by omega
  have evl:(B.drop 14).take (vL B)=pX B:=rfl;rw[Xa,evl] at eY;obtain⟨a',c',eY,gV⟩:=eY;have hvl:(pX B).length=vL B:=by unfold pX;rw[List.length_take,List.length_drop];omega
  have I8:tO B<18446744073709551616:=Nat.lt_of_lt_of_le (su _) (Nat.pow_le_pow_right (by decide) (show((B.drop 4).take 8).length≤8 by rw[List.length_take];omega));refine qN ?_;refine WL.v (gK (m:=14) (n:=vL B) rfl rfl (by omega)) ?_;refine WL.v (nO (l:=14) (h:=14+vL B) underlying28 sizeOf5 rfl rfl rfl (by omega) (by omega) eY) ?_;refine WL.e (ag call34 (bG h (aB.to gV) (by omega))) ?_;rintro _ w ⟨a38,c38,rfl,h⟩;refine qC ?_ (C:=cU h);rintro _ w ⟨rfl,h⟩;refine qC ?_ (C:=Ew (number:=tO B) (value:=pX B) I8 h (aB.cF (v:=.slice a38 (pX B).length (pX B).length)));rintro _ w hg;rcases hg with⟨_,a43,rfl,h⟩|⟨dX,_,_⟩;rotate_left
  · omega
  have hp:AB (tO B) (pX B)=(bW (tO B) (pX B),0):=by unfold AB;rw[if_neg (by omega)]
  rw[hp] at hu;refine qC ?_ (C:=C5 (bs:=bW (tO B) (pX B)) (cs:=s) h (aB.cF (v:=.slice a43 (bW (tO B) (pX B)).length (bW (tO B) (pX B)).length)) (aB.to C));rintro _ w ⟨rfl,h⟩;refine WL.v (ey rfl) ?_;refine qI (fun CZ=> ?_) (fun CZ=> ?_)
  · refine qR ?_;rw[if_pos CZ] at hu;exact .inr ⟨by rw[hu];show(2:Int)≠0;decide,by rw[hu],h.to⟩
  refine qR ?_;rw[if_neg CZ] at hu;refine .inl ⟨by rw[hu],a38,(pX B).length,by rw[hu], ?_⟩;rw[hu];exact h.to
 subst hv;refine qE ?_;refine qR ?_;have hu:bE s=(0,[],(eX s).2):=by unfold bE;rw[if_neg (by omega),if_pos ho]
 exact .inr ⟨by rw[hu];exact ho,by rw[hu],h⟩
end Go.Proofs.YtcplmndikhjehaaGreat
namespace Go.Proofs.YtcplmndikhjehaaGreat
open Go.Proofs.Tryz
open Go Go.Sl Go.Sl.eM Go.Sl.dA Go.Sl.gU
set_option maxHeartbeats 0
set_option maxRecDepth 8000
variable{at_:Int}{b:Nat}
variable{W0 w:World}{L F:List aC}
theorem VU{d:Dk}(hn:0≤d.n)(h:On W0 (aQ 109 221 b d::L) w):Cs 72 [b,.int .i64 at_] w fun v w'=>v=.bool (decide (zb d at_))∧On W0 (aQ 109 221 b d::L) w':=by
 refine qO ?_;have cD:=w8 h;have I4:=cD.1;refine go ?_;refine WL.q (eA rfl rfl) (fun c6=> ?_) (fun c6=> ?_)
 ·
  refine qC ?_ (C:=nS h);rintro _ w ⟨rfl,h⟩;refine WL.v (iq rfl rfl (by omega) (by omega)) ?_;refine WL.q (cH rfl rfl) (fun nB=> ?_) (fun nB=> ?_)
  · refine qR ?_;exact⟨by rw[decide_eq_true (show zb d at_ from⟨by omega,by omega⟩)],h⟩
  refine qR ?_;exact⟨by rw[decide_eq_false (fun hh:zb d at_=>by obtain⟨h1,h2⟩:=hh;omega)],h⟩
 refine qR ?_;exact⟨by rw[decide_eq_false (fun hh:zb d at_=>by obtain⟨h1,h2⟩:=hh;omega)],h⟩
theorem Gj{bt:Nat}{number:Nat}{value:List UInt8}(hl:value.length≤1000000)(h:On W0 (dM 204 bt b at_ number value::L) w):Cs 66 [bt] w fun v w'=>∃a,v=.slice a value.length value.length∧On W0 (bC (.slice a value.length value.length) value::dM 204 bt b at_ number value::L) w':=by
 refine qO ?_;have aA:=IX h;obtain⟨a,c,I8,h⟩:=aA;refine qC ?_ (C:=bG h (aB.cF (v:=.slice a value.length c)) (by omega));rintro _ w ⟨a7,c7,rfl,h⟩;refine qC ?_ (C:=cU h);rintro _ w ⟨rfl,h⟩;refine qR ?_;have h2:=l6 (value:=value) (TT:=204) (bt:=bt) (b:=b) (at_:=at_) (a:=a) (c:=c) (L:=bC (.slice a7 value.length value.length) value::L) I8 h.to;exact⟨a7,rfl,h2.p1⟩
theorem TO{b3 b4:Nat}{d:Dk}(gH:d.low)(h:On W0 (aQ 109 221 b d::aX b3 [b] 52::aX b4 [.int .i64 at_] 3::L) w):Cs 74 [b3,b4] w fun v w'=>v=.int .i64 (bT d at_ []).1∧On W0 (aQ 109 221 b (bT d at_ []).2::aX b3 [b] 52::aX b4 [.int .i64 at_] 3::L) w':=by
 refine qO ?_;refine qC ?_ (C:=vI (k:=at_) (bs:=[]) gH h aB.rL);rintro _ w ⟨rfl,h⟩;refine qR ?_;exact⟨rfl,h⟩
theorem TP{b3 b4 b7 cq:Nat}{aq:Option Addr}{s:List UInt8}{d:Dk}(gH:d.low)(BS:0≤at_∧at_≤10000)(h:On W0 (aQ 109 221 b d::aX b3 [b] 52::aX b4 [.int .i64 at_] 3::aX b7 [.slice aq s.length cq] 28::bC (.slice aq s.length cq) s::L) w):Cs 76 [b3,b4,b7] w fun v w'=>v=.int .i64 (bT d (at_+1) s).1∧On W0 (aQ 109 221 b (bT d (at_+1) s).2::aX b3 [b] 52::aX b4 [.int .i64 at_] 3::aX b7 [.slice aq s.length cq] 28::bC (.slice aq s.length cq) s::L) w':=by
 refine qO ?_;refine qC ?_ (C:=vI (k:=at_+1) (bs:=s) gH h (aB.cF (v:=.slice aq s.length cq)));rintro _ w ⟨rfl,h⟩;refine qR ?_;exact⟨rfl,h⟩
theorem Dd{ax:Option Addr}{cx:Nat}{d:Dk}{value:List UInt8}(gH:d.rM 3)(hn:0≤d.n)(h:On W0 (aQ 109 221 b d::L) w)(C:aB L (Bytes (.slice ax value.length cx) value)):Cs 42 [b,.int .i64 at_,.slice ax value.length cx] w fun v w'=>v=.int .i64 (dG d at_ value).1∧On W0 (aQ 109 221 b (dG d at_ value).2::L) w':=by
 refine qO ?_;have cD:=w8 h;have I4:=cD.1;refine gb fun b3 w h=> ?_;refine gb fun b4 w h=> ?_;refine qC ?_ (C:=VU hn (h.aj (aQ 109 221 b d)));rintro _ w ⟨rfl,h⟩;refine WL.v (ey rfl) ?_;refine qI (fun c2=> ?_) (fun c2=> ?_)
 ·
  refine qR ?_;have e:dG d at_ value=(1,d):=by unfold dG;rw[if_pos c2]
  exact⟨by rw[e],by rw[e];exact h.to⟩
 refine qC ?_ (C:=Ew (number:=1) (by decide) h (aB.to C));rintro _ w hg;rcases hg with⟨hl,aq,rfl,h⟩|⟨hl,rfl,h⟩
 ·
  refine gb fun b7 w h=> ?_;refine gs fun w h _=> ?_;refine go ?_;refine WL.v (bY rfl rfl rfl) ?_;refine go ?_;refine W.cs ?_;refine W.seq ?_;refine W.seq ?_;have eD:=Decidable.not_not.1 c2;obtain⟨Xk,tP⟩:=eD;have ON:(zc d at_ (bW 1 value) 0).rM 3:=gH;have Eg:(zc d at_ (bW 1 value) 1).rM 2:=qY gH;have Aw:(zc d at_ (bW 1 value) 2).rM 1:=qY (qY gH)
  have hf:dG d at_ value=if(sB d at_ (bW 1 value) 0).1≠0 then sB d at_ (bW 1 value) 0 else if(sB d at_ (bW 1 value) 1).1≠0 then sB d at_ (bW 1 value) 1 else sB d at_ (bW 1 value) 2:=by
    unfold dG;rw[if_neg c2,if_neg (by omega)]
  refine qD ?_;refine WL.e (kq (out:=[.func (.func 74) #[] #[.pointer (some ⟨b3,0,none⟩),b4],.func (.func 76) #[] #[.pointer (some ⟨b3,0,none⟩),b4,b7],.func (.func 77) #[.pointer (some ⟨b,0,none⟩)] #[]]) h underlying160 sizeOf156 zeroValue156 rfl (by decide) rfl rfl rfl) ?_;rintro _ w ⟨VV,rfl,h⟩;refine go ?_;refine W.loop (fun(i:Nat) env w=>i≤3∧(∀j,j<i→(sB d at_ (bW 1 value) j).1=0)∧∃jk,env=eu jk [(28,.slice (some ⟨VV,0,none⟩) 3 3),(29,.int .i64 3),(30,.int .i64 (i:Nat))]∧On W0 (aQ 109 221 b (zc d at_ (bW 1 value) i)::aX b3 [b] 52::aX b4 [.int .i64 at_] 3::aX b7 [.slice aq (bW 1 value).length (bW 1 value).length] 28::bC (.slice aq (bW 1 value).length (bW 1 value).length) (bW 1 value)::Own 1 (.slice (some ⟨VV,0,none⟩) 3 3) 3 [.func (.func 74) #[] #[.pointer (some ⟨b3,0,none⟩),b4],.func (.func 76) #[] #[.pointer (some ⟨b3,0,none⟩),b4,b7],.func (.func 77) #[.pointer (some ⟨b,0,none⟩)] #[]]::L) w) (fun i=>3 - i) (0) ?_ ?_
  · exact⟨by omega,fun j hj=>absurd hj (by omega),_,aD ⟨rfl,rfl,rfl,trivial⟩,(show On W0 (aQ 109 221 b d::aX b3 [b] 52::aX b4 [.int .i64 at_] 3::aX b7 [.slice aq (bW 1 value).length (bW 1 value).length] 28::bC (.slice aq (bW 1 value).length (bW 1 value).length) (bW 1 value)::Own 1 (.slice (some ⟨VV,0,none⟩) 3 3) 3 [.func (.func 74) #[] #[.pointer (some ⟨b3,0,none⟩),b4],.func (.func 76) #[] #[.pointer (some ⟨b3,0,none⟩),b4,b7],.func (.func 77) #[.pointer (some ⟨b,0,none⟩)] #[]]::L) w from h.to)⟩
  rintro i env w ⟨hi,hz,jk,rfl,h⟩;refine qI (fun oM=> ?_) (fun oM=> ?_)
  ·
   refine W.skip ?_;refine W.seq ?_;refine W.block ?_;refine W.seq ?_;have hi3:i<3:=by omega
   have aA:∃fv,([.func (.func 74) #[] #[.pointer (some ⟨b3,0,none⟩),b4],.func (.func 76) #[] #[.pointer (some ⟨b3,0,none⟩),b4,b7],.func (.func 77) #[.pointer (some ⟨b,0,none⟩)] #[]]:List Value)[i]? =some fv:=⟨([.func (.func 74) #[] #[.pointer (some ⟨b3,0,none⟩),b4],.func (.func 76) #[] #[.pointer (some ⟨b3,0,none⟩),b4,b7],.func (.func 77) #[.pointer (some ⟨b,0,none⟩)] #[]]:List Value)[i]'(by show i<3;omega),List.getElem?_eq_getElem _⟩;obtain⟨fv,SD⟩:=aA;refine qD ?_;refine WL.l isAgg156 rfl ((h.aR (v:=.slice (some ⟨VV,0,none⟩) 3 3)).elem (i:=i) (vs:=[fv]) (by omega) (by rw[Nat.mul_one];exact row_one SD) 0 _ rfl) ?_;refine go ?_;refine WL.BP (R:=fun v w'=>v=.int .i64 (sB d at_ (bW 1 value) i).1∧On W0 (aQ 109 221 b (zc d at_ (bW 1 value) (i+1))::aX b3 [b] 52::aX b4 [.int .i64 at_] 3::aX b7 [.slice aq (bW 1 value).length (bW 1 value).length] 28::bC (.slice aq (bW 1 value).length (bW 1 value).length) (bW 1 value)::Own 1 (.slice (some ⟨VV,0,none⟩) 3 3) 3 [.func (.func 74) #[] #[.pointer (some ⟨b3,0,none⟩),b4],.func (.func 76) #[] #[.pointer (some ⟨b3,0,none⟩),b4,b7],.func (.func 77) #[.pointer (some ⟨b,0,none⟩)] #[]]::L) w') ?_ rfl rfl ?_
   · have aA:i=0∨i=1∨i=2:=by omega
     obtain rfl|rfl|rfl:=aA
     · have SD:some (.func (.func 74) #[] #[.pointer (some ⟨b3,0,none⟩),b4])=some fv:=SD
       cases SD;exact nI rfl call74 ((TO (ON.low (by decide)) h).mono fun e w' he=>by obtain⟨v,he,hv,h⟩:=he;exact⟨v,he,hv,(show On W0 (aQ 109 221 b (bT (zc d at_ (bW 1 value) 0) at_ []).2::aX b3 [b] 52::aX b4 [.int .i64 at_] 3::aX b7 [.slice aq (bW 1 value).length (bW 1 value).length] 28::bC (.slice aq (bW 1 value).length (bW 1 value).length) (bW 1 value)::Own 1 (.slice (some ⟨VV,0,none⟩) 3 3) 3 [.func (.func 74) #[] #[.pointer (some ⟨b3,0,none⟩),b4],.func (.func 76) #[] #[.pointer (some ⟨b3,0,none⟩),b4,b7],.func (.func 77) #[.pointer (some ⟨b,0,none⟩)] #[]]::L) w' from h.to)⟩)
     · have SD:some (.func (.func 76) #[] #[.pointer (some ⟨b3,0,none⟩),b4,b7])=some fv:=SD
       cases SD;exact nI rfl call76 ((TP (Eg.low (by decide)) ⟨Xk,by omega⟩ h).mono fun e w' he=>by obtain⟨v,he,hv,h⟩:=he;exact⟨v,he,hv,(show On W0 (aQ 109 221 b (bT (zc d at_ (bW 1 value) 1) (at_+1) (bW 1 value)).2::aX b3 [b] 52::aX b4 [.int .i64 at_] 3::aX b7 [.slice aq (bW 1 value).length (bW 1 value).length] 28::bC (.slice aq (bW 1 value).length (bW 1 value).length) (bW 1 value)::Own 1 (.slice (some ⟨VV,0,none⟩) 3 3) 3 [.func (.func 74) #[] #[.pointer (some ⟨b3,0,none⟩),b4],.func (.func 76) #[] #[.pointer (some ⟨b3,0,none⟩),b4,b7],.func (.func 77) #[.pointer (some ⟨b,0,none⟩)] #[]]::L) w' from h.to)⟩)
     have SD:some (.func (.func 77) #[.pointer (some ⟨b,0,none⟩)] #[])=some fv:=SD;cases SD;exact nI rfl call77 ((AA (Aw.low (by decide)) h).mono fun e w' he=>by obtain⟨v,he,hv,h⟩:=he;exact⟨v,he,hv,(show On W0 (aQ 109 221 b (ek (zc d at_ (bW 1 value) 2)).2::aX b3 [b] 52::aX b4 [.int .i64 at_] 3::aX b7 [.slice aq (bW 1 value).length (bW 1 value).length] 28::bC (.slice aq (bW 1 value).length (bW 1 value).length) (bW 1 value)::Own 1 (.slice (some ⟨VV,0,none⟩) 3 3) 3 [.func (.func 74) #[] #[.pointer (some ⟨b3,0,none⟩),b4],.func (.func 76) #[] #[.pointer (some ⟨b3,0,none⟩),b4,b7],.func (.func 77) #[.pointer (some ⟨b,0,none⟩)] #[]]::L) w' from h.to)⟩)
   rintro _ w ⟨rfl,h⟩;refine qI (fun wX=> ?_) (fun wX=> ?_)
   ·
    refine qR ?_
    first
      | (have ny : i = 3 := by omega
         subst ny;have e0 := hz 0 (by omega);have e1 := hz 1 (by omega);have e2 := hz 2 (by omega);rw [if_neg (by rw [e0]; decide), if_neg (by rw [e1]; decide)] at hf;refine ⟨by rw [hf, e2], ?_⟩;rw [hf];exact (show On W0 (aQ 109 221 b (zc d at_ (bW 1 value) 3) :: L) w from h.to))
      | (have oK : dG d at_ value = sB d at_ (bW 1 value) i := by
           have aA:i=0∨i=1∨i=2:=by omega
           obtain rfl|rfl|rfl:=aA
           · rw[hf,if_pos wX]
           · rw[hf,if_neg (by rw[hz 0 (by omega)];decide),if_pos wX]
           rw[hf,if_neg (by rw[hz 0 (by omega)];decide),if_neg (by rw[hz 1 (by omega)];decide)]
         refine ⟨by rw [oK], ?_⟩;rw [oK];exact (show On W0 (aQ 109 221 b (zc d at_ (bW 1 value) (i + 1)) :: L) w from h.to))
   refine go ?_;refine WL.v (di rfl rfl (by omega) (by omega)) ?_;refine gw ?_;have he0:=Decidable.not_not.1 wX
   exact ⟨i + 1, ⟨by omega, fun j hj => by rcases Nat.lt_or_ge j i with h' | h'; exact hz j h'; obtain rfl : j = i := by omega
                                           exact he0, _, aD ⟨rfl, rfl, rfl, trivial⟩, h⟩, by show 3 - (i + 1) < 3 - i; omega⟩
  refine qR ?_
  first
    | (have ny : i = 3 := by omega
       subst ny;have e0 := hz 0 (by omega);have e1 := hz 1 (by omega);have e2 := hz 2 (by omega);rw [if_neg (by rw [e0]; decide), if_neg (by rw [e1]; decide)] at hf;refine ⟨by rw [hf, e2], ?_⟩;rw [hf];exact (show On W0 (aQ 109 221 b (zc d at_ (bW 1 value) 3) :: L) w from h.to))
    | (have oK : dG d at_ value = sB d at_ (bW 1 value) i := by
         have aA:i=0∨i=1∨i=2:=by omega
         obtain rfl|rfl|rfl:=aA
         · rw[hf,if_pos wX]
         · rw[hf,if_neg (by rw[hz 0 (by omega)];decide),if_pos wX]
         rw[hf,if_neg (by rw[hz 0 (by omega)];decide),if_neg (by rw[hz 1 (by omega)];decide)]
       refine ⟨by rw [oK], ?_⟩;rw [oK];exact (show On W0 (aQ 109 221 b (zc d at_ (bW 1 value) (i + 1)) :: L) w from h.to))
 refine gb fun b7 w h=> ?_;refine gs fun w h _=> ?_;refine qE ?_;refine qR ?_;have e:dG d at_ value=(5,d):=by unfold dG;rw[if_neg c2,if_pos hl]
 exact⟨by rw[e],by rw[e];exact h.to⟩
end Go.Proofs.YtcplmndikhjehaaGreat
namespace Go.Proofs.YtcplmndikhjehaaGreat
open Go.Proofs.Tryz
open Go Go.Sl Go.Sl.eM Go.Sl.dA Go.Sl.gU
set_option maxHeartbeats 0
set_option maxRecDepth 8000
variable{W0 w:World}{L F:List aC}
theorem I9{ax:Option Addr}{cx n:Nat}{s:List UInt8}(hn:s.length=n)(h:On W0 L w)(C:aB L (Cells 1 (.slice ax n cx) n (aL s)))(zB:n≤1000000):Cs 107 [.slice ax n cx] w fun v w'=>((bE s).2.2=0∧∃a c,v=.tuple #[.int .u64 ((bE s).1:Int),.slice a (bE s).2.1.length c,.int .i64 0]∧On W0 (bC (.slice a (bE s).2.1.length c) (bE s).2.1::L) w')∨((bE s).2.2≠0∧v=.tuple #[.int .u64 0,.slice none 0 0,.int .i64 (bE s).2.2]∧On W0 L w'):=by
 subst hn;exact ME h C zB
theorem AV{b:Nat}{d:Dk}{at_:Int}(hn:0≤d.n)(h:On W0 (aQ 109 221 b d::L) w):Cs 64 [b,.int .i64 at_] w fun v w'=>(∃bt n val,lG d at_=(some (n,val),0)∧v=.tuple #[.pointer (some ⟨bt,0,none⟩),.int .i64 0]∧On W0 (dM 204 bt b at_ n val::aQ 109 221 b d::L) w')∨((lG d at_).1=none∧(lG d at_).2≠0∧v=.tuple #[.pointer none,.int .i64 (lG d at_).2]∧On W0 (aQ 109 221 b d::L) w'):=by
 refine qO ?_;have cD:=w8 h;have I4:=cD.1;refine qC ?_ (C:=VU hn h);rintro _ w ⟨rfl,h⟩;refine WL.v (ey rfl) ?_;refine qI (fun c3=> ?_) (fun c3=> ?_)
 · refine qR ?_;have e:=Mk c3;exact .inr ⟨by rw[e],by rw[e];decide,by rw[e],h⟩
 refine go ?_;refine WL.v (aP (pl:=[(0,1),(1,1),(2,1),(3,1)]) (out:=[.pointer _,.int .i64 _,.int .u64 _,.slice _ _ _]) underlying204 zeroValue204 (fun w=>by kernel_rfl) rfl fz rfl) ?_;refine gb fun VW w h=> ?_;refine gw ?_;refine W.sr ?_;refine gw ?_;refine W.seq ?_;have eD:=Decidable.not_not.1 c3;have abe:=eD;obtain⟨Xk,tP⟩:=abe;have h:=l6 (number:=0) (value:=[]) (by decide) ((h.bB 1 none).p1);refine go ?_;refine W.loop (fun(i:Nat) env w=>i≤2∧(0<i→mB d=0)∧∃jk,env=eu jk [(0,b),(1,.int .i64 at_),(6,VW),(7,.bool (dH d at_ i).isSome),(21,.int .i64 (i:Nat))]∧On W0 (dM 204 VW b at_ (tvN (dH d at_ i)) (tvV (dH d at_ i))::aQ 109 221 b d::L) w) (fun i=>2 - i) (0) ?_ ?_
 · exact⟨by omega,fun hh=>absurd hh (by decide),_,aD ⟨rfl,rfl,rfl,rfl,rfl,trivial⟩,h⟩
 rintro i env w ⟨hi,agd,jk,rfl,h⟩;refine qI (fun pW=> ?_) (fun pW=> ?_)
 ·
  refine W.skip ?_;refine W.seq ?_;refine W.block ?_;refine W.seq ?_;have IB:i<2:=by omega
  refine qC ?_ (C:=Ky (k:=at_+(i:Nat)) (h.aj (aQ 109 221 b d)));rintro _ w hg;rcases hg with⟨he,br,rfl,h⟩|⟨he,rfl,h⟩
  ·
   refine go ?_;refine WL.v (bY rfl rfl rfl) ?_;refine go ?_;refine W.cs ?_;refine W.seq ?_;have ki:mB d=0:=by rw[←Em eD IB];exact he
   refine qC ?_ (C:=I9 (s:=(bL d (at_+(i:Nat)))) (vE _ _) h (aB.cF (v:=.slice (some ⟨br,0,none⟩) 512 512)) (by decide));rintro _ w hg;rcases hg with⟨SC,au,cu,rfl,h⟩|⟨SC,rfl,h⟩
   ·
    refine gw ?_;refine W.seq ?_;refine W.seq ?_;have hun:=uL (bL d (at_+(i:Nat)));have aA:=IX (h.aj (dM 204 VW b at_ (tvN (dH d at_ i)) (tvV (dH d at_ i))));obtain⟨at0,ct0,VY,h⟩:=aA;refine qE ?_;refine WL.v (oJ rfl rfl (by omega) (by decide)) ?_;refine qN ?_;refine WL.q (e7 rfl rfl) (fun c48=> ?_) (fun c48=> ?_)
    · refine WL.pf ?_;refine go ?_;refine WL.pt ?_;refine go ?_;refine W.ct ?_;refine go ?_;refine WL.v (di rfl rfl (by omega) (by omega)) ?_;refine gw ?_;have SE:dH d at_ (i+1)=dH d at_ i:=kz (.inr (.inl (by omega)));have uO:=l6 (TT:=204) (bt:=VW) (b:=b) (at_:=at_) (a:=at0) (c:=ct0) (value:=tvV (dH d at_ i)) (L:=aQ 109 221 b d::L) VY h.to;exact⟨i+1,⟨by omega,fun _=>ki,_,aD ⟨rfl,rfl,rfl,(congrArg (fun z:TV=>Value.bool z.isSome) SE).symm,rfl,trivial⟩,by rw[SE];exact uO⟩,by show 2 - (i+1)<2 - i;omega⟩
    refine WL.pf ?_;refine WL.m ?_;refine WL.Kn run_move rfl rfl (fun c51=> ?_) (fun c51=> ?_)
    ·
     refine go ?_;refine WL.q (cH rfl rfl) (fun H9=> ?_) (fun H9=> ?_)
     · refine WL.pt ?_;refine WL.pf ?_;refine go ?_;refine W.ct ?_;refine go ?_;refine WL.v (di rfl rfl (by omega) (by omega)) ?_;refine gw ?_;have SE:dH d at_ (i+1)=dH d at_ i:=kz (.inr (.inr ⟨c51,by omega⟩));have uO:=l6 (TT:=204) (bt:=VW) (b:=b) (at_:=at_) (a:=at0) (c:=ct0) (value:=tvV (dH d at_ i)) (L:=aQ 109 221 b d::L) VY h.to;exact⟨i+1,⟨by omega,fun _=>ki,_,aD ⟨rfl,rfl,rfl,(congrArg (fun z:TV=>Value.bool z.isSome) SE).symm,rfl,trivial⟩,by rw[SE];exact uO⟩,by show 2 - (i+1)<2 - i;omega⟩
     refine qS fun w h _=> ?_;refine gs fun w h _=> ?_;refine go ?_;refine WL.v (di rfl rfl (by omega) (by omega)) ?_;refine gw ?_;have htk:dH d at_ (i+1)=some ((bE (bL d (at_+(i:Nat)))).1,(bE (bL d (at_+(i:Nat)))).2.1):=oP SC (by omega) (fun _=>by omega);have uO:=l6 (TT:=204) (bt:=VW) (b:=b) (at_:=at_) (a:=au) (c:=cu) (number:=(bE (bL d (at_+(i:Nat)))).1) (value:=(bE (bL d (at_+(i:Nat)))).2.1) (L:=aQ 109 221 b d::L) (uL _) h.to;exact⟨i+1,⟨by omega,fun _=>ki,_,aD ⟨rfl,rfl,rfl,(congrArg (fun z:TV=>Value.bool z.isSome) htk).symm,rfl,trivial⟩,by rw[htk];exact uO⟩,by show 2 - (i+1)<2 - i;omega⟩
    refine qS fun w h _=> ?_;refine gs fun w h _=> ?_;refine go ?_;refine WL.v (di rfl rfl (by omega) (by omega)) ?_;refine gw ?_;have htk:dH d at_ (i+1)=some ((bE (bL d (at_+(i:Nat)))).1,(bE (bL d (at_+(i:Nat)))).2.1):=oP SC (by omega) (fun hh=>by rw[c51] at hh;cases hh);have uO:=l6 (TT:=204) (bt:=VW) (b:=b) (at_:=at_) (a:=au) (c:=cu) (number:=(bE (bL d (at_+(i:Nat)))).1) (value:=(bE (bL d (at_+(i:Nat)))).2.1) (L:=aQ 109 221 b d::L) (uL _) h.to;exact⟨i+1,⟨by omega,fun _=>ki,_,aD ⟨rfl,rfl,rfl,(congrArg (fun z:TV=>Value.bool z.isSome) htk).symm,rfl,trivial⟩,by rw[htk];exact uO⟩,by show 2 - (i+1)<2 - i;omega⟩
   refine go ?_;refine WL.v (z6 rfl rfl (SC)) ?_;refine go ?_;refine WL.pt ?_;refine go ?_;refine WL.pt ?_;refine go ?_;refine W.ct ?_;refine go ?_;refine WL.v (di rfl rfl (by omega) (by omega)) ?_;refine gw ?_;have SE:dH d at_ (i+1)=dH d at_ i:=kz (.inl SC);exact⟨i+1,⟨by omega,fun _=>ki,_,aD ⟨rfl,rfl,rfl,(congrArg (fun z:TV=>Value.bool z.isSome) SE).symm,rfl,trivial⟩,by rw[SE];exact h.to⟩,by show 2 - (i+1)<2 - i;omega⟩
  refine qE ?_;refine qR ?_;have e:lG d at_=(none,mB d):=O5 eD (by rw[←Em eD IB];exact he);exact .inr ⟨by rw[e],by rw[e,←Em eD IB];exact he,by rw[e,←Em eD IB],h.to⟩
 refine W.exit ?_;refine W.seq ?_;refine W.seq ?_;have IB:i=2:=by omega
 subst IB;have ki:=agd (by decide);refine qI (fun rO=> ?_) (fun rO=> ?_)
 ·
  refine qR ?_
  have VZ:dH d at_ 2=none:=by
    cases VZ:dH d at_ 2 with
    |none=>rfl
    |some x=>rw[VZ] at rO;exact absurd rO (by simp)
  have e:=AF eD ki VZ;exact .inr ⟨by rw[e],by rw[e];decide,by rw[e],h.to⟩
 refine qR ?_
 have aA:∃x,dH d at_ 2=some x:=by
   cases VZ:dH d at_ 2 with
   |none=>rw[VZ] at rO;exact absurd rO (by simp)
   |some x=>exact⟨x,rfl⟩
 obtain⟨x,VZ⟩:=aA;have e:=AG eD ki VZ;rw[VZ] at h;exact .inl ⟨VW,x.1,x.2,by rw[e],rfl,h⟩
theorem Po{bt b cx:Nat}{ax:Option Addr}{d:Dk}{at_:Int}{number:Nat}{value nv:List UInt8}(gH:d.rM 2)(BS:0≤at_∧at_≤10000)(zD:number+1<256^8)(h:On W0 (dM 204 bt b at_ number value::aQ 109 221 b d::L) w)(C:aB L (Bytes (.slice ax nv.length cx) nv)):Cs 110 [bt,.slice ax nv.length cx] w fun v w'=>v=.int .i64 (ff d at_ number nv).1∧On W0 (dM 204 bt b at_ (if(ff d at_ number nv).1=0 then number+1 else number) (if(ff d at_ number nv).1=0 then nv else value)::aQ 109 221 b (ff d at_ number nv).2::L) w':=by
 refine qO ?_;have aA:=IX h;obtain⟨a,c,I8,h⟩:=aA;have agh:number+1<18446744073709551616:=zD;refine go ?_;refine WL.v (cT (k:=.u64) (m:=number) (n:=1) rfl rfl (Int.ofNat_le.2 (show _≤18446744073709551615 by omega))) ?_;refine qC ?_ (C:=Ew (number:=number+1) agh h (aB.to C));rintro _ w hg;rcases hg with⟨hl,aq,rfl,h⟩|⟨hl,rfl,h⟩
 ·
  refine go ?_;refine WL.v (bY rfl rfl rfl) ?_;refine go ?_;refine W.cs ?_;refine qD ?_;have hp:ff d at_ number nv=if(bT d (at_+((number+1:Nat):Int) % 2) (bW (number+1) nv)).1≠0 then bT d (at_+((number+1:Nat):Int) % 2) (bW (number+1) nv) else ek (bT d (at_+((number+1:Nat):Int) % 2) (bW (number+1) nv)).2:=by unfold ff;rw[if_neg (by omega)]
  have Eg:((bT d (at_+((number+1:Nat):Int) % 2) (bW (number+1) nv)).2).rM 1:=qY gH;refine qG fun w h=> ?_;refine X.v (fun _=>(cT (k:=.u64) (m:=number) (n:=1) rfl rfl (Int.ofNat_le.2 (show _≤18446744073709551615 by omega)))) ?_;refine X.v (fun _=>(oJ rfl rfl (by omega) (by decide))) ?_;refine qC ?_ (C:=vI (k:=(at_+((number+1:Nat):Int) % 2)) (bs:=(bW (number+1) nv)) (gH.low (by decide)) (h.aj (aQ 109 221 b d)) (aB.cF (v:=.slice aq (bW (number+1) nv).length (bW (number+1) nv).length)));rintro _ w ⟨rfl,h⟩;refine qI (fun c9=> ?_) (fun c9=> ?_)
  ·
   refine qR ?_;have e:ff d at_ number nv=bT d (at_+((number+1:Nat):Int) % 2) (bW (number+1) nv):=by rw[hp,if_pos c9]
   have l5:(ff d at_ number nv).1≠0:=by rw[e];first|assumption|(show(5:Int)≠0;decide)
   refine⟨by rw[e], ?_⟩;rw[if_neg l5,if_neg l5,e];exact l6 (a:=a) (c:=c) I8 h.to
  refine qC ?_ (C:=AA (Eg.low (by decide)) (h.aj (aQ 109 221 b (bT d (at_+((number+1:Nat):Int) % 2) (bW (number+1) nv)).2)));rintro _ w ⟨rfl,h⟩;refine qI (fun kY=> ?_) (fun kY=> ?_)
  ·
   refine qR ?_;have e:ff d at_ number nv=ek (bT d (at_+((number+1:Nat):Int) % 2) (bW (number+1) nv)).2:=by rw[hp,if_neg c9]
   have l5:(ff d at_ number nv).1≠0:=by rw[e];first|assumption|(show(5:Int)≠0;decide)
   refine⟨by rw[e], ?_⟩;rw[if_neg l5,if_neg l5,e];exact l6 (a:=a) (c:=c) I8 h.to
  refine qD ?_;have fH:=aG;have S7:nv.length≤488:=hl;refine qT fun w h=> ?_;refine WT.p 6 rfl (fun w'=>(cT (k:=.u64) (m:=number) (n:=1) rfl rfl (Int.ofNat_le.2 (show _≤18446744073709551615 by omega)))) ?_;refine qU ?_;refine WT.e 8 [true] rfl (ag call34 (bG h (aB.to C) (by omega))) ?_;rintro _ w ⟨a59,c59,rfl,h⟩;refine qW ?_;refine qU ?_;refine WT.e 11 [false] rfl (bI (v:=.int .u64 _) h sizeOf30 rfl rfl rfl rfl rfl) ?_;rintro _ w h
  try simp only[Nat.zero_add,Nat.add_zero,List.set_cons_zero,List.set_cons_succ] at h
  refine⟨trivial, ?_⟩;refine qU ?_;refine WT.e 14 [] rfl (bI (v:=.slice _ _ _) h sizeOf28 rfl rfl rfl rfl rfl) ?_;rintro _ w h
  try simp only[Nat.zero_add,Nat.add_zero,List.set_cons_zero,List.set_cons_succ] at h
  refine⟨trivial, ?_⟩;refine qU ?_;refine qR ?_;have e:ff d at_ number nv=ek (bT d (at_+((number+1:Nat):Int) % 2) (bW (number+1) nv)).2:=by rw[hp,if_neg c9]
  have h0:(ff d at_ number nv).1=0:=by rw[e];exact Decidable.not_not.1 kY
  refine⟨by rw[h0], ?_⟩;rw[if_pos h0,if_pos h0,e];exact l6 (a:=a59) (c:=c59) zD h.to
 refine qE ?_;refine qR ?_;have e:ff d at_ number nv=(5,d):=by unfold ff;rw[if_pos hl]
 have l5:(ff d at_ number nv).1≠0:=by rw[e];first|assumption|(show(5:Int)≠0;decide)
 refine⟨by rw[e], ?_⟩;rw[if_neg l5,if_neg l5,e];exact l6 (a:=a) (c:=c) I8 h.to
end Go.Proofs.YtcplmndikhjehaaGreat
namespace Go.Proofs.YtcplmndikhjehaaGreat
open Go Go.Sl Go.Sl.eM Go.Sl.dA Go.Sl.gU
set_option maxHeartbeats 0
set_option maxRecDepth 8000
variable{W0 w:World}{L F:List aC}
theorem Ja{b n:Nat}{d:Dk}{at_:Int}{val:List UInt8}(I:vN d at_ n val)(hn:0≤d.n)(h:On W0 (aQ 109 221 b d::L) w):Cs 64 [b,.int .i64 at_] w fun v w'=>∃bt,v=.tuple #[.pointer (some ⟨bt,0,none⟩),.int .i64 0]∧On W0 (dM 204 bt b at_ n val::aQ 109 221 b d::L) w':=(AV hn h).mono fun e w' he=>by
 obtain⟨v,he,hv⟩:=he;refine⟨v,he, ?_⟩;rcases hv with⟨bt,n2,abg,e1,hv,h⟩|⟨e1,_,_,_⟩
 · rw[I.opens] at e1
   cases e1;exact⟨bt,hv,h⟩
 rw[I.opens] at e1;cases e1
theorem MF{b:Nat}{d:Dk}{at_ k:Int}(e0:lG d at_=(none,k))(hn:0≤d.n)(h:On W0 (aQ 109 221 b d::L) w):Cs 64 [b,.int .i64 at_] w fun v w'=>v=.tuple #[.pointer none,.int .i64 k]∧On W0 (aQ 109 221 b d::L) w':=(AV hn h).mono fun e w' he=>by
 obtain⟨v,he,hv⟩:=he;refine⟨v,he, ?_⟩;rcases hv with⟨bt,n2,abg,e1,hv,h⟩|⟨e1,_,hv,h⟩
 · rw[e0] at e1
   cases e1
 rw[e0] at hv;exact⟨hv,h⟩
end Go.Proofs.YtcplmndikhjehaaGreat
namespace Go.Sl.mG
open Go Go.Sl Go.Sl.eM Go.Sl.dA Go.Sl.gU Go.Sl.ow
variable{P0 first lv:Nat}{rows:List (List UInt8)}
structure Hd where
 bl:Nat
 aJ:Nat
 cY:Nat
 base:Nat
 size:Nat
 first:Nat
 place:Nat
structure Hd.ok(h:Hd):Prop where
 bl:h.bl<18446744073709551616
 aJ:h.aJ<4294967296
 cY:h.cY≤1
 base:h.base<18446744073709551616
 size:h.size≤24576
 first:h.first<18446744073709551616
 place:h.place<65536
def cK(h:Hd):List UInt8:=be h.bl 8++be h.aJ 4++be h.cY 1++be h.base 8++be h.size 4++be h.first 8++be h.place 2
theorem bX(h:Hd):(cK h).length=35:=by unfold cK;simp only[List.length_append,aT]
theorem Gk{h:Hd}(o:h.ok):bM (cK h) 0 8=h.bl∧bM (cK h) 8 4=h.aJ∧bM (cK h) 12 1=h.cY∧bM (cK h) 13 8=h.base∧bM (cK h) 21 4=h.size∧bM (cK h) 25 8=h.first∧bM (cK h) 33 2=h.place:=by
 obtain⟨h1,h2,h3,h4,h5,h6,h7⟩:=o;unfold cK;refine⟨?_, ?_, ?_, ?_, ?_, ?_, ?_⟩
 · have:=gn (x:=[]) (y:=be h.aJ 4++be h.cY 1++be h.base 8++be h.size 4++be h.first 8++be h.place 2) (a:=0) (k:=8) rfl h1
   simp only[List.append_assoc,List.nil_append] at this⊢;exact this
 · have:=gn (x:=be h.bl 8) (y:=be h.cY 1++be h.base 8++be h.size 4++be h.first 8++be h.place 2) (k:=4) (aT _ _) h2
   simp only[List.append_assoc] at this⊢;exact this
 · have:=gn (x:=be h.bl 8++be h.aJ 4) (y:=be h.base 8++be h.size 4++be h.first 8++be h.place 2) (v:=h.cY) (a:=12) (k:=1) (by simp only[List.length_append,aT]) (by omega)
   simp only[List.append_assoc] at this⊢;exact this
 · have:=gn (x:=be h.bl 8++be h.aJ 4++be h.cY 1) (y:=be h.size 4++be h.first 8++be h.place 2) (a:=13) (k:=8) (by simp only[List.length_append,aT]) h4
   simp only[List.append_assoc] at this⊢;exact this
 · have:=gn (x:=be h.bl 8++be h.aJ 4++be h.cY 1++be h.base 8) (y:=be h.first 8++be h.place 2) (v:=h.size) (a:=21) (k:=4) (by simp only[List.length_append,aT]) (by omega)
   simp only[List.append_assoc] at this⊢;exact this
 · have:=gn (x:=be h.bl 8++be h.aJ 4++be h.cY 1++be h.base 8++be h.size 4) (y:=be h.place 2) (a:=25) (k:=8) (by simp only[List.length_append,aT]) h6
   simp only[List.append_assoc] at this⊢;exact this
 have:=gn (x:=be h.bl 8++be h.aJ 4++be h.cY 1++be h.base 8++be h.size 4++be h.first 8) (y:=[]) (a:=33) (k:=2) (by simp only[List.length_append,aT]) (by omega);simp only[List.append_assoc,List.append_nil] at this⊢;exact this
structure En where
 idx:Nat
 ep:Nat
 data:List UInt8
def mQ(e:En):List UInt8:=be e.idx 8++be e.ep 8++e.data
theorem uP(e:En):(mQ e).length=16+e.data.length:=by unfold mQ;simp only[List.length_append,aT]
theorem MG{e:En}(h1:e.idx<256^8)(h2:e.ep<256^8):bM (mQ e) 0 8=e.idx∧bM (mQ e) 8 8=e.ep∧(mQ e).drop 16=e.data:=by
 unfold mQ;refine⟨?_, ?_, ?_⟩
 · have:=gn (x:=[]) (y:=be e.ep 8++e.data) (a:=0) rfl h1
   simp only[List.append_assoc,List.nil_append] at this⊢;exact this
 · have:=gn (x:=be e.idx 8) (y:=e.data) (aT _ _) h2
   simp only[List.append_assoc] at this⊢;exact this
 exact List.drop_left' (by simp only[List.length_append,aT])
structure JI(d:Dk)(first P0 lv:Nat)(rows:List (List UInt8)):Prop where
 here:∃l:List LB,l.map (·.2)=rows∧∀j x,l[j]? =some x→Xe d 98 256 ((P0+gO (l.take j)) % 256) (first+j) x.1 x.2∧pz (l.take j)≤x.1∧x.1≤lv∧x.2.length≤32768
 used:jB rows≤256
 num:∀q:Nat,q<256→(bJ (bL d ((98+q:Nat):Int))).err≠0∨(bJ (bL d ((98+q:Nat):Int))).number<first+rows.length
theorem KF(place i:Nat):∃q:Nat,q<256∧jM 98 256 place i=((98+q:Nat):Int):=⟨(place+i) % 256,Nat.mod_lt _ (by decide),rfl⟩
theorem JI.same{d d':Dk}(J:JI d first P0 lv rows)(h:∀q:Nat,q<256→bL d' ((98+q:Nat):Int)=bL d ((98+q:Nat):Int)):JI d' first P0 lv rows:=by
 obtain⟨l,hl,hh⟩:=J.here;refine⟨⟨l,hl,fun j x hx=> ?_⟩,J.used,fun q hq=>by rw[h q hq];exact J.num q hq⟩;obtain⟨h1,h2⟩:=hh j x hx;refine⟨fun i hi=> ?_,h2⟩;obtain⟨q,hq,e⟩:=KF ((P0+gO (l.take j)) % 256) i;have:=h1 i hi;rw[e] at this⊢;rw[h q hq];exact this
theorem JI.mono{d:Dk}{lv':Nat}(J:JI d first P0 lv rows)(h:lv≤lv'):JI d first P0 lv' rows:=by
 obtain⟨l,hl,hh⟩:=J.here;exact⟨⟨l,hl,fun j x hx=>by obtain⟨h1,h2,h3,h4⟩:=hh j x hx;exact⟨h1,h2,by omega,h4⟩⟩,J.used,J.num⟩
theorem JI.blank{d:Dk}(h:∀q:Nat,q<256→bL d ((98+q:Nat):Int)=List.replicate 512 0):JI d first P0 lv []:=
 ⟨⟨[],rfl,fun j x hx=>by simp at hx⟩,Nat.zero_le _,fun q hq=> .inl (by rw[h q hq];exact Er)⟩
theorem MH{l:List LB}(h:∀(j:Nat) (x:LB),l[j]? =some x→x.1≤lv):pz l≤lv:=by
 unfold pz;cases hg:l.getLast? with
 |none=>exact Nat.zero_le _
 | some x=>
   obtain⟨i,hi⟩:=List.getElem?_of_mem (List.mem_of_getLast? hg);exact h i x hi
theorem JI.chain{d:Dk}{aJ:Nat}(J:JI d first P0 lv rows)(hl:lv≤aJ):∃l:List LB,l.map (·.2)=rows∧KD d 98 256 P0 first aJ l:=by
 obtain⟨l,rfl,hh⟩:=J.here;refine⟨l,rfl,fun j x hx=> ?_,by rw[←sF];exact J.used,.inr ?_⟩
 · obtain⟨h1,h2,h3,h4⟩:=hh j x hx
   exact⟨h1,h2,by omega,h4⟩
 obtain⟨q,hq,e⟩:=KF ((P0+gO l) % 256) 0;have zE:(l.map (·.2)).length=l.length:=List.length_map ..;unfold TF;rw[e];rcases J.num q hq with h|h
 · exact .inl h
 exact .inr (.inl (by omega))
theorem JI.app{d:Dk}{b:List UInt8}(J:JI d first P0 lv rows)(hl:Live d)(hn:d.n=354)(hb:b.length≤32768)(nN:jB rows+bO b.length≤256)(hf:first+rows.length<256^8)(hlv:lv<256^4):
   JI (pg d 98 256 ((P0+jB rows) % 256) (first+rows.length) lv b (bO b.length)) first P0 lv (rows++[b]):=by
 have eD:((98+256:Nat):Int)≤d.n:=by rw[hn];decide
 have Pp:∀k':Int,(∀j,j<bO b.length→k'≠jM 98 256 ((P0+jB rows) % 256) j)→bL (pg d 98 256 ((P0+jB rows) % 256) (first+rows.length) lv b (bO b.length)) k'=bL d k':=fun k' h=>AK hl (by decide) eD _ h;obtain⟨l,rfl,hh⟩:=J.here;have zE:(l.map (·.2)).length=l.length:=List.length_map ..;refine⟨⟨l++[(lv,b)],by rw[List.map_append];rfl,fun j x hx=> ?_⟩,by rw[p8];exact nN,fun q hq=> ?_⟩
 · rw[sF] at Pp nN⊢
   by_cases hj:j<l.length
   · rw[List.getElem?_append_left hj] at hx
     obtain⟨h1,h2⟩:=hh j x hx;rw[List.take_append_of_le_length (by omega)];refine⟨fun i hi=> ?_,h2⟩;rw[Pp,h1 i hi];intro p hp e;have hu:=uc l (j+1);rw[AN hx] at hu;rw[Gg,Gg] at e;have:=Gf (by omega) (by omega) e;omega
   have V0:j=l.length:=by
     have:=(List.getElem?_eq_some_iff.1 hx).1;rw[List.length_append,List.length_singleton] at this;omega
   subst V0;rw[List.getElem?_append_right (Nat.le_refl _),Nat.sub_self] at hx;cases hx;rw[List.take_left];refine⟨fun i hi=> ?_,MH fun j x hx=>(hh j x hx).2.2.1,Nat.le_refl _,hb⟩;rw[zE];exact AL hl (by decide) eD _ i hi (by omega)
 rw[List.length_append,List.length_singleton];by_cases hw:∃j,j<bO b.length∧((98+q:Nat):Int)=jM 98 256 ((P0+jB (l.map (·.2))) % 256) j
 · obtain⟨j,hj,e⟩:=hw
   rw[e,AL hl (by decide) eD _ j hj (by omega),yo hf hlv hj (by omega) (p5 b j)];exact .inr (by show first+(l.map (·.2)).length<_;omega)
 rw[Pp _ (fun j hj e=>hw ⟨j,hj,e⟩)];rcases J.num q hq with h|h
 · exact .inl h
 exact .inr (by omega)
def ZL(lv:Nat)(rows:List (List UInt8)):List LB:=rows.map fun b=>(lv,b)
theorem MI(lv:Nat)(rows:List (List UInt8)):(ZL lv rows).map (·.2)=rows:=by unfold ZL;rw[List.map_map];exact List.map_id _
theorem Pq(lv:Nat)(rows:List (List UInt8)):gO (ZL lv rows)=jB rows:=by rw[←sF,MI]
structure uQ(g:Rg)(first P0 lv:Nat)(rows:List (List UInt8)):Prop where
 at_:g.at_=98
 n:g.n=256
 first:g.first=first
 aJ:g.aJ=lv
 row:g.l.map (·.2)=rows
 Xl:∀(j:Nat) (x:LB),g.l[j]? =some x→x.1=(P0+jB (rows.take j)) % 256
 place:g.place=(P0+jB rows) % 256
 used:g.used=jB rows
theorem uQ.len{g:Rg}(R:uQ g first P0 lv rows):g.l.length=rows.length:=by rw[←R.row,List.length_map]
theorem uQ.next{g:Rg}(R:uQ g first P0 lv rows):g.next=first+rows.length:=by unfold Rg.next;rw[R.first,R.len]
theorem uQ.new(first P0 lv:Nat)(h:P0<256):uQ (tD 98 256 first P0 lv) first P0 lv []:=
 ⟨rfl,rfl,rfl,rfl,rfl,fun j x hx=>(by cases hx),by show P0=(P0+0) % 256;rw[Nat.add_zero,Nat.mod_eq_of_lt h],rfl⟩
theorem uQ.app{g:Rg}(R:uQ g first P0 lv rows)(b:List UInt8):uQ (rD g b) first P0 lv (rows++[b]):=by
 refine⟨R.at_,R.n,R.first,R.aJ, ?_,fun j x hx=> ?_, ?_, ?_⟩
 · show(g.l++[(g.place,b)]).map (·.2)=_
   rw[List.map_append,R.row];rfl
 · have hx:(g.l++[(g.place,b)])[j]? =some x:=hx
   by_cases hj:j<g.l.length
   · rw[List.getElem?_append_left hj] at hx
     rw[R.Xl j x hx,List.take_append_of_le_length (by rw[←R.len];omega)]
   have V0:j=g.l.length:=by
     have:=(List.getElem?_eq_some_iff.1 hx).1;rw[List.length_append,List.length_singleton] at this;omega
   subst V0;rw[List.getElem?_append_right (Nat.le_refl _),Nat.sub_self] at hx;cases hx;rw[R.len,List.take_left];exact R.place
 · show(g.place+bO b.length) % g.n=_
   rw[R.n,R.place,p8,Nat.mod_add_mod,Nat.add_assoc]
 show g.used+bO b.length=_;rw[R.used,p8]
theorem uQ.Pr(first P0 lv:Nat)(h:P0<256)(rows:List (List UInt8)):uQ (rE (tD 98 256 first P0 lv) rows) first P0 lv rows:=by
 generalize hn:rows.length=n
 induction n generalizing rows with
 | zero=>
   have:rows=[]:=List.eq_nil_of_length_eq_zero hn;subst this;exact uQ.new first P0 lv h
 | succ n ih=>
   obtain⟨cs,b,rfl⟩:∃cs b,rows=cs++[b]:=⟨rows.dropLast,rows.getLast (by intro e;subst e;cases hn),(List.dropLast_concat_getLast _).symm⟩;rw[zC];exact(ih cs (by simpa using hn)).app b
def bH(s:List UInt8)(i:Nat):List UInt8:=(s.drop (i*512)).take 512
theorem Pt(s:List UInt8)(i:Nat):(bH s i).length≤512:=by unfold bH;rw[List.length_take];omega
def xx(d:Dk)(w:Nat)(s:List UInt8):Prop:=∀i:Nat,i*512<s.length→bL d ((2+w*48+i:Nat):Int)=full (bH s i)
section
variable{d:Dk}{w:Nat}{s:List UInt8}
end
theorem Jb{s out z:List UInt8}{i:Nat}(ho:out=s.take (i*512)++z)(hz:i*512≤s.length→z=[])(dW:i*512<s.length):∃z',out++full (bH s i)=s.take ((i+1)*512)++z'∧((i+1)*512≤s.length→z'=[]):=by
 have hz0:z=[]:=hz (by omega);subst hz0;rw[List.append_nil] at ho;subst ho
 have e:s.take ((i+1)*512)=s.take (i*512)++bH s i:=by
   unfold bH;rw[show(i+1)*512=i*512+512 by omega,List.take_add]
 unfold full;rw[List.take_of_length_le (Pt s i),e];refine⟨List.replicate (512 - (bH s i).length) 0,by rw[List.append_assoc],fun hh=> ?_⟩;have:(bH s i).length=512:=by unfold bH;rw[List.length_take,List.length_drop];omega
 rw[this];rfl
abbrev EX:=En×Value
def EX.row(x:EX):List Value:=[.int .u64 (x.1.idx:Int),.int .u64 (x.1.ep:Int),x.2]
theorem EX.AW(x:EX):x.row.length=3:=rfl
def AX(aa:aE)(ws:List EX):Prop:=∀x∈ws,fu aa x.2 x.1.data∧x.2.oneCell'=true
def stV (b bt br : Nat) (h : Hd) (sv lv : Value) : List Value := [b, bt, br,
 .int .u64 (h.bl : Int), .int .u32 (h.aJ : Int), .int .i64 (h.cY : Int), .int .u64 (h.base : Int), .int .i64 (h.size : Int), .int .u64 (h.first : Int), .int .i64 (h.place : Int), sv, lv]
def gA(TG bs b bt br:Nat)(h:Hd)(snap:List UInt8)(es:List En):aC:=Ex fun(y:Option Addr×Nat×Option Addr×Nat×List EX×aE)=>Pack (y.2.2.2.2.1.map (·.1)=es∧AX y.2.2.2.2.2 y.2.2.2.2.1)
 [aX bs (stV b bt br h (.slice y.1 snap.length y.2.1) (.slice y.2.2.1 es.length y.2.2.2.1)) TG,bC (.slice y.1 snap.length y.2.1) snap,Own 3 (.slice y.2.2.1 es.length y.2.2.2.1) es.length (y.2.2.2.2.1.flatMap EX.row),aY y.2.2.2.2.2]
section
variable{W0 w:World}{L:List aC}{TG bs b bt br:Nat}{h:Hd}{snap:List UInt8}{es:List En}
theorem fY(H:On W0 (gA TG bs b bt br h snap es::L) w):∃(a1:Option Addr) (c1:Nat) (a2:Option Addr) (c2:Nat) (ws:List EX) (aa:aE),ws.map (·.1)=es∧AX aa ws∧
   On W0 (aX bs [b, bt, br, .int .u64 (h.bl : Int), .int .u32 (h.aJ : Int), .int .i64 (h.cY : Int), .int .u64 (h.base : Int), .int .i64 (h.size : Int), .int .u64 (h.first : Int), .int .i64 (h.place : Int), .slice a1 snap.length c1, .slice a2 es.length c2] TG ::
     bC (.slice a1 snap.length c1) snap :: Own 3 (.slice a2 es.length c2) es.length (ws.flatMap EX.row) :: aY aa :: L) w := by
 obtain⟨⟨a1,c1,a2,c2,ws,aa⟩,H⟩:=H.ex;obtain⟨⟨h1,h2⟩,H⟩:=H.unpack;exact⟨a1,c1,a2,c2,ws,aa,h1,h2,H⟩
theorem nE{a1:Option Addr}{c1:Nat}{a2:Option Addr}{c2:Nat}{ws:List EX}{aa:aE}(h1:ws.map (·.1)=es)(h2:AX aa ws)
   (H : On W0 (aX bs [b, bt, br, .int .u64 (h.bl : Int), .int .u32 (h.aJ : Int), .int .i64 (h.cY : Int), .int .u64 (h.base : Int), .int .i64 (h.size : Int), .int .u64 (h.first : Int), .int .i64 (h.place : Int), .slice a1 snap.length c1, .slice a2 es.length c2] TG ::
     bC (.slice a1 snap.length c1) snap :: Own 3 (.slice a2 es.length c2) es.length (ws.flatMap EX.row) :: aY aa :: L) w) : On W0 (gA TG bs b bt br h snap es :: L) w :=
 On.rT (a1,c1,a2,c2,ws,aa) (On.pack ⟨h1,h2⟩ H)
theorem Xm{ws:List EX}(h:ws.map (·.1)=es){k:Nat}{e:En}(he:es[k]? =some e):∃v,ws[k]? =some (e,v):=by
 rw[←h,List.getElem?_map] at he;cases hq:ws[k]? with
 |none=>rw[hq] at he;cases he
 |some q=>rw[hq] at he;cases he;exact⟨q.2,rfl⟩
theorem Gl{ws:List EX}{aa:aE}{e:En}{v:Value}(h1:ws.map (·.1)=es)(h2:AX aa ws)(hv:v.oneCell'=true):(ws++[(e,v)]).map (·.1)=es++[e]∧AX ((v,e.data)::aa) (ws++[(e,v)])∧(ws++[(e,v)]).flatMap EX.row=ws.flatMap EX.row++[.int .u64 (e.idx:Int),.int .u64 (e.ep:Int),v]:=by
 refine⟨by rw[List.map_append,h1];rfl,fun x hx=> ?_,by simp[EX.row]⟩;rcases List.mem_append.1 hx with hx|hx
 · exact⟨(h2 x hx).1.mono fun p hp=>List.mem_cons_of_mem _ hp,(h2 x hx).2⟩
 rw[List.mem_singleton.1 hx];exact⟨.inl (List.mem_cons_self ..),hv⟩
end
structure SI(d:Dk)(h:Hd)(tn:Nat)(snap:List UInt8)(es:List En)(g:Rg):Prop where
 live:Live d
 n:d.n=354
 cD:h.ok
 place:h.place<256
 tw:vN d 0 tn (cK h)
 size:snap.length=h.size
 on:xx d h.cY snap
 ri:uQ g h.first h.place h.aJ (es.map mQ)
 ji:JI d h.first h.place h.aJ (es.map mQ)
 ens:∀(j:Nat) (e:En),es[j]? =some e→e.idx=h.base+1+j∧e.ep<256^8∧e.data.length≤2048
 flat:Flat d
end Go.Sl.mG
namespace Go.Sl
open Go
section
variable{P:Program}{w:World}{d:Option Nat}{ty:TypeId}{pos:String}{af:Array Edge}{g:Option (Nat×Bool)}
theorem jf{env:Env}{x x1:Operand}{f:FuncId}{cap abj v1:Value}{qK:Array TypeId}{R:Value→World→Prop}(hx:cN env x=.func (.func f) #[] #[cap,abj])(hf:∀args w,(callFunc f args).run P w=.ok (.enter f args) w)
   (h1:cN env x1=v1) (hc:Calls P f #[v1,cap,abj] w (wU R)):nr P (cN env) ⟨d,.call {callee:=.value x,args:=#[x1],argTypes:=qK},ty,pos,af,g⟩ w R:=by
 subst h1;exact nI hx hf hc
variable{ρ:Operand→Value}
theorem De{t yt:TypeId}{x y:Operand}{k:IntKind}{m n r:Nat}(hx:ρ x=.int k (m:Int))(hy:ρ y=.int k (n:Int))(h:n≤m)(hm:(m:Int)≤k.max)(hr:m - n=r):
   (execOp ρ ⟨d,.binOp .sub t x y yt,ty,pos,af,g⟩).run P w=.ok (.value (.int k (r:Int))) w:=by rw[←hr];exact vA hx hy h hm
end
end Go.Sl
namespace Go.Sl.mG
open Go Go.Sl Go.Sl.eM Go.Sl.dA Go.Sl.gU Go.Sl.ow
variable{tn:Nat}{v:List UInt8}
theorem Pu{d d':Dk}{n:Nat}(T:vN d 0 n v)(hl:Live d')(hn:d'.n=d.n)(h:∀k:Int,0≤k→k<2→bL d' k=bL d k):vN d' 0 n v:=by
 refine⟨hl, ?_,T.num,T.len, ?_, ?_⟩
 · have:=T.AJ;unfold zb at this⊢;rw[hn];exact this
 · rw[h _ (by omega) (by omega)];exact T.here
 rw[h _ (by omega) (by omega)];exact T.other
theorem Df{d d':Dk}{w:Nat}{s:List UInt8}(S:xx d w s)(hw:w≤1)(hs:s.length≤24576)(h:∀k:Nat,2≤k→k<98→bL d' ((k:Nat):Int)=bL d ((k:Nat):Int)):xx d' w s:=fun i hi=>by
 rw[h _ (by omega) (by omega)];exact S i hi
theorem vP{d:Dk}{n:Nat}{v2:List UInt8}(T:vN d 0 n v)(hn:n+1<256^8)(hv:v2.length≤488):(ff d 0 n v2).1=0∧Live (ff d 0 n v2).2∧Flat (ff d 0 n v2).2∧(ff d 0 n v2).2.n=d.n∧(ff d 0 n v2).2.calls=d.calls+2∧
   vN (ff d 0 n v2).2 0 (n+1) v2∧∀k:Nat,2≤k→bL (ff d 0 n v2).2 ((k:Nat):Int)=bL d ((k:Nat):Int):=by
 obtain⟨e,l,hnn,c,r⟩:=AH (number:=n) T.live T.AJ hv;refine⟨e,l, ?_,hnn,c,T.put hn hv,fun k hk=>by rw[r,if_neg (by omega)]⟩;obtain⟨h1,h2⟩:=T.AJ;obtain⟨q,hq⟩:∃q:Int,q=((n+1:Nat):Int) % 2:=⟨_,rfl⟩;have TD:q=0∨q=1:=by omega
 have hs:(bW (n+1) v2).length=512:=oO hv;obtain⟨e1,l1,_⟩:=jW (k:=0+q) (bs:=bW (n+1) v2) T.live ⟨by omega,by omega⟩ (by omega)
 have ep:ff d 0 n v2=ek (bT d (0+q) (bW (n+1) v2)).2:=by
   subst hq;unfold ff;rw[if_neg (by omega),if_neg (by rw[e1];show ¬((0:Int)≠0);decide)]
 rw[ep];exact AO l1
theorem Jc{d:Dk}(h:Live d)(hn:d.n=354)(hv:v.length≤488):(dG d 0 v).1=0∧Live (dG d 0 v).2∧(dG d 0 v).2.n=354∧(dG d 0 v).2.calls=d.calls+3∧vN (dG d 0 v).2 0 1 v∧
   ∀k:Nat,2≤k→bL (dG d 0 v).2 ((k:Nat):Int)=bL d ((k:Nat):Int):=by
 have hi:zb d 0:=⟨Int.le_refl 0,by rw[hn];decide⟩;obtain⟨e,l,n,c,r⟩:=sC h hi hv;exact⟨e,l,n.trans hn,c,vN.format h hi hv,fun k hk=>by rw[r,if_neg (by omega),if_neg (by omega)]⟩
theorem MJ{d:Dk}{place number lv:Nat}{b:List UInt8}(hl:Live d)(hn:d.n=354)(i:Nat){k:Int}(hk:k<98):bL (pg d 98 256 place number lv b i) k=bL d k:=by
 refine AK hl (by decide) (by rw[hn];decide) i fun j hj e=> ?_;unfold jM at e;omega
theorem SI.app{d:Dk}{h:Hd}{snap:List UInt8}{es:List En}{g:Rg}{e:En}(S:SI d h tn snap es g)(hi:e.idx=h.base+1+es.length)(IB:e.idx<256^8)(hp:e.ep<256^8)(hd:e.data.length≤2048)
   (nN:jB (es.map mQ)+bO (mQ e).length≤256) (hf:h.first+es.length<256^8) {d2:Dk} (h2:d2=(ek (pg d 98 256 g.place g.next h.aJ (mQ e) (bO (mQ e).length))).2):SI d2 h tn snap (es++[e]) (rD g (mQ e)):=by
 have hR:=S.ri;have yd:(es.map mQ).length=es.length:=List.length_map ..;have vh:g.place=(h.place+jB (es.map mQ)) % 256:=hR.place;have zf:g.next=h.first+(es.map mQ).length:=hR.next;have eD:((98+256:Nat):Int)≤d.n:=by rw[S.n];decide
 have nj:(mQ e).length≤32768:=by rw[uP];omega
 obtain⟨l1,n1,c1⟩:=p6 (place:=g.place) (number:=g.next) (aJ:=h.aJ) (b:=mQ e) S.live (by decide) eD (bO (mQ e).length);obtain⟨f1,l2,r2⟩:=lQ l1;have rd:∀k:Int,k<98→bL d2 k=bL d k:=fun k hk=>by rw[h2,r2];exact MJ S.live S.n _ hk
 have n2:d2.n=354:=by rw[h2,AE,n1,S.n]
 have l2':Live d2:=by rw[h2];exact l2
 have J:=S.ji.app S.live S.n nj nN (by rw[yd];exact hf) S.cD.aJ;rw[←vh,←zf] at J;refine⟨l2',n2,S.cD,S.place,Pu S.tw l2' (by rw[n2,S.n]) (fun k _ hk=>rd k (by omega)),S.size,Df S.on S.cD.cY (by rw[S.size];exact S.cD.size) (fun k _ hk=>rd _ (by omega)), ?_, ?_, ?_, ?_⟩
 · rw[List.map_append];exact hR.app _
 · rw[List.map_append]
   exact J.same fun q hq=>by rw[h2,r2]
 · intro j x hx
   by_cases hj:j<es.length
   · rw[List.getElem?_append_left hj] at hx;exact S.ens j x hx
   have V0:j=es.length:=by
     have:=(List.getElem?_eq_some_iff.1 hx).1;rw[List.length_append,List.length_singleton] at this;omega
   subst V0;rw[List.getElem?_append_right (Nat.le_refl _),Nat.sub_self] at hx;cases hx;exact⟨hi,hp,hd⟩
 rw[h2];exact AO l1
theorem SI.first{d:Dk}{h:Hd}{d2:Dk}(hl:Live d)(hn:d.n=354)(o:h.ok)(hp:h.place<256)(Pj:h.aJ=1)(CH:h.size=0)(T:vN d 0 tn (cK h))(Je:tn+1<256^8)(hb:∀k:Nat,2≤k→bL d ((k:Nat):Int)=List.replicate 512 0)
   (h2:d2=(ff d 0 tn (cK {h with aJ:=h.aJ+1})).2):SI d2 {h with aJ:=h.aJ+1} (tn+1) [] [] (tD 98 256 h.first h.place (h.aJ+1))∧d2.calls=d.calls+2:=by
 obtain⟨e3,l3,f3,n3,c3,T3,r3⟩:=vP (v2:=cK {h with aJ:=h.aJ+1}) T Je (by rw[bX];decide);have e2:h.aJ+1=2:=by omega
 refine⟨⟨by rw[h2];exact l3,by rw[h2,n3,hn],⟨o.bl,by show h.aJ+1<_;omega,o.cY,o.base,o.size,o.first,o.place⟩,hp,by rw[h2];exact T3,by show 0=h.size;omega,fun i hi=>by simp at hi, ?_, ?_,fun j e he=>by simp at he,by rw[h2];exact f3⟩,by rw[h2,c3]⟩
 · rw[e2];exact uQ.new h.first h.place 2 hp
 exact JI.blank fun q hq=>by rw[h2,r3 _ (by omega)];exact hb _ (by omega)
theorem SI.bl{d:Dk}{h:Hd}{ep:Nat}{snap:List UInt8}{es:List En}{g:Rg}{d2:Dk}(S:SI d h tn snap es g)(he:ep<18446744073709551616)(Je:tn+1<256^8)(h2:d2=(ff d 0 tn (cK {h with bl:=ep})).2):SI d2 {h with bl:=ep} (tn+1) snap es g∧d2.calls=d.calls+2:=by
 obtain⟨e3,l3,f3,n3,c3,T3,r3⟩:=vP (v2:=cK {h with bl:=ep}) S.tw Je (by rw[bX];decide);have o:=S.cD;refine⟨⟨by rw[h2];exact l3,by rw[h2,n3,S.n],⟨he,o.aJ,o.cY,o.base,o.size,o.first,o.place⟩,S.place,by rw[h2];exact T3,S.size, ?_,S.ri, ?_,S.ens,by rw[h2];exact f3⟩,by rw[h2,c3]⟩
 · exact Df S.on o.cY (by rw[S.size];exact o.size) fun k hk _=>by rw[h2,r3 k hk]
 exact S.ji.same fun q hq=>by rw[h2,r3 _ (by omega)]
def hd1:Hd:=⟨0,2,0,0,0,4294967296,0⟩
end Go.Sl.mG
