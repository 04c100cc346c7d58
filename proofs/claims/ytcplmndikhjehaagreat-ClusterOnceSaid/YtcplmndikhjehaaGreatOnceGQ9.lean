/-
  Texts of a proof as one.
-/
import Derived.Test.YtcplmndikhjehaaGreatOnceGQ8
import Derived.Test.YtcplmndikhjehaaGreatOnceGQ2
import Derived.Test.YtcplmndikhjehaaGreatOnceGQ7
set_option linter.unusedVariables false
set_option linter.unusedSimpArgs false
namespace Go.Proofs.YtcplmndikhjehaaGreat
open Go.Proofs.Tryz
open Go Go.Sl Go.Sl.eM Go.Sl.gW Go.Sl.kM Go.Sl.pe Go.Sl.pM Go.Sl.mG Go.Sl.pO Go.Sl.rH Go.Sl.pN Go.Sl.gU Go.Sl.l9
open Go.Sl.oB (wr)
open Go.Sl.dA (fu fu.eN fu.mono)
set_option maxHeartbeats 0
set_option maxRecDepth 8000
variable{W0 w:World}{L F:List aC}
def nmI(l:List (Iv×Value)):List (Int×Nat):=l.map fun x=>(x.1.host,x.1.id)
def Wm(l:List Ct):List (Int×Nat):=l.map fun x=>(x.1,x.2.1)
def nmO(l:List (Cp×Value)):List (Int×Nat):=l.map fun x=>(x.1.host,x.1.id)
structure Lr(A:List (Iv×Value))(B:List Ct)(C:List (Cp×Value)):Prop where
 h1:∀(i:Nat) (x:Iv×Value),A[i]? =some x→ij (nmI A) x.1.host x.1.id=i
 h2:∀(i:Nat) (b:Ct),B[i]? =some b→∃(k:Nat) (a:Iv×Value),ij (nmI A) b.1 b.2.1=k∧A[k]? =some a∧ij (Wm B) b.1 b.2.1=i∧a.1.at_≤b.2.2
 h3:∀(i:Nat) (b b':Ct),B[i]? =some b→B[i+1]? =some b'→b.2.2≤b'.2.2
 h4:∀(i:Nat) (c:Cp×Value),C[i]? =some c→∃(k:Nat) (b:Ct),ij (Wm B) c.1.host c.1.id=k∧B[k]? =some b∧ij (nmO C) c.1.host c.1.id=i∧b.2.2≤c.1.at_
theorem RM{a1 a2 a3:Option Addr}{c1 c2 c3:Nat}{A:List (Iv×Value)}{B:List Ct}{C:List (Cp×Value)}(o:Lr A B C)(Eg:A.length≤1000)(Aw:B.length≤1000)(hl3:C.length≤1000)(h:On W0 L w)(C1:aB L (Cells 11 (.slice a1 A.length c1) A.length (A.flatMap mS)))(C2:aB L (Cells 3 (.slice a2 B.length c2) B.length (B.flatMap mg)))(C3:aB L (Cells 8 (.slice a3 C.length c3) C.length (C.flatMap kN))):Cs 58 [.slice a1 A.length c1,.slice a2 B.length c2,.slice a3 C.length c3] w fun v w'=>v=.tuple #[.int .i64 0,.int .i64 0]∧On W0 L w':=by
 refine qO ?_;have fH:=aG;have uI:0<A.length→∃b o,a1=some ⟨b,o,none⟩:=fun h0=>(h.aO C1).addr h0;have rN:0<B.length→∃b o,a2=some ⟨b,o,none⟩:=fun h0=>(h.aO C2).addr h0;have hn3:0<C.length→∃b o,a3=some ⟨b,o,none⟩:=fun h0=>(h.aO C3).addr h0;refine go ?_;refine W.loop (fun(q:Nat) env w=>∃j,env=eu j [(0,.slice a1 A.length c1),(1,.slice a2 B.length c2),(2,.slice a3 C.length c3),(8,.int .i64 (q:Int))]∧q≤A.length∧On W0 L w) (fun q=>A.length - q) (0) ?_ ?_
 · exact⟨_,aD ⟨rfl,rfl,rfl,rfl,trivial⟩,Nat.zero_le _,h⟩
 clear h;rintro q env w ⟨j,rfl,hq,h⟩;refine qI (fun c5=> ?_) (fun c5=> ?_)
 · have aA:∃y,A[q]? =some y:=⟨_,List.getElem?_eq_getElem (show q<A.length by omega)⟩;obtain⟨y,hy⟩:=aA;have aA:=uI (by omega);obtain⟨z1,y1,rfl⟩:=aA;refine qT fun w h=> ?_;refine WT.p 3 rfl (fun w'=>(bP underlying84 sizeOf125 rfl rfl (by omega) (by omega))) ?_;refine qU ?_;refine WT.l 5 rfl isAgg3 rfl ((h.aO C1).elem (i:=q) (vs:=mS y) (by omega) (aF mS 11 jz A _ _ hy) 0 _ rfl) ?_;refine qU ?_;refine WT.p 8 rfl (fun w'=>(bP underlying84 sizeOf125 rfl rfl (by omega) (by omega))) ?_;refine qU ?_;refine WT.l 10 rfl isAgg30 rfl ((h.aO C1).elem (i:=q) (vs:=mS y) (by omega) (aF mS 11 jz A _ _ hy) 1 _ rfl) ?_;refine WT.m 12 rfl ?_;refine WT.e 11 [false,false] rfl (ag call102 (RG h C1)) ?_;rintro v w ⟨hv,h⟩;have hv:=hv.trans (congrArg (Value.int .i64) (o.h1 q y hy));subst hv;refine⟨trivial, ?_⟩;refine WT.p 13 rfl (fun w'=>bY rfl rfl rfl) ?_;refine qU ?_;refine qD ?_;exact⟨q+1,⟨_,aD ⟨rfl,rfl,rfl,rfl,trivial⟩,by omega,h⟩,by show A.length - (q+1)<A.length - q;omega⟩
 refine go ?_;refine W.loop (fun(q:Nat) env w=>∃j,env=eu j [(0,.slice a1 A.length c1),(1,.slice a2 B.length c2),(2,.slice a3 C.length c3),(9,.int .i64 (q:Int))]∧q≤B.length∧On W0 L w) (fun q=>B.length - q) (0) ?_ ?_
 · exact⟨_,aD ⟨rfl,rfl,rfl,rfl,trivial⟩,Nat.zero_le _,h⟩
 clear h;rintro q env w ⟨j,rfl,hq,h⟩;refine qI (fun CY=> ?_) (fun CY=> ?_)
 ·
  have aA:∃y,B[q]? =some y:=⟨_,List.getElem?_eq_getElem (show q<B.length by omega)⟩;obtain⟨y,hy⟩:=aA;have aA:=rN (by omega);obtain⟨z2,y2,rfl⟩:=aA;have aA:=o.h2 q y hy;obtain⟨k,a,e1,ha,e2,BS⟩:=aA;have Ef:=(List.getElem?_eq_some_iff.1 ha).1;have aA:=uI (by omega);obtain⟨z1,y1,rfl⟩:=aA;refine qG fun w h=> ?_;refine X.lc rfl ((h.aO C2).elem (i:=q) (vs:=mg y) (by omega) (aF mg 3 gx B _ _ hy) 0 _ rfl) ?_;refine qD ?_;refine X.lc rfl ((h.aO C2).elem (i:=q) (vs:=mg y) (by omega) (aF mg 3 gx B _ _ hy) 1 _ rfl) ?_;refine X.e (ag call102 (RG h C1)) ?_;rintro v w ⟨hv,h⟩;have hv:=hv.trans (congrArg (Value.int .i64) e1);subst hv;refine qE ?_;refine qT fun w h=> ?_;refine WT.p 3 rfl (fun w'=>(bP underlying85 sizeOf126 rfl rfl (by omega) (by omega))) ?_;refine qU ?_;refine WT.l 5 rfl isAgg3 rfl ((h.aO C2).elem (i:=q) (vs:=mg y) (by omega) (aF mg 3 gx B _ _ hy) 0 _ rfl) ?_;refine qU ?_;refine WT.p 8 rfl (fun w'=>(bP underlying85 sizeOf126 rfl rfl (by omega) (by omega))) ?_;refine qU ?_;refine WT.l 10 rfl isAgg30 rfl ((h.aO C2).elem (i:=q) (vs:=mg y) (by omega) (aF mg 3 gx B _ _ hy) 1 _ rfl) ?_;refine WT.m 12 rfl ?_;refine WT.e 11 [false,false] rfl (ag call61 (J7 h C2)) ?_;rintro v w ⟨hv,h⟩;have hv:=hv.trans (congrArg (Value.int .i64) e2);subst hv;refine⟨trivial, ?_⟩;refine WT.p 13 rfl (fun w'=>bY rfl rfl rfl) ?_;refine qU ?_;refine WT.dec 16 rfl (by kernel_rfl) (fun w'=>(iU rfl rfl)) rfl rfl (fun c73=> ?_) (fun c73=> ?_)
  · have aA:∃p,q=p+1:=⟨q - 1,by omega⟩;obtain⟨p,rfl⟩:=aA;have aA:∃y,B[p]? =some y:=⟨_,List.getElem?_eq_getElem (show p<B.length by omega)⟩;obtain⟨y0,VC⟩:=aA;have hle:=o.h3 p y0 y VC hy;refine qU ?_;refine WT.p 20 rfl (fun w'=>(bP underlying85 sizeOf126 rfl rfl (by omega) (by omega))) ?_;refine qU ?_;refine WT.l 22 rfl isAgg3 rfl ((h.aO C2).elem (i:=p+1) (vs:=mg y) (by omega) (aF mg 3 gx B _ _ hy) 2 _ rfl) ?_;refine qU ?_;refine WT.p 25 rfl (fun w'=>(tr (n:=1) (r:=p) rfl rfl (by omega) (by omega) rfl)) ?_;refine WT.p 26 rfl (fun w'=>(bP underlying85 sizeOf126 rfl rfl (by omega) (by omega))) ?_;refine qU ?_;refine WT.l 28 rfl isAgg3 rfl ((h.aO C2).elem (i:=p) (vs:=mg y0) (by omega) (aF mg 3 gx B _ _ VC) 2 _ rfl) ?_;refine WT.p 29 rfl (fun w'=>dB rfl rfl (by omega)) ?_;refine qU ?_;refine WT.p 35 rfl (fun w'=>(bP underlying85 sizeOf126 rfl rfl (by omega) (by omega))) ?_;refine qU ?_;refine WT.l 37 rfl isAgg3 rfl ((h.aO C2).elem (i:=p+1) (vs:=mg y) (by omega) (aF mg 3 gx B _ _ hy) 2 _ rfl) ?_;refine qU ?_;refine WT.p 40 rfl (fun w'=>(bP underlying84 sizeOf125 rfl rfl (by omega) (by omega))) ?_;refine qU ?_;refine WT.l 42 rfl isAgg3 rfl ((h.aO C1).elem (i:=k) (vs:=mS a) (by omega) (aF mS 11 jz A _ _ ha) 10 _ rfl) ?_;refine WT.p 43 rfl (fun w'=>dB rfl rfl (by omega)) ?_;refine qU ?_;refine qD ?_;exact⟨(p+1)+1,⟨_,aD ⟨rfl,rfl,rfl,rfl,trivial⟩,by omega,h⟩,by show B.length - ((p+1)+1)<B.length - (p+1);omega⟩
  refine qU ?_;refine WT.p 35 rfl (fun w'=>(bP underlying85 sizeOf126 rfl rfl (by omega) (by omega))) ?_;refine qU ?_;refine WT.l 37 rfl isAgg3 rfl ((h.aO C2).elem (i:=q) (vs:=mg y) (by omega) (aF mg 3 gx B _ _ hy) 2 _ rfl) ?_;refine qU ?_;refine WT.p 40 rfl (fun w'=>(bP underlying84 sizeOf125 rfl rfl (by omega) (by omega))) ?_;refine qU ?_;refine WT.l 42 rfl isAgg3 rfl ((h.aO C1).elem (i:=k) (vs:=mS a) (by omega) (aF mS 11 jz A _ _ ha) 10 _ rfl) ?_;refine WT.p 43 rfl (fun w'=>dB rfl rfl (by omega)) ?_;refine qU ?_;refine qD ?_;exact⟨q+1,⟨_,aD ⟨rfl,rfl,rfl,rfl,trivial⟩,by omega,h⟩,by show B.length - (q+1)<B.length - q;omega⟩
 refine go ?_;refine W.loop (fun(q:Nat) env w=>∃j,env=eu j [(0,.slice a1 A.length c1),(1,.slice a2 B.length c2),(2,.slice a3 C.length c3),(11,.int .i64 (q:Int))]∧q≤C.length∧On W0 L w) (fun q=>C.length - q) (0) ?_ ?_
 · exact⟨_,aD ⟨rfl,rfl,rfl,rfl,trivial⟩,Nat.zero_le _,h⟩
 clear h;rintro q env w ⟨j,rfl,hq,h⟩;refine qI (fun Ue=> ?_) (fun Ue=> ?_)
 · have aA:∃y,C[q]? =some y:=⟨_,List.getElem?_eq_getElem (show q<C.length by omega)⟩;obtain⟨y,hy⟩:=aA;have aA:=hn3 (by omega);obtain⟨z3,y3,rfl⟩:=aA;have aA:=o.h4 q y hy;obtain⟨k,b,e1,hb,e2,BS⟩:=aA;have Ef:=(List.getElem?_eq_some_iff.1 hb).1;have aA:=rN (by omega);obtain⟨z2,y2,rfl⟩:=aA;refine qG fun w h=> ?_;refine X.lc rfl ((h.aO C3).elem (i:=q) (vs:=kN y) (by omega) (aF kN 8 eP C _ _ hy) 0 _ rfl) ?_;refine qD ?_;refine X.lc rfl ((h.aO C3).elem (i:=q) (vs:=kN y) (by omega) (aF kN 8 eP C _ _ hy) 1 _ rfl) ?_;refine X.e (ag call61 (J7 h C2)) ?_;rintro v w ⟨hv,h⟩;have hv:=hv.trans (congrArg (Value.int .i64) e1);subst hv;refine qE ?_;refine qT fun w h=> ?_;refine WT.p 3 rfl (fun w'=>(bP underlying86 sizeOf127 rfl rfl (by omega) (by omega))) ?_;refine qU ?_;refine WT.l 5 rfl isAgg3 rfl ((h.aO C3).elem (i:=q) (vs:=kN y) (by omega) (aF kN 8 eP C _ _ hy) 0 _ rfl) ?_;refine qU ?_;refine WT.p 8 rfl (fun w'=>(bP underlying86 sizeOf127 rfl rfl (by omega) (by omega))) ?_;refine qU ?_;refine WT.l 10 rfl isAgg30 rfl ((h.aO C3).elem (i:=q) (vs:=kN y) (by omega) (aF kN 8 eP C _ _ hy) 1 _ rfl) ?_;refine WT.m 12 rfl ?_;refine WT.e 11 [false,false] rfl (ag call103 (Zg h C3)) ?_;rintro v w ⟨hv,h⟩;have hv:=hv.trans (congrArg (Value.int .i64) e2);subst hv;refine⟨trivial, ?_⟩;refine WT.p 13 rfl (fun w'=>bY rfl rfl rfl) ?_;refine qU ?_;refine WT.p 17 rfl (fun w'=>(bP underlying86 sizeOf127 rfl rfl (by omega) (by omega))) ?_;refine qU ?_;refine WT.l 19 rfl isAgg3 rfl ((h.aO C3).elem (i:=q) (vs:=kN y) (by omega) (aF kN 8 eP C _ _ hy) 7 _ rfl) ?_;refine qU ?_;refine WT.p 22 rfl (fun w'=>(bP underlying85 sizeOf126 rfl rfl (by omega) (by omega))) ?_;refine qU ?_;refine WT.l 24 rfl isAgg3 rfl ((h.aO C2).elem (i:=k) (vs:=mg b) (by omega) (aF mg 3 gx B _ _ hb) 2 _ rfl) ?_;refine WT.p 25 rfl (fun w'=>dB rfl rfl (by omega)) ?_;refine qU ?_;refine qD ?_;exact⟨q+1,⟨_,aD ⟨rfl,rfl,rfl,rfl,trivial⟩,by omega,h⟩,by show C.length - (q+1)<C.length - q;omega⟩
 refine qR ?_;exact⟨rfl,h⟩
def Fv(c:Cm):Prop:=c.kind=2∨c.kind=3∨c.kind=6
def vc(A:List (Iv×Value))(b:Ct):Cm:=match A[(ij (nmI A) b.1 b.2.1).toNat]? with|some a=>a.1.c|none=>⟨0,0,0,[],0,0,0,false⟩
def ru(A:List (Iv×Value))(B:List Ct)(u:Un):Un×List Rp:=B.foldl (fun s b=>((A6 s.1 b.1 (vc A b)).1,s.2++[(A6 s.1 b.1 (vc A b)).2])) (u,[])
theorem D1{A:List (Iv×Value)}{B:List Ct}{u:Un}{q:Nat}{b:Ct}(h:B[q]? =some b):ru A (B.take (q+1)) u=((A6 (ru A (B.take q) u).1 b.1 (vc A b)).1,(ru A (B.take q) u).2++[(A6 (ru A (B.take q) u).1 b.1 (vc A b)).2]):=by
 unfold ru;rw[List.take_add_one,h,List.foldl_append];rfl
def Wn(x:Rp×Value):List Value:=x.1.cells x.2
theorem Vl(x:Rp×Value):(Wn x).length=5:=rfl
theorem NL{pc lX:gR}{rs:List (Rp×Value)}(hs:q9 pc lX)(h:∀x∈rs,xK pc x.2 x.1.data∧∃a c,x.2=.slice a x.1.data.length c):∀x∈rs,xK lX x.2 x.1.data∧∃a c,x.2=.slice a x.1.data.length c:=fun x hx=>⟨hs _ (h x hx).1,(h x hx).2⟩
theorem NM{a1 a2:Option Addr}{c1 c2:Nat}{A:List (Iv×Value)}{B:List Ct}{C:List (Cp×Value)}{N:Nat}(Wd:1≤N)(hN:N≤1024)(o:Lr A B C)(Eg:A.length≤1000)(Aw:B.length≤1000)(Ce:∀q i,i<8→((ru A (B.take q) (pE N)).1.cA i).dN=[])(N0:∀q,(ru A (B.take q) (pE N)).1.t.hold= -1)(rz:∀x∈A,Fv x.1.c∧x.1.c.data.length≤1000)(CA:∀x∈A,aB L (Bytes x.2 x.1.c.data)∧∃a c,x.2=.slice a x.1.c.data.length c)(h:On W0 L w)(C1:aB L (Cells 11 (.slice a1 A.length c1) A.length (A.flatMap mS)))(C2:aB L (Cells 3 (.slice a2 B.length c2) B.length (B.flatMap mg))):Cs 59 [.int .i64 (N:Int),.slice a1 A.length c1,.slice a2 B.length c2] w fun v w'=>∃(rs:List (Rp×Value)) (al:Option Addr) (cl:Nat) (pc:gR),v=.tuple #[.slice al B.length cl,.int .i64 0]∧rs.map (·.1)=(ru A B (pE N)).2∧(∀x∈rs,xK pc x.2 x.1.data∧∃a c,x.2=.slice a x.1.data.length c)∧On W0 (Own 5 (.slice al B.length cl) B.length (rs.flatMap Wn)::cO pc::L) w':=by
 refine qO ?_;have fH:=aG;have uI:0<A.length→∃b o,a1=some ⟨b,o,none⟩:=fun h0=>(h.aO C1).addr h0;have rN:0<B.length→∃b o,a2=some ⟨b,o,none⟩:=fun h0=>(h.aO C2).addr h0;have h:=gW.On.Yp h;refine qC ?_ (C:=RL (n:=N) (pc:=[]) Wd hN h);rintro _ w ⟨pc0,bu,hs0,rfl,h⟩;refine qE ?_;refine W.loop (fun(q:Nat) env w=>∃(j:Env) (pc:gR) (rs:List (Rp×Value)) (al:Option Addr) (cl:Nat),env=eu j [(1,.slice a1 A.length c1),(2,.slice a2 B.length c2),(8,bu),(10,.slice al q cl),(11,.int .i64 (q:Int))]∧q≤B.length∧rs.length=q∧rs.map (·.1)=(ru A (B.take q) (pE N)).2∧(∀x∈rs,xK pc x.2 x.1.data∧∃a c,x.2=.slice a x.1.data.length c)∧On W0 (Own 5 (.slice al q cl) q (rs.flatMap Wn)::m8 286 293 305 bu pc (ru A (B.take q) (pE N)).1::cO pc::L) w) (fun q=>B.length - q) (0) ?_ ?_
 · exact⟨_,pc0,[],none,0,aD ⟨rfl,rfl,rfl,rfl,rfl,trivial⟩,Nat.zero_le _,rfl,rfl,(fun x hx=>by cases hx),h.bB 5 none⟩
 clear h;rintro q env w ⟨j,pc,rs,al,cl,rfl,hq,hrl,hrs,eD,h⟩;refine qI (fun nB=> ?_) (fun nB=> ?_)
 ·
  have aA:∃y,B[q]? =some y:=⟨_,List.getElem?_eq_getElem (show q<B.length by omega)⟩;obtain⟨y,hy⟩:=aA;have aA:=rN (by omega);obtain⟨z2,y2,rfl⟩:=aA;have aA:=o.h2 q y hy;obtain⟨k,a,e1,ha,e2,BS⟩:=aA;have Ef:=(List.getElem?_eq_some_iff.1 ha).1;have aA:=uI (by omega);obtain⟨z1,y1,rfl⟩:=aA;have ham:=List.mem_of_getElem? ha;have ah9:=rz a ham;have hca:=CA a ham;have Zl:vc A y=a.1.c:=by unfold vc;rw[e1,Int.toNat_natCast,ha]
  obtain⟨⟨ah,ai,⟨kind,at_,n,data,key,new,cz,force⟩,aat⟩,av⟩:=a;obtain⟨xF,oA⟩:=ah9;obtain⟨CD,ax,cx,hav⟩:=hca;simp only at hav oA CD Zl;have xF:kind=2∨kind=3∨kind=6:=xF;subst hav;refine qG fun w h=> ?_;refine X.lc rfl ((h.aO C2).elem (i:=q) (vs:=mg y) (by omega) (aF mg 3 gx B _ _ hy) 0 _ rfl) ?_;refine qD ?_;refine X.lc rfl ((h.aO C2).elem (i:=q) (vs:=mg y) (by omega) (aF mg 3 gx B _ _ hy) 1 _ rfl) ?_;refine X.e (ag call102 (RG h (aB.to C1))) ?_;rintro v w ⟨hv,h⟩;have hv:=hv.trans (congrArg (Value.int .i64) e1);subst hv;refine qE ?_;refine qG fun w h=> ?_;refine X.lc rfl ((h.aO C2).elem (i:=q) (vs:=mg y) (by omega) (aF mg 3 gx B _ _ hy) 0 _ rfl) ?_;refine qD ?_;refine X.lr rfl (qF (pre:=[.int .i64 ah,.int .u64 (ai:Int)]) (vs:=[.int .i64 kind,.int .i64 at_,.int .i64 n,.slice ax data.length cx,.int .u64 key,.int .u64 new,.int .i64 cz,.bool force]) (post:=[.int .i64 aat]) ((h.aO C1).elem (i:=k) (vs:=[.int .i64 ah,.int .u64 (ai:Int),.int .i64 kind,.int .i64 at_,.int .i64 n,.slice ax data.length cx,.int .u64 key,.int .u64 new,.int .i64 cz,.bool force,.int .i64 aat]) (by omega) (aF mS 11 jz A _ _ ha))) rfl ?_;refine X.e (ag call105 (Zj (Ce q) (N0 q) xF ((h.aj (cO pc)).aj (m8 286 293 305 bu pc (ru A (B.take q) (pE N)).1)) (aB.to CD) (by omega))) ?_;rintro _ w ⟨wQ,u2,r2,dv2,hdo,rfl,m7,tP,h⟩;have aA:=tL h.g tP;obtain⟨adr,cdr,Zk⟩:=aA;subst Zk;obtain⟨rst,rkk,Wo,cj,Wp⟩:=r2;simp only at tP h;have hu2:(ru A (B.take (q+1)) (pE N)).1=u2:=by rw[D1 hy,Zl,hdo]
  refine X.e (aZ (zl:=[.int .i64 0,.int .i64 0,.int .i64 0,.slice none 0 0,.int .i64 0]) (out:=[.int .i64 _,.int .i64 _,.int .i64 _,.slice _ _ _,.int .i64 _]) h underlying129 sizeOf38 zeroValue38 (by decide) (by kernel_rfl) rfl rfl (by simp) fz rfl rfl (by simp[maxLen])) ?_;rintro _ w ⟨b53,rfl,h⟩;refine X.e (bU (bytes:=56) h rfl rfl (h.aR) underlying129 rfl rfl rfl rfl rfl (by omega) (by omega) (by simp[Value.oneCell'])) ?_;rintro _ w ⟨a54,Z3,rfl,h⟩;refine qD ?_;have aA:∃rs2:List (Rp×Value),rs2=rs++[(⟨rst,rkk,Wo,cj,Wp⟩,.slice adr cj.length cdr)]:=⟨_,rfl⟩;obtain⟨rs2,EH⟩:=aA;have e2:rs.flatMap Wn++[.int .i64 rst,.int .i64 rkk,.int .i64 Wo,.slice adr cj.length cdr,.int .i64 Wp]=rs2.flatMap Wn:=by rw[EH];simp[Wn,Rp.cells]
  rw[e2] at h;rw[←hu2] at h;exact⟨q+1,⟨_,wQ,rs2,a54,Z3,aD ⟨rfl,rfl,rfl,rfl,rfl,trivial⟩,by omega,by rw[EH,List.length_append,hrl];rfl,(by rw[EH,List.map_append,hrs,D1 hy,Zl,hdo];rfl),(by rw[EH];intro x hx;rcases List.mem_append.1 hx with hx|hx;exact NL m7 eD x hx;rw[List.mem_singleton.1 hx];exact⟨tP,adr,cdr,rfl⟩),h.to⟩,by show B.length - (q+1)<B.length - q;omega⟩
 refine qR ?_;have aA:q=B.length:=by omega
 obtain rfl:=aA;rw[List.take_length] at hrs h;exact⟨rs,al,cl,pc,rfl,hrs,eD,h.to⟩
theorem RN{a1 a2 a3:Option Addr}{c1 c2 c3:Nat}{A:List (Iv×Value)}{B:List Ct}{C:List (Cp×Value)}{N:Nat}(Wd:1≤N)(hN:N≤1024)(o:Lr A B C)(Eg:A.length≤1000)(Aw:B.length≤1000)(hl3:C.length≤1000)(Ce:∀q i,i<8→((ru A (B.take q) (pE N)).1.cA i).dN=[])(N0:∀q,(ru A (B.take q) (pE N)).1.t.hold= -1)(rz:∀x∈A,Fv x.1.c∧x.1.c.data.length≤1000)(CA:∀x∈A,aB L (Bytes x.2 x.1.c.data)∧∃a c,x.2=.slice a x.1.c.data.length c)(hC:∀c∈C,(aB L (Bytes c.2 c.1.r.data)∧∃a e,c.2=.slice a c.1.r.data.length e)∧(ru A B (pE N)).2[(ij (Wm B) c.1.host c.1.id).toNat]? =some c.1.r)(h:On W0 L w)(C1:aB L (Cells 11 (.slice a1 A.length c1) A.length (A.flatMap mS)))(C2:aB L (Cells 3 (.slice a2 B.length c2) B.length (B.flatMap mg)))(C3:aB L (Cells 8 (.slice a3 C.length c3) C.length (C.flatMap kN))):Cs 29 [.int .i64 (N:Int),.slice a1 A.length c1,.slice a2 B.length c2,.slice a3 C.length c3] w fun v w'=>v=.tuple #[.int .i64 0,.int .i64 0]∧On W0 L w':=by
 refine qO ?_;have fH:=aG;have uI:0<A.length→∃b o,a1=some ⟨b,o,none⟩:=fun h0=>(h.aO C1).addr h0;have rN:0<B.length→∃b o,a2=some ⟨b,o,none⟩:=fun h0=>(h.aO C2).addr h0;have hn3:0<C.length→∃b o,a3=some ⟨b,o,none⟩:=fun h0=>(h.aO C3).addr h0;refine qC ?_ (C:=RM o Eg Aw hl3 h C1 C2 C3);rintro _ w ⟨rfl,h⟩;refine qE ?_;refine WL.e (ag call59 (NM Wd hN o Eg Aw Ce N0 rz CA h C1 C2)) ?_;rintro _ w ⟨rs,al,cl,pc,rfl,hrs,eD,h⟩;refine qE ?_;refine W.loop (fun(q:Nat) env w=>∃(j:Env),env=eu j [(2,.slice a2 B.length c2),(3,.slice a3 C.length c3),(12,.slice al B.length cl),(14,.int .i64 (q:Int))]∧q≤C.length∧On W0 (Own 5 (.slice al B.length cl) B.length (rs.flatMap Wn)::cO pc::L) w) (fun q=>C.length - q) (0) ?_ ?_
 · exact⟨_,aD ⟨rfl,rfl,rfl,rfl,trivial⟩,Nat.zero_le _,h⟩
 clear h;rintro q env w ⟨j,rfl,hq,h⟩;refine qI (fun tq=> ?_) (fun tq=> ?_)
 · have aA:∃y,C[q]? =some y:=⟨_,List.getElem?_eq_getElem (show q<C.length by omega)⟩;obtain⟨y,hy⟩:=aA;have aA:=hn3 (by omega);obtain⟨z3,y3,rfl⟩:=aA;have aA:=o.h4 q y hy;obtain⟨k,b,e1,hb,e2,BS⟩:=aA;have Ef:=(List.getElem?_eq_some_iff.1 hb).1;have aA:=hC y (List.mem_of_getElem? hy);obtain⟨⟨CD,yx,yc,Wl⟩,Fx⟩:=aA;rw[e1,Int.toNat_natCast,←hrs,List.getElem?_map] at Fx;have aA:=Option.map_eq_some_iff.1 Fx;obtain⟨⟨rr,rv⟩,hr,he⟩:=aA;simp only at he;subst he;have aA:=eD _ (List.mem_of_getElem? hr);obtain⟨hir,rx,rc,hrv⟩:=aA;simp only at hir hrv;subst hrv;obtain⟨⟨y1,y2,⟨y3,y4,y5,y6,y7⟩,y8⟩,yv⟩:=y;simp only at Wl CD hir hr e1;subst Wl;have aA:∃zl yl,al=some ⟨zl,yl,none⟩:=(h.aR (v:=.slice al B.length cl)).addr (by omega);obtain⟨zl,yl,rfl⟩:=aA;refine qT fun w h=> ?_;refine WT.p 2 rfl (fun w'=>(bP underlying86 sizeOf127 rfl rfl (by omega) (by omega))) ?_;refine qU ?_;refine WT.gF 4 rfl (by kernel_rfl) isAgg38 sizeOf38 rfl rfl (qF (pre:=[.int .i64 y1,.int .u64 (y2:Int)]) (vs:=[.int .i64 y3,.int .i64 y4,.int .i64 y5,.slice yx y6.length yc,.int .i64 y7]) (post:=[.int .i64 y8]) ((h.aO C3).elem (i:=q) (vs:=[.int .i64 y1,.int .u64 (y2:Int),.int .i64 y3,.int .i64 y4,.int .i64 y5,.slice yx y6.length yc,.int .i64 y7,.int .i64 y8]) (by omega) (aF kN 8 eP C _ _ hy))) rfl rfl ?_;refine qU ?_;refine WT.p 9 rfl (fun w'=>(bP underlying86 sizeOf127 rfl rfl (by omega) (by omega))) ?_;refine qU ?_;refine WT.l 11 rfl isAgg3 rfl ((h.aO C3).elem (i:=q) (vs:=[.int .i64 y1,.int .u64 (y2:Int),.int .i64 y3,.int .i64 y4,.int .i64 y5,.slice yx y6.length yc,.int .i64 y7,.int .i64 y8]) (by omega) (aF kN 8 eP C _ _ hy) 0 _ rfl) ?_;refine qU ?_;refine WT.p 14 rfl (fun w'=>(bP underlying86 sizeOf127 rfl rfl (by omega) (by omega))) ?_;refine qU ?_;refine WT.l 16 rfl isAgg30 rfl ((h.aO C3).elem (i:=q) (vs:=[.int .i64 y1,.int .u64 (y2:Int),.int .i64 y3,.int .i64 y4,.int .i64 y5,.slice yx y6.length yc,.int .i64 y7,.int .i64 y8]) (by omega) (aF kN 8 eP C _ _ hy) 1 _ rfl) ?_;refine WT.e 17 [false,false,true] rfl (ag call61 (J7 h (aB.to C2))) ?_;rintro v w ⟨hv,h⟩;have hv:=hv.trans (congrArg (Value.int .i64) e1);subst hv;refine⟨⟨(qF (pre:=[.int .i64 y1,.int .u64 (y2:Int)]) ((h.aO C3).elem (by omega) (aF kN 8 eP C _ _ hy))),trivial⟩, ?_⟩;refine WT.p 18 rfl (fun w'=>(bP underlying129 sizeOf38 rfl rfl (by omega) (by omega))) ?_;refine WT.gF 19 rfl (by kernel_rfl) isAgg38 sizeOf38 rfl rfl ((h.aR (v:=.slice (some ⟨zl,yl,none⟩) B.length cl)).elem (i:=k) (vs:=[.int .i64 y3,.int .i64 y4,.int .i64 y5,.slice rx y6.length rc,.int .i64 y7]) (by omega) (aF Wn 5 Vl rs _ _ hr)) rfl rfl ?_;refine WT.e 20 [false,false] rfl (ag call60 (Nb h (aB.to CD) (aB.to (aB.wI (L:=[]) hir)))) ?_;rintro v62 w ⟨hv,h⟩;rw[decide_eq_true rfl] at hv;subst hv;refine⟨trivial, ?_⟩;refine qU ?_;refine qD ?_;exact⟨q+1,⟨_,aD ⟨rfl,rfl,rfl,rfl,trivial⟩,by omega,h⟩,by show C.length - (q+1)<C.length - q;omega⟩
 refine qR ?_;exact⟨rfl,h.to⟩
end Go.Proofs.YtcplmndikhjehaaGreat
namespace Go.Proofs.YtcplmndikhjehaaGreat
open Go.Proofs.Tryz
open Go Go.Sl Go.Sl.eM Go.Sl.gW Go.Sl.kM Go.Sl.pe Go.Sl.pM Go.Sl.mG Go.Sl.pO Go.Sl.rH Go.Sl.pN Go.Sl.gU Go.Sl.l9
open Go.Sl.oB (wr)
open Go.Sl.dA (fu fu.eN fu.mono)
set_option maxHeartbeats 0
set_option maxRecDepth 8000
variable{i:Nat}
variable{W0 w:World}{L F:List aC}
def Zm(a:List Iv):List (Int×Nat):=a.map fun x=>(x.host,x.id)
def nmP(a:List Cp):List (Int×Nat):=a.map fun x=>(x.host,x.id)
def Vm(a:List Iv)(b:Ct):Cm:=match a[(ij (Zm a) b.1 b.2.1).toNat]? with|some x=>x.c|none=>⟨0,0,0,[],0,0,0,false⟩
def Zn(a:List Iv)(B:List Ct)(u:Un):Un×List Rp:=B.foldl (fun s b=>((A6 s.1 b.1 (Vm a b)).1,s.2++[(A6 s.1 b.1 (Vm a b)).2])) (u,[])
def Zo(c:Cm):Bool:=decide (c.data.length≤1000)&&(decide (c.kind=2)||decide (c.kind=3)||decide (c.kind=6))
def ivB(a:List Iv)(i:Nat)(x:Iv):Bool:=decide (ij (Zm a) x.host x.id=i)&&Zo x.c
def ctB(a:List Iv)(b:List Ct)(i:Nat)(y:Ct):Bool:=(match ij (Zm a) y.1 y.2.1 with| .ofNat k=>(match a[k]? with|some x=>decide (ij (Wm b) y.1 y.2.1=i)&&decide (x.at_≤y.2.2)|none=>false)|_=>false)&&(match b[i+1]? with|some z=>decide (y.2.2≤z.2.2)|none=>true)
def cpB(b:List Ct)(c:List Cp)(l:List Rp)(i:Nat)(y:Cp):Bool:=(match ij (Wm b) y.host y.id with| .ofNat k=>(match b[k]? with|some x=>decide (ij (nmP c) y.host y.id=i)&&decide (x.2.2≤y.at_)&&decide (l[k]? =some y.r)|none=>false)|_=>false)&&decide (y.r.data.length≤100000)
def eachB{α:Type}(f:Nat→α→Bool):Nat→List α→Bool
 |_,[]=>true
 |i,x::l=>f i x&&eachB f (i+1) l
theorem mN{α:Type}{f:Nat→α→Bool}:∀{l:List α} {i j:Nat} {x:α},eachB f i l=true→l[j]? =some x→f (i+j) x=true
 | y::l,i,0,x,h,hx=>by
   obtain rfl:y=x:=by simpa using hx
   unfold eachB at h;exact(Bool.and_eq_true _ _▸h).1
 | y::l,i,j+1,x,h,hx=>by
   unfold eachB at h;have:=mN (Bool.and_eq_true _ _▸h).2 (show l[j]? =some x by simpa using hx);rw[show i+(j+1)=i+1+j by omega];exact this
def Zp(x:KV):Option Rw:=match x with|(k,.agg a,b)=>(match a.toList with|[.int .i64 h,.int .u64 (.ofNat id),.int .i64 t]=>some (k,(h,id,t),b)|_=>none)|_=>none
theorem Vn{x:KV}{r:Rw}(h:Zp x=some r):x=oU r:=by
 unfold Zp at h;split at h
 · rename_i k a b
   split at h
   · rename_i hh id t e
     rw[←Option.some.inj h];have e2:a=#[.int .i64 hh,.int .u64 (.ofNat id),.int .i64 t]:=Array.ext' e;rw[e2];rfl
   cases h
 cases h
def yU:List KV→Option (List Rw)
 |[]=>some []
 |x::l=>match Zp x,yU l with|some r,some m=>some (r::m)|_,_=>none
theorem wR:∀{l:List KV} {m:List Rw},yU l=some m→l=m.map oU
 |[],m,h=>by rw[←Option.some.inj h];rfl
 | x::l,m,h=>by
   unfold yU at h;split at h
   · rename_i r m2 e1 e2
     rw[←Option.some.inj h,Vn e1,wR e2];rfl
   cases h
def upB:List Int→Bool
 |a::b::l=>decide (a<b)&&upB (b::l)
 |_=>true
theorem Fw{l:List Int}(hl:l.length≤2)(h:upB l=true):l.Pairwise (· < ·):=by
 match l,hl,h with
 |[],_,_=>exact List.Pairwise.nil
 |[a],_,_=>exact List.pairwise_singleton _ _
 |[a,b],_,h=>simpa [upB] using h
 |a::b::c::l,hl,_=>exact absurd hl (by simp)
def Wq(x:Cl)(N:Nat)(rows:List Rw):Bool:=decide (rows.length≤2)&&upB (rows.map (·.1))&&decide (x.inv.length≤1000)&&decide (x.out.length≤1000)&&eachB (ivB x.inv) 0 x.inv&&eachB (ctB x.inv (rows.map (·.2.1))) 0 (rows.map (·.2.1))&&eachB (cpB (rows.map (·.2.1)) x.out (Zn x.inv (rows.map (·.2.1)) (pE N)).2) 0 x.out
def RO(x:Cl)(N:Nat):Bool:=match yU x.row.1 with|some rows=>Wq x N rows|none=>false
theorem Vo{c:Cm}(h:Zo c=true):Fv c∧c.data.length≤1000:=by
 unfold Zo at h;simp only[Bool.and_eq_true,Bool.or_eq_true,decide_eq_true_eq] at h;exact⟨h.2.elim (fun h=>h.elim .inl fun h=> .inr (.inl h)) fun h=> .inr (.inr h),h.1⟩
theorem Kb{A:List (Iv×Value)}:nmI A=Zm (A.map (·.1)):=by unfold nmI Zm;rw[List.map_map];rfl
theorem Zq{A:List (Cp×Value)}:nmO A=nmP (A.map (·.1)):=by unfold nmO nmP;rw[List.map_map];rfl
theorem Vp{A:List (Iv×Value)}{b:Ct}:vc A b=Vm (A.map (·.1)) b:=by
 unfold vc Vm;rw[Kb,List.getElem?_map];cases A[(ij (Zm (A.map (·.1))) b.1 b.2.1).toNat]? <;>rfl
theorem Vq{A:List (Iv×Value)}{B:List Ct}{u:Un}:ru A B u=Zn (A.map (·.1)) B u:=by
 unfold ru Zn
 congr 1
 funext s b
 rw[Vp]
theorem RP{a:List Iv}{b:List Ct}{y:Ct}(h:ctB a b i y=true):(∃(k:Nat) (x:Iv),ij (Zm a) y.1 y.2.1=k∧a[k]? =some x∧ij (Wm b) y.1 y.2.1=i∧x.at_≤y.2.2)∧∀z,b[i+1]? =some z→y.2.2≤z.2.2:=by
 unfold ctB at h;rw[Bool.and_eq_true] at h;obtain⟨h1,h2⟩:=h;refine⟨?_,fun z hz=> ?_⟩
 · split at h1
   · rename_i k e1
     split at h1
     · rename_i x e2
       simp only[Bool.and_eq_true,decide_eq_true_eq] at h1;exact⟨k,x,e1,e2,h1.1,h1.2⟩
     cases h1
   cases h1
 rw[hz] at h2;exact of_decide_eq_true h2
theorem Kc{b:List Ct}{c:List Cp}{l:List Rp}{y:Cp}(h:cpB b c l i y=true):(∃(k:Nat) (x:Ct),ij (Wm b) y.host y.id=k∧b[k]? =some x∧ij (nmP c) y.host y.id=i∧x.2.2≤y.at_∧l[k]? =some y.r)∧y.r.data.length≤100000:=by
 unfold cpB at h;rw[Bool.and_eq_true] at h;obtain⟨h1,h2⟩:=h;refine⟨?_,of_decide_eq_true h2⟩;split at h1
 · rename_i k e1
   split at h1
   · rename_i x e2
     simp only[Bool.and_eq_true,decide_eq_true_eq] at h1;exact⟨k,x,e1,e2,h1.1.1,h1.1.2,h1.2⟩
   cases h1
 cases h1
theorem get_map{α:Type}{A:List (α×Value)}{x:α×Value}(h:A[i]? =some x):(A.map (·.1))[i]? =some x.1:=by rw[List.getElem?_map,h];rfl
theorem Vr{α:Type}{A:List (α×Value)}{x:α}(h:(A.map (·.1))[i]? =some x):∃y,A[i]? =some y∧y.1=x:=by
 rw[List.getElem?_map] at h;exact Option.map_eq_some_iff.1 h
theorem Zr{A:List (Iv×Value)}{B:List Ct}{C:List (Cp×Value)}{l:List Rp}(h1:eachB (ivB (A.map (·.1))) 0 (A.map (·.1))=true)(h2:eachB (ctB (A.map (·.1)) B) 0 B=true)(h3:eachB (cpB B (C.map (·.1)) l) 0 (C.map (·.1))=true):Lr A B C where
 h1:=fun i x hx=>by
   have:=mN h1 (get_map hx);unfold ivB at this;rw[Bool.and_eq_true,Nat.zero_add] at this;rw[Kb];exact of_decide_eq_true this.1
 h2:=fun i b hb=>by
   obtain⟨⟨k,x,e1,e2,e3,e4⟩,_⟩:=RP (mN h2 hb);obtain⟨y,hy,rfl⟩:=Vr e2;rw[Nat.zero_add] at e3;exact⟨k,y,by rw[Kb];exact e1,hy,e3,e4⟩
 h3:=fun i b b' hb hb'=>(RP (mN h2 hb)).2 b' (by rw[Nat.zero_add];exact hb')
 h4:=fun i c hc=>by
   obtain⟨⟨k,x,e1,e2,e3,e4,_⟩,_⟩:=Kc (mN h3 (get_map hc));rw[Nat.zero_add] at e3;exact⟨k,x,e1,e2,by rw[Zq];exact e3,e4⟩
def sZ(u:Un):Prop:=(∀i,i<8→(u.cA i).dN=[])∧u.t.hold= -1
theorem RQ{u v:Un}(h:sZ u)(e:v.g=u.g∧v.t=u.t):sZ v:=⟨fun i hi=>by have:=h.1 i hi;unfold Un.cA at this⊢;rw[e.1];exact this,by rw[e.2];exact h.2⟩
theorem RR{u:Un}{hh:Int}{c:Cm}(hk:Fv c∨c.kind=0)(h:sZ u):sZ (A6 u hh c).1:=by
 rcases hk with hk|hk
 · unfold Fv at hk
   cases hb:uf.rF hh with
   |false=>rw[vW (.inl hb)];exact h
   | true=>
     have Ga:=uf.nJ.1 hb;obtain⟨i,rfl⟩:=Int.eq_ofNat_of_zero_le Ga.1;have hi:i<8:=by omega
     have e:=xA (c:=c) hi (by omega) (by omega) (by omega) (.inr (h.1 i hi)) (lT.1 (DZ h.2));rw[e,mK (by omega) (by omega)];exact RQ h ⟨rfl,rfl⟩
 rw[vW (.inr (.inl (by omega)))];exact h
theorem D2{A:List (Iv×Value)}(hc:∀x∈A,Fv x.1.c):∀(B:List Ct) (u:Un) (l:List Rp),sZ u→sZ (B.foldl (fun s b=>((A6 s.1 b.1 (vc A b)).1,s.2++[(A6 s.1 b.1 (vc A b)).2])) (u,l)).1
 |[],u,l,h=>h
 | b::B,u,l,h=>by
   have hk:Fv (vc A b)∨(vc A b).kind=0:=by
     unfold vc;split
     · rename_i a e;exact .inl (hc a (List.mem_of_getElem? e))
     exact .inr rfl
   exact D2 hc B (A6 u b.1 (vc A b)).1 (l++[(A6 u b.1 (vc A b)).2]) (RR hk h)
theorem NN(N:Nat):sZ (pE N):=⟨fun i _=>by unfold pE Un.cA;simp only[List.getD_eq_getElem?_getD,List.getElem?_replicate];split<;>rfl,rfl⟩
theorem adR{bx N:Nat}{aa:aE}{x:Cl}(Wd:1≤N)(hN:N≤1024)(hf:RO x N=true)(h:On W0 (eF bx aa x::aY aa::L) w):Cs 10 [bx,.int .i64 (N:Int)] w fun v w'=>v=.bool true∧∃aN,cI aa aN∧On W0 (eF bx aN x::aY aN::L) w':=by
 refine qO ?_;have fH:=aG;unfold RO at hf
 have aA:∃rows,yU x.row.1=some rows:=by
   cases e:yU x.row.1 with
   |none=>rw[e] at hf;cases hf
   |some r=>exact⟨r,rfl⟩
 obtain⟨rows,Ws⟩:=aA;rw[Ws] at hf;have hr:=wR Ws;unfold Wq at hf;simp only[Bool.and_eq_true,decide_eq_true_eq] at hf;obtain⟨⟨⟨⟨⟨⟨hn,Sw⟩,hil⟩,r7⟩,hB1⟩,hB2⟩,hB3⟩:=hf;have hpw:=Fw (by rw[List.length_map];exact hn) Sw
 have hiv:∀c∈x.inv,Fv c.c∧c.c.data.length≤1000:=fun c hc=>by
   have aA:=List.getElem?_of_mem hc;obtain⟨i,hi⟩:=aA;have:=mN hB1 hi;unfold ivB at this;rw[Bool.and_eq_true] at this;exact Vo this.2
 have hcp:∀c∈x.out,c.r.data.length≤100000:=fun c hc=>by
   have aA:=List.getElem?_of_mem hc;obtain⟨i,hi⟩:=aA;exact(Kc (mN hB3 hi)).2
 have aA:∃B,B=rows.map (·.2.1):=⟨_,rfl⟩;obtain⟨B,hB⟩:=aA;rw[←hB] at hB2 hB3;have Tz:rows.length=B.length:=by rw[hB,List.length_map]
 refine qC ?_ (C:=RD hil (fun c hc=>by have:=(hiv c hc).2;omega) h);rintro v12 w ⟨A,sA,ig,hv,hA,hpA,Nn,h⟩;have hAl:x.inv.length=A.length:=by rw[←hA,List.length_map]
 rw[hAl] at hv h;subst hv;refine qC ?_ (C:=BL hr hn hpw (h.aj (eF bx ig x)));rintro v14 w ⟨ab,hv,h⟩;have e9:(rows.flatMap fun r=>mg r.2.1)=B.flatMap mg:=by rw[hB,List.flatMap_map]
 rw[e9,Tz] at h;rw[Tz] at hv;subst hv;refine qC ?_ (C:=J6 r7 hcp ((h.aj (aY ig)).aj (eF bx ig x)));rintro v16 w ⟨C,KI,cg,hv,hC,hpC,m7,h⟩;have hCl:x.out.length=C.length:=by rw[←hC,List.length_map]
 have Zs:=hpA.mono m7.h;rw[hCl] at hv h;subst hv;refine qC ?_ (C:=adL (xi:=A) (u7:=B) (xo:=C) (a1:=sA) (a2:=ab) (a3:=KI) (c1:=A.length) (c2:=B.length) (c3:=C.length) (fun y hy=>(Zs.at hy).2) (fun y hy=>(hpC.at hy).2) (by omega) (by omega) (by omega) h (aB.to (show aB [Own 11 (.slice sA A.length A.length) A.length (A.flatMap mS)] (Cells 11 (.slice sA A.length A.length) A.length (A.flatMap mS)) from aB.cF (v:=.slice sA A.length A.length))) (aB.to (show aB [Own 3 (.slice ab B.length B.length) B.length (B.flatMap mg)] (Cells 3 (.slice ab B.length B.length) B.length (B.flatMap mg)) from aB.cF (v:=.slice ab B.length B.length))) (aB.to (show aB [Own 8 (.slice KI C.length C.length) C.length (C.flatMap kN)] (Cells 8 (.slice KI C.length C.length) C.length (C.flatMap kN)) from aB.cF (v:=.slice KI C.length C.length))));rintro _ w ⟨b1,d1,b2,d2,b3,d3,rfl,h⟩;have hmA:∀y∈A,y.1∈x.inv:=fun y hy=>by rw[←hA];exact List.mem_map_of_mem hy
 have hg:∀q,sZ (ru A (B.take q) (pE N)).1:=fun q=>D2 (fun y hy=>(hiv y.1 (hmA y hy)).1) _ _ _ (NN N);have aih:∀y∈A,Fv y.1.c∧y.1.c.data.length≤1000:=fun y hy=>hiv y.1 (hmA y hy);rw[←hA] at hB1 hB2;rw[←hC] at hB3;rw[←hA,←Vq] at hB3;have ho:=Zr hB1 hB2 hB3
 have hCC:∀c∈C,(ru A B (pE N)).2[(ij (Wm B) c.1.host c.1.id).toNat]? =some c.1.r:=fun y hy=>by
   have aA:=List.getElem?_of_mem hy;obtain⟨i,hi⟩:=aA;have aA:=Kc (mN hB3 (get_map hi));obtain⟨⟨k,z,e1,e2,e3,e4,e5⟩,_⟩:=aA;rw[e1];exact e5
 have hLA:A.length≤1000:=by omega
 have hLB:B.length≤1000:=by omega
 have hLC:C.length≤1000:=by omega
 refine qC ?_ (C:=RN (A:=A) (B:=B) (C:=C) Wd hN ho hLA hLB hLC (fun q=>(hg q).1) (fun q=>(hg q).2) aih (fun y hy=>⟨aB.to (fu.eN (L:=[]) (Zs y hy).1),(Zs y hy).2⟩) (fun y hy=>⟨⟨aB.to (fu.eN (L:=[]) (hpC y hy).1),(hpC y hy).2⟩,hCC y hy⟩) h (aB.to (show aB [Own 11 (.slice b1 A.length d1) A.length (A.flatMap mS)] (Cells 11 (.slice b1 A.length d1) A.length (A.flatMap mS)) from aB.cF (v:=.slice b1 A.length d1))) (aB.to (show aB [Own 3 (.slice b2 B.length d2) B.length (B.flatMap mg)] (Cells 3 (.slice b2 B.length d2) B.length (B.flatMap mg)) from aB.cF (v:=.slice b2 B.length d2))) (aB.to (show aB [Own 8 (.slice b3 C.length d3) C.length (C.flatMap kN)] (Cells 8 (.slice b3 C.length d3) C.length (C.flatMap kN)) from aB.cF (v:=.slice b3 C.length d3))));rintro _ w ⟨rfl,h⟩;refine qE ?_;refine qR ?_;exact⟨rfl,cg,Nn.trans m7,h.to⟩
end Go.Proofs.YtcplmndikhjehaaGreat
namespace Go.Sl.l9
open Go Go.Sl Go.Sl.eM Go.Sl.gW Go.Sl.kM Go.Sl.pM Go.Sl.mG Go.Sl.pO Go.Sl.rH Go.Sl.pN Go.Sl.oB
section
variable{β:Type}
def fN(n:Nat)(k:Nat→β):β:=Nat.rec (k 0) (fun m _=>k (Nat.succ m)) n
def fI(i:Int)(k:Int→β):β:=match i with| .ofNat n=>fN n fun n=>k (.ofNat n)| .negSucc n=>fN n fun n=>k (.negSucc n)
def fB(b:Bool)(k:Bool→β):β:=match b with|true=>k true|false=>k false
def fT{α:Type}(l:List α)(k:List α→β):β:=match l with|[]=>k []|a::t=>k (a::t)
def fO{α:Type}(f:α→(α→β)→β)(o:Option α)(k:Option α→β):β:=match o with|none=>k none|some a=>f a fun a=>k (some a)
def fS(s:kJ)(k:kJ→β):β:=match s with|⟨⟨a,b,c,d,e,f,g⟩,tn,es,cn⟩=>fN a fun a=>fN b fun b=>fN c fun c=>fN d fun d=>fN e fun e=>fN f fun f=>fN g fun g=>fN tn fun tn=>fN cn fun cn=>fT es fun es=>k ⟨⟨a,b,c,d,e,f,g⟩,tn,es,cn⟩
def fR3(r:Ci)(k:Ci→β):β:=match r with|⟨a,b,c⟩=>fN a fun a=>fN b fun b=>fN c fun c=>k ⟨a,b,c⟩
def Zt(r:rQ)(k:rQ→β):β:=match r with|⟨a,b,c,d⟩=>fN a fun a=>fN b fun b=>fB c fun c=>fN d fun d=>k ⟨a,b,c,d⟩
def fU(u:Un)(k:Un→β):β:=match u with|⟨a,b,c⟩=>k ⟨a,b,c⟩
def fMp{α:Type}(m:List α×Nat)(k:List α×Nat→β):β:=match m with|(a,b)=>fT a fun a=>fN b fun b=>k (a,b)
def fNd(n:Nd)(k:Nd→β):β:=match n with
 | ⟨self,blocks,bQ,s,now,out,bD,unit,aW,iB,known,asked,heard,aH,count,run,both,want,seen,wait,log,cZ,dO,dV,kept⟩=>
   fN self fun self=>fN blocks fun blocks=>fN bQ fun bQ=>fS s fun s=>fI now fun now=>fT out fun out=>fT bD fun bD=>fU unit fun unit=>fN aW fun aW=>fR3 iB fun iB=>fB known fun known=>fMp asked fun asked=>fI heard fun heard=>fB aH fun aH=>fN count fun count=>fO Zt run fun run=>fB both fun both=>fO fR3 want fun want=>fI seen fun seen=>fO fMp wait fun wait=>fO fMp log fun log=>fN cZ fun cZ=>fN dO fun dO=>fN dV fun dV=>fI kept fun kept=>
   k ⟨self,blocks,bQ,s,now,out,bD,unit,aW,iB,known,asked,heard,aH,count,run,both,want,seen,wait,log,cZ,dO,dV,kept⟩
def fMc(m:Mc)(k:Mc→β):β:=match m with| .down s=>fS s fun s=>k (.down s)| .up n=>fNd n fun n=>k (.up n)
def fAl(a:Al)(k:Al→β):β:=match a with|(x,y)=>fI x fun x=>fI y fun y=>k (x,y)
def fL{α:Type}(f:α→(α→β)→β):List α→(List α→β)→β
 |[],k=>k []
 |a::l,k=>f a fun a=>fL f l fun l=>k (a::l)
def fP(p:gQ)(k:gQ→β):β:=match p with
 |⟨host,node,next,l,out,done,⟨h,now⟩⟩=>fI host fun host=>fI node fun node=>fN next fun next=>fT l fun l=>fT out fun out=>fT done fun done=>fL fAl h fun h=>fI now fun now=>k ⟨host,node,next,l,out,done,⟨h,now⟩⟩
def fJ(j:Jd)(k:Jd→β):β:=match j with|⟨r,tn,out,cn⟩=>fR3 r fun r=>fN tn fun tn=>fT out fun out=>fN cn fun cn=>k ⟨r,tn,out,cn⟩
def fCl(x:Cl)(k:Cl→β):β:=match x with
 | ⟨aK,blocks,paths,n0,n1,jd,lY,jG,now,bQ,inv,row,out⟩=>
   fN aK fun aK=>fN blocks fun blocks=>fL fP paths fun paths=>fMc n0 fun n0=>fMc n1 fun n1=>fJ jd fun jd=>fT lY fun lY=>fN jG fun jG=>fI now fun now=>fN bQ fun bQ=>fT inv fun inv=>fMp row fun row=>fT out fun out=>
   k ⟨aK,blocks,paths,n0,n1,jd,lY,jG,now,bQ,inv,row,out⟩
theorem wS(n:Nat)(k:Nat→β):fN n k=k n:=by cases n<;>rfl
theorem Ls(n:Int)(k:Int→β):fI n k=k n:=by cases n<;>(unfold fI;exact wS _ _)
theorem Wu(b:Bool)(k:Bool→β):fB b k=k b:=by cases b<;>rfl
theorem D3{α:Type}(l:List α)(k:List α→β):fT l k=k l:=by cases l<;>rfl
theorem RT{α:Type}{f:α→(α→β)→β}(hf:∀a k,f a k=k a)(o:Option α)(k:Option α→β):fO f o k=k o:=by cases o;rfl;exact hf _ _
theorem RU{α:Type}{f:α→(α→β)→β}(hf:∀a k,f a k=k a):∀(l:List α) (k:List α→β),fL f l k=k l
 |[],k=>rfl
 |a::l,k=>by rw[fL,hf,RU hf l]
theorem Wv(s:kJ)(k:kJ→β):fS s k=k s:=by unfold fS;simp only[wS,D3]
theorem Ke(s:Ci)(k:Ci→β):fR3 s k=k s:=by unfold fR3;simp only[wS]
theorem Vs(s:rQ)(k:rQ→β):Zt s k=k s:=by unfold Zt;simp only[wS,Wu]
theorem adT(s:Un)(k:Un→β):fU s k=k s:=rfl
theorem Kf{α:Type}(s:List α×Nat)(k:List α×Nat→β):fMp s k=k s:=by unfold fMp;simp only[wS,D3]
theorem Zu(n:Nd)(k:Nd→β):fNd n k=k n:=by unfold fNd;simp only[wS,Ls,Wu,D3,Wv,Ke,adT,Kf,RT Vs,RT Ke,RT Kf]
theorem Zv(m:Mc)(k:Mc→β):fMc m k=k m:=by cases m<;>simp only[fMc,Wv,Zu]
theorem Zw(a:Al)(k:Al→β):fAl a k=k a:=by unfold fAl;simp only[Ls]
theorem adU(p:gQ)(k:gQ→β):fP p k=k p:=by unfold fP;simp only[wS,Ls,D3,RU Zw]
theorem adV(p:Jd)(k:Jd→β):fJ p k=k p:=by unfold fJ;simp only[wS,Ke,D3]
theorem Zx(x:Cl)(k:Cl→β):fCl x k=k x:=by unfold fCl;simp only[wS,Ls,D3,RU adU,Zv,adV,Kf]
end
def yV:Nat→Cl→Option Cl
 |0,x=>some x
 |f+1,x=>fCl x fun x=>(round x).bind fun x=>yV f x
theorem HW:∀(f:Nat) (x:Cl),yV f x=ie f x
 |0,x=>rfl
 |f+1,x=>by rw[yV,ie,Zx];congr 1;funext y;exact HW f y
end Go.Sl.l9
namespace Go.Proofs.YtcplmndikhjehaaGreat
open Go.Proofs.Tryz
open Go Go.Sl Go.Sl.eM Go.Sl.gW Go.Sl.kM Go.Sl.pe Go.Sl.pM Go.Sl.mG Go.Sl.pO Go.Sl.rH Go.Sl.pN Go.Sl.gU Go.Sl.l9
open Go.Sl.oB (wr)
open Go.Sl.dA (fu fu.eN fu.mono)
set_option maxHeartbeats 0
set_option maxRecDepth 8000
variable{W0 w:World}{L F:List aC}
def ve(g:Nat→Cl→Option Cl)(k:Nat)(x:Cl):Option Cl:=(l9.step x fun x=>(g k x).map fun x=>(x,0)).map (·.1)
def Ww(g:Nat→Cl→Option Cl)(k:Nat)(x:Cl):Option Cl:=(Fj x).bind (ve g k)
def Lt(x:Cl)(h:Int)(id:Nat):Option (Nat×Cp):=match x.out.findIdx? (fun d=>decide (d.host=h)&&decide (d.id=id)) with
 |some i=>(x.out[i]?).map fun c=>(i,c)
 |none=>none
def BM(x:Cl):Bool:=decide (x.out.length≤1000)&&x.out.all fun c=>decide (c.r.data.length≤100000)
def Kg(x:Cl):Bool:=decide (x.inv.length≤1000)&&x.inv.all fun c=>decide (c.c.data.length≤100000)
def ail:Cm:=⟨3,0,1,List.replicate 8 0,0,0,0,false⟩
def aim:Cm:=⟨6,0,1,List.replicate 8 0++[99,104,97,110,103,101,100,33],0,0,0,false⟩
def ain:Cm:=⟨2,0,1,[],0,0,0,false⟩
structure KnS where
 x:Cl
 r:Int
 p:gQ
 y:Cl
 q:gQ
 rows:List Rw
def xU(g:Nat→Cl→Option Cl):Option KnS:=(Nv 1 4).bind fun x=>(l9.step x fun x=>lu x 0 ail).bind fun r=>(r.1.paths[0]?).bind fun p=>(ve g 400 r.1).bind fun y=>(y.paths[0]?).bind fun q=>(yU y.row.1).map fun rows=>⟨r.1,r.2,p,y,q,rows⟩
def BN(s:KnS):Bool:=decide (s.r=0)&&decide (s.p.l.length=1)&&decide (s.q.l.length=0)&&decide (s.y.out.length=1)&&decide (s.rows.length=1)&&decide (s.y.inv.length=1)&&decide (s.y.now=2)&&decide (s.y.aK=1)&&BM s.y&&Kg s.y
def Wx:Nat→Nat→Cl→Option Cl
 |0,_,x=>some x
 |f+1,N,x=>(l9.step x fun x=>dy x N).bind fun r=>(l9.step r.1 fun x=>dy x 0).bind fun r=>Wx f N r.1
def Kh(g:Nat→Cl→Option Cl):Option Cl:=(Nv 2 4).bind fun x=>(ve g 60 x).bind fun x=>(l9.step x fun x=>lu x 0 aim).map (·.1)
structure OnS where
 cp:Nat×Cp
 cq:Nat×Cp
 y:Cl
 rows:List Rw
def Cz(g:Nat→Cl→Option Cl)(cY:Nat)(x:Cl):Option OnS:=(l9.step x fun x=>xP x (cY % 2)).bind fun r=>(if cY / 2 % 2=1 then ve g 50 r.1 else some r.1).bind fun x=>(Ww g 400 x).bind fun x=>(Lt x 0 1).bind fun cp=>if BM x=true then(l9.step x fun x=>lu x 1 ain).bind fun r=>(ve g 400 r.1).bind fun y=>(Lt y 1 1).bind fun cq=>(yU y.row.1).map fun rows=>⟨cp,cq,y,rows⟩ else none
def Hq(s:OnS):Bool:=decide (s.cp.2.r.st=0)&&decide (s.cq.2.r.data=[99,104,97,110,103,101,100,33])&&decide (s.rows.length=2)&&upB (s.rows.map (·.1))&&BM s.y&&RO s.y 4
theorem xV{x:Cl}(h:BM x=true):x.out.length≤1000∧∀c∈x.out,c.r.data.length≤100000:=by
 unfold BM at h;simp only[Bool.and_eq_true,decide_eq_true_eq,List.all_eq_true] at h;exact h
theorem NO{x:Cl}(h:Kg x=true):x.inv.length≤1000∧∀c∈x.inv,c.c.data.length≤100000:=by
 unfold Kg at h;simp only[Bool.and_eq_true,decide_eq_true_eq,List.all_eq_true] at h;exact h
theorem HX{x:Cl}{h:Int}{id i:Nat}{c:Cp}(e:Lt x h id=some (i,c)):x.out[i]? =some c∧(c.host=h∧c.id=id)∧∀(k:Nat) (d:Cp),k<i→x.out[k]? =some d→¬(d.host=h∧d.id=id):=by
 unfold Lt at e;split at e
 · rename_i j hj
   obtain⟨c2,hc,he⟩:=q7 e;obtain⟨rfl,rfl⟩:=Prod.mk.inj he;obtain⟨h1,h2,h3⟩:=List.findIdx?_eq_some_iff_getElem.1 hj;have e2:x.out[j]=c2:=(List.getElem?_eq_some_iff.1 hc).2;rw[e2] at h2;refine⟨hc,by simpa using h2,fun k d hk hd=> ?_⟩;have:=h3 k hk;rw[(List.getElem?_eq_some_iff.1 hd).2] at this;simpa using this
 cases e
theorem tM{x y:Cl}{k:Nat}(h:ve ie k x=some y):l9.step x (fun x=>(ie k x).map fun x=>(x,0))=some (y,0):=by
 unfold ve at h;obtain⟨⟨z,r⟩,hs,rfl⟩:=q7 h;obtain⟨_,z3,hf,_⟩:=oV hs;obtain⟨z4,_,he⟩:=q7 hf;have e:r=0:=(Prod.mk.inj he).2.symm;rw[hs,e]
theorem RV{x y:Cl}{k:Nat}(h:Ww ie k x=some y):zP x k=some y:=h
theorem Vt(h:On W0 L w):Cs 5 [.int .i64 0,.int .i64 4] w fun v w'=>v=.tuple #[.pointer none,.int .i64 1]∧On W0 L w':=by
 refine qO ?_;refine qE ?_;refine qR ?_;exact⟨rfl,h⟩
theorem Zy{s:KnS}(hk:xU ie=some s)(hb:BN s=true)(h:On W0 L w):Cs 4 [] w fun v w'=>v=.bool true∧On W0 L w':=by
 refine qO ?_;have fH:=aG;unfold xU at hk;have aA:=cG hk;obtain⟨x0,vu,hk⟩:=aA;have aA:=cG hk;obtain⟨⟨x1,r1⟩,KT,hk⟩:=aA;have aA:=cG hk;obtain⟨p,hp,hk⟩:=aA;have aA:=cG hk;obtain⟨y,hy,hk⟩:=aA;have aA:=cG hk;obtain⟨q,hq,hk⟩:=aA;have aA:=q7 hk;obtain⟨rows,hr,hk⟩:=aA;subst hk;unfold BN at hb;simp only[Bool.and_eq_true,decide_eq_true_eq] at hb hp hy;obtain⟨⟨⟨⟨⟨⟨⟨⟨⟨b1,b2⟩,b3⟩,b4⟩,b5⟩,b6⟩,b7⟩,b8⟩,b9⟩,Ib⟩:=hb;have b9:=xV b9;have Ib:=NO Ib;subst b1;have hy:=tM hy;refine qC ?_ (C:=adu (aK:=1) (blocks:=4) vu (by decide) (by decide) (by decide) (by decide) h);rintro _ w ⟨bx,rfl,aa,h⟩;refine qE ?_;refine WL.e (kR (n:=8) (bytes:=1) h rfl rfl underlying28 rfl rfl rfl rfl rfl (by omega) (by omega)) ?_;rintro _ w ⟨P8,rfl,h⟩;have h:On W0 (bC (.slice (some ⟨P8,0,none⟩) (List.replicate 8 (0:UInt8)).length 8) (List.replicate 8 0)::_) w:=h;refine WL.v (aP (pl:=[(0,1),(1,1),(2,1),(3,1),(4,1),(5,1),(6,1),(7,1)]) (out:=[.int .i64 3,.int .i64 0,.int .i64 1,.slice (some ⟨P8,0,none⟩) 8 8,.int .u64 ((0:Nat):Int),.int .u64 ((0:Nat):Int),.int .i64 0,.bool false]) underlying32 zeroValue32 (fun w=>by kernel_rfl) rfl fz rfl) ?_;refine WL.v (aP (pl:=[(0,1),(1,1),(2,1),(3,8),(11,1),(12,1)]) (out:=[.int .i64 1,.int .i64 ((0:Nat):Int),.int .i64 0,.int .i64 3,.int .i64 0,.int .i64 1,.slice (some ⟨P8,0,none⟩) 8 8,.int .u64 ((0:Nat):Int),.int .u64 ((0:Nat):Int),.int .i64 0,.bool false,.slice none 0 0,.slice none 0 0]) underlying34 zeroValue34 (fun w=>by kernel_rfl) rfl fz rfl) ?_;refine WL.e (ag call6 (Fu (data:=List.replicate 8 0) (aB.to (show aB [bC (.slice (some ⟨P8,0,none⟩) (List.replicate 8 (0:UInt8)).length 8) (List.replicate 8 0)] _ from aB.cF)) KT ((h.aj (aY aa)).aj (eF bx aa x0)))) ?_;rintro _ w ⟨rfl,cg,RW,h⟩;refine qC ?_ (C:=HT (i:=0) hp (by omega) h);rintro v24 w ⟨hv,h⟩;rw[b2] at hv;subst hv;refine go ?_;refine WL.v (aP (pl:=[(0,1),(1,1),(2,1),(3,8),(11,1),(12,1)]) (out:=[.int .i64 11,.int .i64 0,.int .i64 ((400:Nat):Int),.int .i64 0,.int .i64 0,.int .i64 0,.slice none 0 0,.int .u64 0,.int .u64 0,.int .i64 0,.bool false,.slice none 0 0,.slice none 0 0]) underlying34 zeroValue34 (fun w=>by kernel_rfl) rfl fz rfl) ?_;refine WL.e (ag call6 (HV (by decide) hy h)) ?_;rintro _ w ⟨rfl,iM,adW,h⟩;refine qC ?_ (C:=Vt h);rintro _ w ⟨rfl,h⟩;refine qE ?_;refine WL.e (ag call11 (HT hq (by omega) h.g)) ?_;rintro v42 w ⟨hv,h⟩;rw[b3] at hv;subst hv;refine qE ?_;refine WL.e (ag call12 (J6 b9.1 b9.2 h)) ?_;rintro v47 w ⟨xo,ao,om,hv,_,_,hs4,h⟩;rw[b4] at hv;subst hv;refine qE ?_;refine WL.e (ag call9 (BL (wR hr) (by omega) (Fw (by rw[List.length_map];omega) (by match rows,b5 with|[a],_=>rfl)) (h.aj (eF bx om y)))) ?_;rintro v53 w ⟨ac,hv,h⟩;rw[b5] at hv;subst hv;refine qE ?_;refine WL.e (ag call13 (RD Ib.1 Ib.2 ((h.aj (aY om)).aj (eF bx om y)))) ?_;rintro v59 w ⟨xi,ai,uu,hv,_,_,hs5,h⟩;rw[b6] at hv;subst hv;refine qE ?_;refine WL.e (ag call14 (ahM (h.aj (eF bx uu y)))) ?_;rintro v65 w ⟨hv,h⟩;rw[b7] at hv;subst hv;refine qE ?_;refine WL.e (ag call15 (xR h)) ?_;rintro v70 w ⟨hv,h⟩;rw[b8] at hv;subst hv;refine qE ?_;refine qR ?_;exact⟨rfl,h.to⟩
section
variable{P:Program}{ρ:Operand→Value}{d:Option Nat}{ty:TypeId}{pos:String}{af:Array Edge}{g:Option (Nat×Bool)}
theorem Ki{t yt:TypeId}{x y:Operand}{m:Nat}(hm:m<256)(hx:ρ x=.int .u8 (m:Int))(hy:ρ y=.int .u8 2):(execOp ρ ⟨d,.binOp .and t x y yt,ty,pos,af,g⟩).run P w=.ok (.value (.int .u8 ((m / 2 % 2*2:Nat):Int))) w:=by
 rw[Ai (n:=2) hx hy (by show _≤(255:Int);omega) (by decide)];have e:∀k:Fin 256,(k:Nat)&&&2=(k:Nat) / 2 % 2*2:=by decide+kernel
 rw[e ⟨m,hm⟩]
end
theorem Vu{bx:Nat}{aa:aE}{x x2:Cl}{r:Int}{i k:Nat}{rS:Option Addr}{rR:Nat}{aV:List Int}(hk:k=x.aK+i)(hi:i≤1)(C2:aB L (Cells 1 (.slice rS aV.length rR) aV.length (dA.fK aV)))(hm:l9.step x (fun x=>xP x i)=some (x2,r))(h:On W0 (eF bx aa x::aY aa::L) w):
   Cs 6 [bx,.agg #[.int .i64 6,.int .i64 (k:Int),.int .i64 0,.int .i64 0,.int .i64 0,.int .i64 0,.slice none 0 0,.int .u64 0,.int .u64 0,.int .i64 0,.bool false,.slice rS aV.length rR,.slice none 0 0]] w fun v w'=>v=.int .i64 r∧∃aN,cI aa aN∧On W0 (eF bx aN x2::aY aN::L) w':=by
 subst hk;exact Ze hi C2 hm h
theorem adX{sk:KnS}{s:OnS}{A0 B0:Cl}{wn pn:Nat}{rS:Option Addr}{rR:Nat}{aV:List Int}(hk:xU ie=some sk)(hkb:BN sk=true)(hw:wn<256)(hp:pn<256)(Ek:Kh ie=some A0)(Ia:Wx (pn % 8) (pn / 8) A0=some B0)(hB2:B0.aK=2)(yw:Cz ie wn B0=some s)(YD:Hq s=true)(C2:aB L (Cells 1 (.slice rS aV.length rR) aV.length (dA.fK aV)))(h:On W0 L w):Cs 3 [.int .u8 (wn:Int),.int .u8 (pn:Int),.slice rS aV.length rR] w fun v w'=>v=.bool true∧On W0 L w':=by
 refine qO ?_;have fH:=aG;unfold Kh at Ek;have aA:=cG Ek;obtain⟨x0,vu,Ek⟩:=aA;have aA:=cG Ek;obtain⟨x1,KT,Ek⟩:=aA;have aA:=q7 Ek;obtain⟨⟨x2,r2⟩,wW,he⟩:=aA;simp only at he;subst he;have KT:=tM KT;unfold Cz at yw;have aA:=cG yw;obtain⟨⟨y0,r0⟩,VC,yw⟩:=aA;have aA:=cG yw;obtain⟨y1,Zz,yw⟩:=aA;have aA:=cG yw;obtain⟨y2,hy2,yw⟩:=aA;have aA:=cG yw;obtain⟨⟨i1,c1⟩,FK,yw⟩:=aA;have aA:=iZ yw;obtain⟨FQ,yw⟩:=aA;have aA:=cG yw;obtain⟨⟨y3,r3⟩,hy3,yw⟩:=aA;have aA:=cG yw;obtain⟨y4,hy4,yw⟩:=aA;have aA:=cG yw;obtain⟨⟨i4,c4⟩,WK,yw⟩:=aA;have aA:=q7 yw;obtain⟨rows,hr,yw⟩:=aA;subst yw;simp only at Zz hy4;unfold Hq at YD;simp only[Bool.and_eq_true,decide_eq_true_eq] at YD;obtain⟨⟨⟨⟨⟨f1,f2⟩,f3⟩,f4⟩,f5⟩,f6⟩:=YD;have FQ:=xV FQ;have f5:=xV f5;have FK:=HX FK;have WK:=HX WK;have hy2:=RV hy2;have hy4:=tM hy4;refine qC ?_ (C:=Zy hk hkb h);rintro _ w ⟨rfl,h⟩;refine qI (fun c7=> ?_) (fun c7=> ?_)
 · refine qR ?_;exact⟨rfl,h.to⟩
 refine qC ?_ (C:=adu (aK:=2) (blocks:=4) vu (by decide) (by decide) (by decide) (by decide) h);rintro _ w ⟨bx,rfl,aa,h⟩;refine go ?_;refine WL.e (kR (n:=8) (bytes:=1) h rfl rfl underlying28 rfl rfl rfl rfl rfl (by omega) (by omega)) ?_;rintro _ w ⟨b26,rfl,h⟩;refine go ?_;refine WL.e (kq (out:=[.int .u8 _,.int .u8 _,.int .u8 _,.int .u8 _,.int .u8 _,.int .u8 _,.int .u8 _,.int .u8 _]) h underlying28 sizeOf5 zeroValue5 rfl (by decide) rfl rfl rfl) ?_;rintro _ w ⟨X6,rfl,h⟩;refine WL.e (qP h rfl (by omega) underlying28 underlying5) ?_;rintro _ w ⟨rfl,h⟩;refine gw ?_;refine W.seq ?_;have h:On W0 (bC (.slice (some ⟨X6,0,none⟩) ([99,104,97,110,103,101,100,33]:List UInt8).length 8) [99,104,97,110,103,101,100,33]::_) w:=h;refine go ?_;refine WL.v (aP (pl:=[(0,1),(1,1),(2,1),(3,8),(11,1),(12,1)]) (out:=[.int .i64 11,.int .i64 0,.int .i64 ((60:Nat):Int),.int .i64 0,.int .i64 0,.int .i64 0,.slice none 0 0,.int .u64 0,.int .u64 0,.int .i64 0,.bool false,.slice none 0 0,.slice none 0 0]) underlying34 zeroValue34 (fun w=>by kernel_rfl) rfl fz rfl) ?_;refine WL.e (ag call6 (HV (by decide) KT ((h.aj (aY aa)).aj (eF bx aa x0)))) ?_;rintro _ w ⟨rfl,ig,adY,h⟩;refine go ?_;refine WL.e (aZ (out:=[]) h underlying28 sizeOf5 zeroValue5 (by decide) (by simp) rfl rfl (by simp) trivial rfl rfl (by simp[maxLen])) ?_;rintro _ w ⟨SQ,rfl,h⟩;refine go ?_;refine WL.e (bU (bytes:=1) h rfl rfl (h.aR) underlying28 rfl rfl rfl rfl rfl (by omega) (by omega) (by simp[Value.oneCell'])) ?_;rintro _ w ⟨a35,c35,rfl,h⟩;refine go ?_;refine WL.e (bU (bytes:=1) h rfl rfl (h.aR) underlying28 rfl rfl rfl rfl rfl (by omega) (by omega) cR) ?_;rintro v37 w ⟨Pg,NU,hv,h⟩;have aA:∃q,q=(List.replicate 8 (0:UInt8)++[99,104,97,110,103,101,100,33]):=⟨_,rfl⟩;obtain⟨data,Lu⟩:=aA;have oA:data.length=16:=by rw[Lu];rfl
 have hv:v37=.slice Pg data.length NU:=by rw[hv,oA]
 have h:On W0 (bC (.slice Pg (List.replicate 8 (0:UInt8)++[99,104,97,110,103,101,100,33]).length NU) (List.replicate 8 (0:UInt8)++[99,104,97,110,103,101,100,33])::_) w:=h;rw[←Lu] at h;have wW:l9.step x1 (fun x=>lu x 0 ⟨6,0,1,data,((0:Nat):Int),((0:Nat):Int),0,false⟩)=some (x2,r2):=by rw[Lu];exact wW
 clear Lu oA;subst hv;refine WL.v (aP (pl:=[(0,1),(1,1),(2,1),(3,1),(4,1),(5,1),(6,1),(7,1)]) (out:=[.int .i64 6,.int .i64 0,.int .i64 1,.slice Pg data.length NU,.int .u64 ((0:Nat):Int),.int .u64 ((0:Nat):Int),.int .i64 0,.bool false]) underlying32 zeroValue32 (fun w=>by kernel_rfl) rfl fz rfl) ?_;refine WL.v (aP (pl:=[(0,1),(1,1),(2,1),(3,8),(11,1),(12,1)]) (out:=[.int .i64 1,.int .i64 ((0:Nat):Int),.int .i64 0,.int .i64 6,.int .i64 0,.int .i64 1,.slice Pg data.length NU,.int .u64 ((0:Nat):Int),.int .u64 ((0:Nat):Int),.int .i64 0,.bool false,.slice none 0 0,.slice none 0 0]) underlying34 zeroValue34 (fun w=>by kernel_rfl) rfl fz rfl) ?_;refine WL.e (ag call6 (Fu (aB.to (show aB [bC (.slice Pg data.length NU) data] _ from aB.cF)) wW ((h.aj (aY ig)).aj (eF bx ig x1)))) ?_;rintro _ w ⟨rfl,cg,RW,h⟩;refine go ?_;refine W.loop (fun(q:Nat) env w=>∃(j:Env) (iM:aE) (y:Cl),Wx (pn % 8 - q) (pn / 8) y=some B0∧env=eu j [(0,.int .u8 (wn:Int)),(1,.int .u8 (pn:Int)),(2,.slice rS aV.length rR),(7,bx),(10,.slice (some ⟨X6,0,none⟩) 8 8),(11,.int .i64 (q:Int))]∧q≤pn % 8∧On W0 (eF bx iM y::aY iM::bC (.slice (some ⟨X6,0,none⟩) ([99,104,97,110,103,101,100,33]:List UInt8).length 8) [99,104,97,110,103,101,100,33]::L) w) (fun q=>pn % 8 - q) (0) ?_ ?_
 · exact⟨_,cg,x2,Ia,aD ⟨rfl,rfl,rfl,rfl,rfl,rfl,trivial⟩,Nat.zero_le _,h.to⟩
 clear h Ia;rintro q env w ⟨j,iM,y,hd,rfl,hq,h⟩;refine go ?_;refine WL.v (jc (m:=pn) (n:=7) 3 rfl rfl (by show _≤(255:Int);omega) (by decide) rfl) ?_;refine qI (fun zF=> ?_) (fun zF=> ?_)
 · have aA:∃m,pn % 8 - q=m+1:=⟨pn % 8 - q - 1,by omega⟩;obtain⟨m,TW⟩:=aA;rw[TW] at hd;have aA:=cG (show(l9.step y fun x=>dy x (pn / 8)).bind (fun r=>(l9.step r.1 fun x=>dy x 0).bind fun r=>Wx m (pn / 8) r.1)=some B0 from hd);obtain⟨⟨z1,s1⟩,hz1,Ss⟩:=aA;have aA:=cG Ss;obtain⟨⟨z2,s2⟩,hz2,hd3⟩:=aA;simp only at hz2 hd3;rw[show m=pn % 8 - (q+1) by omega] at hd3;refine go ?_;refine WL.v (jb (m:=pn) (j:=3) rfl rfl (by show 3≤8;decide)) ?_;refine qD ?_;refine WL.e (ag call6 (HU hz1 h.g)) ?_;rintro _ w ⟨rfl,om,adZ,h⟩;refine go ?_;refine WL.v (aP (pl:=[(0,1),(1,1),(2,1),(3,8),(11,1),(12,1)]) (out:=[.int .i64 3,.int .i64 0,.int .i64 ((0:Nat):Int),.int .i64 0,.int .i64 0,.int .i64 0,.slice none 0 0,.int .u64 0,.int .u64 0,.int .i64 0,.bool false,.slice none 0 0,.slice none 0 0]) underlying34 zeroValue34 (fun w=>by kernel_rfl) rfl fz rfl) ?_;refine WL.e (ag call6 (HU hz2 h)) ?_;rintro _ w ⟨rfl,uu,ad0,h⟩;refine qD ?_;exact⟨q+1,⟨_,uu,z2,hd3,aD ⟨rfl,rfl,rfl,rfl,rfl,rfl,trivial⟩,by omega,h.to⟩,by show pn % 8 - (q+1)<pn % 8 - q;omega⟩
 have aA:q=pn % 8:=by omega
 obtain rfl:=aA;rw[Nat.sub_self] at hd;have aA:y=B0:=Option.some.inj hd;obtain rfl:=aA;refine go ?_;refine WL.v (jc (m:=wn) (n:=1) 1 rfl rfl (by show _≤(255:Int);omega) (by decide) rfl) ?_;refine qN ?_;refine WL.v (gK (m:=2) (n:=wn % 2^1) rfl rfl (by omega)) ?_;refine go ?_;refine WL.v (aP (pl:=[(0,1),(1,1),(2,1),(3,8),(11,1),(12,1)]) (out:=[.int .i64 6,.int .i64 ((2+wn % 2^1:Nat):Int),.int .i64 0,.int .i64 0,.int .i64 0,.int .i64 0,.slice none 0 0,.int .u64 0,.int .u64 0,.int .i64 0,.bool false,.slice rS aV.length rR,.slice none 0 0]) underlying34 zeroValue34 (fun w=>by kernel_rfl) rfl fz rfl) ?_;refine WL.e (ag call6 (Vu (by omega) (by omega) (aB.to C2) VC h.g)) ?_;rintro _ w ⟨rfl,Lo,ad3,h⟩;refine gw ?_;refine W.cut (fun env w=>∃(j:Env) (HY:aE),env=eu j [(0,.int .u8 (wn:Int)),(1,.int .u8 (pn:Int)),(2,.slice rS aV.length rR),(7,bx),(10,.slice (some ⟨X6,0,none⟩) 8 8)]∧On W0 (eF bx HY y1::aY HY::bC (.slice (some ⟨X6,0,none⟩) ([99,104,97,110,103,101,100,33]:List UInt8).length 8) [99,104,97,110,103,101,100,33]::L) w) ?_ ?_
 ·
  refine go ?_;refine WL.v (Ki hw rfl rfl) ?_;refine qI (fun SH=> ?_) (fun SH=> ?_)
  · rw[if_pos (by omega)] at Zz;have Zz:=tM Zz;refine go ?_;refine WL.v (aP (pl:=[(0,1),(1,1),(2,1),(3,8),(11,1),(12,1)]) (out:=[.int .i64 11,.int .i64 0,.int .i64 ((50:Nat):Int),.int .i64 0,.int .i64 0,.int .i64 0,.slice none 0 0,.int .u64 0,.int .u64 0,.int .i64 0,.bool false,.slice none 0 0,.slice none 0 0]) underlying34 zeroValue34 (fun w=>by kernel_rfl) rfl fz rfl) ?_;refine WL.e (ag call6 (HV (by decide) Zz h.g)) ?_;rintro _ w ⟨rfl,ad4,ad5,h⟩;refine gw ?_;exact⟨_,ad4,aD ⟨rfl,rfl,rfl,rfl,rfl,trivial⟩,h.to⟩
  refine qD ?_;rw[if_neg (by omega)] at Zz;have aA:=Option.some.inj Zz;obtain rfl:=aA;exact⟨_,Lo,aD ⟨rfl,rfl,rfl,rfl,rfl,trivial⟩,h.to⟩
 clear h;rintro env w ⟨j,HY,rfl,h⟩;refine qC ?_ (C:=adJ (k:=400) (by decide) hy2 ((h.aj (aY HY)).aj (eF bx HY y1)));rintro _ w ⟨rfl,ajT,hs9,h⟩;refine qC ?_ (C:=Wk (host:=0) (id:=1) FQ.1 FQ.2 FK.1 FK.2.1 FK.2.2 h);rintro _ w ⟨dx1,dc1,RY,rfl,Xk,anH,h⟩;refine gb fun C6 w h=> ?_;refine gs fun w h _=> ?_;refine go ?_;refine WL.v (aP (pl:=[(0,1),(1,1),(2,1),(3,1),(4,1),(5,1),(6,1),(7,1)]) (out:=[.int .i64 2,.int .i64 0,.int .i64 1,.slice none 0 0,.int .u64 ((0:Nat):Int),.int .u64 ((0:Nat):Int),.int .i64 0,.bool false]) underlying32 zeroValue32 (fun w=>by kernel_rfl) rfl fz rfl) ?_;refine WL.v (aP (pl:=[(0,1),(1,1),(2,1),(3,8),(11,1),(12,1)]) (out:=[.int .i64 1,.int .i64 ((1:Nat):Int),.int .i64 0,.int .i64 2,.int .i64 0,.int .i64 1,.slice none 0 0,.int .u64 ((0:Nat):Int),.int .u64 ((0:Nat):Int),.int .i64 0,.bool false,.slice none 0 0,.slice none 0 0]) underlying34 zeroValue34 (fun w=>by kernel_rfl) rfl fz rfl) ?_;refine WL.e (ag call6 (Fu (data:=[]) aB.rL hy3 ((h.aj (aY RY)).aj (eF bx RY y2)))) ?_;rintro _ w ⟨rfl,air,aaj,h⟩;refine go ?_;refine WL.v (aP (pl:=[(0,1),(1,1),(2,1),(3,8),(11,1),(12,1)]) (out:=[.int .i64 11,.int .i64 0,.int .i64 ((400:Nat):Int),.int .i64 0,.int .i64 0,.int .i64 0,.slice none 0 0,.int .u64 0,.int .u64 0,.int .i64 0,.bool false,.slice none 0 0,.slice none 0 0]) underlying34 zeroValue34 (fun w=>by kernel_rfl) rfl fz rfl) ?_;refine WL.e (ag call6 (HV (by decide) hy4 h)) ?_;rintro _ w ⟨rfl,ais,aak,h⟩;refine qC ?_ (C:=Wk (host:=1) (id:=1) f5.1 f5.2 WK.1 WK.2.1 WK.2.2 h);rintro _ w ⟨dx4,dc4,Kj,rfl,ait,anI,h⟩;refine gb fun b15 w h=> ?_;refine gs fun w h _=> ?_;refine qE ?_;refine WL.v (jx underlying28 underlying5 underlying9 rfl (h.aO (fu.eN (L:=[]) ait))) ?_;refine go ?_;refine WL.v (jx underlying28 underlying5 underlying9 rfl (h.aR)) ?_;refine WL.v (FJ rfl rfl (by rw[Go.ByteArray.toList_eq,Go.ByteArray.toList_eq];exact f2)) ?_;refine qC ?_ (C:=BL (wR hr) (by omega) (Fw (by rw[List.length_map];omega) f4) (h.aj (eF bx Kj y4)));rintro anJ w ⟨ac,hv,h⟩;rw[f3] at hv;subst hv;refine qE ?_;refine WL.e (ag call10 (adR (by decide) (by decide) f6 ((h.aj (aY Kj)).aj (eF bx Kj y4)))) ?_;rintro _ w ⟨rfl,aiu,anK,h⟩;refine qR ?_;exact⟨rfl,h.to⟩
end Go.Proofs.YtcplmndikhjehaaGreat
namespace Go.Proofs.YtcplmndikhjehaaGreat
open Go Go.Sl Go.Sl.eM Go.Sl.gW Go.Sl.kM Go.Sl.pe Go.Sl.pM Go.Sl.mG Go.Sl.pO Go.Sl.rH Go.Sl.pN Go.Sl.gU Go.Sl.l9
open Go.Sl.oB (wr)
open Go.Sl.dA (fu fu.eN fu.mono)
set_option maxHeartbeats 0
set_option maxRecDepth 8000
variable{W0 w:World}{L F:List aC}
def chain:Nat→Cl→Option Cl
 |0,x=>some x
 |f+1,x=>(l9.step x fun x=>dy x 0).bind fun r=>chain f r.1
def Vv(x:Cl):Bool:=decide (0≤x.now)&&decide (x.now<1000000)
def ta:Nat→Cl→Bool
 |0,x=>Vv x&&decide (x.lY.length=0)
 |f+1,x=>Vv x&&decide (x.lY.length≤1)&&(match l9.step x fun x=>dy x 0 with|some r=>ta f r.1|none=>false)
theorem wT{x:Cl}{N:Nat}(h:Vv x=true)(hn:x.lY.length≤N):(l9.step x fun x=>dy x N)=some (x,6):=by
 unfold Vv at h;simp only[Bool.and_eq_true,decide_eq_true_eq] at h;have e:({x with now:=x.now+1}:Cl).lY[N]? =none:=List.getElem?_eq_none hn
 have e2:dy {x with now:=x.now+1} N=some ({x with now:=x.now+1},6):=by
   unfold dy;rw[e]
 unfold l9.step;rw[if_pos h.2];show(dy {x with now:=x.now+1} N).bind _=_;rw[e2];show(if(6:Int)=0 then some ({x with now:=x.now+1},(6:Int)) else if 1≤x.now+1 then some ({x with now:=x.now+1 - 1},(6:Int)) else none)=_;rw[if_neg (by decide),if_pos (by omega),show x.now+1 - 1=x.now by omega]
theorem BO{f N:Nat}{x:Cl}(h:ta f x=true):∃(y:Cl) (r:Int) (j g:Nat),(l9.step x fun x=>dy x N)=some (y,r)∧ta g y=true∧j+g=f∧∀i,chain i y=chain (i+j) x:=by
 cases f with
 | zero=>
   have h2:=h;unfold ta at h2;simp only[Bool.and_eq_true,decide_eq_true_eq] at h2;exact⟨x,6,0,0,wT h2.1 (by omega),h,rfl,fun i=>rfl⟩
 | succ f=>
   have h2:=h;unfold ta at h2;simp only[Bool.and_eq_true,decide_eq_true_eq] at h2;obtain⟨⟨h3,h4⟩,h5⟩:=h2;cases N with
   |succ N=>exact⟨x,6,0,f+1,wT h3 (by omega),h,by omega,fun i=>rfl⟩
   | zero=>
     split at h5
     · rename_i r hr
       exact⟨r.1,r.2,1,f,hr,h5,by omega,fun i=>by show _=(l9.step x fun x=>dy x 0).bind fun r=>chain i r.1;rw[hr];rfl⟩
     cases h5
theorem HZ{N:Nat}:∀(k f:Nat) (x:Cl),ta f x=true→∃j,j≤f∧Wx k N x=chain j x
 |0,f,x,h=>⟨0,Nat.zero_le _,rfl⟩
 | k+1,f,x,h=>by
   obtain⟨y,r,j,g,hs,hq,hj,hc⟩:=BO (N:=N) h;obtain⟨z,r2,j2,g2,m7,TD,V0,H6⟩:=BO (N:=0) hq;obtain⟨j3,h3,e3⟩:=HZ (N:=N) k g2 z TD;refine⟨j3+j2+j,by omega, ?_⟩;show(l9.step x fun x=>dy x N).bind (fun r=>(l9.step r.1 fun x=>dy x 0).bind fun r=>Wx k N r.1)=_;rw[hs];show(l9.step y fun x=>dy x 0).bind (fun r=>Wx k N r.1)=_;rw[m7];show Wx k N z=_;rw[e3,H6,hc]
theorem NP{g:Nat→Cl→Option Cl}{w:Nat}{x:Cl}:Cz g w x=Cz g (w % 4) x:=by
 unfold Cz;rw[show w % 4 % 2=w % 2 by omega,show w % 4 / 2 % 2=w / 2 % 2 by omega]
theorem tc:yV=ie:=funext fun f=>funext fun x=>HW f x
def gG(w j:Nat):Bool:=((Kh yV).bind (chain j)).any fun y=>decide (y.aK=2)&&(Cz yV w y).any Hq
theorem RZ{w j:Nat}{x:Cl}(h:gG w j=true)(hp:Kh ie=some x):∃y,chain j x=some y∧y.aK=2∧∃s,Cz ie w y=some s∧Hq s=true:=by
 unfold gG at h;rw[tc,hp] at h;replace h:(chain j x).any (fun y=>decide (y.aK=2)&&(Cz ie w y).any Hq)=true:=h;cases e:chain j x with
 |none=>rw[e] at h;cases h
 | some y=>
   rw[e] at h;replace h:(decide (y.aK=2)&&(Cz ie w y).any Hq)=true:=h;simp only[Bool.and_eq_true,decide_eq_true_eq] at h;obtain⟨h1,h2⟩:=h;refine⟨y,rfl,h1, ?_⟩;cases e2:Cz ie w y with
   |none=>rw[e2] at h2;cases h2
   |some s=>rw[e2] at h2;exact⟨s,rfl,h2⟩
theorem Kk:((xU yV).any BN)=true:=by kernel_rfl
theorem pre_true:((Kh yV).any (ta 4))=true:=by kernel_rfl
theorem R1:∃s,xU ie=some s∧BN s=true:=by
 have h:=Kk;rw[tc] at h;cases e:xU ie with
 |none=>rw[e] at h;cases h
 |some s=>rw[e] at h;exact⟨s,rfl,h⟩
theorem ZA:∃x,Kh ie=some x∧ta 4 x=true:=by
 have h:=pre_true;rw[tc] at h;cases e:Kh ie with
 |none=>rw[e] at h;cases h
 |some s=>rw[e] at h;exact⟨s,rfl,h⟩
theorem R2:gG 0 0=true:=by kernel_rfl
theorem R3:gG 1 0=true:=by kernel_rfl
theorem R4:gG 2 0=true:=by kernel_rfl
theorem R5:gG 3 0=true:=by kernel_rfl
theorem ZB{w:Nat}(h:w<4):gG w 0=true:=by
 match w,h with
 |0,_=>exact R2
 |1,_=>exact R3
 |2,_=>exact R4
 |3,_=>exact R5
theorem R6:gG 0 1=true:=by kernel_rfl
theorem R7:gG 1 1=true:=by kernel_rfl
theorem R8:gG 2 1=true:=by kernel_rfl
theorem R9:gG 3 1=true:=by kernel_rfl
theorem ZC{w:Nat}(h:w<4):gG w 1=true:=by
 match w,h with
 |0,_=>exact R6
 |1,_=>exact R7
 |2,_=>exact R8
 |3,_=>exact R9
theorem Sa:gG 0 2=true:=by kernel_rfl
theorem Sb:gG 1 2=true:=by kernel_rfl
theorem Sc:gG 2 2=true:=by kernel_rfl
theorem Sd:gG 3 2=true:=by kernel_rfl
theorem ZD{w:Nat}(h:w<4):gG w 2=true:=by
 match w,h with
 |0,_=>exact Sa
 |1,_=>exact Sb
 |2,_=>exact Sc
 |3,_=>exact Sd
theorem Se:gG 0 3=true:=by kernel_rfl
theorem Sf:gG 1 3=true:=by kernel_rfl
theorem Sg:gG 2 3=true:=by kernel_rfl
theorem Sh:gG 3 3=true:=by kernel_rfl
theorem ZE{w:Nat}(h:w<4):gG w 3=true:=by
 match w,h with
 |0,_=>exact Se
 |1,_=>exact Sf
 |2,_=>exact Sg
 |3,_=>exact Sh
theorem Si:gG 0 4=true:=by kernel_rfl
theorem Sj:gG 1 4=true:=by kernel_rfl
theorem Sk:gG 2 4=true:=by kernel_rfl
theorem Sm:gG 3 4=true:=by kernel_rfl
theorem ZF{w:Nat}(h:w<4):gG w 4=true:=by
 match w,h with
 |0,_=>exact Si
 |1,_=>exact Sj
 |2,_=>exact Sk
 |3,_=>exact Sm
theorem Vw{wn pn:Nat}{rS:Option Addr}{rR:Nat}{aV:List Int}(hw:(wn:Int)≤255)(hp:(pn:Int)≤255)(h:On W0 L w)(C2:aB L (Cells 1 (.slice rS aV.length rR) aV.length (dA.fK aV))):Cs 3 [.int .u8 (wn:Int),.int .u8 (pn:Int),.slice rS aV.length rR] w fun v w'=>v=.bool true∧On W0 L w':=by
 obtain⟨sk,hk,hkb⟩:=R1;obtain⟨A0,VR,hq⟩:=ZA;obtain⟨j,hj,hd⟩:=HZ (N:=pn / 8) (pn % 8) 4 A0 hq;have Jh:wn % 4<4:=Nat.mod_lt _ (by decide)
 have ho:gG (wn % 4) j=true:=by
   match j,hj with
   |0,_=>exact ZB Jh
   |1,_=>exact ZC Jh
   |2,_=>exact ZD Jh
   |3,_=>exact ZE Jh
   |4,_=>exact ZF Jh
 obtain⟨y,hy,hh,s,hf,hs⟩:=RZ ho VR;rw[←NP] at hf;exact adX hk hkb (by omega) (by omega) VR (hd.trans hy) hh hf hs C2 h
end Go.Proofs.YtcplmndikhjehaaGreat
