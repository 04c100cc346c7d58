/-
  ClusterOnce: whatever the two bytes and the picks, the call returns true and leaves the caller's memory as it was. No condition.
-/
import Derived.Test.YtcplmndikhjehaaGreatRows
import Derived.Test.YtcplmndikhjehaaGreatOnceGQ1
import Derived.Test.YtcplmndikhjehaaGreatOnceGQ9
import Derived.Test.YtcplmndikhjehaaGreatOnceGQ2
import Derived.WalkKit
import Derived.ProofKit
import Derived.OpenShut
import Derived.ChangeOld
import Derived.Below
set_option linter.unusedVariables false
set_option linter.unusedSimpArgs false
namespace Go.Proofs.YtcplmndikhjehaaGreat.clusterOnceLaw
open Go.Proofs.Tryz
open Go Go.Sl Go.ChangeShapes Go.WideShapes Go.ChangeAt Go.RowKit
open Go.ChangeMaps (open_string shut_string)
theorem own:ownKnob Tryz.prog.godebug=none:=by kernel_rfl
theorem laidOut:laidOutB Tryz.prog=true:=by kernel_rfl
set_option maxRecDepth 100000 in
theorem lifted(os:Os)(started:os.Started)(H:Type)(enc:TypeId×Value→H):
   ReturnsInHanded {} Tryz.checked os 3 .any (Rows.clusterOnceSpec.pre6 enc Tryz.prog Tryz.f3 Rows.clusterOnceRow.domain false) (Rows.clusterOnceSpec.post enc Tryz.prog Tryz.f3 false true false false):=by
 refine returnsInHanded_of_change (C:=Tryz.checked) own started (by kernel_rfl) func3
   (ChangeSpec.witness6 (enc:=enc) (C:=Tryz.checked) false ⟨#[],#[.int .u8 0,.int .u8 0,.slice none 0 0],[]⟩ 8 (by kernel_rfl) (by kernel_rfl) (by kernel_rfl) (by kernel_rfl)) ?_
 intro W base args ds gs before Wz hW anL _;have Vx:∀(j:Nat) t v,Tryz.f3.params[j]? =some t→args[j]? =some v→Value.okWide Tryz.prog W .any base t v:=Wz;have hW':=hW;obtain⟨p,q,hA0,hV,rfl,hfz,OM⟩:=hW;have hA:DataW.TrodAll enc Tryz.prog W 0 (fun _=>true) true Tryz.f3.params.toList args.toList ds p:=hA0;rw[Tryz.params3] at hA Vx;obtain⟨v0,vs0,d0,ds0,p0,q0,ajV,rfl,rfl,h0,r0⟩:=trodAll_cons hA;obtain⟨v1,vs1,d1,ds1,p1,q1,rfl,rfl,rfl,h1,r1⟩:=trodAll_cons r0;obtain⟨v2,vs2,d2,ds2,p2,q2,rfl,rfl,rfl,h2,r2⟩:=trodAll_cons r1;obtain⟨rfl,rfl,rfl⟩:=trodAll_nil r2;obtain rfl:args=#[v0,v1,v2]:=by cases args;simp_all
 obtain⟨rfl,rfl⟩:=trodVars_none hV;clear hA0 Wz;have lt0:∀x∈p0,x.block<W.heap.size:=by obtain⟨m,hm⟩:=h0;exact DataW.trod_lt m _ _ _ hm
 obtain⟨a0,rfl,rfl,rfl,w0⟩:=open_int underlying5 (Vx 0 5 v0 rfl rfl) h0;obtain⟨t0,rfl,b0⟩:=Oi w0 rfl;have lt1:∀x∈p1,x.block<W.heap.size:=by obtain⟨m,hm⟩:=h1;exact DataW.trod_lt m _ _ _ hm
 obtain⟨a1,rfl,rfl,rfl,w1⟩:=open_int underlying5 (Vx 1 5 v1 rfl rfl) h1;obtain⟨t1,rfl,b1⟩:=Oi w1 rfl;have lt2:∀x∈p2,x.block<W.heap.size:=by obtain⟨m,hm⟩:=h2;exact DataW.trod_lt m _ _ _ hm
 obtain⟨a2,n2,c2,rfl⟩:=okWide_slice underlying22 (Vx 2 22 v2 rfl rfl);obtain⟨a2_,c2_,l2,e2,wf2,C2⟩:=(Tg (W:=W) underlying22 underlying3 (by kernel_rfl)).use h2;simp[Value.cells] at e2;obtain⟨rfl,rfl,rfl⟩:=e2;refine(Vw (L:=[old W]) b0 b1 (On.start W) (aB.old C2)).mono fun e W' he=> ?_;obtain⟨_,rfl,rfl,JO⟩:=he;have bel:=JO.below (aB.head (N5 W) fun _ hh=>hh);exact⟨_,rfl,_,_,_,[],_,[],hW',trodAll_mk1 (shut_bool underlying4 _),(trodAll_cons_mk (Below.trod laidOut (by kernel_rfl) (of_decide_eq_true (by kernel_rfl)) h0 bel lt0) (trodAll_cons_mk (Below.trod laidOut (by kernel_rfl) (of_decide_eq_true (by kernel_rfl)) h1 bel lt1) (trodAll_cons_mk (Below.trod laidOut (by kernel_rfl) (of_decide_eq_true (by kernel_rfl)) h2 bel lt2) trodAll_mk0))),rfl,bel.frame _,fun h=>by cases h⟩
theorem qa:Rows.clusterOnceRow.holds Tryz.pinned (OpenSpec.ofChange Rows.clusterOnceSpec):=
 OpenClaim.holds_of_wide 3 Tryz.f3 rfl rfl rfl rfl rfl rfl rfl ⟨rfl,rfl,rfl,rfl,rfl⟩ rfl rfl rfl rfl rfl (by kernel_rfl) func3 closed
   (of_decide_eq_true (by kernel_rfl)) (by unfold Func.isWrapper;first|(rw[if_pos (by decide+kernel)];kernel_rfl)|(rw[if_neg (by decide+kernel)];exact⟨rfl,rfl⟩))
   (fun os started H enc _=>lifted os started H enc)
theorem proved:Rows.ClusterOnceSaid:=qa
#print axioms proved
end Go.Proofs.YtcplmndikhjehaaGreat.clusterOnceLaw
