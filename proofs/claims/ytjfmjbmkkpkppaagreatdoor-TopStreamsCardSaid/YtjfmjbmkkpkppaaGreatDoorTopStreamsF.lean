/-
  TopStreams: whatever the numbers and whichever packets are lost for a time, the call returns true and leaves the caller's memory as it was. The listed package variables read as listed: the card ties them to the program's text.
-/
import Derived.Test.YtjfmjbmkkpkppaaGreatDoorRows
import Derived.Test.YtjfmjbmkkpkppaaGreatDoorTopStreamsFQ7
import Derived.Test.YtjfmjbmkkpkppaaGreatDoorTopStreamsFQ1
import Derived.Test.YtjfmjbmkkpkppaaGreatDoorTie
import Derived.Test.YtjfmjbmkkpkppaaGreatDoorCards
import Derived.SevenTiedAt
import Derived.Stop.Joined
import Derived.WalkKit
import Derived.ProofKit
import Derived.OpenShut
import Derived.ChangeOld
import Derived.Below
set_option linter.unusedVariables false
set_option linter.unusedSimpArgs false
namespace Go.Proofs.YtjfmjbmkkpkppaaGreatDoor.topStreamsLaw
open Go.Proofs.Tryz
open Go Go.Sl Go.ChangeShapes Go.WideShapes Go.ChangeAt Go.RowKit
open Go.ChangeMaps (open_string shut_string)
theorem own : ownKnob Tryz.prog.godebug = none := by kernel_rfl
theorem laidOut : laidOutB Tryz.prog = true := by kernel_rfl
set_option maxRecDepth 100000 in
theorem lifted (os : Os) (started : os.Started) (H : Type) (enc : TypeId × Value → H) :
   ReturnsInHanded {} Tryz.checked os 5 .any (fun w args => (Rows.topStreamsSpec.pre enc Tryz.prog Tryz.f5 Rows.topStreamsRow.domain false w args ∧ laidMetH Tryz.prog laidL w) ∧ sizedMet enc Tryz.prog Tryz.f5 (OpenSpec.ofChange Rows.topStreamsSpec) false w args) (Rows.topStreamsSpec.post enc Tryz.prog Tryz.f5 false true false false) := by
 refine returnsLaidShaped (C := Tryz.checked) (X := fun w _ => laidMetH Tryz.prog laidL w) (fun _ _ _ hh h => h.of_heap hh) own started (by kernel_rfl) func5
   (ChangeSpec.witness_shaped (enc := enc) (C := Tryz.checked) (os := os) (X := fun w _ => laidMetH Tryz.prog laidL w) false (World.laidAll Tryz.prog os laidL) #[.slice none 0 0, .int .i64 0] 8 (World.laidAll_os _ _ _)
     (World.shaped_of_ZipB (by kernel_rfl) (by kernel_rfl)) (by kernel_rfl) (by kernel_rfl) (by kernel_rfl)
     (by rw [MakeChecks.laidMetH_plain _ _ _ laid_none]; exact laidMet_laidAll _ (by kernel_rfl) (by kernel_rfl))) ?_
 intro W base args ds gs before hval0 hW hL hS
 obtain ⟨mg, GL⟩ := glp_of hS hL
 have hval : ∀ (j : Nat) t v, Tryz.f5.params[j]? = some t → args[j]? = some v → Value.okWide Tryz.prog W .any base t v := hval0
 have hW' := hW
 obtain ⟨p, q, hA0, hV, rfl, hfz, hnd⟩ := hW
 have hA : DataW.TrodAll enc Tryz.prog W 0 (fun _ => true) true Tryz.f5.params.toList args.toList ds p := hA0
 rw [Tryz.params5] at hA hval
 obtain ⟨v0, vs0, d0, ds0, p0, q0, hargs, rfl, rfl, h0, r0⟩ := trodAll_cons hA
 obtain ⟨v1, vs1, d1, ds1, p1, q1, rfl, rfl, rfl, h1, r1⟩ := trodAll_cons r0
 obtain ⟨rfl, rfl, rfl⟩ := trodAll_nil r1
 obtain rfl : args = #[v0, v1] := by cases args; simp_all
 obtain ⟨rfl, rfl⟩ := trodVars_none hV
 clear hA0 hval0
 have lt0 : ∀ x ∈ p0, x.block < W.heap.size := by obtain ⟨m, hm⟩ := h0; exact DataW.trod_lt m _ _ _ hm
 obtain ⟨a0, n0, c0, rfl⟩ := okWide_slice underlying26 (hval 0 26 v0 rfl rfl)
 obtain ⟨a0_, c0_, l0, e0, B0⟩ := (rd_bytes (W := W) underlying26 underlying5 (by kernel_rfl)).use h0
 simp [Value.cells] at e0
 obtain ⟨rfl, rfl, rfl⟩ := e0
 have lt1 : ∀ x ∈ p1, x.block < W.heap.size := by obtain ⟨m, hm⟩ := h1; exact DataW.trod_lt m _ _ _ hm
 obtain ⟨a1, rfl, rfl, rfl, w1⟩ := open_int underlying3 (hval 1 3 v1 rfl rfl) h1
 refine (tstreams_law (L := [old W]) GL (On.start W) (Gives.old B0)).mono fun e W' he => ?_
 obtain ⟨_, rfl, rfl, hon⟩ := he
 have bel := hon.below (Gives.head (old_mono W) fun _ hh => hh)
 exact ⟨_, rfl, _, _, _, [], _, [], hW', trodAll_mk1 (shut_bool underlying4 _), (trodAll_cons_mk (Below.trod laidOut (by kernel_rfl) (of_decide_eq_true (by kernel_rfl)) h0 bel lt0) (trodAll_cons_mk (Below.trod laidOut (by kernel_rfl) (of_decide_eq_true (by kernel_rfl)) h1 bel lt1) trodAll_mk0)), rfl, bel.frame _, fun h => by cases h⟩
theorem over : Rows.topStreamsRow.holds Tryz.pinned (OpenSpec.ofChange Rows.topStreamsSpec) :=
 OpenClaim.holds_of_wide 5 Tryz.f5 rfl rfl rfl rfl rfl rfl rfl ⟨rfl, rfl, rfl, rfl, rfl⟩ rfl rfl rfl rfl rfl (by kernel_rfl) func5 (by kernel_rfl)
   (of_decide_eq_true (by kernel_rfl)) (by unfold Func.isWrapper; first | (rw [if_pos (by decide +kernel)]; kernel_rfl) | (rw [if_neg (by decide +kernel)]; exact ⟨rfl, rfl⟩))
   (fun os started H enc _ => lifted os started H enc)
theorem proved : Rows.TopStreamsCardSaid :=
 Claim7.holds_tied_plain_at .later [] [.data, .data, .data, .data, .sentinel, .sentinel, .pinned] true (true, "2bc53ffb72ba7484a906419896487cccd2086cb946e6365c6a9b83760b2b408c") true over (fun _ h => by cases h) (by kernel_rfl) (fun _ h => by cases h) topStreams_row_tie rfl ⟨rfl, rfl⟩ (by kernel_rfl) rfl
   (fun f fn hf hfn => by
     obtain rfl : f = 5 := Option.some.inj ((show Tryz.prog.funcNamed "gemel/gemeltop.TopStreams" = some 5 by kernel_rfl).symm.trans hf) |>.symm
     obtain rfl : fn = Tryz.f5 := (Option.some.inj (func5.symm.trans hfn)).symm
     exact ⟨by kernel_rfl, fun j t ht => by
       rw [Tryz.params5] at ht
       have hm : t ∈ [26, 3] := by simpa using Array.mem_of_getElem? ht
       have hall : ([26, 3].all fun u => !Tryz.prog.wantsStandIn u) = true := by kernel_rfl
       exact (show Tryz.prog.wantsStandIn t = false by simpa using List.all_eq_true.1 hall t hm)⟩)
   (by kernel_rfl)
#print axioms proved
end Go.Proofs.YtjfmjbmkkpkppaaGreatDoor.topStreamsLaw
