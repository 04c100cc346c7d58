/-
  TopBytes: whatever the three numbers, the tag and the number, the call returns true and leaves the caller's memory as it was. The listed package variables read as listed: the card ties them to the program's text.
-/
import Derived.Test.YtjfmjbmkkpkppaaGreatDoorRows
import Derived.Test.YtjfmjbmkkpkppaaGreatDoorTopBytesFQ7
import Derived.Test.YtjfmjbmkkpkppaaGreatDoorTopBytesFQ1
import Derived.Test.YtjfmjbmkkpkppaaGreatDoorTie
import Derived.Test.YtjfmjbmkkpkppaaGreatDoorCards
import Derived.SevenTiedAt
import Derived.Stop.Joined
import Derived.WalkKit
import Derived.ProofKit
import Derived.OpenShut
import Derived.ChangeOld
import Derived.Below
set_option linter.unusedVariables false
set_option linter.unusedSimpArgs false
namespace Go.Proofs.YtjfmjbmkkpkppaaGreatDoor.topBytesLaw
open Go.Proofs.Tryz
open Go Go.Sl Go.ChangeShapes Go.WideShapes Go.ChangeAt Go.RowKit
open Go.ChangeMaps (open_string shut_string)
theorem own : ownKnob Tryz.prog.godebug = none := by kernel_rfl
theorem laidOut : laidOutB Tryz.prog = true := by kernel_rfl
theorem wfU8 {n : Int} (h : (Lit.int .u8 n).wf = true) : ∃ x : UInt8, n = (x.toNat : Int) := by
 obtain ⟨t, rfl, b⟩ := wf_nat h rfl
 have hb : (t : Int) ≤ 255 := b
 exact ⟨UInt8.ofNat t, by rw [UInt8.toNat_ofNat']; omega⟩
open Go.Sl.UnM in
set_option maxRecDepth 20000 in
theorem rdAsk (W : World) : Rd Tryz.prog W 23 (fun cs => ∃ a b c : UInt8, cs = [.int .u8 (a.toNat : Int), .int .u8 (b.toNat : Int), .int .u8 (c.toNat : Int)] ∧ True) :=
 (rd_fields (W := W) underlying23 (Rs := [_, _, _]) ⟨(rd_int underlying5), (rd_int underlying5), (rd_int underlying5), trivial⟩).mono fun cs ⟨hl, f0, f1, f2, _⟩ => by
   rw [show Tryz.prog.cellsOf 23 = 3 by kernel_rfl] at hl
   have s5 : Tryz.prog.cellsOf 5 = 1 := by kernel_rfl
   match cs, hl with
   | [x0, x1, x2], _ =>
     obtain ⟨z0, f0, w0⟩ := f0
     simp [s5] at f0
     obtain ⟨z1, f1, w1⟩ := f1
     simp [s5] at f1
     obtain ⟨z2, f2, w2⟩ := f2
     simp [s5] at f2
     subst f0 f1 f2
     exact (by obtain ⟨a, rfl⟩ := wfU8 w0; obtain ⟨b, rfl⟩ := wfU8 w1; obtain ⟨c, rfl⟩ := wfU8 w2; exact ⟨a, b, c, rfl, trivial⟩)
set_option maxRecDepth 100000 in
theorem lifted (os : Os) (started : os.Started) (H : Type) (enc : TypeId × Value → H) :
   ReturnsInHanded {} Tryz.checked os 3 .any (fun w args => (Rows.topBytesSpec.pre enc Tryz.prog Tryz.f3 Rows.topBytesRow.domain false w args ∧ laidMetH Tryz.prog laidL w) ∧ sizedMet enc Tryz.prog Tryz.f3 (OpenSpec.ofChange Rows.topBytesSpec) false w args) (Rows.topBytesSpec.post enc Tryz.prog Tryz.f3 false true false false) := by
 refine returnsLaidShaped (C := Tryz.checked) (X := fun w _ => laidMetH Tryz.prog laidL w) (fun _ _ _ hh h => h.of_heap hh) own started (by kernel_rfl) func3
   (ChangeSpec.witness_shaped (enc := enc) (C := Tryz.checked) (os := os) (X := fun w _ => laidMetH Tryz.prog laidL w) false (World.laidAll Tryz.prog os laidL) #[.agg #[.int .u8 0, .int .u8 0, .int .u8 0], .int .u32 0, .int .u32 0] 8 (World.laidAll_os _ _ _)
     (World.shaped_of_ZipB (by kernel_rfl) (by kernel_rfl)) (by kernel_rfl) (by kernel_rfl) (by kernel_rfl)
     (by rw [MakeChecks.laidMetH_plain _ _ _ laid_none]; exact laidMet_laidAll _ (by kernel_rfl) (by kernel_rfl))) ?_
 intro W base args ds gs before hval0 hW hL hS
 obtain ⟨mg, GL⟩ := glp_of hS hL
 have hval : ∀ (j : Nat) t v, Tryz.f3.params[j]? = some t → args[j]? = some v → Value.okWide Tryz.prog W .any base t v := hval0
 have hW' := hW
 obtain ⟨p, q, hA0, hV, rfl, hfz, hnd⟩ := hW
 have hA : DataW.TrodAll enc Tryz.prog W 0 (fun _ => true) true Tryz.f3.params.toList args.toList ds p := hA0
 rw [Tryz.params3] at hA hval
 obtain ⟨v0, vs0, d0, ds0, p0, q0, hargs, rfl, rfl, h0, r0⟩ := trodAll_cons hA
 obtain ⟨v1, vs1, d1, ds1, p1, q1, rfl, rfl, rfl, h1, r1⟩ := trodAll_cons r0
 obtain ⟨v2, vs2, d2, ds2, p2, q2, rfl, rfl, rfl, h2, r2⟩ := trodAll_cons r1
 obtain ⟨rfl, rfl, rfl⟩ := trodAll_nil r2
 obtain rfl : args = #[v0, v1, v2] := by cases args; simp_all
 obtain ⟨rfl, rfl⟩ := trodVars_none hV
 clear hA0 hval0
 have lt0 : ∀ x ∈ p0, x.block < W.heap.size := by obtain ⟨m, hm⟩ := h0; exact DataW.trod_lt m _ _ _ hm
 obtain ⟨cs0, rfl, sz0⟩ := okWide_struct underlying23 (hval 0 23 v0 rfl rfl)
 obtain ⟨xa0, xb0, xc0, gq0, gb0⟩ := (rdAsk W).use h0
 obtain rfl : cs0 = #[.int .u8 (xa0.toNat : Int), .int .u8 (xb0.toNat : Int), .int .u8 (xc0.toNat : Int)] := by have hq : cs0.toList = [.int .u8 (xa0.toNat : Int), .int .u8 (xb0.toNat : Int), .int .u8 (xc0.toNat : Int)] := gq0; exact Array.toList_inj.1 hq
 have lt1 : ∀ x ∈ p1, x.block < W.heap.size := by obtain ⟨m, hm⟩ := h1; exact DataW.trod_lt m _ _ _ hm
 obtain ⟨a1, rfl, rfl, rfl, w1⟩ := open_int underlying24 (hval 1 24 v1 rfl rfl) h1
 obtain ⟨t1, rfl, b1⟩ := wf_nat w1 rfl
 have lt2 : ∀ x ∈ p2, x.block < W.heap.size := by obtain ⟨m, hm⟩ := h2; exact DataW.trod_lt m _ _ _ hm
 obtain ⟨a2, rfl, rfl, rfl, w2⟩ := open_int underlying24 (hval 2 24 v2 rfl rfl) h2
 obtain ⟨t2, rfl, b2⟩ := wf_nat w2 rfl
 refine (tbytes_law (L := [old W]) GL (x0 := xa0) (x1 := xb0) (x2 := xc0) (tag := t1) (sn := t2) (by have : (t1 : Int) ≤ 4294967295 := b1; omega) (by have : (t2 : Int) ≤ 4294967295 := b2; omega) (On.start W)).mono fun e W' he => ?_
 obtain ⟨_, rfl, rfl, hon⟩ := he
 have bel := hon.below (Gives.head (old_mono W) fun _ hh => hh)
 exact ⟨_, rfl, _, _, _, [], _, [], hW', trodAll_mk1 (shut_bool underlying4 _), (trodAll_cons_mk (Below.trod laidOut (by kernel_rfl) (of_decide_eq_true (by kernel_rfl)) h0 bel lt0) (trodAll_cons_mk (Below.trod laidOut (by kernel_rfl) (of_decide_eq_true (by kernel_rfl)) h1 bel lt1) (trodAll_cons_mk (Below.trod laidOut (by kernel_rfl) (of_decide_eq_true (by kernel_rfl)) h2 bel lt2) trodAll_mk0))), rfl, bel.frame _, fun h => by cases h⟩
theorem over : Rows.topBytesRow.holds Tryz.pinned (OpenSpec.ofChange Rows.topBytesSpec) :=
 OpenClaim.holds_of_wide 3 Tryz.f3 rfl rfl rfl rfl rfl rfl rfl ⟨rfl, rfl, rfl, rfl, rfl⟩ rfl rfl rfl rfl rfl (by kernel_rfl) func3 (by kernel_rfl)
   (of_decide_eq_true (by kernel_rfl)) (by unfold Func.isWrapper; first | (rw [if_pos (by decide +kernel)]; kernel_rfl) | (rw [if_neg (by decide +kernel)]; exact ⟨rfl, rfl⟩))
   (fun os started H enc _ => lifted os started H enc)
theorem proved : Rows.TopBytesCardSaid :=
 Claim7.holds_tied_plain_at .later [] [.data, .data, .data, .data, .sentinel, .sentinel, .pinned] true (true, "2bc53ffb72ba7484a906419896487cccd2086cb946e6365c6a9b83760b2b408c") true over (fun _ h => by cases h) (by kernel_rfl) (fun _ h => by cases h) topBytes_row_tie rfl ⟨rfl, rfl⟩ (by kernel_rfl) rfl
   (fun f fn hf hfn => by
     obtain rfl : f = 3 := Option.some.inj ((show Tryz.prog.funcNamed "gemel/gemeltop.TopBytes" = some 3 by kernel_rfl).symm.trans hf) |>.symm
     obtain rfl : fn = Tryz.f3 := (Option.some.inj (func3.symm.trans hfn)).symm
     exact ⟨by kernel_rfl, fun j t ht => by
       rw [Tryz.params3] at ht
       have hm : t ∈ [23, 24, 24] := by simpa using Array.mem_of_getElem? ht
       have hall : ([23, 24, 24].all fun u => !Tryz.prog.wantsStandIn u) = true := by kernel_rfl
       exact (show Tryz.prog.wantsStandIn t = false by simpa using List.all_eq_true.1 hall t hm)⟩)
   (by kernel_rfl)
#print axioms proved
end Go.Proofs.YtjfmjbmkkpkppaaGreatDoor.topBytesLaw
