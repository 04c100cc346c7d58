/-
  TopSense: whatever the host and the command, the call returns true and leaves the caller's memory as it was. The listed package variables read as listed: the card ties them to the program's text.
-/
import Derived.Test.YtjfmjbmkkpkppaaGreatDoorRows
import Derived.Test.YtjfmjbmkkpkppaaGreatDoorTopSenseFQ7
import Derived.Test.YtjfmjbmkkpkppaaGreatDoorTopSenseFQ1
import Derived.Test.YtjfmjbmkkpkppaaGreatDoorTie
import Derived.Test.YtjfmjbmkkpkppaaGreatDoorCards
import Derived.SevenTiedAt
import Derived.Stop.Joined
import Derived.WalkKit
import Derived.ProofKit
import Derived.OpenShut
import Derived.ChangeOld
import Derived.Below
set_option linter.unusedVariables false
set_option linter.unusedSimpArgs false
namespace Go.Proofs.YtjfmjbmkkpkppaaGreatDoor.topSenseLaw
open Go.Proofs.Tryz
open Go Go.Sl Go.ChangeShapes Go.WideShapes Go.ChangeAt Go.RowKit
open Go.ChangeMaps (open_string shut_string)
set_option linter.unusedVariables false
theorem own : ownKnob Tryz.prog.godebug = none := by kernel_rfl
theorem laidOut : laidOutB Tryz.prog = true := by kernel_rfl
theorem wfU64 {z : Int} (h : (Lit.int .u64 z).wf = true) : 0 ≤ z ∧ z < 18446744073709551616 := by
  simp [Lit.wf] at h
  have e1 : IntKind.u64.min = 0 := rfl
  have e2 : IntKind.u64.max = 18446744073709551615 := rfl
  omega
open Go.Sl.UnM in
set_option maxRecDepth 20000 in
theorem rdCmd (W : World) : Rd Tryz.prog W 29 (fun cs => ∃ a : CmX, cs = a.cells ∧ (Bytes (.slice a.ax a.bs.length a.ac) a.bs (hp W) ∧ okCm a.cm)) :=
  (rd_fields (W := W) underlying29 (Rs := [_, _, _, _, _, _, _, _]) ⟨(rd_int underlying3), (rd_int underlying3), (rd_int underlying3), (rd_bytes underlying26 underlying5 (by kernel_rfl)), (rd_int underlying27), (rd_int underlying27), (rd_int underlying3), (rd_bool underlying4), trivial⟩).mono fun cs ⟨hl, f0, f1, f2, f3, f4, f5, f6, f7, _⟩ => by
    rw [show Tryz.prog.cellsOf 29 = 8 by kernel_rfl] at hl
    have s3 : Tryz.prog.cellsOf 3 = 1 := by kernel_rfl
    have s4 : Tryz.prog.cellsOf 4 = 1 := by kernel_rfl
    have s26 : Tryz.prog.cellsOf 26 = 1 := by kernel_rfl
    have s27 : Tryz.prog.cellsOf 27 = 1 := by kernel_rfl
    match cs, hl with
    | [x0, x1, x2, x3, x4, x5, x6, x7], _ =>
      obtain ⟨z0, f0, w0⟩ := f0
      simp [s3] at f0
      obtain ⟨z1, f1, w1⟩ := f1
      simp [s3] at f1
      obtain ⟨z2, f2, w2⟩ := f2
      simp [s3] at f2
      obtain ⟨a3, c3, l3, f3, B3⟩ := f3
      simp [s26] at f3
      obtain ⟨z4, f4, w4⟩ := f4
      simp [s27] at f4
      obtain ⟨z5, f5, w5⟩ := f5
      simp [s27] at f5
      obtain ⟨z6, f6, w6⟩ := f6
      simp [s3] at f6
      obtain ⟨z7, f7⟩ := f7
      simp [s4] at f7
      subst f0 f1 f2 f3 f4 f5 f6 f7
      exact ⟨⟨z0, z1, z2, a3, c3, l3, z4, z5, z6, z7⟩, rfl, B3, wfU64 w4, wfU64 w5⟩
set_option maxRecDepth 100000 in
theorem lifted (os : Os) (started : os.Started) (H : Type) (enc : TypeId × Value → H) :
    ReturnsInHanded {} Tryz.checked os 4 .any (fun w args => (Rows.topSenseSpec.pre enc Tryz.prog Tryz.f4 Rows.topSenseRow.domain false w args ∧ laidMetH Tryz.prog laidL w) ∧ sizedMet enc Tryz.prog Tryz.f4 (OpenSpec.ofChange Rows.topSenseSpec) false w args) (Rows.topSenseSpec.post enc Tryz.prog Tryz.f4 false true false false) := by
  refine returnsLaidShaped (C := Tryz.checked) (X := fun w _ => laidMetH Tryz.prog laidL w) (fun _ _ _ hh h => h.of_heap hh) own started (by kernel_rfl) func4
    (ChangeSpec.witness_shaped (enc := enc) (C := Tryz.checked) (os := os) (X := fun w _ => laidMetH Tryz.prog laidL w) false (World.laidAll Tryz.prog os laidL) #[.int .i64 0, .agg #[.int .i64 0, .int .i64 0, .int .i64 0, .slice none 0 0, .int .u64 0, .int .u64 0, .int .i64 0, .bool false]] 8 (World.laidAll_os _ _ _)
      (World.shaped_of_ZipB (by kernel_rfl) (by kernel_rfl)) (by kernel_rfl) (by kernel_rfl) (by kernel_rfl)
      (by rw [MakeChecks.laidMetH_plain _ _ _ laid_none]; exact laidMet_laidAll _ (by kernel_rfl) (by kernel_rfl))) ?_
  intro W base args ds gs before hval0 hW hL hS
  obtain ⟨mg, GL⟩ := glp_of hS hL
  have hval : ∀ (j : Nat) t v, Tryz.f4.params[j]? = some t → args[j]? = some v → Value.okWide Tryz.prog W .any base t v := hval0
  have hW' := hW
  obtain ⟨p, q, hA0, hV, rfl, hfz, hnd⟩ := hW
  have hA : DataW.TrodAll enc Tryz.prog W 0 (fun _ => true) true Tryz.f4.params.toList args.toList ds p := hA0
  rw [Tryz.params4] at hA hval
  obtain ⟨v0, vs0, d0, ds0, p0, q0, hargs, rfl, rfl, h0, r0⟩ := trodAll_cons hA
  obtain ⟨v1, vs1, d1, ds1, p1, q1, rfl, rfl, rfl, h1, r1⟩ := trodAll_cons r0
  obtain ⟨rfl, rfl, rfl⟩ := trodAll_nil r1
  obtain rfl : args = #[v0, v1] := by cases args; simp_all
  obtain ⟨rfl, rfl⟩ := trodVars_none hV
  clear hA0 hval0
  have lt0 : ∀ x ∈ p0, x.block < W.heap.size := by obtain ⟨m, hm⟩ := h0; exact DataW.trod_lt m _ _ _ hm
  obtain ⟨a0, rfl, rfl, rfl, w0⟩ := open_int underlying3 (hval 0 3 v0 rfl rfl) h0
  have lt1 : ∀ x ∈ p1, x.block < W.heap.size := by obtain ⟨m, hm⟩ := h1; exact DataW.trod_lt m _ _ _ hm
  obtain ⟨cs1, rfl, sz1⟩ := okWide_struct underlying29 (hval 1 29 v1 rfl rfl)
  obtain ⟨x1, gq1, gb1⟩ := (rdCmd W).use h1
  obtain rfl : cs1 = #[.int .i64 x1.kind, .int .i64 x1.at_, .int .i64 x1.n, .slice x1.ax x1.bs.length x1.ac, .int .u64 x1.key, .int .u64 x1.new, .int .i64 x1.typ, .bool x1.force] := by have hq : cs1.toList = [.int .i64 x1.kind, .int .i64 x1.at_, .int .i64 x1.n, .slice x1.ax x1.bs.length x1.ac, .int .u64 x1.key, .int .u64 x1.new, .int .i64 x1.typ, .bool x1.force] := gq1; exact Array.toList_inj.1 hq
  refine (tsense_law (L := [old W]) GL (kind := x1.kind) (at_ := x1.at_) (n := x1.n) (key := x1.key) (new := x1.new) (typ := x1.typ) (force := x1.force) (data := x1.bs) (ax := x1.ax) (cx := x1.ac) gb1.2 (On.start W) (Gives.old gb1.1)).mono fun e W' he => ?_
  obtain ⟨_, rfl, rfl, hon⟩ := he
  have bel := hon.below (Gives.head (old_mono W) fun _ hh => hh)
  exact ⟨_, rfl, _, _, _, [], _, [], hW', trodAll_mk1 (shut_bool underlying4 _), (trodAll_cons_mk (Below.trod laidOut (by kernel_rfl) (of_decide_eq_true (by kernel_rfl)) h0 bel lt0) (trodAll_cons_mk (Below.trod laidOut (by kernel_rfl) (of_decide_eq_true (by kernel_rfl)) h1 bel lt1) trodAll_mk0)), rfl, bel.frame _, fun h => by cases h⟩
theorem over : Rows.topSenseRow.holds Tryz.pinned (OpenSpec.ofChange Rows.topSenseSpec) :=
  OpenClaim.holds_of_wide 4 Tryz.f4 rfl rfl rfl rfl rfl rfl rfl ⟨rfl, rfl, rfl, rfl, rfl⟩ rfl rfl rfl rfl rfl (by kernel_rfl) func4 (by kernel_rfl)
    (of_decide_eq_true (by kernel_rfl)) (by unfold Func.isWrapper; first | (rw [if_pos (by decide +kernel)]; kernel_rfl) | (rw [if_neg (by decide +kernel)]; exact ⟨rfl, rfl⟩))
    (fun os started H enc _ => lifted os started H enc)
theorem proved : Rows.TopSenseCardSaid :=
  Claim7.holds_tied_plain_at .later [] [.data, .data, .data, .data, .sentinel, .sentinel, .pinned] true (true, "2bc53ffb72ba7484a906419896487cccd2086cb946e6365c6a9b83760b2b408c") true over (fun _ h => by cases h) (by kernel_rfl) (fun _ h => by cases h) topSense_row_tie rfl ⟨rfl, rfl⟩ (by kernel_rfl) rfl
    (fun f fn hf hfn => by
      obtain rfl : f = 4 := Option.some.inj ((show Tryz.prog.funcNamed "gemel/gemeltop.TopSense" = some 4 by kernel_rfl).symm.trans hf) |>.symm
      obtain rfl : fn = Tryz.f4 := (Option.some.inj (func4.symm.trans hfn)).symm
      exact ⟨by kernel_rfl, fun j t ht => by
        rw [Tryz.params4] at ht
        have hm : t ∈ [3, 29] := by simpa using Array.mem_of_getElem? ht
        have hall : ([3, 29].all fun u => !Tryz.prog.wantsStandIn u) = true := by kernel_rfl
        exact (show Tryz.prog.wantsStandIn t = false by simpa using List.all_eq_true.1 hall t hm)⟩)
    (by kernel_rfl)
#print axioms proved
end Go.Proofs.YtjfmjbmkkpkppaaGreatDoor.topSenseLaw
