/-
  WitnessBytes: whatever the register and the bytes, the call returns true and leaves the caller's memory as it was. No condition.
-/
import Derived.Test.YtlahgihjjabgmaaRows
import Derived.Test.YtlahgihjjabgmaaWit2
import Derived.Test.YtlahgihjjabgmaaSlArgs
import Derived.Test.YtlahgihjjabgmaaSlBits
import Derived.WalkKit
import Derived.ProofKit
import Derived.OpenShut
import Derived.ChangeOld
import Derived.Below
namespace Go.Proofs.Ytlahgihjjabgmaa.witnessBytesLaw
open Go Go.Sl Go.ChangeShapes Go.WideShapes Go.ChangeAt Go.RowKit
open Go.ChangeMaps (open_string shut_string)
set_option linter.unusedVariables false

theorem own : ownKnob Try.prog.godebug = none := by kernel_rfl
theorem laidOut : laidOutB Try.prog = true := by kernel_rfl
set_option maxRecDepth 20000 in
theorem rdReg (W : World) : Rd Try.prog W 73 (fun cs => ∃ (e : Nat) (p m : Int), cs = [.int .u64 (e : Int), .int .i64 p, .int .i64 m] ∧ e < 18446744073709551616) :=
  (rd_fields (W := W) Try.underlying73 (Rs := [_, _, _]) ⟨(rd_int Try.underlying40), (rd_int Try.underlying3), (rd_int Try.underlying3), trivial⟩).mono fun cs ⟨hl, f0, f1, f2, _⟩ => by
    rw [show Try.prog.cellsOf 73 = 3 by kernel_rfl] at hl
    have s3 : Try.prog.cellsOf 3 = 1 := by kernel_rfl
    have s40 : Try.prog.cellsOf 40 = 1 := by kernel_rfl
    match cs, hl with
    | [x0, x1, x2], _ =>
      obtain ⟨z0, f0, w0⟩ := f0
      simp [s40] at f0
      obtain ⟨z1, f1, w1⟩ := f1
      simp [s3] at f1
      obtain ⟨z2, f2, w2⟩ := f2
      simp [s3] at f2
      subst f0 f1 f2
      exact (by obtain ⟨t0, rfl, b0⟩ := wf_nat w0 rfl; exact ⟨t0, z1, z2, rfl, by have : (t0 : Int) ≤ 18446744073709551615 := b0; omega⟩)

set_option maxRecDepth 100000 in
theorem lifted (os : Os) (started : os.Started) (H : Type) (enc : TypeId × Value → H) :
    ReturnsInHanded {} Try.checked os 10 .any (Rows.witnessBytesSpec.pre6 enc Try.prog Try.f10 Rows.witnessBytesRow.domain false) (Rows.witnessBytesSpec.post enc Try.prog Try.f10 false true false false) := by
  refine returnsInHanded_of_change (C := Try.checked) own started (by kernel_rfl) Try.func10
    (ChangeSpec.witness6 (enc := enc) (C := Try.checked) false ⟨#[], #[.agg #[.int .u64 0, .int .i64 0, .int .i64 0], .slice none 0 0], []⟩ 8 (by kernel_rfl) (by kernel_rfl) (by kernel_rfl) (by kernel_rfl)) ?_
  intro W base args ds gs before hval0 hW hcnd _
  have hval : ∀ (j : Nat) t v, Try.f10.params[j]? = some t → args[j]? = some v → Value.okWide Try.prog W .any base t v := hval0
  have hW' := hW
  obtain ⟨p, q, hA0, hV, rfl, hfz, hnd⟩ := hW
  have hA : DataW.TrodAll enc Try.prog W 0 (fun _ => true) true Try.f10.params.toList args.toList ds p := hA0
  rw [Try.params10] at hA hval
  obtain ⟨v0, vs0, d0, ds0, p0, q0, hargs, rfl, rfl, h0, r0⟩ := trodAll_cons hA
  obtain ⟨v1, vs1, d1, ds1, p1, q1, rfl, rfl, rfl, h1, r1⟩ := trodAll_cons r0
  obtain ⟨rfl, rfl, rfl⟩ := trodAll_nil r1
  obtain rfl : args = #[v0, v1] := by cases args; simp_all
  obtain ⟨rfl, rfl⟩ := trodVars_none hV
  clear hA0 hval0
  have lt0 : ∀ x ∈ p0, x.block < W.heap.size := by obtain ⟨m, hm⟩ := h0; exact DataW.trod_lt m _ _ _ hm
  obtain ⟨cs0, rfl, sz0⟩ := okWide_struct Try.underlying73 (hval 0 73 v0 rfl rfl)
  obtain ⟨ge0, gp0, gm0, gq0, gb0⟩ := (rdReg W).use h0
  obtain rfl : cs0 = #[.int .u64 (ge0 : Int), .int .i64 gp0, .int .i64 gm0] := by have hq : cs0.toList = [.int .u64 (ge0 : Int), .int .i64 gp0, .int .i64 gm0] := gq0; exact Array.toList_inj.1 hq
  have lt1 : ∀ x ∈ p1, x.block < W.heap.size := by obtain ⟨m, hm⟩ := h1; exact DataW.trod_lt m _ _ _ hm
  obtain ⟨a1, n1, c1, rfl⟩ := okWide_slice Try.underlying22 (hval 1 22 v1 rfl rfl)
  obtain ⟨a1_, c1_, l1, e1, B1⟩ := (rd_bytes (W := W) Try.underlying22 Try.underlying5 (by kernel_rfl)).use h1
  simp [Value.cells] at e1
  obtain ⟨rfl, rfl, rfl⟩ := e1
  refine (wbytes_ok (F := [old W]) gb0 (On.start W) (Gives.old B1)).mono fun e W' he => ?_
  obtain ⟨_, rfl, rfl, hon⟩ := he
  have bel := hon.below (Gives.head (old_mono W) fun _ hh => hh)
  exact ⟨_, rfl, _, _, _, [], _, [], hW', trodAll_mk1 (shut_bool Try.underlying4 _), (trodAll_cons_mk (Below.trod laidOut (by kernel_rfl) (of_decide_eq_true (by kernel_rfl)) h0 bel lt0) (trodAll_cons_mk (Below.trod laidOut (by kernel_rfl) (of_decide_eq_true (by kernel_rfl)) h1 bel lt1) trodAll_mk0)), rfl, bel.frame _, fun h => by cases h⟩

theorem over : Rows.witnessBytesRow.holds Try.pinned (OpenSpec.ofChange Rows.witnessBytesSpec) :=
  OpenClaim.holds_of_wide 10 Try.f10 rfl rfl rfl rfl rfl rfl rfl ⟨rfl, rfl, rfl, rfl, rfl⟩ rfl rfl rfl rfl rfl (by kernel_rfl) Try.func10 (by kernel_rfl)
    (of_decide_eq_true (by kernel_rfl)) (by unfold Func.isWrapper; first | (rw [if_pos (by decide +kernel)]; kernel_rfl) | (rw [if_neg (by decide +kernel)]; exact ⟨rfl, rfl⟩))
    (fun os started H enc _ => lifted os started H enc)

/-- The statement. -/
theorem proved : Rows.WitnessBytesSaid := over
#print axioms proved
end Go.Proofs.Ytlahgihjjabgmaa.witnessBytesLaw
