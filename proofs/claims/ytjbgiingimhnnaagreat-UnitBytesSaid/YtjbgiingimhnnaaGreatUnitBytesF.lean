/-
  UnitBytes: whatever the bytes and the act, the call returns true and leaves the caller's memory as it was. No condition.
-/
import Derived.Test.YtjbgiingimhnnaaGreatRows
import Derived.Test.YtjbgiingimhnnaaGreatUnitBytesFQ7
import Derived.Test.YtjbgiingimhnnaaGreatUnitBytesFQ1
import Derived.WalkKit
import Derived.ProofKit
import Derived.OpenShut
import Derived.ChangeOld
import Derived.Below
namespace Go.Proofs.YtjbgiingimhnnaaGreat.unitBytesLaw
open Go.Proofs.Tryz
open Go Go.Sl Go.ChangeShapes Go.WideShapes Go.ChangeAt Go.RowKit
open Go.ChangeMaps (open_string shut_string)
set_option linter.unusedVariables false
theorem own : ownKnob Tryz.prog.godebug = none := by kernel_rfl
theorem laidOut : laidOutB Tryz.prog = true := by kernel_rfl
theorem wfU64 {z : Int} (h : (Lit.int .u64 z).wf = true) : 0 ≤ z ∧ z < 18446744073709551616 := by
  simp [Lit.wf] at h
  have e1 : IntKind.u64.min = 0 := rfl
  have e2 : IntKind.u64.max = 18446744073709551615 := rfl
  omega
open Go.Sl.UnM in
set_option maxRecDepth 20000 in
theorem rdCmd (W : World) : Rd Tryz.prog W 25 (fun cs => ∃ a : CmX, cs = a.cells ∧ (Bytes (.slice a.ax a.bs.length a.ac) a.bs (hp W) ∧ okCm a.cm)) :=
  (rd_fields (W := W) underlying25 (Rs := [_, _, _, _, _, _, _, _]) ⟨(rd_int underlying3), (rd_int underlying3), (rd_int underlying3), (rd_bytes underlying22 underlying5 (by kernel_rfl)), (rd_int underlying23), (rd_int underlying23), (rd_int underlying3), (rd_bool underlying4), trivial⟩).mono fun cs ⟨hl, f0, f1, f2, f3, f4, f5, f6, f7, _⟩ => by
    rw [show Tryz.prog.cellsOf 25 = 8 by kernel_rfl] at hl
    have s3 : Tryz.prog.cellsOf 3 = 1 := by kernel_rfl
    have s4 : Tryz.prog.cellsOf 4 = 1 := by kernel_rfl
    have s22 : Tryz.prog.cellsOf 22 = 1 := by kernel_rfl
    have s23 : Tryz.prog.cellsOf 23 = 1 := by kernel_rfl
    match cs, hl with
    | [x0, x1, x2, x3, x4, x5, x6, x7], _ =>
      obtain ⟨z0, f0, w0⟩ := f0
      simp [s3] at f0
      obtain ⟨z1, f1, w1⟩ := f1
      simp [s3] at f1
      obtain ⟨z2, f2, w2⟩ := f2
      simp [s3] at f2
      obtain ⟨a3, c3, l3, f3, B3⟩ := f3
      simp [s22] at f3
      obtain ⟨z4, f4, w4⟩ := f4
      simp [s23] at f4
      obtain ⟨z5, f5, w5⟩ := f5
      simp [s23] at f5
      obtain ⟨z6, f6, w6⟩ := f6
      simp [s3] at f6
      obtain ⟨z7, f7⟩ := f7
      simp [s4] at f7
      subst f0 f1 f2 f3 f4 f5 f6 f7
      exact ⟨⟨z0, z1, z2, a3, c3, l3, z4, z5, z6, z7⟩, rfl, B3, wfU64 w4, wfU64 w5⟩
open Go.Sl.UnM in
set_option maxRecDepth 20000 in
theorem rdAct (W : World) : Rd Tryz.prog W 27 (fun cs => ∃ a : A17, cs = a.cells ∧ (Bytes (.slice a.c.ax a.c.bs.length a.c.ac) a.c.bs (hp W) ∧ okCm a.c.cm)) :=
  (rd_fields (W := W) underlying27 (Rs := [_, _, _, _, _, _]) ⟨(rd_int underlying3), (rdCmd W), (rd_bool underlying4), (rd_int underlying23), (rd_int underlying23), (rd_bool underlying4), trivial⟩).mono fun cs ⟨hl, f0, f1, f2, f3, f4, f5, _⟩ => by
    rw [show Tryz.prog.cellsOf 27 = 13 by kernel_rfl] at hl
    have s3 : Tryz.prog.cellsOf 3 = 1 := by kernel_rfl
    have s4 : Tryz.prog.cellsOf 4 = 1 := by kernel_rfl
    have s23 : Tryz.prog.cellsOf 23 = 1 := by kernel_rfl
    have s25 : Tryz.prog.cellsOf 25 = 8 := by kernel_rfl
    match cs, hl with
    | [x0, x1, x2, x3, x4, x5, x6, x7, x8, x9, x10, x11, x12], _ =>
      obtain ⟨z0, f0, w0⟩ := f0
      simp [s3] at f0
      obtain ⟨⟨kd1, at1, nn1, ax1, ac1, bs1, ky1, nw1, ty1, fo1⟩, f1, B1⟩ := f1
      simp [s25, CmX.cells] at f1
      obtain ⟨f1q0, f1q1, f1q2, f1q3, f1q4, f1q5, f1q6, f1q7⟩ := f1
      obtain ⟨z2, f2⟩ := f2
      simp [s4] at f2
      obtain ⟨z3, f3, w3⟩ := f3
      simp [s23] at f3
      obtain ⟨z4, f4, w4⟩ := f4
      simp [s23] at f4
      obtain ⟨z5, f5⟩ := f5
      simp [s4] at f5
      subst f0 f1q0 f1q1 f1q2 f1q3 f1q4 f1q5 f1q6 f1q7 f2 f3 f4 f5
      exact ⟨⟨z0, ⟨kd1, at1, nn1, ax1, ac1, bs1, ky1, nw1, ty1, fo1⟩, z2, z3, z4, z5⟩, rfl, B1⟩
set_option maxRecDepth 100000 in
theorem lifted (os : Os) (started : os.Started) (H : Type) (enc : TypeId × Value → H) :
    ReturnsInHanded {} Tryz.checked os 3 .any (Rows.unitBytesSpec.pre6 enc Tryz.prog Tryz.f3 Rows.unitBytesRow.domain false) (Rows.unitBytesSpec.post enc Tryz.prog Tryz.f3 false true false false) := by
  refine returnsInHanded_of_change (C := Tryz.checked) own started (by kernel_rfl) func3
    (ChangeSpec.witness6 (enc := enc) (C := Tryz.checked) false ⟨#[], #[.slice none 0 0, .agg #[.int .i64 0, .int .i64 0, .int .i64 0, .int .i64 0, .slice none 0 0, .int .u64 0, .int .u64 0, .int .i64 0, .bool false, .bool false, .int .u64 0, .int .u64 0, .bool false]], []⟩ 8 (by kernel_rfl) (by kernel_rfl) (by kernel_rfl) (by kernel_rfl)) ?_
  intro W base args ds gs before hval0 hW hcnd _
  have hval : ∀ (j : Nat) t v, Tryz.f3.params[j]? = some t → args[j]? = some v → Value.okWide Tryz.prog W .any base t v := hval0
  have hW' := hW
  obtain ⟨p, q, hA0, hV, rfl, hfz, hnd⟩ := hW
  have hA : DataW.TrodAll enc Tryz.prog W 0 (fun _ => true) true Tryz.f3.params.toList args.toList ds p := hA0
  rw [Tryz.params3] at hA hval
  obtain ⟨v0, vs0, d0, ds0, p0, q0, hargs, rfl, rfl, h0, r0⟩ := trodAll_cons hA
  obtain ⟨v1, vs1, d1, ds1, p1, q1, rfl, rfl, rfl, h1, r1⟩ := trodAll_cons r0
  obtain ⟨rfl, rfl, rfl⟩ := trodAll_nil r1
  obtain rfl : args = #[v0, v1] := by cases args; simp_all
  obtain ⟨rfl, rfl⟩ := trodVars_none hV
  clear hA0 hval0
  have lt0 : ∀ x ∈ p0, x.block < W.heap.size := by obtain ⟨m, hm⟩ := h0; exact DataW.trod_lt m _ _ _ hm
  obtain ⟨a0, n0, c0, rfl⟩ := okWide_slice underlying22 (hval 0 22 v0 rfl rfl)
  obtain ⟨a0_, c0_, l0, e0, B0⟩ := (rd_bytes (W := W) underlying22 underlying5 (by kernel_rfl)).use h0
  simp [Value.cells] at e0
  obtain ⟨rfl, rfl, rfl⟩ := e0
  have lt1 : ∀ x ∈ p1, x.block < W.heap.size := by obtain ⟨m, hm⟩ := h1; exact DataW.trod_lt m _ _ _ hm
  obtain ⟨cs1, rfl, sz1⟩ := okWide_struct underlying27 (hval 1 27 v1 rfl rfl)
  obtain ⟨x1, gq1, gb1⟩ := (rdAct W).use h1
  obtain rfl : cs1 = #[.int .i64 x1.h, .int .i64 x1.c.cm.kind, .int .i64 x1.c.cm.at_, .int .i64 x1.c.cm.n, .slice x1.c.ax x1.c.bs.length x1.c.ac, .int .u64 x1.c.cm.key, .int .u64 x1.c.cm.new, .int .i64 x1.c.cm.typ, .bool x1.c.cm.force, .bool x1.once, .int .u64 x1.id, .int .u64 x1.floor, .bool x1.code] := by have hq : cs1.toList = [.int .i64 x1.h, .int .i64 x1.c.cm.kind, .int .i64 x1.c.cm.at_, .int .i64 x1.c.cm.n, .slice x1.c.ax x1.c.bs.length x1.c.ac, .int .u64 x1.c.cm.key, .int .u64 x1.c.cm.new, .int .i64 x1.c.cm.typ, .bool x1.c.cm.force, .bool x1.once, .int .u64 x1.id, .int .u64 x1.floor, .bool x1.code] := gq1; exact Array.toList_inj.1 hq
  refine (ubytes_law (F := [old W]) gb1.2 (On.start W) (Gives.old B0) (Gives.old gb1.1)).mono fun e W' he => ?_
  obtain ⟨_, rfl, rfl, hon⟩ := he
  have bel := hon.below (Gives.head (old_mono W) fun _ hh => hh)
  exact ⟨_, rfl, _, _, _, [], _, [], hW', trodAll_mk1 (shut_bool underlying4 _), (trodAll_cons_mk (Below.trod laidOut (by kernel_rfl) (of_decide_eq_true (by kernel_rfl)) h0 bel lt0) (trodAll_cons_mk (Below.trod laidOut (by kernel_rfl) (of_decide_eq_true (by kernel_rfl)) h1 bel lt1) trodAll_mk0)), rfl, bel.frame _, fun h => by cases h⟩
theorem over : Rows.unitBytesRow.holds Tryz.pinned (OpenSpec.ofChange Rows.unitBytesSpec) :=
  OpenClaim.holds_of_wide 3 Tryz.f3 rfl rfl rfl rfl rfl rfl rfl ⟨rfl, rfl, rfl, rfl, rfl⟩ rfl rfl rfl rfl rfl (by kernel_rfl) func3 (by kernel_rfl)
    (of_decide_eq_true (by kernel_rfl)) (by unfold Func.isWrapper; first | (rw [if_pos (by decide +kernel)]; kernel_rfl) | (rw [if_neg (by decide +kernel)]; exact ⟨rfl, rfl⟩))
    (fun os started H enc _ => lifted os started H enc)
/-- The statement. -/
theorem proved : Rows.UnitBytesSaid := over
#print axioms proved
end Go.Proofs.YtjbgiingimhnnaaGreat.unitBytesLaw
