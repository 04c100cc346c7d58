/-
  UnitTwins: whatever the acts, the call returns true and leaves the caller's memory as it was. No condition.
-/
import Derived.Test.YtjbgiingimhnnaaGreatRows
import Derived.Test.YtjbgiingimhnnaaGreatUnitTwinsFQ7
import Derived.Test.YtjbgiingimhnnaaGreatUnitTwinsFQ1
import Derived.WalkKit
import Derived.ProofKit
import Derived.OpenShut
import Derived.ChangeOld
import Derived.Below
namespace Go.Proofs.YtjbgiingimhnnaaGreat.unitTwinsLaw
open Go.Proofs.Tryz
open Go Go.Sl Go.ChangeShapes Go.WideShapes Go.ChangeAt Go.RowKit
open Go.ChangeMaps (open_string shut_string)
set_option linter.unusedVariables false
theorem own : ownKnob Tryz.prog.godebug = none := by kernel_rfl
theorem laidOut : laidOutB Tryz.prog = true := by kernel_rfl
theorem wfU64 {z : Int} (h : (Lit.int .u64 z).wf = true) : 0 ≤ z ∧ z < 18446744073709551616 := by
  simp [Lit.wf] at h
  have e1 : IntKind.u64.min = 0 := rfl
  have e2 : IntKind.u64.max = 18446744073709551615 := rfl
  omega
open Go.Sl.UnM in
set_option maxRecDepth 20000 in
theorem rdCmd (W : World) : Rd Tryz.prog W 25 (fun cs => ∃ a : CmX, cs = a.cells ∧ (Bytes (.slice a.ax a.bs.length a.ac) a.bs (hp W) ∧ okCm a.cm)) :=
  (rd_fields (W := W) underlying25 (Rs := [_, _, _, _, _, _, _, _]) ⟨(rd_int underlying3), (rd_int underlying3), (rd_int underlying3), (rd_bytes underlying22 underlying5 (by kernel_rfl)), (rd_int underlying23), (rd_int underlying23), (rd_int underlying3), (rd_bool underlying4), trivial⟩).mono fun cs ⟨hl, f0, f1, f2, f3, f4, f5, f6, f7, _⟩ => by
    rw [show Tryz.prog.cellsOf 25 = 8 by kernel_rfl] at hl
    have s3 : Tryz.prog.cellsOf 3 = 1 := by kernel_rfl
    have s4 : Tryz.prog.cellsOf 4 = 1 := by kernel_rfl
    have s22 : Tryz.prog.cellsOf 22 = 1 := by kernel_rfl
    have s23 : Tryz.prog.cellsOf 23 = 1 := by kernel_rfl
    match cs, hl with
    | [x0, x1, x2, x3, x4, x5, x6, x7], _ =>
      obtain ⟨z0, f0, w0⟩ := f0
      simp [s3] at f0
      obtain ⟨z1, f1, w1⟩ := f1
      simp [s3] at f1
      obtain ⟨z2, f2, w2⟩ := f2
      simp [s3] at f2
      obtain ⟨a3, c3, l3, f3, B3⟩ := f3
      simp [s22] at f3
      obtain ⟨z4, f4, w4⟩ := f4
      simp [s23] at f4
      obtain ⟨z5, f5, w5⟩ := f5
      simp [s23] at f5
      obtain ⟨z6, f6, w6⟩ := f6
      simp [s3] at f6
      obtain ⟨z7, f7⟩ := f7
      simp [s4] at f7
      subst f0 f1 f2 f3 f4 f5 f6 f7
      exact ⟨⟨z0, z1, z2, a3, c3, l3, z4, z5, z6, z7⟩, rfl, B3, wfU64 w4, wfU64 w5⟩
open Go.Sl.UnM in
set_option maxRecDepth 20000 in
theorem rdAct (W : World) : Rd Tryz.prog W 27 (fun cs => ∃ a : A17, cs = a.cells ∧ (Bytes (.slice a.c.ax a.c.bs.length a.c.ac) a.c.bs (hp W) ∧ okCm a.c.cm)) :=
  (rd_fields (W := W) underlying27 (Rs := [_, _, _, _, _, _]) ⟨(rd_int underlying3), (rdCmd W), (rd_bool underlying4), (rd_int underlying23), (rd_int underlying23), (rd_bool underlying4), trivial⟩).mono fun cs ⟨hl, f0, f1, f2, f3, f4, f5, _⟩ => by
    rw [show Tryz.prog.cellsOf 27 = 13 by kernel_rfl] at hl
    have s3 : Tryz.prog.cellsOf 3 = 1 := by kernel_rfl
    have s4 : Tryz.prog.cellsOf 4 = 1 := by kernel_rfl
    have s23 : Tryz.prog.cellsOf 23 = 1 := by kernel_rfl
    have s25 : Tryz.prog.cellsOf 25 = 8 := by kernel_rfl
    match cs, hl with
    | [x0, x1, x2, x3, x4, x5, x6, x7, x8, x9, x10, x11, x12], _ =>
      obtain ⟨z0, f0, w0⟩ := f0
      simp [s3] at f0
      obtain ⟨⟨kd1, at1, nn1, ax1, ac1, bs1, ky1, nw1, ty1, fo1⟩, f1, B1⟩ := f1
      simp [s25, CmX.cells] at f1
      obtain ⟨f1q0, f1q1, f1q2, f1q3, f1q4, f1q5, f1q6, f1q7⟩ := f1
      obtain ⟨z2, f2⟩ := f2
      simp [s4] at f2
      obtain ⟨z3, f3, w3⟩ := f3
      simp [s23] at f3
      obtain ⟨z4, f4, w4⟩ := f4
      simp [s23] at f4
      obtain ⟨z5, f5⟩ := f5
      simp [s4] at f5
      subst f0 f1q0 f1q1 f1q2 f1q3 f1q4 f1q5 f1q6 f1q7 f2 f3 f4 f5
      exact ⟨⟨z0, ⟨kd1, at1, nn1, ax1, ac1, bs1, ky1, nw1, ty1, fo1⟩, z2, z3, z4, z5⟩, rfl, B1⟩
set_option maxRecDepth 100000 in
theorem lifted (os : Os) (started : os.Started) (H : Type) (enc : TypeId × Value → H) :
    ReturnsInHanded {} Tryz.checked os 4 .any (Rows.unitTwinsSpec.pre6 enc Tryz.prog Tryz.f4 Rows.unitTwinsRow.domain false) (Rows.unitTwinsSpec.post enc Tryz.prog Tryz.f4 false true false false) := by
  refine returnsInHanded_of_change (C := Tryz.checked) own started (by kernel_rfl) func4
    (ChangeSpec.witness6 (enc := enc) (C := Tryz.checked) false ⟨#[], #[.slice none 0 0, .slice none 0 0, .slice none 0 0], []⟩ 8 (by kernel_rfl) (by kernel_rfl) (by kernel_rfl) (by kernel_rfl)) ?_
  intro W base args ds gs before hval0 hW hcnd _
  have hval : ∀ (j : Nat) t v, Tryz.f4.params[j]? = some t → args[j]? = some v → Value.okWide Tryz.prog W .any base t v := hval0
  have hW' := hW
  obtain ⟨p, q, hA0, hV, rfl, hfz, hnd⟩ := hW
  have hA : DataW.TrodAll enc Tryz.prog W 0 (fun _ => true) true Tryz.f4.params.toList args.toList ds p := hA0
  rw [Tryz.params4] at hA hval
  obtain ⟨v0, vs0, d0, ds0, p0, q0, hargs, rfl, rfl, h0, r0⟩ := trodAll_cons hA
  obtain ⟨v1, vs1, d1, ds1, p1, q1, rfl, rfl, rfl, h1, r1⟩ := trodAll_cons r0
  obtain ⟨v2, vs2, d2, ds2, p2, q2, rfl, rfl, rfl, h2, r2⟩ := trodAll_cons r1
  obtain ⟨rfl, rfl, rfl⟩ := trodAll_nil r2
  obtain rfl : args = #[v0, v1, v2] := by cases args; simp_all
  obtain ⟨rfl, rfl⟩ := trodVars_none hV
  clear hA0 hval0
  have lt0 : ∀ x ∈ p0, x.block < W.heap.size := by obtain ⟨m, hm⟩ := h0; exact DataW.trod_lt m _ _ _ hm
  obtain ⟨a0, n0, c0, rfl⟩ := okWide_slice underlying30 (hval 0 30 v0 rfl rfl)
  obtain ⟨a0_, c0_, l0, e0, B0, C0⟩ := (rd_sliceOf (W := W) (s := 13) underlying30 (by kernel_rfl) (by omega) (rdAct W)).use h0
  simp [Value.cells] at e0
  obtain ⟨rfl, rfl, rfl⟩ := e0
  have lt1 : ∀ x ∈ p1, x.block < W.heap.size := by obtain ⟨m, hm⟩ := h1; exact DataW.trod_lt m _ _ _ hm
  obtain ⟨a1, n1, c1, rfl⟩ := okWide_slice underlying30 (hval 1 30 v1 rfl rfl)
  obtain ⟨a1_, c1_, l1, e1, B1, C1⟩ := (rd_sliceOf (W := W) (s := 13) underlying30 (by kernel_rfl) (by omega) (rdAct W)).use h1
  simp [Value.cells] at e1
  obtain ⟨rfl, rfl, rfl⟩ := e1
  have lt2 : ∀ x ∈ p2, x.block < W.heap.size := by obtain ⟨m, hm⟩ := h2; exact DataW.trod_lt m _ _ _ hm
  obtain ⟨a2, n2, c2, rfl⟩ := okWide_slice underlying30 (hval 2 30 v2 rfl rfl)
  obtain ⟨a2_, c2_, l2, e2, B2, C2⟩ := (rd_sliceOf (W := W) (s := 13) underlying30 (by kernel_rfl) (by omega) (rdAct W)).use h2
  simp [Value.cells] at e2
  obtain ⟨rfl, rfl, rfl⟩ := e2
  refine (utwins_law (F := [old W]) (On.start W) (Gives.old C0) (fun a ha => ⟨Gives.old (B0 a ha).1, (B0 a ha).2⟩) (Gives.old C1) (fun a ha => ⟨Gives.old (B1 a ha).1, (B1 a ha).2⟩) (Gives.old C2) (fun a ha => ⟨Gives.old (B2 a ha).1, (B2 a ha).2⟩)).mono fun e W' he => ?_
  obtain ⟨_, rfl, rfl, hon⟩ := he
  have bel := hon.below (Gives.head (old_mono W) fun _ hh => hh)
  exact ⟨_, rfl, _, _, _, [], _, [], hW', trodAll_mk1 (shut_bool underlying4 _), (trodAll_cons_mk (Below.trod laidOut (by kernel_rfl) (of_decide_eq_true (by kernel_rfl)) h0 bel lt0) (trodAll_cons_mk (Below.trod laidOut (by kernel_rfl) (of_decide_eq_true (by kernel_rfl)) h1 bel lt1) (trodAll_cons_mk (Below.trod laidOut (by kernel_rfl) (of_decide_eq_true (by kernel_rfl)) h2 bel lt2) trodAll_mk0))), rfl, bel.frame _, fun h => by cases h⟩
theorem over : Rows.unitTwinsRow.holds Tryz.pinned (OpenSpec.ofChange Rows.unitTwinsSpec) :=
  OpenClaim.holds_of_wide 4 Tryz.f4 rfl rfl rfl rfl rfl rfl rfl ⟨rfl, rfl, rfl, rfl, rfl⟩ rfl rfl rfl rfl rfl (by kernel_rfl) func4 (by kernel_rfl)
    (of_decide_eq_true (by kernel_rfl)) (by unfold Func.isWrapper; first | (rw [if_pos (by decide +kernel)]; kernel_rfl) | (rw [if_neg (by decide +kernel)]; exact ⟨rfl, rfl⟩))
    (fun os started H enc _ => lifted os started H enc)
/-- The statement. -/
theorem proved : Rows.UnitTwinsSaid := over
#print axioms proved
end Go.Proofs.YtjbgiingimhnnaaGreat.unitTwinsLaw
