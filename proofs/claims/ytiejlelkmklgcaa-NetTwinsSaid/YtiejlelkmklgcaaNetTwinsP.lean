/-
  NetTwins: whatever the acts, the call returns true and leaves the caller's memory as it was. No condition.
-/
import Derived.Test.YtiejlelkmklgcaaRows
import Derived.Test.YtiejlelkmklgcaaNetTwin
import Derived.Test.YtiejlelkmklgcaaSlArgs
import Derived.WalkKit
import Derived.ProofKit
import Derived.OpenShut
import Derived.ChangeOld
import Derived.Below
namespace Go.Proofs.Ytiejlelkmklgcaa.netTwinsLaw
open Go Go.Sl Go.ChangeShapes Go.WideShapes Go.ChangeAt Go.RowKit
open Go.ChangeMaps (open_string shut_string)
set_option linter.unusedVariables false

theorem own : ownKnob Try.prog.godebug = none := by kernel_rfl
theorem laidOut : laidOutB Try.prog = true := by kernel_rfl
theorem rdAct (W : World) : Rd Try.prog W 44 (fun cs => ∃ a : NetM.A, cs = a.cells ∧ Bytes (.slice a.ax a.bs.length a.ac) a.bs (hp W)) :=
  (rd_fields (W := W) Try.underlying44 (Rs := [_, _, _, _, _]) ⟨(rd_int Try.underlying3), (rd_int Try.underlying3), (rd_int Try.underlying3), (rd_int Try.underlying3), (rd_bytes Try.underlying30 Try.underlying5 (by kernel_rfl)), trivial⟩).mono fun cs ⟨hl, f0, f1, f2, f3, f4, _⟩ => by
    rw [show Try.prog.cellsOf 44 = 5 by kernel_rfl] at hl
    have s3 : Try.prog.cellsOf 3 = 1 := by kernel_rfl
    have s30 : Try.prog.cellsOf 30 = 1 := by kernel_rfl
    match cs, hl with
    | [x0, x1, x2, x3, x4], _ =>
      obtain ⟨z0, f0, w0⟩ := f0
      simp [s3] at f0
      obtain ⟨z1, f1, w1⟩ := f1
      simp [s3] at f1
      obtain ⟨z2, f2, w2⟩ := f2
      simp [s3] at f2
      obtain ⟨z3, f3, w3⟩ := f3
      simp [s3] at f3
      obtain ⟨a4, c4, l4, f4, B4⟩ := f4
      simp [s30] at f4
      subst f0 f1 f2 f3 f4
      exact ⟨⟨z0, z1, z2, z3, a4, c4, l4⟩, rfl, B4⟩

set_option maxRecDepth 100000 in
theorem lifted (os : Os) (started : os.Started) (H : Type) (enc : TypeId × Value → H) :
    ReturnsInHanded {} Try.checked os 8 .any (Rows.netTwinsSpec.pre6 enc Try.prog Try.f8 Rows.netTwinsRow.domain false) (Rows.netTwinsSpec.post enc Try.prog Try.f8 false true false false) := by
  refine returnsInHanded_of_change (C := Try.checked) own started (by kernel_rfl) Try.func8
    (ChangeSpec.witness6 (enc := enc) (C := Try.checked) false ⟨#[], #[.slice none 0 0, .slice none 0 0, .slice none 0 0], []⟩ 8 (by kernel_rfl) (by kernel_rfl) (by kernel_rfl) (by kernel_rfl)) ?_
  intro W base args ds gs before hval0 hW hcnd _
  have hval : ∀ (j : Nat) t v, Try.f8.params[j]? = some t → args[j]? = some v → Value.okWide Try.prog W .any base t v := hval0
  have hW' := hW
  obtain ⟨p, q, hA0, hV, rfl, hfz, hnd⟩ := hW
  have hA : DataW.TrodAll enc Try.prog W 0 (fun _ => true) true Try.f8.params.toList args.toList ds p := hA0
  rw [Try.params8] at hA hval
  obtain ⟨v0, vs0, d0, ds0, p0, q0, hargs, rfl, rfl, h0, r0⟩ := trodAll_cons hA
  obtain ⟨v1, vs1, d1, ds1, p1, q1, rfl, rfl, rfl, h1, r1⟩ := trodAll_cons r0
  obtain ⟨v2, vs2, d2, ds2, p2, q2, rfl, rfl, rfl, h2, r2⟩ := trodAll_cons r1
  obtain ⟨rfl, rfl, rfl⟩ := trodAll_nil r2
  obtain rfl : args = #[v0, v1, v2] := by cases args; simp_all
  obtain ⟨rfl, rfl⟩ := trodVars_none hV
  clear hA0 hval0
  have lt0 : ∀ x ∈ p0, x.block < W.heap.size := by obtain ⟨m, hm⟩ := h0; exact DataW.trod_lt m _ _ _ hm
  obtain ⟨a0, n0, c0, rfl⟩ := okWide_slice Try.underlying37 (hval 0 37 v0 rfl rfl)
  obtain ⟨a0_, c0_, l0, e0, B0, C0⟩ := (rd_sliceOf (W := W) (s := 5) Try.underlying37 (by kernel_rfl) (by omega) (rdAct W)).use h0
  simp [Value.cells] at e0
  obtain ⟨rfl, rfl, rfl⟩ := e0
  have lt1 : ∀ x ∈ p1, x.block < W.heap.size := by obtain ⟨m, hm⟩ := h1; exact DataW.trod_lt m _ _ _ hm
  obtain ⟨a1, n1, c1, rfl⟩ := okWide_slice Try.underlying37 (hval 1 37 v1 rfl rfl)
  obtain ⟨a1_, c1_, l1, e1, B1, C1⟩ := (rd_sliceOf (W := W) (s := 5) Try.underlying37 (by kernel_rfl) (by omega) (rdAct W)).use h1
  simp [Value.cells] at e1
  obtain ⟨rfl, rfl, rfl⟩ := e1
  have lt2 : ∀ x ∈ p2, x.block < W.heap.size := by obtain ⟨m, hm⟩ := h2; exact DataW.trod_lt m _ _ _ hm
  obtain ⟨a2, n2, c2, rfl⟩ := okWide_slice Try.underlying37 (hval 2 37 v2 rfl rfl)
  obtain ⟨a2_, c2_, l2, e2, B2, C2⟩ := (rd_sliceOf (W := W) (s := 5) Try.underlying37 (by kernel_rfl) (by omega) (rdAct W)).use h2
  simp [Value.cells] at e2
  obtain ⟨rfl, rfl, rfl⟩ := e2
  refine (twins_ok (F := [old W]) (On.start W) (Gives.old C0) (fun a ha => Gives.old (B0 a ha)) (Gives.old C1) (fun a ha => Gives.old (B1 a ha)) (Gives.old C2) (fun a ha => Gives.old (B2 a ha))).mono fun e W' he => ?_
  obtain ⟨_, rfl, rfl, hon⟩ := he
  have bel := hon.below (Gives.head (old_mono W) fun _ hh => hh)
  exact ⟨_, rfl, _, _, _, [], _, [], hW', trodAll_mk1 (shut_bool Try.underlying4 _), (trodAll_cons_mk (Below.trod laidOut (by kernel_rfl) (of_decide_eq_true (by kernel_rfl)) h0 bel lt0) (trodAll_cons_mk (Below.trod laidOut (by kernel_rfl) (of_decide_eq_true (by kernel_rfl)) h1 bel lt1) (trodAll_cons_mk (Below.trod laidOut (by kernel_rfl) (of_decide_eq_true (by kernel_rfl)) h2 bel lt2) trodAll_mk0))), rfl, bel.frame _, fun h => by cases h⟩

theorem over : Rows.netTwinsRow.holds Try.pinned (OpenSpec.ofChange Rows.netTwinsSpec) :=
  OpenClaim.holds_of_wide 8 Try.f8 rfl rfl rfl rfl rfl rfl rfl ⟨rfl, rfl, rfl, rfl, rfl⟩ rfl rfl rfl rfl rfl (by kernel_rfl) Try.func8 (by kernel_rfl)
    (of_decide_eq_true (by kernel_rfl)) (by unfold Func.isWrapper; first | (rw [if_pos (by decide +kernel)]; kernel_rfl) | (rw [if_neg (by decide +kernel)]; exact ⟨rfl, rfl⟩))
    (fun os started H enc _ => lifted os started H enc)

/-- The statement. -/
theorem proved : Rows.NetTwinsSaid := over
#print axioms proved
end Go.Proofs.Ytiejlelkmklgcaa.netTwinsLaw
