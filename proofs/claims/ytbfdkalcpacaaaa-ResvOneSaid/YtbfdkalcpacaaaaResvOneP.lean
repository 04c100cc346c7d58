/-
  ResvOne: whatever the acts, the call returns true and leaves the caller's memory as it was. No condition.
-/
import Derived.Test.YtbfdkalcpacaaaaRows
import Derived.Test.YtbfdkalcpacaaaaResvOn
import Derived.Test.YtbfdkalcpacaaaaSlArgs
import Derived.WalkKit
import Derived.ProofKit
import Derived.OpenShut
import Derived.ChangeOld
import Derived.Below
namespace Go.Proofs.Ytbfdkalcpacaaaa.resvOneLaw
open Go Go.Sl Go.ChangeShapes Go.WideShapes Go.ChangeAt Go.RowKit
open Go.ChangeMaps (open_string shut_string)
set_option linter.unusedVariables false

theorem own : ownKnob Try.prog.godebug = none := by kernel_rfl
theorem laidOut : laidOutB Try.prog = true := by kernel_rfl
set_option maxRecDepth 20000 in
theorem rdAct (W : World) : Rd Try.prog W 51 (fun cs => ∃ a : RsM.Act, cs = a.cells ∧ True) :=
  (rd_fields (W := W) Try.underlying51 (Rs := [_, _, _, _, _]) ⟨(rd_int Try.underlying3), (rd_int Try.underlying3), (rd_int Try.underlying32), (rd_int Try.underlying32), (rd_int Try.underlying3), trivial⟩).mono fun cs ⟨hl, f0, f1, f2, f3, f4, _⟩ => by
    rw [show Try.prog.cellsOf 51 = 5 by kernel_rfl] at hl
    have s3 : Try.prog.cellsOf 3 = 1 := by kernel_rfl
    have s32 : Try.prog.cellsOf 32 = 1 := by kernel_rfl
    match cs, hl with
    | [x0, x1, x2, x3, x4], _ =>
      obtain ⟨z0, f0, w0⟩ := f0
      simp [s3] at f0
      obtain ⟨z1, f1, w1⟩ := f1
      simp [s3] at f1
      obtain ⟨z2, f2, w2⟩ := f2
      simp [s32] at f2
      obtain ⟨z3, f3, w3⟩ := f3
      simp [s32] at f3
      obtain ⟨z4, f4, w4⟩ := f4
      simp [s3] at f4
      subst f0 f1 f2 f3 f4
      exact ⟨⟨z0, z1, z2, z3, z4⟩, rfl, trivial⟩

set_option maxRecDepth 100000 in
theorem lifted (os : Os) (started : os.Started) (H : Type) (enc : TypeId × Value → H) :
    ReturnsInHanded {} Try.checked os 5 .any (Rows.resvOneSpec.pre6 enc Try.prog Try.f5 Rows.resvOneRow.domain false) (Rows.resvOneSpec.post enc Try.prog Try.f5 false true false false) := by
  refine returnsInHanded_of_change (C := Try.checked) own started (by kernel_rfl) Try.func5
    (ChangeSpec.witness6 (enc := enc) (C := Try.checked) false ⟨#[], #[.slice none 0 0], []⟩ 8 (by kernel_rfl) (by kernel_rfl) (by kernel_rfl) (by kernel_rfl)) ?_
  intro W base args ds gs before hval0 hW hcnd _
  have hval : ∀ (j : Nat) t v, Try.f5.params[j]? = some t → args[j]? = some v → Value.okWide Try.prog W .any base t v := hval0
  have hW' := hW
  obtain ⟨p, q, hA0, hV, rfl, hfz, hnd⟩ := hW
  have hA : DataW.TrodAll enc Try.prog W 0 (fun _ => true) true Try.f5.params.toList args.toList ds p := hA0
  rw [Try.params5] at hA hval
  obtain ⟨v0, vs0, d0, ds0, p0, q0, hargs, rfl, rfl, h0, r0⟩ := trodAll_cons hA
  obtain ⟨rfl, rfl, rfl⟩ := trodAll_nil r0
  obtain rfl : args = #[v0] := by cases args; simp_all
  obtain ⟨rfl, rfl⟩ := trodVars_none hV
  clear hA0 hval0
  have lt0 : ∀ x ∈ p0, x.block < W.heap.size := by obtain ⟨m, hm⟩ := h0; exact DataW.trod_lt m _ _ _ hm
  obtain ⟨a0, n0, c0, rfl⟩ := okWide_slice Try.underlying46 (hval 0 46 v0 rfl rfl)
  obtain ⟨a0_, c0_, l0, e0, B0, C0⟩ := (rd_sliceOf (W := W) (s := 5) Try.underlying46 (by kernel_rfl) (by omega) (rdAct W)).use h0
  simp [Value.cells] at e0
  obtain ⟨rfl, rfl, rfl⟩ := e0
  refine (one_ok (F := [old W]) (On.start W) (Gives.old C0)).mono fun e W' he => ?_
  obtain ⟨_, rfl, rfl, hon⟩ := he
  have bel := hon.below (Gives.head (old_mono W) fun _ hh => hh)
  exact ⟨_, rfl, _, _, _, [], _, [], hW', trodAll_mk1 (shut_bool Try.underlying4 _), (trodAll_cons_mk (Below.trod laidOut (by kernel_rfl) (of_decide_eq_true (by kernel_rfl)) h0 bel lt0) trodAll_mk0), rfl, bel.frame _, fun h => by cases h⟩

theorem over : Rows.resvOneRow.holds Try.pinned (OpenSpec.ofChange Rows.resvOneSpec) :=
  OpenClaim.holds_of_wide 5 Try.f5 rfl rfl rfl rfl rfl rfl rfl ⟨rfl, rfl, rfl, rfl, rfl⟩ rfl rfl rfl rfl rfl (by kernel_rfl) Try.func5 (by kernel_rfl)
    (of_decide_eq_true (by kernel_rfl)) (by unfold Func.isWrapper; first | (rw [if_pos (by decide +kernel)]; kernel_rfl) | (rw [if_neg (by decide +kernel)]; exact ⟨rfl, rfl⟩))
    (fun os started H enc _ => lifted os started H enc)

/-- The statement. -/
theorem proved : Rows.ResvOneSaid := over
#print axioms proved
end Go.Proofs.Ytbfdkalcpacaaaa.resvOneLaw
