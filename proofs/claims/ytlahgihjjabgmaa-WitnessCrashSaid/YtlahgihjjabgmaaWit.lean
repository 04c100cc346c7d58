/-
  A register on a disk: the contracts. Lines of walks printed by a program of the prover's.
-/
import Derived.Test.YtlahgihjjabgmaaTwin5
import Derived.Test.YtlahgihjjabgmaaWitM
import Derived.Test.YtlahgihjjabgmaaSlReg
namespace Go.Proofs.Ytlahgihjjabgmaa
open Go Go.Sl Go.Sl.ByM Go.Sl.DkM Go.Sl.TwM Go.Sl.WtM
set_option linter.unusedVariables false
set_option linter.unusedSimpArgs false
set_option maxHeartbeats 1000000
set_option maxRecDepth 8000
variable {W0 w : World} {L F : List HProp}

theorem orThird {A B A2 B2 H : Prop} (h : (A ∧ B ∧ H) ∨ (A2 ∧ B2 ∧ H)) : H := by
  rcases h with ⟨_, _, h⟩ | ⟨_, _, h⟩ <;> exact h

theorem right_ok {e p m : Int} (h : On W0 L w) : Calls Try.prog 50 #[.agg #[.int .u64 e, .int .i64 p, .int .i64 m]] w (Ret fun v w' => v = .bool (decide (RightW p m)) ∧ On W0 L w') := by
  refine enter Try.func50 rfl Try.ntmps50 rfl ?_
  refine W.seq ?_
  refine W.region ?_
  refine WL.eff (eff_box (v := .agg _) (l := [.int .u64 _, .int .i64 _, .int .i64 _]) h rfl rfl) rfl rfl ?_
  rintro _ w ⟨b1, rfl, h⟩
  refine WL.val run_assign rfl rfl ?_
  refine WL.nil ?_
  refine W.seq ?_
  refine W.seq ?_
  refine W.region ?_
  refine WL.val (run_fieldAddr 1 Try.underlying73 rfl Try.sizeOf3 rfl rfl) rfl rfl ?_
  refine WL.val (run_load1 Try.isAgg3 rfl (h.cellB rfl)) rfl rfl ?_
  refine WL.nil ?_
  refine W.block ?_
  refine W.seq ?_
  refine W.region ?_
  refine WL.val (run_eql rfl rfl) rfl rfl ?_
  refine WL.val run_assign rfl rfl ?_
  refine WL.nil ?_
  refine W.condIf rfl (fun c4 => ?_) (fun c4 => ?_)
  · skip
    refine W.seq ?_
    refine W.region ?_
    refine WL.val (run_fieldAddr 2 Try.underlying73 rfl Try.sizeOf3 rfl rfl) rfl rfl ?_
    refine WL.val (run_load1 Try.isAgg3 rfl (h.cellB rfl)) rfl rfl ?_
    refine WL.dec (run_eql rfl rfl) rfl rfl (fun c9 => ?_) (fun c9 => ?_)
    · skip
      refine WL.val run_move rfl rfl ?_
      refine WL.skip rfl rfl ?_
      refine WL.skip rfl rfl ?_
      refine WL.skip rfl rfl ?_
      refine WL.val (run_pickT rfl) rfl rfl ?_
      refine WL.val run_assign rfl rfl ?_
      refine WL.nil ?_
      refine W.ret ?_
      refine bodyQ.r1 (v := .bool _) Try.results50 rfl ?_
      -- path TT
      first
        | exact ⟨congrArg Value.bool (decide_eq_true (show RightW p m by unfold RightW; omega)).symm, h.to⟩
        | exact ⟨congrArg Value.bool (decide_eq_false (show ¬ RightW p m by unfold RightW; omega)).symm, h.to⟩
        | exact ⟨congrArg Value.bool (decide_eq_decide.2 (by unfold RightW; omega)), h.to⟩
    · skip
      refine WL.val run_move rfl rfl ?_
      refine WL.val (run_fieldAddr 2 Try.underlying73 rfl Try.sizeOf3 rfl rfl) rfl rfl ?_
      refine WL.val (run_load1 Try.isAgg3 rfl (h.cellB rfl)) rfl rfl ?_
      refine WL.val (run_eql rfl rfl) rfl rfl ?_
      refine WL.val (run_pickF rfl) rfl rfl ?_
      refine WL.val run_assign rfl rfl ?_
      refine WL.nil ?_
      refine W.ret ?_
      refine bodyQ.r1 (v := .bool _) Try.results50 rfl ?_
      -- path TF
      first
        | exact ⟨congrArg Value.bool (decide_eq_true (show RightW p m by unfold RightW; omega)).symm, h.to⟩
        | exact ⟨congrArg Value.bool (decide_eq_false (show ¬ RightW p m by unfold RightW; omega)).symm, h.to⟩
        | exact ⟨congrArg Value.bool (decide_eq_decide.2 (by unfold RightW; omega)), h.to⟩
  · skip
    refine W.seq ?_
    refine W.region ?_
    refine WL.val (run_eql rfl rfl) rfl rfl ?_
    refine WL.val run_assign rfl rfl ?_
    refine WL.nil ?_
    refine W.condIf rfl (fun c8 => ?_) (fun c8 => ?_)
    · skip
      refine W.seq ?_
      refine W.region ?_
      refine WL.val (run_fieldAddr 2 Try.underlying73 rfl Try.sizeOf3 rfl rfl) rfl rfl ?_
      refine WL.val (run_load1 Try.isAgg3 rfl (h.cellB rfl)) rfl rfl ?_
      refine WL.dec (run_eql rfl rfl) rfl rfl (fun c19 => ?_) (fun c19 => ?_)
      · skip
        refine WL.val run_move rfl rfl ?_
        refine WL.skip rfl rfl ?_
        refine WL.skip rfl rfl ?_
        refine WL.skip rfl rfl ?_
        refine WL.val (run_pickT rfl) rfl rfl ?_
        refine WL.val run_assign rfl rfl ?_
        refine WL.nil ?_
        refine W.ret ?_
        refine bodyQ.r1 (v := .bool _) Try.results50 rfl ?_
        -- path FTT
        first
          | exact ⟨congrArg Value.bool (decide_eq_true (show RightW p m by unfold RightW; omega)).symm, h.to⟩
          | exact ⟨congrArg Value.bool (decide_eq_false (show ¬ RightW p m by unfold RightW; omega)).symm, h.to⟩
          | exact ⟨congrArg Value.bool (decide_eq_decide.2 (by unfold RightW; omega)), h.to⟩
      · skip
        refine WL.val run_move rfl rfl ?_
        refine WL.val (run_fieldAddr 2 Try.underlying73 rfl Try.sizeOf3 rfl rfl) rfl rfl ?_
        refine WL.val (run_load1 Try.isAgg3 rfl (h.cellB rfl)) rfl rfl ?_
        refine WL.val (run_eql rfl rfl) rfl rfl ?_
        refine WL.val (run_pickF rfl) rfl rfl ?_
        refine WL.val run_assign rfl rfl ?_
        refine WL.nil ?_
        refine W.ret ?_
        refine bodyQ.r1 (v := .bool _) Try.results50 rfl ?_
        -- path FTF
        first
          | exact ⟨congrArg Value.bool (decide_eq_true (show RightW p m by unfold RightW; omega)).symm, h.to⟩
          | exact ⟨congrArg Value.bool (decide_eq_false (show ¬ RightW p m by unfold RightW; omega)).symm, h.to⟩
          | exact ⟨congrArg Value.bool (decide_eq_decide.2 (by unfold RightW; omega)), h.to⟩
    · skip
      refine W.skip ?_
      refine W.seq ?_
      refine W.region ?_
      refine WL.val run_assign rfl rfl ?_
      refine WL.nil ?_
      refine W.ret ?_
      refine bodyQ.r1 (v := .bool _) Try.results50 rfl ?_
      -- path FF
      first
        | exact ⟨congrArg Value.bool (decide_eq_true (show RightW p m by unfold RightW; omega)).symm, h.to⟩
        | exact ⟨congrArg Value.bool (decide_eq_false (show ¬ RightW p m by unfold RightW; omega)).symm, h.to⟩
        | exact ⟨congrArg Value.bool (decide_eq_decide.2 (by unfold RightW; omega)), h.to⟩

theorem rright_ok {e p m : Int} (h : On W0 L w) : Calls Try.prog 46 #[.agg #[.int .u64 e, .int .i64 p, .int .i64 m]] w (Ret fun v w' => v = .bool (decide (RightW p m)) ∧ On W0 L w') := by
  refine enter Try.func46 rfl Try.ntmps46 rfl ?_
  refine W.seq ?_
  refine W.region ?_
  refine WL.eff (eff_box (v := .agg _) (l := [.int .u64 _, .int .i64 _, .int .i64 _]) h rfl rfl) rfl rfl ?_
  rintro _ w ⟨b1, rfl, h⟩
  refine WL.val run_assign rfl rfl ?_
  refine WL.nil ?_
  refine W.seq ?_
  refine W.region ?_
  refine WL.val (run_fieldAddr 1 Try.underlying73 rfl Try.sizeOf3 rfl rfl) rfl rfl ?_
  refine WL.val (run_load1 Try.isAgg3 rfl (h.cellB rfl)) rfl rfl ?_
  refine WL.dec (run_eql rfl rfl) rfl rfl (fun c5 => ?_) (fun c5 => ?_)
  · skip
    refine WL.val run_move rfl rfl ?_
    refine WL.val (run_fieldAddr 2 Try.underlying73 rfl Try.sizeOf3 rfl rfl) rfl rfl ?_
    refine WL.val (run_load1 Try.isAgg3 rfl (h.cellB rfl)) rfl rfl ?_
    refine WL.dec (run_eql rfl rfl) rfl rfl (fun c9 => ?_) (fun c9 => ?_)
    · skip
      refine WL.val run_move rfl rfl ?_
      refine WL.skip rfl rfl ?_
      refine WL.skip rfl rfl ?_
      refine WL.skip rfl rfl ?_
      refine WL.val (run_pickT rfl) rfl rfl ?_
      refine WL.val (run_pickT rfl) rfl rfl ?_
      refine WL.val run_move rfl rfl ?_
      refine WL.skip rfl rfl ?_
      refine WL.skip rfl rfl ?_
      refine WL.skip rfl rfl ?_
      refine WL.skip rfl rfl ?_
      refine WL.skip rfl rfl ?_
      refine WL.skip rfl rfl ?_
      refine WL.skip rfl rfl ?_
      refine WL.skip rfl rfl ?_
      refine WL.skip rfl rfl ?_
      refine WL.skip rfl rfl ?_
      refine WL.skip rfl rfl ?_
      refine WL.skip rfl rfl ?_
      refine WL.skip rfl rfl ?_
      refine WL.val (run_pickT rfl) rfl rfl ?_
      refine WL.val run_assign rfl rfl ?_
      refine WL.nil ?_
      refine W.ret ?_
      refine bodyQ.r1 (v := .bool _) Try.results46 rfl ?_
      -- path TT
      first
        | exact ⟨congrArg Value.bool (decide_eq_true (show RightW p m by unfold RightW; omega)).symm, h.to⟩
        | exact ⟨congrArg Value.bool (decide_eq_false (show ¬ RightW p m by unfold RightW; omega)).symm, h.to⟩
        | exact ⟨congrArg Value.bool (decide_eq_decide.2 (by unfold RightW; omega)), h.to⟩
    · skip
      refine WL.val run_move rfl rfl ?_
      refine WL.val (run_fieldAddr 2 Try.underlying73 rfl Try.sizeOf3 rfl rfl) rfl rfl ?_
      refine WL.val (run_load1 Try.isAgg3 rfl (h.cellB rfl)) rfl rfl ?_
      refine WL.dec (run_eql rfl rfl) rfl rfl (fun c13 => ?_) (fun c13 => ?_)
      · skip
        refine WL.val (run_pickF rfl) rfl rfl ?_
        refine WL.val (run_pickT rfl) rfl rfl ?_
        refine WL.val run_move rfl rfl ?_
        refine WL.skip rfl rfl ?_
        refine WL.skip rfl rfl ?_
        refine WL.skip rfl rfl ?_
        refine WL.skip rfl rfl ?_
        refine WL.skip rfl rfl ?_
        refine WL.skip rfl rfl ?_
        refine WL.skip rfl rfl ?_
        refine WL.skip rfl rfl ?_
        refine WL.skip rfl rfl ?_
        refine WL.skip rfl rfl ?_
        refine WL.skip rfl rfl ?_
        refine WL.skip rfl rfl ?_
        refine WL.skip rfl rfl ?_
        refine WL.val (run_pickT rfl) rfl rfl ?_
        refine WL.val run_assign rfl rfl ?_
        refine WL.nil ?_
        refine W.ret ?_
        refine bodyQ.r1 (v := .bool _) Try.results46 rfl ?_
        -- path TFT
        first
          | exact ⟨congrArg Value.bool (decide_eq_true (show RightW p m by unfold RightW; omega)).symm, h.to⟩
          | exact ⟨congrArg Value.bool (decide_eq_false (show ¬ RightW p m by unfold RightW; omega)).symm, h.to⟩
          | exact ⟨congrArg Value.bool (decide_eq_decide.2 (by unfold RightW; omega)), h.to⟩
      · skip
        refine WL.val (run_pickF rfl) rfl rfl ?_
        refine WL.val (run_pickT rfl) rfl rfl ?_
        refine WL.val run_move rfl rfl ?_
        refine WL.val (run_fieldAddr 1 Try.underlying73 rfl Try.sizeOf3 rfl rfl) rfl rfl ?_
        refine WL.val (run_load1 Try.isAgg3 rfl (h.cellB rfl)) rfl rfl ?_
        refine WL.dec (run_eql rfl rfl) rfl rfl (fun c19 => ?_) (fun c19 => ?_)
        · skip
          refine WL.val run_move rfl rfl ?_
          refine WL.val (run_fieldAddr 2 Try.underlying73 rfl Try.sizeOf3 rfl rfl) rfl rfl ?_
          refine WL.val (run_load1 Try.isAgg3 rfl (h.cellB rfl)) rfl rfl ?_
          refine WL.dec (run_eql rfl rfl) rfl rfl (fun c23 => ?_) (fun c23 => ?_)
          · skip
            refine WL.val run_move rfl rfl ?_
            refine WL.skip rfl rfl ?_
            refine WL.skip rfl rfl ?_
            refine WL.skip rfl rfl ?_
            refine WL.val (run_pickT rfl) rfl rfl ?_
            refine WL.val (run_pickT rfl) rfl rfl ?_
            refine WL.val (run_pickF rfl) rfl rfl ?_
            refine WL.val run_assign rfl rfl ?_
            refine WL.nil ?_
            refine W.ret ?_
            refine bodyQ.r1 (v := .bool _) Try.results46 rfl ?_
            -- path TFFTT
            first
              | exact ⟨congrArg Value.bool (decide_eq_true (show RightW p m by unfold RightW; omega)).symm, h.to⟩
              | exact ⟨congrArg Value.bool (decide_eq_false (show ¬ RightW p m by unfold RightW; omega)).symm, h.to⟩
              | exact ⟨congrArg Value.bool (decide_eq_decide.2 (by unfold RightW; omega)), h.to⟩
          · skip
            refine WL.val run_move rfl rfl ?_
            refine WL.val (run_fieldAddr 2 Try.underlying73 rfl Try.sizeOf3 rfl rfl) rfl rfl ?_
            refine WL.val (run_load1 Try.isAgg3 rfl (h.cellB rfl)) rfl rfl ?_
            refine WL.val (run_eql rfl rfl) rfl rfl ?_
            refine WL.val (run_pickF rfl) rfl rfl ?_
            refine WL.val (run_pickT rfl) rfl rfl ?_
            refine WL.val (run_pickF rfl) rfl rfl ?_
            refine WL.val run_assign rfl rfl ?_
            refine WL.nil ?_
            refine W.ret ?_
            refine bodyQ.r1 (v := .bool _) Try.results46 rfl ?_
            -- path TFFTF
            first
              | exact ⟨congrArg Value.bool (decide_eq_true (show RightW p m by unfold RightW; omega)).symm, h.to⟩
              | exact ⟨congrArg Value.bool (decide_eq_false (show ¬ RightW p m by unfold RightW; omega)).symm, h.to⟩
              | exact ⟨congrArg Value.bool (decide_eq_decide.2 (by unfold RightW; omega)), h.to⟩
        · skip
          refine WL.val run_move rfl rfl ?_
          refine WL.skip rfl rfl ?_
          refine WL.skip rfl rfl ?_
          refine WL.skip rfl rfl ?_
          refine WL.skip rfl rfl ?_
          refine WL.skip rfl rfl ?_
          refine WL.skip rfl rfl ?_
          refine WL.skip rfl rfl ?_
          refine WL.skip rfl rfl ?_
          refine WL.val (run_pickF rfl) rfl rfl ?_
          refine WL.val (run_pickF rfl) rfl rfl ?_
          refine WL.val run_assign rfl rfl ?_
          refine WL.nil ?_
          refine W.ret ?_
          refine bodyQ.r1 (v := .bool _) Try.results46 rfl ?_
          -- path TFFF
          first
            | exact ⟨congrArg Value.bool (decide_eq_true (show RightW p m by unfold RightW; omega)).symm, h.to⟩
            | exact ⟨congrArg Value.bool (decide_eq_false (show ¬ RightW p m by unfold RightW; omega)).symm, h.to⟩
            | exact ⟨congrArg Value.bool (decide_eq_decide.2 (by unfold RightW; omega)), h.to⟩
  · skip
    refine WL.val run_move rfl rfl ?_
    refine WL.skip rfl rfl ?_
    refine WL.skip rfl rfl ?_
    refine WL.skip rfl rfl ?_
    refine WL.skip rfl rfl ?_
    refine WL.skip rfl rfl ?_
    refine WL.skip rfl rfl ?_
    refine WL.skip rfl rfl ?_
    refine WL.skip rfl rfl ?_
    refine WL.val (run_pickF rfl) rfl rfl ?_
    refine WL.val run_move rfl rfl ?_
    refine WL.val (run_fieldAddr 1 Try.underlying73 rfl Try.sizeOf3 rfl rfl) rfl rfl ?_
    refine WL.val (run_load1 Try.isAgg3 rfl (h.cellB rfl)) rfl rfl ?_
    refine WL.dec (run_eql rfl rfl) rfl rfl (fun c19 => ?_) (fun c19 => ?_)
    · skip
      refine WL.val run_move rfl rfl ?_
      refine WL.val (run_fieldAddr 2 Try.underlying73 rfl Try.sizeOf3 rfl rfl) rfl rfl ?_
      refine WL.val (run_load1 Try.isAgg3 rfl (h.cellB rfl)) rfl rfl ?_
      refine WL.dec (run_eql rfl rfl) rfl rfl (fun c23 => ?_) (fun c23 => ?_)
      · skip
        refine WL.val run_move rfl rfl ?_
        refine WL.skip rfl rfl ?_
        refine WL.skip rfl rfl ?_
        refine WL.skip rfl rfl ?_
        refine WL.val (run_pickT rfl) rfl rfl ?_
        refine WL.val (run_pickT rfl) rfl rfl ?_
        refine WL.val (run_pickF rfl) rfl rfl ?_
        refine WL.val run_assign rfl rfl ?_
        refine WL.nil ?_
        refine W.ret ?_
        refine bodyQ.r1 (v := .bool _) Try.results46 rfl ?_
        -- path FTT
        first
          | exact ⟨congrArg Value.bool (decide_eq_true (show RightW p m by unfold RightW; omega)).symm, h.to⟩
          | exact ⟨congrArg Value.bool (decide_eq_false (show ¬ RightW p m by unfold RightW; omega)).symm, h.to⟩
          | exact ⟨congrArg Value.bool (decide_eq_decide.2 (by unfold RightW; omega)), h.to⟩
      · skip
        refine WL.val run_move rfl rfl ?_
        refine WL.val (run_fieldAddr 2 Try.underlying73 rfl Try.sizeOf3 rfl rfl) rfl rfl ?_
        refine WL.val (run_load1 Try.isAgg3 rfl (h.cellB rfl)) rfl rfl ?_
        refine WL.val (run_eql rfl rfl) rfl rfl ?_
        refine WL.val (run_pickF rfl) rfl rfl ?_
        refine WL.val (run_pickT rfl) rfl rfl ?_
        refine WL.val (run_pickF rfl) rfl rfl ?_
        refine WL.val run_assign rfl rfl ?_
        refine WL.nil ?_
        refine W.ret ?_
        refine bodyQ.r1 (v := .bool _) Try.results46 rfl ?_
        -- path FTF
        first
          | exact ⟨congrArg Value.bool (decide_eq_true (show RightW p m by unfold RightW; omega)).symm, h.to⟩
          | exact ⟨congrArg Value.bool (decide_eq_false (show ¬ RightW p m by unfold RightW; omega)).symm, h.to⟩
          | exact ⟨congrArg Value.bool (decide_eq_decide.2 (by unfold RightW; omega)), h.to⟩
    · skip
      refine WL.val run_move rfl rfl ?_
      refine WL.skip rfl rfl ?_
      refine WL.skip rfl rfl ?_
      refine WL.skip rfl rfl ?_
      refine WL.skip rfl rfl ?_
      refine WL.skip rfl rfl ?_
      refine WL.skip rfl rfl ?_
      refine WL.skip rfl rfl ?_
      refine WL.skip rfl rfl ?_
      refine WL.val (run_pickF rfl) rfl rfl ?_
      refine WL.val (run_pickF rfl) rfl rfl ?_
      refine WL.val run_assign rfl rfl ?_
      refine WL.nil ?_
      refine W.ret ?_
      refine bodyQ.r1 (v := .bool _) Try.results46 rfl ?_
      -- path FF
      first
        | exact ⟨congrArg Value.bool (decide_eq_true (show RightW p m by unfold RightW; omega)).symm, h.to⟩
        | exact ⟨congrArg Value.bool (decide_eq_false (show ¬ RightW p m by unfold RightW; omega)).symm, h.to⟩
        | exact ⟨congrArg Value.bool (decide_eq_decide.2 (by unfold RightW; omega)), h.to⟩

theorem encode_ok {e p m : Nat} (he : e < 18446744073709551616) (hp : p < 256) (hm : m < 256) (h : On W0 L w) : Calls Try.prog 45 #[.agg #[.int .u64 (e : Int), .int .i64 (p : Int), .int .i64 (m : Int)]] w (Ret fun v w' => ∃ a, v = .slice a (encW e p m).length (encW e p m).length ∧ On W0 (OwnB (.slice a (encW e p m).length (encW e p m).length) (encW e p m) :: L) w') := by
  refine enter Try.func45 rfl Try.ntmps45 rfl ?_
  refine W.seq ?_
  refine W.region ?_
  refine WL.eff (eff_box (v := .agg _) (l := [.int .u64 _, .int .i64 _, .int .i64 _]) h rfl rfl) rfl rfl ?_
  rintro _ w ⟨b1, rfl, h⟩
  refine WL.val run_assign rfl rfl ?_
  refine WL.nil ?_
  refine W.seq ?_
  refine W.draw Try.follows h (fun w h => ?_)
  refine WT.pure 0 rfl (by kernel_rfl) (fun w' => (run_fieldAddr 0 Try.underlying73 rfl Try.sizeOf40 rfl rfl)) rfl rfl ?_
  refine WT.load1 1 rfl (by kernel_rfl) Try.isAgg40 rfl (h.cellB rfl) rfl rfl ?_
  refine WT.pure 3 rfl (by kernel_rfl) (fun w' => (run_fieldAddr 1 Try.underlying73 rfl Try.sizeOf3 rfl rfl)) rfl rfl ?_
  refine WT.load1 4 rfl (by kernel_rfl) Try.isAgg3 rfl (h.cellB rfl) rfl rfl ?_
  refine WT.pure 5 rfl (by kernel_rfl) (fun w' => (run_convIn Try.underlying3 Try.underlying40 rfl (by show (0 : Int) ≤ _; omega) (by show _ ≤ (18446744073709551615 : Int); omega))) rfl rfl ?_
  refine WT.pure 7 rfl (by kernel_rfl) (fun w' => (run_fieldAddr 2 Try.underlying73 rfl Try.sizeOf3 rfl rfl)) rfl rfl ?_
  refine WT.load1 8 rfl (by kernel_rfl) Try.isAgg3 rfl (h.cellB rfl) rfl rfl ?_
  refine WT.pure 9 rfl (by kernel_rfl) (fun w' => (run_convIn Try.underlying3 Try.underlying40 rfl (by show (0 : Int) ≤ _; omega) (by show _ ≤ (18446744073709551615 : Int); omega))) rfl rfl ?_
  refine WT.eff 2 [true, true, false] rfl (by kernel_rfl) (by kernel_rfl) (eff_call Try.call73 (bput_ok (v := e) (n := 8) (bs := []) h Gives.nilB (by decide) (by decide) he (by decide))) rfl rfl ?_
  rintro _ w ⟨a5, rfl, h⟩
  have h : On W0 (OwnB (.slice a5 (be e 8).length (be e 8).length) (be e 8) :: _) w := h
  refine ⟨⟨h.cellB rfl, h.cellB rfl, trivial⟩, ?_⟩
  refine WT.eff 6 [true, false] rfl (by kernel_rfl) (by kernel_rfl) (eff_call Try.call73 (bput_ok (v := p) (n := 1) (bs := (be e 8)) h (Gives.ownO (v := .slice a5 (be e 8).length (be e 8).length)) (by decide) (by decide) (by omega) (by simp only [List.length_append, be_length]; decide))) rfl rfl ?_
  rintro _ w ⟨a9, rfl, h⟩
  refine ⟨⟨h.cellB rfl, trivial⟩, ?_⟩
  refine WT.eff 10 [false] rfl (by kernel_rfl) (by kernel_rfl) (eff_call Try.call73 (bput_ok (v := m) (n := 1) (bs := (be e 8 ++ be p 1)) h (Gives.ownO (v := .slice a9 (be e 8 ++ be p 1).length (be e 8 ++ be p 1).length)) (by decide) (by decide) (by omega) (by simp only [List.length_append, be_length]; decide))) rfl rfl ?_
  rintro _ w ⟨a13, rfl, h⟩
  refine ⟨trivial, ?_⟩
  refine WT.pure 11 rfl (by kernel_rfl) (fun w' => run_assign) rfl rfl ?_
  refine WT.done (by kernel_rfl) ?_
  refine W.ret ?_
  refine bodyQ.r1 (v := .slice _ _ _) Try.results45 rfl ?_
  -- path 
  have h : On W0 (OwnB (.slice a13 (encW e p m).length (encW e p m).length) (encW e p m) :: _) w := h
  exact ⟨a13, rfl, h.to⟩

theorem decode_ok {ax : Option Addr} {cx : Nat} {s : List UInt8} (h : On W0 L w) (C : Gives L (Bytes (.slice ax s.length cx) s)) : Calls Try.prog 44 #[.slice ax s.length cx] w (Ret fun v w' => ((s.length = 10 ∧ RightW (oneW s 8 : Int) (oneW s 9 : Int)) ∧ v = .tuple #[.agg #[.int .u64 (epoW s : Int), .int .i64 (oneW s 8 : Int), .int .i64 (oneW s 9 : Int)], .int .i64 0] ∧ On W0 L w') ∨ (¬ (s.length = 10 ∧ RightW (oneW s 8 : Int) (oneW s 9 : Int)) ∧ v = .tuple #[.agg #[.int .u64 0, .int .i64 0, .int .i64 0], .int .i64 2] ∧ On W0 L w')) := by
  refine enter Try.func44 rfl Try.ntmps44 rfl ?_
  refine W.seq ?_
  refine W.region ?_
  refine WL.eff (eff_alloc h Try.zeroValue73 rfl) rfl rfl ?_
  rintro _ w ⟨b2, rfl, h⟩
  refine WL.val run_assign rfl rfl ?_
  refine WL.nil ?_
  refine W.seq ?_
  refine W.region ?_
  refine WL.val run_move rfl rfl ?_
  refine WL.eff (eff_call Try.call80 (bget_ok (at_ := 0) (n := 8) (bs := s) h (Gives.to C))) rfl rfl ?_
  rintro v0 w hg
  have h := orThird hg
  have ob_ : ∃ (z : Nat) (t : Bool), (s.length = 10 → z = epoW s) ∧ z < 18446744073709551616 ∧ v0 = .tuple #[.int .u64 (z : Int), .bool t] := by
    rcases hg with ⟨_, hv, _⟩ | ⟨hno, hv, _⟩
    · exact ⟨epoW s, true, fun _ => rfl, epoW_lt s, hv⟩
    · exact ⟨0, false, fun h10 => absurd (show _ by omega) hno, by decide, hv⟩
  obtain ⟨ze, tze, hzze, hbze, hv0⟩ := ob_
  clear hg
  subst hv0
  refine WL.val run_move rfl rfl ?_
  refine WL.val (run_extract rfl rfl) rfl rfl ?_
  refine WL.val (run_extract rfl rfl) rfl rfl ?_
  refine WL.val run_assign rfl rfl ?_
  refine WL.val run_assign rfl rfl ?_
  refine WL.nil ?_
  refine W.seq ?_
  refine W.region ?_
  refine WL.val run_move rfl rfl ?_
  refine WL.eff (eff_call Try.call80 (bget_ok (at_ := 8) (n := 1) (bs := s) h (Gives.to C))) rfl rfl ?_
  rintro v0 w hg
  have h := orThird hg
  have ob_ : ∃ (z : Nat) (t : Bool), (s.length = 10 → z = oneW s 8) ∧ z < 256 ∧ v0 = .tuple #[.int .u64 (z : Int), .bool t] := by
    rcases hg with ⟨_, hv, _⟩ | ⟨hno, hv, _⟩
    · exact ⟨oneW s 8, true, fun _ => rfl, oneW_lt s 8, hv⟩
    · exact ⟨0, false, fun h10 => absurd (show _ by omega) hno, by decide, hv⟩
  obtain ⟨zp, tzp, hzzp, hbzp, hv0⟩ := ob_
  clear hg
  subst hv0
  refine WL.val run_move rfl rfl ?_
  refine WL.val (run_extract rfl rfl) rfl rfl ?_
  refine WL.val (run_extract rfl rfl) rfl rfl ?_
  refine WL.val run_assign rfl rfl ?_
  refine WL.val run_assign rfl rfl ?_
  refine WL.nil ?_
  refine W.seq ?_
  refine W.region ?_
  refine WL.val run_move rfl rfl ?_
  refine WL.eff (eff_call Try.call80 (bget_ok (at_ := 9) (n := 1) (bs := s) h (Gives.to C))) rfl rfl ?_
  rintro v0 w hg
  have h := orThird hg
  have ob_ : ∃ (z : Nat) (t : Bool), (s.length = 10 → z = oneW s 9) ∧ z < 256 ∧ v0 = .tuple #[.int .u64 (z : Int), .bool t] := by
    rcases hg with ⟨_, hv, _⟩ | ⟨hno, hv, _⟩
    · exact ⟨oneW s 9, true, fun _ => rfl, oneW_lt s 9, hv⟩
    · exact ⟨0, false, fun h10 => absurd (show _ by omega) hno, by decide, hv⟩
  obtain ⟨zm, tzm, hzzm, hbzm, hv0⟩ := ob_
  clear hg
  subst hv0
  refine WL.val run_move rfl rfl ?_
  refine WL.val (run_extract rfl rfl) rfl rfl ?_
  refine WL.val (run_extract rfl rfl) rfl rfl ?_
  refine WL.val run_assign rfl rfl ?_
  refine WL.val run_assign rfl rfl ?_
  refine WL.nil ?_
  refine W.seq ?_
  refine W.region ?_
  refine WL.val run_move rfl rfl ?_
  refine WL.val run_move rfl rfl ?_
  refine WL.val (run_convInt64 Try.underlying40 Try.underlying3 rfl (by omega) (by omega)) rfl rfl ?_
  refine WL.val run_move rfl rfl ?_
  refine WL.val (run_convInt64 Try.underlying40 Try.underlying3 rfl (by omega) (by omega)) rfl rfl ?_
  refine WL.val (run_buildS (pl := [(0, 1), (1, 1), (2, 1)]) (out := [.int .u64 _, .int .i64 _, .int .i64 _]) Try.underlying73 Try.zeroValue73 (fun w => by kernel_rfl) rfl (⟨⟨_, _, rfl, rfl, by decide⟩, ⟨⟨_, _, rfl, rfl, by decide⟩, ⟨⟨_, _, rfl, rfl, by decide⟩, trivial⟩⟩⟩) rfl) rfl rfl ?_
  refine WL.eff (eff_alloc h Try.zeroValue73 rfl) rfl rfl ?_
  rintro _ w ⟨b10, rfl, h⟩
  refine WL.eff (eff_storeN (vs := [.int .u64 _, .int .i64 _, .int .i64 _]) h Try.sizeOf73 rfl rfl rfl rfl rfl (fun k _ _ => free0 k)) rfl rfl ?_
  rintro _ w h
  try simp only [splice, List.take_zero, List.take_succ_cons, List.take_nil, List.drop_succ_cons, List.drop_zero, List.drop_nil, List.nil_append, List.cons_append, List.append_nil, List.length_cons, List.length_nil, Nat.zero_add, Nat.reduceAdd] at h
  refine WL.nil ?_
  refine W.seq ?_
  refine W.seq ?_
  refine W.region ?_
  refine WL.val run_move rfl rfl ?_
  refine WL.val (run_lenSlice Try.underlying22 rfl) rfl rfl ?_
  refine WL.dec (run_neq rfl rfl) rfl rfl (fun c34 => ?_) (fun c34 => ?_)
  · skip
    refine WL.val run_move rfl rfl ?_
    refine WL.skip rfl rfl ?_
    refine WL.skip rfl rfl ?_
    refine WL.skip rfl rfl ?_
    refine WL.val (run_pickT rfl) rfl rfl ?_
    refine WL.nil ?_
    refine W.condT rfl ?_
    refine W.seq ?_
    refine W.region ?_
    refine WL.val (run_buildS (pl := [(0, 1), (1, 1), (2, 1)]) (out := [.int .u64 _, .int .i64 _, .int .i64 _]) Try.underlying73 Try.zeroValue73 (fun w => by kernel_rfl) rfl (trivial) rfl) rfl rfl ?_
    refine WL.eff (eff_storeN (vs := [.int .u64 _, .int .i64 _, .int .i64 _]) h Try.sizeOf73 rfl rfl rfl rfl rfl (fun k _ _ => free0 k)) rfl rfl ?_
    rintro _ w h
    try simp only [splice, List.take_zero, List.take_succ_cons, List.take_nil, List.drop_succ_cons, List.drop_zero, List.drop_nil, List.nil_append, List.cons_append, List.append_nil, List.length_cons, List.length_nil, Nat.zero_add, Nat.reduceAdd] at h
    refine WL.val run_assign rfl rfl ?_
    refine WL.nil ?_
    refine W.ret ?_
    refine bodyQ.rctB (vs := [.int .u64 _, .int .i64 _, .int .i64 _]) (v2 := .int .i64 _) h Try.results44 Try.isAgg73 Try.sizeOf73 rfl rfl rfl rfl ?_
    -- path T
    exact .inr ⟨fun hh => by omega, rfl, h.to⟩
  · skip
    refine WL.val run_move rfl rfl ?_
    refine WL.val (run_loadB (vs := [.int .u64 _, .int .i64 _, .int .i64 _]) h Try.isAgg73 Try.sizeOf73 rfl rfl rfl) rfl rfl ?_
    refine WL.eff (eff_call Try.call50 (right_ok h)) rfl rfl ?_
    rintro _ w ⟨rfl, h⟩
    refine WL.val (run_notDec rfl) rfl rfl ?_
    refine WL.val (run_pickF rfl) rfl rfl ?_
    refine WL.nil ?_
    refine W.condIf rfl (fun c6 => ?_) (fun c6 => ?_)
    · skip
      refine W.seq ?_
      refine W.region ?_
      refine WL.val (run_buildS (pl := [(0, 1), (1, 1), (2, 1)]) (out := [.int .u64 _, .int .i64 _, .int .i64 _]) Try.underlying73 Try.zeroValue73 (fun w => by kernel_rfl) rfl (trivial) rfl) rfl rfl ?_
      refine WL.eff (eff_storeN (vs := [.int .u64 _, .int .i64 _, .int .i64 _]) h Try.sizeOf73 rfl rfl rfl rfl rfl (fun k _ _ => free0 k)) rfl rfl ?_
      rintro _ w h
      try simp only [splice, List.take_zero, List.take_succ_cons, List.take_nil, List.drop_succ_cons, List.drop_zero, List.drop_nil, List.nil_append, List.cons_append, List.append_nil, List.length_cons, List.length_nil, Nat.zero_add, Nat.reduceAdd] at h
      refine WL.val run_assign rfl rfl ?_
      refine WL.nil ?_
      refine W.ret ?_
      refine bodyQ.rctB (vs := [.int .u64 _, .int .i64 _, .int .i64 _]) (v2 := .int .i64 _) h Try.results44 Try.isAgg73 Try.sizeOf73 rfl rfl rfl rfl ?_
      -- path FT
      exact .inr ⟨fun hh => by have e1 := hzzp hh.1; have e2 := hzzm hh.1; subst e1; subst e2; exact c6 hh.2, rfl, h.to⟩
    · skip
      refine W.skip ?_
      refine W.seq ?_
      refine W.region ?_
      refine WL.val (run_loadB (vs := [.int .u64 _, .int .i64 _, .int .i64 _]) h Try.isAgg73 Try.sizeOf73 rfl rfl rfl) rfl rfl ?_
      refine WL.eff (eff_storeN (vs := [.int .u64 _, .int .i64 _, .int .i64 _]) h Try.sizeOf73 rfl rfl rfl rfl rfl (fun k _ _ => free0 k)) rfl rfl ?_
      rintro _ w h
      try simp only [splice, List.take_zero, List.take_succ_cons, List.take_nil, List.drop_succ_cons, List.drop_zero, List.drop_nil, List.nil_append, List.cons_append, List.append_nil, List.length_cons, List.length_nil, Nat.zero_add, Nat.reduceAdd] at h
      refine WL.val run_assign rfl rfl ?_
      refine WL.nil ?_
      refine W.ret ?_
      refine bodyQ.rctB (vs := [.int .u64 _, .int .i64 _, .int .i64 _]) (v2 := .int .i64 _) h Try.results44 Try.isAgg73 Try.sizeOf73 rfl rfl rfl rfl ?_
      -- path FF
      have h10 : s.length = 10 := by omega
      have e0 := hzze h10; have e1 := hzzp h10; have e2 := hzzm h10
      subst e0; subst e1; subst e2
      exact .inl ⟨⟨h10, Decidable.not_not.1 c6⟩, rfl, h.to⟩

theorem wformat_ok {b e p m : Nat} {d : Dk} (hr : RightW (p : Int) (m : Int)) (he : e < 18446744073709551616) (hlow : d.lowK 3) (hn : 0 ≤ d.n) (h : On W0 (DiskP 106 110 b d :: L) w) : Calls Try.prog 47 #[.pointer (some ⟨b, 0, none⟩), .agg #[.int .u64 (e : Int), .int .i64 (p : Int), .int .i64 (m : Int)]] w (Ret fun v w' => v = .int .i64 (formatT d 0 (encW e p m)).1 ∧ On W0 (DiskP 106 110 b (formatT d 0 (encW e p m)).2 :: L) w') := by
  refine enter Try.func47 rfl Try.ntmps47 rfl ?_
  have hpm : p < 256 ∧ m < 256 := by unfold RightW at hr; omega
  refine W.seq ?_
  refine W.region ?_
  refine WL.eff (eff_box (v := .agg _) (l := [.int .u64 _, .int .i64 _, .int .i64 _]) h rfl rfl) rfl rfl ?_
  rintro _ w ⟨b3, rfl, h⟩
  refine WL.val run_assign rfl rfl ?_
  refine WL.nil ?_
  refine W.seq ?_
  refine W.seq ?_
  refine W.region ?_
  refine WL.val (run_loadB (vs := [.int .u64 _, .int .i64 _, .int .i64 _]) h Try.isAgg73 Try.sizeOf73 rfl rfl rfl) rfl rfl ?_
  refine WL.eff (eff_call Try.call50 (right_ok h)) rfl rfl ?_
  rintro _ w ⟨rfl, h⟩
  refine WL.val (run_notDec rfl) rfl rfl ?_
  refine WL.nil ?_
  refine W.condIf rfl (fun c2 => ?_) (fun c2 => ?_)
  · skip
    refine W.seq ?_
    refine W.region ?_
    refine WL.val run_assign rfl rfl ?_
    refine WL.nil ?_
    refine W.ret ?_
    refine bodyQ.r1 (v := .int .i64 _) Try.results47 rfl ?_
    -- path T
    exact absurd hr c2
  · skip
    refine W.skip ?_
    refine W.seq ?_
    refine W.region ?_
    refine WL.val run_move rfl rfl ?_
    refine WL.val (run_loadB (vs := [.int .u64 _, .int .i64 _, .int .i64 _]) h Try.isAgg73 Try.sizeOf73 rfl rfl rfl) rfl rfl ?_
    refine WL.eff (eff_call Try.call45 (encode_ok he hpm.1 hpm.2 h)) rfl rfl ?_
    rintro _ w ⟨a10, rfl, h⟩
    refine WL.eff (eff_call Try.call30 (format_ok (value := (encW e p m)) hlow hn (h.fetch (DiskP 106 110 b d)) (Gives.ownO (v := .slice a10 (encW e p m).length (encW e p m).length)))) rfl rfl ?_
    rintro _ w ⟨rfl, h⟩
    refine WL.val run_assign rfl rfl ?_
    refine WL.nil ?_
    refine W.ret ?_
    refine bodyQ.r1 (v := .int .i64 _) Try.results47 rfl ?_
    -- path F
    exact ⟨rfl, h.to⟩

theorem wopen_ok {b e p m n : Nat} {d : Dk} (e0 : openT d 0 = (some (n, (encW e p m)), 0)) (hr : RightW (p : Int) (m : Int)) (he : e < 18446744073709551616) (hn : 0 ≤ d.n) (h : On W0 (DiskP 106 110 b d :: L) w) : Calls Try.prog 48 #[.pointer (some ⟨b, 0, none⟩)] w (Ret fun v w' => ∃ bw bt, v = .tuple #[.pointer (some ⟨bw, 0, none⟩), .int .i64 0] ∧ On W0 (blk bw [.pointer (some ⟨bt, 0, none⟩), .int .u64 (e : Int), .int .i64 (p : Int), .int .i64 (m : Int)] 140 :: TwinP 126 bt b 0 n (encW e p m) :: DiskP 106 110 b d :: L) w') := by
  refine enter Try.func48 rfl Try.ntmps48 rfl ?_
  have hpm : p < 256 ∧ m < 256 := by unfold RightW at hr; omega
  refine W.seq ?_
  refine W.region ?_
  refine WL.val run_assign rfl rfl ?_
  refine WL.val run_assign rfl rfl ?_
  refine WL.nil ?_
  refine W.seq ?_
  refine W.region ?_
  refine WL.val run_move rfl rfl ?_
  refine WL.eff (eff_call Try.call29 (open_ok2 hn h)) rfl rfl ?_
  rintro _ w hg
  rcases hg with ⟨bt, n2, val2, e1, hv, h⟩ | ⟨e1, _, _, _⟩
  rotate_left
  · rw [e0] at e1; cases e1
  rw [e0] at e1
  cases e1
  subst hv
  refine WL.val run_move rfl rfl ?_
  refine WL.val (run_extract rfl rfl) rfl rfl ?_
  refine WL.val (run_extract rfl rfl) rfl rfl ?_
  refine WL.val run_assign rfl rfl ?_
  refine WL.val run_assign rfl rfl ?_
  refine WL.nil ?_
  refine W.seq ?_
  refine W.seq ?_
  refine W.region ?_
  refine WL.val run_move rfl rfl ?_
  refine WL.val (run_neqF rfl rfl (rfl)) rfl rfl ?_
  refine WL.nil ?_
  refine W.condF rfl ?_
  refine W.skip ?_
  refine W.seq ?_
  refine W.region ?_
  refine WL.val run_move rfl rfl ?_
  refine WL.eff (eff_call Try.call32 (value_ok (value := (encW e p m)) (by rw [encW_length]; decide) h)) rfl rfl ?_
  rintro _ w ⟨a17, rfl, h⟩
  refine WL.eff (eff_call Try.call44 (decode_ok (s := (encW e p m)) h (Gives.ownO (v := .slice a17 (encW e p m).length (encW e p m).length)))) rfl rfl ?_
  rintro _ w hg
  rw [enc_epo (show e < 256 ^ 8 from he), enc_p hpm.1, enc_m hpm.2, encW_length] at hg
  rcases hg with ⟨_, rfl, h⟩ | ⟨hno, _, _⟩
  rotate_left
  · exact absurd ⟨rfl, hr⟩ hno
  refine WL.val run_move rfl rfl ?_
  refine WL.val (run_extract rfl rfl) rfl rfl ?_
  refine WL.val (run_extract rfl rfl) rfl rfl ?_
  refine WL.eff (eff_alloc h Try.zeroValue73 rfl) rfl rfl ?_
  rintro _ w ⟨b6, rfl, h⟩
  refine WL.eff (eff_storeN (vs := [.int .u64 _, .int .i64 _, .int .i64 _]) h Try.sizeOf73 rfl rfl rfl rfl rfl (fun k _ _ => free0 k)) rfl rfl ?_
  rintro _ w h
  try simp only [splice, List.take_zero, List.take_succ_cons, List.take_nil, List.drop_succ_cons, List.drop_zero, List.drop_nil, List.nil_append, List.cons_append, List.append_nil, List.length_cons, List.length_nil, Nat.zero_add, Nat.reduceAdd] at h
  refine WL.val run_assign rfl rfl ?_
  refine WL.nil ?_
  refine W.seq ?_
  refine W.seq ?_
  refine W.region ?_
  refine WL.val run_move rfl rfl ?_
  refine WL.val (run_neqF rfl rfl (rfl)) rfl rfl ?_
  refine WL.nil ?_
  refine W.condF rfl ?_
  refine W.skip ?_
  refine W.seq ?_
  refine W.region ?_
  refine WL.val run_move rfl rfl ?_
  refine WL.val (run_loadB (vs := [.int .u64 _, .int .i64 _, .int .i64 _]) h Try.isAgg73 Try.sizeOf73 rfl rfl rfl) rfl rfl ?_
  refine WL.val (run_buildS (pl := [(0, 1), (1, 3)]) (out := [.pointer _, .int .u64 _, .int .i64 _, .int .i64 _]) Try.underlying140 Try.zeroValue140 (fun w => by kernel_rfl) rfl (⟨⟨_, _, rfl, rfl, by decide⟩, ⟨⟨_, _, rfl, rfl, by decide⟩, trivial⟩⟩) rfl) rfl rfl ?_
  refine WL.eff (eff_box (v := .agg _) (l := [.pointer _, .int .u64 _, .int .i64 _, .int .i64 _]) h rfl rfl) rfl rfl ?_
  rintro _ w ⟨b27, rfl, h⟩
  refine WL.val run_assign rfl rfl ?_
  refine WL.val run_assign rfl rfl ?_
  refine WL.nil ?_
  refine W.ret ?_
  refine bodyQ.r2 (v1 := .pointer _) (v2 := .int .i64 _) Try.results48 rfl rfl ?_
  -- path 
  exact ⟨b27, bt, rfl, h.to⟩

theorem wget_ok {bw bt : Nat} {e p m : Nat} (h : On W0 (blk bw [.pointer (some ⟨bt, 0, none⟩), .int .u64 (e : Int), .int .i64 (p : Int), .int .i64 (m : Int)] 140 :: L) w) : Calls Try.prog 51 #[.pointer (some ⟨bw, 0, none⟩)] w (Ret fun v w' => v = .agg #[.int .u64 (e : Int), .int .i64 (p : Int), .int .i64 (m : Int)] ∧ On W0 (blk bw [.pointer (some ⟨bt, 0, none⟩), .int .u64 (e : Int), .int .i64 (p : Int), .int .i64 (m : Int)] 140 :: L) w') := by
  refine enter Try.func51 rfl Try.ntmps51 rfl ?_
  refine W.seq ?_
  refine W.region ?_
  refine WL.eff (eff_alloc h Try.zeroValue73 rfl) rfl rfl ?_
  rintro _ w ⟨b2, rfl, h⟩
  refine WL.nil ?_
  refine W.seq ?_
  refine W.region ?_
  refine WL.val run_move rfl rfl ?_
  refine WL.val (run_nilCheck rfl) rfl rfl ?_
  refine WL.val (run_fieldAddr 1 Try.underlying140 rfl Try.sizeOf73 rfl rfl) rfl rfl ?_
  refine WL.val (run_loadB (vs := [.int .u64 _, .int .i64 _, .int .i64 _]) h Try.isAgg73 Try.sizeOf73 rfl rfl rfl) rfl rfl ?_
  refine WL.eff (eff_storeN (vs := [.int .u64 _, .int .i64 _, .int .i64 _]) h Try.sizeOf73 rfl rfl rfl rfl rfl (fun k _ _ => free0 k)) rfl rfl ?_
  rintro _ w h
  try simp only [splice, List.take_zero, List.take_succ_cons, List.take_nil, List.drop_succ_cons, List.drop_zero, List.drop_nil, List.nil_append, List.cons_append, List.append_nil, List.length_cons, List.length_nil, Nat.zero_add, Nat.reduceAdd] at h
  refine WL.nil ?_
  refine W.ret ?_
  refine bodyQ.rcB (vs := [.int .u64 _, .int .i64 _, .int .i64 _]) h Try.results51 Try.isAgg73 Try.sizeOf73 rfl rfl rfl ?_
  -- path 
  exact ⟨rfl, h.to⟩

theorem wmay_ok {bw bt : Nat} {e p m x e2 p2 m2 : Nat} (hx : x + 1 < 18446744073709551616) (h : On W0 (blk bw [.pointer (some ⟨bt, 0, none⟩), .int .u64 (e : Int), .int .i64 (p : Int), .int .i64 (m : Int)] 140 :: L) w) : Calls Try.prog 93 #[.pointer (some ⟨bw, 0, none⟩), .int .u64 (x : Int), .agg #[.int .u64 (e2 : Int), .int .i64 (p2 : Int), .int .i64 (m2 : Int)]] w (Ret fun v w' => v = .bool (decide (e = x ∧ RightW (p2 : Int) (m2 : Int) ∧ e2 = x + 1)) ∧ On W0 (blk bw [.pointer (some ⟨bt, 0, none⟩), .int .u64 (e : Int), .int .i64 (p : Int), .int .i64 (m : Int)] 140 :: L) w') := by
  refine enter Try.func93 rfl Try.ntmps93 rfl ?_
  refine W.seq ?_
  refine W.region ?_
  refine WL.eff (eff_box (v := .agg _) (l := [.int .u64 _, .int .i64 _, .int .i64 _]) h rfl rfl) rfl rfl ?_
  rintro _ w ⟨b5, rfl, h⟩
  refine WL.val run_assign rfl rfl ?_
  refine WL.nil ?_
  refine W.seq ?_
  refine W.block ?_
  refine W.seq ?_
  refine W.block ?_
  refine W.block ?_
  refine W.block ?_
  refine W.seq ?_
  refine W.seq ?_
  refine W.seq ?_
  refine W.region ?_
  refine WL.val run_move rfl rfl ?_
  refine WL.val (run_nilCheck rfl) rfl rfl ?_
  refine WL.val (run_fieldAddr 1 Try.underlying140 rfl Try.sizeOf73 rfl rfl) rfl rfl ?_
  refine WL.val (run_fieldAddr 0 Try.underlying73 rfl Try.sizeOf40 rfl rfl) rfl rfl ?_
  refine WL.val (run_load1 Try.isAgg40 rfl (h.cellB rfl)) rfl rfl ?_
  refine WL.val run_move rfl rfl ?_
  refine WL.val (run_neq rfl rfl) rfl rfl ?_
  refine WL.val run_assign rfl rfl ?_
  refine WL.nil ?_
  refine W.condIf rfl (fun c6 => ?_) (fun c6 => ?_)
  · skip
    refine W.exit ?_
    refine W.seq ?_
    refine W.seq ?_
    refine W.region ?_
    refine WL.val run_assign rfl rfl ?_
    refine WL.nil ?_
    refine W.ret ?_
    refine bodyQ.r1 (v := .bool _) Try.results93 rfl ?_
    -- path T
    first
      | exact ⟨congrArg Value.bool (decide_eq_true (show (e = x ∧ RightW (p2 : Int) (m2 : Int) ∧ e2 = x + 1) from ⟨by omega, by first | assumption | exact Decidable.not_not.1 ‹_›, by omega⟩)).symm, h.to⟩
      | exact ⟨congrArg Value.bool (decide_eq_false (show ¬ (e = x ∧ RightW (p2 : Int) (m2 : Int) ∧ e2 = x + 1) from fun hh => by omega)).symm, h.to⟩
      | exact ⟨congrArg Value.bool (decide_eq_false (show ¬ (e = x ∧ RightW (p2 : Int) (m2 : Int) ∧ e2 = x + 1) from fun hh => absurd hh.2.1 ‹_›)).symm, h.to⟩
  · skip
    refine W.skip ?_
    refine W.seq ?_
    refine W.seq ?_
    refine W.region ?_
    refine WL.val (run_loadB (vs := [.int .u64 _, .int .i64 _, .int .i64 _]) h Try.isAgg73 Try.sizeOf73 rfl rfl rfl) rfl rfl ?_
    refine WL.eff (eff_call Try.call50 (right_ok h)) rfl rfl ?_
    rintro _ w ⟨rfl, h⟩
    refine WL.val (run_notDec rfl) rfl rfl ?_
    refine WL.val run_assign rfl rfl ?_
    refine WL.nil ?_
    refine W.condIf rfl (fun c10 => ?_) (fun c10 => ?_)
    · skip
      refine W.exit ?_
      refine W.seq ?_
      refine W.seq ?_
      refine W.region ?_
      refine WL.val run_assign rfl rfl ?_
      refine WL.nil ?_
      refine W.ret ?_
      refine bodyQ.r1 (v := .bool _) Try.results93 rfl ?_
      -- path FT
      first
        | exact ⟨congrArg Value.bool (decide_eq_true (show (e = x ∧ RightW (p2 : Int) (m2 : Int) ∧ e2 = x + 1) from ⟨by omega, by first | assumption | exact Decidable.not_not.1 ‹_›, by omega⟩)).symm, h.to⟩
        | exact ⟨congrArg Value.bool (decide_eq_false (show ¬ (e = x ∧ RightW (p2 : Int) (m2 : Int) ∧ e2 = x + 1) from fun hh => by omega)).symm, h.to⟩
        | exact ⟨congrArg Value.bool (decide_eq_false (show ¬ (e = x ∧ RightW (p2 : Int) (m2 : Int) ∧ e2 = x + 1) from fun hh => absurd hh.2.1 ‹_›)).symm, h.to⟩
    · skip
      refine W.skip ?_
      refine W.seq ?_
      refine W.region ?_
      refine WL.val run_move rfl rfl ?_
      refine WL.val (run_addK (k := .u64) (m := x) (n := 1) rfl rfl (Int.ofNat_le.2 (show _ ≤ 18446744073709551615 by omega))) rfl rfl ?_
      refine WL.val (run_eqlF rfl rfl (by omega)) rfl rfl ?_
      refine WL.val run_move rfl rfl ?_
      refine WL.val (run_fieldAddr 0 Try.underlying73 rfl Try.sizeOf40 rfl rfl) rfl rfl ?_
      refine WL.val (run_load1 Try.isAgg40 rfl (h.cellB rfl)) rfl rfl ?_
      refine WL.val run_move rfl rfl ?_
      refine WL.val (run_addK (k := .u64) (m := x) (n := 1) rfl rfl (Int.ofNat_le.2 (show _ ≤ 18446744073709551615 by omega))) rfl rfl ?_
      refine WL.val (run_neq rfl rfl) rfl rfl ?_
      refine WL.val (run_pickF rfl) rfl rfl ?_
      refine WL.val run_assign rfl rfl ?_
      refine WL.nil ?_
      refine W.condIf rfl (fun c14 => ?_) (fun c14 => ?_)
      · skip
        refine W.exit ?_
        refine W.seq ?_
        refine W.seq ?_
        refine W.region ?_
        refine WL.val run_assign rfl rfl ?_
        refine WL.nil ?_
        refine W.ret ?_
        refine bodyQ.r1 (v := .bool _) Try.results93 rfl ?_
        -- path FFT
        first
          | exact ⟨congrArg Value.bool (decide_eq_true (show (e = x ∧ RightW (p2 : Int) (m2 : Int) ∧ e2 = x + 1) from ⟨by omega, by first | assumption | exact Decidable.not_not.1 ‹_›, by omega⟩)).symm, h.to⟩
          | exact ⟨congrArg Value.bool (decide_eq_false (show ¬ (e = x ∧ RightW (p2 : Int) (m2 : Int) ∧ e2 = x + 1) from fun hh => by omega)).symm, h.to⟩
          | exact ⟨congrArg Value.bool (decide_eq_false (show ¬ (e = x ∧ RightW (p2 : Int) (m2 : Int) ∧ e2 = x + 1) from fun hh => absurd hh.2.1 ‹_›)).symm, h.to⟩
      · skip
        refine W.skip ?_
        refine W.exit ?_
        refine W.seq ?_
        refine W.region ?_
        refine WL.val run_assign rfl rfl ?_
        refine WL.nil ?_
        refine W.ret ?_
        refine bodyQ.r1 (v := .bool _) Try.results93 rfl ?_
        -- path FFF
        first
          | exact ⟨congrArg Value.bool (decide_eq_true (show (e = x ∧ RightW (p2 : Int) (m2 : Int) ∧ e2 = x + 1) from ⟨by omega, by first | assumption | exact Decidable.not_not.1 ‹_›, by omega⟩)).symm, h.to⟩
          | exact ⟨congrArg Value.bool (decide_eq_false (show ¬ (e = x ∧ RightW (p2 : Int) (m2 : Int) ∧ e2 = x + 1) from fun hh => by omega)).symm, h.to⟩
          | exact ⟨congrArg Value.bool (decide_eq_false (show ¬ (e = x ∧ RightW (p2 : Int) (m2 : Int) ∧ e2 = x + 1) from fun hh => absurd hh.2.1 ‹_›)).symm, h.to⟩

theorem cas_no {bw bt : Nat} {e p m x e2 p2 m2 : Nat} (hx : x + 1 < 18446744073709551616) (hm : ¬ (e = x ∧ RightW (p2 : Int) (m2 : Int) ∧ e2 = x + 1)) (h : On W0 (blk bw [.pointer (some ⟨bt, 0, none⟩), .int .u64 (e : Int), .int .i64 (p : Int), .int .i64 (m : Int)] 140 :: L) w) : Calls Try.prog 49 #[.pointer (some ⟨bw, 0, none⟩), .int .u64 (x : Int), .agg #[.int .u64 (e2 : Int), .int .i64 (p2 : Int), .int .i64 (m2 : Int)]] w (Ret fun v w' => v = .tuple #[.agg #[.int .u64 (e : Int), .int .i64 (p : Int), .int .i64 (m : Int)], .bool false, .int .i64 0] ∧ On W0 (blk bw [.pointer (some ⟨bt, 0, none⟩), .int .u64 (e : Int), .int .i64 (p : Int), .int .i64 (m : Int)] 140 :: L) w') := by
  refine enter Try.func49 rfl Try.ntmps49 rfl ?_
  refine W.seq ?_
  refine W.region ?_
  refine WL.eff (eff_box (v := .agg _) (l := [.int .u64 _, .int .i64 _, .int .i64 _]) h rfl rfl) rfl rfl ?_
  rintro _ w ⟨b5, rfl, h⟩
  refine WL.eff (eff_alloc h Try.zeroValue73 rfl) rfl rfl ?_
  rintro _ w ⟨b6, rfl, h⟩
  refine WL.val run_assign rfl rfl ?_
  refine WL.val run_assign rfl rfl ?_
  refine WL.nil ?_
  refine W.seq ?_
  refine W.seq ?_
  refine W.region ?_
  refine WL.val run_move rfl rfl ?_
  refine WL.val run_move rfl rfl ?_
  refine WL.val (run_loadB (vs := [.int .u64 _, .int .i64 _, .int .i64 _]) h Try.isAgg73 Try.sizeOf73 rfl rfl rfl) rfl rfl ?_
  refine WL.eff (eff_call Try.call93 (wmay_ok hx (h.fetch (blk bw [.pointer (some ⟨bt, 0, none⟩), .int .u64 (e : Int), .int .i64 (p : Int), .int .i64 (m : Int)] 140)))) rfl rfl ?_
  rintro _ w ⟨rfl, h⟩
  refine WL.val (run_notDec rfl) rfl rfl ?_
  refine WL.nil ?_
  refine W.condIf rfl (fun c2 => ?_) (fun c2 => ?_)
  · skip
    refine W.seq ?_
    refine W.region ?_
    refine WL.val run_move rfl rfl ?_
    refine WL.val (run_nilCheck rfl) rfl rfl ?_
    refine WL.val (run_fieldAddr 1 Try.underlying140 rfl Try.sizeOf73 rfl rfl) rfl rfl ?_
    refine WL.val (run_loadB (vs := [.int .u64 _, .int .i64 _, .int .i64 _]) h Try.isAgg73 Try.sizeOf73 rfl rfl rfl) rfl rfl ?_
    refine WL.eff (eff_storeN (vs := [.int .u64 _, .int .i64 _, .int .i64 _]) h Try.sizeOf73 rfl rfl rfl rfl rfl (fun k _ _ => free0 k)) rfl rfl ?_
    rintro _ w h
    try simp only [splice, List.take_zero, List.take_succ_cons, List.take_nil, List.drop_succ_cons, List.drop_zero, List.drop_nil, List.nil_append, List.cons_append, List.append_nil, List.length_cons, List.length_nil, Nat.zero_add, Nat.reduceAdd] at h
    refine WL.val run_assign rfl rfl ?_
    refine WL.val run_assign rfl rfl ?_
    refine WL.nil ?_
    refine W.ret ?_
    refine bodyQ.rcttB (vs := [.int .u64 _, .int .i64 _, .int .i64 _]) (v2 := .bool _) (v3 := .int .i64 _) h Try.results49 Try.isAgg73 Try.sizeOf73 rfl rfl rfl rfl rfl ?_
    -- path T
    exact ⟨rfl, h.to⟩
  · skip
    exact absurd (Decidable.not_not.1 c2) hm

theorem cas_ok {bw bt b : Nat} {e p m x e2 p2 m2 n : Nat} {d : Dk} (hx : x + 1 < 18446744073709551616) (hm : (e = x ∧ RightW (p2 : Int) (m2 : Int) ∧ e2 = x + 1)) (hlow : d.lowK 2) (hnb : n + 1 < 256 ^ 8) (h : On W0 (blk bw [.pointer (some ⟨bt, 0, none⟩), .int .u64 (e : Int), .int .i64 (p : Int), .int .i64 (m : Int)] 140 :: TwinP 126 bt b 0 n (encW e p m) :: DiskP 106 110 b d :: L) w) : Calls Try.prog 49 #[.pointer (some ⟨bw, 0, none⟩), .int .u64 (x : Int), .agg #[.int .u64 (e2 : Int), .int .i64 (p2 : Int), .int .i64 (m2 : Int)]] w (Ret fun v w' => ((putT d 0 n (encW e2 p2 m2)).1 = 0 ∧ v = .tuple #[.agg #[.int .u64 (e2 : Int), .int .i64 (p2 : Int), .int .i64 (m2 : Int)], .bool true, .int .i64 0] ∧ On W0 (blk bw [.pointer (some ⟨bt, 0, none⟩), .int .u64 (e2 : Int), .int .i64 (p2 : Int), .int .i64 (m2 : Int)] 140 :: TwinP 126 bt b 0 (n + 1) (encW e2 p2 m2) :: DiskP 106 110 b (putT d 0 n (encW e2 p2 m2)).2 :: L) w') ∨ ((putT d 0 n (encW e2 p2 m2)).1 ≠ 0 ∧ v = .tuple #[.agg #[.int .u64 (e : Int), .int .i64 (p : Int), .int .i64 (m : Int)], .bool false, .int .i64 (putT d 0 n (encW e2 p2 m2)).1] ∧ On W0 (blk bw [.pointer (some ⟨bt, 0, none⟩), .int .u64 (e : Int), .int .i64 (p : Int), .int .i64 (m : Int)] 140 :: TwinP 126 bt b 0 n (encW e p m) :: DiskP 106 110 b (putT d 0 n (encW e2 p2 m2)).2 :: L) w')) := by
  refine enter Try.func49 rfl Try.ntmps49 rfl ?_
  have hpm : p2 < 256 ∧ m2 < 256 := by have := hm.2.1; unfold RightW at this; omega
  have he2 : e2 < 18446744073709551616 := by omega
  refine W.seq ?_
  refine W.region ?_
  refine WL.eff (eff_box (v := .agg _) (l := [.int .u64 _, .int .i64 _, .int .i64 _]) h rfl rfl) rfl rfl ?_
  rintro _ w ⟨b5, rfl, h⟩
  refine WL.eff (eff_alloc h Try.zeroValue73 rfl) rfl rfl ?_
  rintro _ w ⟨b6, rfl, h⟩
  refine WL.val run_assign rfl rfl ?_
  refine WL.val run_assign rfl rfl ?_
  refine WL.nil ?_
  refine W.seq ?_
  refine W.seq ?_
  refine W.region ?_
  refine WL.val run_move rfl rfl ?_
  refine WL.val run_move rfl rfl ?_
  refine WL.val (run_loadB (vs := [.int .u64 _, .int .i64 _, .int .i64 _]) h Try.isAgg73 Try.sizeOf73 rfl rfl rfl) rfl rfl ?_
  refine WL.eff (eff_call Try.call93 (wmay_ok hx (h.fetch (blk bw [.pointer (some ⟨bt, 0, none⟩), .int .u64 (e : Int), .int .i64 (p : Int), .int .i64 (m : Int)] 140)))) rfl rfl ?_
  rintro _ w ⟨rfl, h⟩
  refine WL.val (run_notDec rfl) rfl rfl ?_
  refine WL.nil ?_
  refine W.condIf rfl (fun c2 => ?_) (fun c2 => ?_)
  · skip
    exact absurd hm c2
  · skip
    refine W.skip ?_
    refine W.seq ?_
    refine W.seq ?_
    refine W.draw Try.follows h (fun w h => ?_)
    refine WT.pure 0 rfl (by kernel_rfl) (fun w' => run_move) rfl rfl ?_
    refine WT.pure 1 rfl (by kernel_rfl) (fun w' => (run_nilCheck rfl)) rfl rfl ?_
    refine WT.pure 2 rfl (by kernel_rfl) (fun w' => (run_fieldAddr 0 Try.underlying140 rfl Try.sizeOf49 rfl rfl)) rfl rfl ?_
    refine WT.load1 3 rfl (by kernel_rfl) Try.isAgg49 rfl (h.cellB rfl) rfl rfl ?_
    refine WT.loadN (vs := [.int .u64 _, .int .i64 _, .int .i64 _]) 4 rfl (by kernel_rfl) Try.isAgg73 Try.sizeOf73 rfl rfl (h.rowV (n := 3) rfl) rfl rfl ?_
    refine WT.eff 5 [false, true] rfl (by kernel_rfl) (by kernel_rfl) (eff_call Try.call45 (encode_ok he2 hpm.1 hpm.2 h)) rfl rfl ?_
    rintro _ w ⟨a24, rfl, h⟩
    refine ⟨⟨h.cellB rfl, trivial⟩, ?_⟩
    refine WT.eff 6 [false] rfl (by kernel_rfl) (by kernel_rfl) (eff_call Try.call72 (put_ok (nv := (encW e2 p2 m2)) hlow ⟨Int.le_refl 0, by decide⟩ hnb ((h.fetch (DiskP 106 110 b d)).fetch (TwinP 126 bt b 0 n (encW e p m))) (Gives.ownO (v := .slice a24 (encW e2 p2 m2).length (encW e2 p2 m2).length)))) rfl rfl ?_
    rintro v25 w ⟨hv25, h⟩
    have ob_ : ∃ r, r = (putT d 0 n (encW e2 p2 m2)) := ⟨_, rfl⟩
    obtain ⟨r, hr⟩ := ob_
    rw [← hr] at h hv25
    subst hv25
    refine ⟨trivial, ?_⟩
    refine WT.pure 7 rfl (by kernel_rfl) (fun w' => run_assign) rfl rfl ?_
    refine WT.done (by kernel_rfl) ?_
    refine W.seq ?_
    refine W.region ?_
    refine WL.val run_move rfl rfl ?_
    refine WL.val (run_neq rfl rfl) rfl rfl ?_
    refine WL.nil ?_
    refine W.condIf rfl (fun c8 => ?_) (fun c8 => ?_)
    · skip
      refine W.seq ?_
      refine W.region ?_
      refine WL.val run_move rfl rfl ?_
      refine WL.val (run_nilCheck rfl) rfl rfl ?_
      refine WL.val (run_fieldAddr 1 Try.underlying140 rfl Try.sizeOf73 rfl rfl) rfl rfl ?_
      refine WL.val (run_loadB (vs := [.int .u64 _, .int .i64 _, .int .i64 _]) h Try.isAgg73 Try.sizeOf73 rfl rfl rfl) rfl rfl ?_
      refine WL.val run_move rfl rfl ?_
      refine WL.eff (eff_storeN (vs := [.int .u64 _, .int .i64 _, .int .i64 _]) h Try.sizeOf73 rfl rfl rfl rfl rfl (fun k _ _ => free0 k)) rfl rfl ?_
      rintro _ w h
      try simp only [splice, List.take_zero, List.take_succ_cons, List.take_nil, List.drop_succ_cons, List.drop_zero, List.drop_nil, List.nil_append, List.cons_append, List.append_nil, List.length_cons, List.length_nil, Nat.zero_add, Nat.reduceAdd] at h
      refine WL.val run_assign rfl rfl ?_
      refine WL.val run_assign rfl rfl ?_
      refine WL.nil ?_
      refine W.ret ?_
      refine bodyQ.rcttB (vs := [.int .u64 _, .int .i64 _, .int .i64 _]) (v2 := .bool _) (v3 := .int .i64 _) h Try.results49 Try.isAgg73 Try.sizeOf73 rfl rfl rfl rfl rfl ?_
      -- path FT
      rw [if_neg c8, if_neg c8] at h
      refine .inr ⟨by rw [← hr]; exact c8, by rw [← hr], ?_⟩
      rw [← hr]
      exact h.to
    · skip
      refine W.skip ?_
      refine W.seq ?_
      refine W.region ?_
      refine WL.val run_move rfl rfl ?_
      refine WL.val (run_loadB (vs := [.int .u64 _, .int .i64 _, .int .i64 _]) h Try.isAgg73 Try.sizeOf73 rfl rfl rfl) rfl rfl ?_
      refine WL.val (run_nilCheck rfl) rfl rfl ?_
      refine WL.val (run_fieldAddr 1 Try.underlying140 rfl Try.sizeOf73 rfl rfl) rfl rfl ?_
      refine WL.eff (eff_storeN (vs := [.int .u64 _, .int .i64 _, .int .i64 _]) h Try.sizeOf73 rfl rfl rfl rfl rfl (fun k _ _ => free0 k)) rfl rfl ?_
      rintro _ w h
      try simp only [splice, List.take_zero, List.take_succ_cons, List.take_nil, List.drop_succ_cons, List.drop_zero, List.drop_nil, List.nil_append, List.cons_append, List.append_nil, List.length_cons, List.length_nil, Nat.zero_add, Nat.reduceAdd] at h
      refine WL.nil ?_
      refine W.seq ?_
      refine W.region ?_
      refine WL.val (run_loadB (vs := [.int .u64 _, .int .i64 _, .int .i64 _]) h Try.isAgg73 Try.sizeOf73 rfl rfl rfl) rfl rfl ?_
      refine WL.eff (eff_storeN (vs := [.int .u64 _, .int .i64 _, .int .i64 _]) h Try.sizeOf73 rfl rfl rfl rfl rfl (fun k _ _ => free0 k)) rfl rfl ?_
      rintro _ w h
      try simp only [splice, List.take_zero, List.take_succ_cons, List.take_nil, List.drop_succ_cons, List.drop_zero, List.drop_nil, List.nil_append, List.cons_append, List.append_nil, List.length_cons, List.length_nil, Nat.zero_add, Nat.reduceAdd] at h
      refine WL.val run_assign rfl rfl ?_
      refine WL.val run_assign rfl rfl ?_
      refine WL.nil ?_
      refine W.ret ?_
      refine bodyQ.rcttB (vs := [.int .u64 _, .int .i64 _, .int .i64 _]) (v2 := .bool _) (v3 := .int .i64 _) h Try.results49 Try.isAgg73 Try.sizeOf73 rfl rfl rfl rfl rfl ?_
      -- path FF
      have c8 := Decidable.not_not.1 c8
      rw [if_pos c8, if_pos c8] at h
      refine .inl ⟨by rw [← hr]; exact c8, rfl, ?_⟩
      rw [← hr]
      exact h.to

end Go.Proofs.Ytlahgihjjabgmaa
