/-
  The contracts of reservations. Lines of walks printed by a program of the prover's.
-/
import Derived.Test.YtdpakoefdpmebaaGreatResv2
import Derived.Test.YtdpakoefdpmebaaGreatResvModel
namespace Go.Proofs.YtdpakoefdpmebaaGreat
open Go Go.Sl Go.Sl.RsM
set_option linter.unusedVariables false
set_option linter.unusedSimpArgs false
set_option maxHeartbeats 1000000
set_option maxRecDepth 8000
variable {W0 w : World} {L F : List HProp}

theorem preempt1_ok {b8 : Nat} {k other : Int} {cs : List Value} {e : Nat} {fr : Nat × Nat} (h : On W0 L w) [HasBlk L b8 (.int .u64 other :: cs) e fr] : Calls Tryz.prog 145 #[.int .u64 k, .pointer (some ⟨b8, 0, none⟩)] w (Ret fun v w' => v = .bool (decide (k = other)) ∧ On W0 L w') := by
  refine enter Tryz.func145 rfl Tryz.ntmps145 rfl (W.seq (W.region (WL.val run_assign rfl rfl (WL.nil (W.seq (W.region (WL.val run_move rfl rfl ?_)))))))
  refine WL.val (run_load1 Tryz.isAgg23 rfl (h.cellB rfl)) rfl rfl (WL.val (run_eql rfl rfl) rfl rfl (WL.val run_assign rfl rfl (WL.nil (W.ret (bodyQ.r1 (v := .bool _) Tryz.results145 rfl ?_)))))
  exact ⟨rfl, h⟩

end Go.Proofs.YtdpakoefdpmebaaGreat
