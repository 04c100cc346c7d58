/-
  A unit: laws of a unit: the contracts. Lines of walks printed by a program of the prover's.
-/
import Derived.Test.YtdpakoefdpmebaaGreatUnit17
import Derived.Test.YtdpakoefdpmebaaGreatUnitLaw
namespace Go.Proofs.YtdpakoefdpmebaaGreat
open Go Go.Sl Go.Sl.BitM Go.Sl.SpM Go.Sl.RsM Go.Sl.ByM Go.Sl.UnM
set_option linter.unusedVariables false
set_option linter.unusedSimpArgs false
set_option maxHeartbeats 1000000
set_option maxRecDepth 8000
variable {W0 w : World} {L F : List HProp}

theorem uapart_law {a_ b_ : Int} {cx cy : Nat} {ax ay : Option Addr} {xs ys : List UInt8} (h : On W0 F w) (CX : Gives F (Bytes (.slice ax xs.length cx) xs)) (CY : Gives F (Bytes (.slice ay ys.length cy) ys)) : Calls Tryz.prog 5 #[.int .i64 a_, .int .i64 b_, .slice ax xs.length cx, .slice ay ys.length cy] w (Ret fun v w' => v = .bool true ∧ On W0 F w') := by
  refine enter Tryz.func5 rfl Tryz.ntmps5 rfl ?_
  have hbx := (h.reads CX).bounds
  obtain ⟨hxc, hxm⟩ := hbx
  have hby := (h.reads CY).bounds
  obtain ⟨hyc, hym2⟩ := hby
  have hmx := maxLen_eq
  refine W.seq ?_
  refine W.region ?_
  refine WL.val run_assign rfl rfl ?_
  refine WL.nil ?_
  refine W.seq ?_
  refine W.seq ?_
  refine W.region ?_
  refine WL.eff (eff_call Tryz.call10 (uknown_ok h)) rfl rfl ?_
  rintro _ w ⟨rfl, h⟩
  refine WL.val (run_not rfl) rfl rfl ?_
  refine WL.nil ?_
  refine W.condF rfl ?_
  refine W.skip ?_
  refine W.seq ?_
  refine W.region ?_
  refine WL.val run_move rfl rfl ?_
  refine WL.val (run_lenSlice Tryz.underlying22 rfl) rfl rfl ?_
  refine WL.val (run_quoN (m := xs.length) (n := 8) rfl rfl (by omega) (by decide)) rfl rfl ?_
  refine WL.val run_assign rfl rfl ?_
  refine WL.nil ?_
  refine W.seq ?_
  refine W.region ?_
  refine WL.val run_move rfl rfl ?_
  refine WL.val (run_lenSlice Tryz.underlying22 rfl) rfl rfl ?_
  refine WL.val (run_quoN (m := ys.length) (n := 8) rfl rfl (by omega) (by decide)) rfl rfl ?_
  refine WL.val run_assign rfl rfl ?_
  refine WL.nil ?_
  refine W.cut (fun env w => ∃ (j : Env) (p q n m : Nat), (a_ = (p : Int) ∧ b_ = (q : Int) ∧ xs.length = 8 * n ∧ ys.length = 8 * m ∧ p + n ≤ 32 ∧ q + m ≤ 32 ∧ n ≤ 16 ∧ m ≤ 16 ∧ (q + m ≤ p ∨ p + n ≤ q)) ∧ env = mkE j [(0, .int .i64 a_), (1, .int .i64 b_), (2, .slice ax xs.length cx), (3, .slice ay ys.length cy), (9, .int .i64 (((xs.length / 8 : Nat)) : Int)), (10, .int .i64 (((ys.length / 8 : Nat)) : Int))] ∧ On W0 F w) ?_ ?_
  · skip
    refine W.seq ?_
    refine W.region ?_
    refine WL.val run_move rfl rfl ?_
    refine WL.val (run_lenSlice Tryz.underlying22 rfl) rfl rfl ?_
    refine WL.val (run_rem rfl rfl (by omega) (by omega)) rfl rfl ?_
    refine WL.dec (run_neq rfl rfl) rfl rfl (fun c33 => ?_) (fun c33 => ?_)
    · skip
      refine WL.val run_move rfl rfl ?_
      refine WL.skip rfl rfl ?_
      refine WL.skip rfl rfl ?_
      refine WL.skip rfl rfl ?_
      refine WL.skip rfl rfl ?_
      refine WL.val (run_pickT rfl) rfl rfl ?_
      refine WL.val run_move rfl rfl ?_
      refine WL.skip rfl rfl ?_
      refine WL.skip rfl rfl ?_
      refine WL.val (run_pickT rfl) rfl rfl ?_
      refine WL.val run_move rfl rfl ?_
      refine WL.skip rfl rfl ?_
      refine WL.skip rfl rfl ?_
      refine WL.val (run_pickT rfl) rfl rfl ?_
      refine WL.val run_move rfl rfl ?_
      refine WL.skip rfl rfl ?_
      refine WL.skip rfl rfl ?_
      refine WL.val (run_pickT rfl) rfl rfl ?_
      refine WL.val run_move rfl rfl ?_
      refine WL.skip rfl rfl ?_
      refine WL.skip rfl rfl ?_
      refine WL.val (run_pickT rfl) rfl rfl ?_
      refine WL.val run_move rfl rfl ?_
      refine WL.skip rfl rfl ?_
      refine WL.skip rfl rfl ?_
      refine WL.val (run_pickT rfl) rfl rfl ?_
      refine WL.val run_move rfl rfl ?_
      refine WL.skip rfl rfl ?_
      refine WL.skip rfl rfl ?_
      refine WL.val (run_pickT rfl) rfl rfl ?_
      refine WL.val run_move rfl rfl ?_
      refine WL.skip rfl rfl ?_
      refine WL.skip rfl rfl ?_
      refine WL.skip rfl rfl ?_
      refine WL.skip rfl rfl ?_
      refine WL.val (run_pickT rfl) rfl rfl ?_
      refine WL.val run_move rfl rfl ?_
      refine WL.skip rfl rfl ?_
      refine WL.skip rfl rfl ?_
      refine WL.skip rfl rfl ?_
      refine WL.skip rfl rfl ?_
      refine WL.val (run_pickT rfl) rfl rfl ?_
      refine WL.val run_move rfl rfl ?_
      refine WL.skip rfl rfl ?_
      refine WL.skip rfl rfl ?_
      refine WL.skip rfl rfl ?_
      refine WL.skip rfl rfl ?_
      refine WL.skip rfl rfl ?_
      refine WL.skip rfl rfl ?_
      refine WL.skip rfl rfl ?_
      refine WL.skip rfl rfl ?_
      refine WL.skip rfl rfl ?_
      refine WL.skip rfl rfl ?_
      refine WL.skip rfl rfl ?_
      refine WL.skip rfl rfl ?_
      refine WL.val (run_pickT rfl) rfl rfl ?_
      refine WL.nil ?_
      refine W.condT rfl ?_
      refine W.seq ?_
      refine W.region ?_
      refine WL.val run_assign rfl rfl ?_
      refine WL.nil ?_
      refine W.ret ?_
      refine bodyQ.r1 (v := .bool _) Tryz.results5 rfl ?_
      -- path T
      exact ⟨rfl, h⟩
    · skip
      refine WL.val run_move rfl rfl ?_
      refine WL.val run_move rfl rfl ?_
      refine WL.val (run_lenSlice Tryz.underlying22 rfl) rfl rfl ?_
      refine WL.val (run_rem rfl rfl (by omega) (by omega)) rfl rfl ?_
      refine WL.dec (run_neq rfl rfl) rfl rfl (fun c38 => ?_) (fun c38 => ?_)
      · skip
        refine WL.val (run_pickF rfl) rfl rfl ?_
        refine WL.val run_move rfl rfl ?_
        refine WL.skip rfl rfl ?_
        refine WL.skip rfl rfl ?_
        refine WL.val (run_pickT rfl) rfl rfl ?_
        refine WL.val run_move rfl rfl ?_
        refine WL.skip rfl rfl ?_
        refine WL.skip rfl rfl ?_
        refine WL.val (run_pickT rfl) rfl rfl ?_
        refine WL.val run_move rfl rfl ?_
        refine WL.skip rfl rfl ?_
        refine WL.skip rfl rfl ?_
        refine WL.val (run_pickT rfl) rfl rfl ?_
        refine WL.val run_move rfl rfl ?_
        refine WL.skip rfl rfl ?_
        refine WL.skip rfl rfl ?_
        refine WL.val (run_pickT rfl) rfl rfl ?_
        refine WL.val run_move rfl rfl ?_
        refine WL.skip rfl rfl ?_
        refine WL.skip rfl rfl ?_
        refine WL.val (run_pickT rfl) rfl rfl ?_
        refine WL.val run_move rfl rfl ?_
        refine WL.skip rfl rfl ?_
        refine WL.skip rfl rfl ?_
        refine WL.val (run_pickT rfl) rfl rfl ?_
        refine WL.val run_move rfl rfl ?_
        refine WL.skip rfl rfl ?_
        refine WL.skip rfl rfl ?_
        refine WL.skip rfl rfl ?_
        refine WL.skip rfl rfl ?_
        refine WL.val (run_pickT rfl) rfl rfl ?_
        refine WL.val run_move rfl rfl ?_
        refine WL.skip rfl rfl ?_
        refine WL.skip rfl rfl ?_
        refine WL.skip rfl rfl ?_
        refine WL.skip rfl rfl ?_
        refine WL.val (run_pickT rfl) rfl rfl ?_
        refine WL.val run_move rfl rfl ?_
        refine WL.skip rfl rfl ?_
        refine WL.skip rfl rfl ?_
        refine WL.skip rfl rfl ?_
        refine WL.skip rfl rfl ?_
        refine WL.skip rfl rfl ?_
        refine WL.skip rfl rfl ?_
        refine WL.skip rfl rfl ?_
        refine WL.skip rfl rfl ?_
        refine WL.skip rfl rfl ?_
        refine WL.skip rfl rfl ?_
        refine WL.skip rfl rfl ?_
        refine WL.skip rfl rfl ?_
        refine WL.val (run_pickT rfl) rfl rfl ?_
        refine WL.nil ?_
        refine W.condT rfl ?_
        refine W.seq ?_
        refine W.region ?_
        refine WL.val run_assign rfl rfl ?_
        refine WL.nil ?_
        refine W.ret ?_
        refine bodyQ.r1 (v := .bool _) Tryz.results5 rfl ?_
        -- path FT
        exact ⟨rfl, h⟩
      · skip
        refine WL.val (run_pickF rfl) rfl rfl ?_
        refine WL.val run_move rfl rfl ?_
        refine WL.val run_move rfl rfl ?_
        refine WL.dec (run_gtr rfl rfl) rfl rfl (fun c42 => ?_) (fun c42 => ?_)
        · skip
          refine WL.val (run_pickF rfl) rfl rfl ?_
          refine WL.val run_move rfl rfl ?_
          refine WL.skip rfl rfl ?_
          refine WL.skip rfl rfl ?_
          refine WL.val (run_pickT rfl) rfl rfl ?_
          refine WL.val run_move rfl rfl ?_
          refine WL.skip rfl rfl ?_
          refine WL.skip rfl rfl ?_
          refine WL.val (run_pickT rfl) rfl rfl ?_
          refine WL.val run_move rfl rfl ?_
          refine WL.skip rfl rfl ?_
          refine WL.skip rfl rfl ?_
          refine WL.val (run_pickT rfl) rfl rfl ?_
          refine WL.val run_move rfl rfl ?_
          refine WL.skip rfl rfl ?_
          refine WL.skip rfl rfl ?_
          refine WL.val (run_pickT rfl) rfl rfl ?_
          refine WL.val run_move rfl rfl ?_
          refine WL.skip rfl rfl ?_
          refine WL.skip rfl rfl ?_
          refine WL.val (run_pickT rfl) rfl rfl ?_
          refine WL.val run_move rfl rfl ?_
          refine WL.skip rfl rfl ?_
          refine WL.skip rfl rfl ?_
          refine WL.skip rfl rfl ?_
          refine WL.skip rfl rfl ?_
          refine WL.val (run_pickT rfl) rfl rfl ?_
          refine WL.val run_move rfl rfl ?_
          refine WL.skip rfl rfl ?_
          refine WL.skip rfl rfl ?_
          refine WL.skip rfl rfl ?_
          refine WL.skip rfl rfl ?_
          refine WL.val (run_pickT rfl) rfl rfl ?_
          refine WL.val run_move rfl rfl ?_
          refine WL.skip rfl rfl ?_
          refine WL.skip rfl rfl ?_
          refine WL.skip rfl rfl ?_
          refine WL.skip rfl rfl ?_
          refine WL.skip rfl rfl ?_
          refine WL.skip rfl rfl ?_
          refine WL.skip rfl rfl ?_
          refine WL.skip rfl rfl ?_
          refine WL.skip rfl rfl ?_
          refine WL.skip rfl rfl ?_
          refine WL.skip rfl rfl ?_
          refine WL.skip rfl rfl ?_
          refine WL.val (run_pickT rfl) rfl rfl ?_
          refine WL.nil ?_
          refine W.condT rfl ?_
          refine W.seq ?_
          refine W.region ?_
          refine WL.val run_assign rfl rfl ?_
          refine WL.nil ?_
          refine W.ret ?_
          refine bodyQ.r1 (v := .bool _) Tryz.results5 rfl ?_
          -- path FFT
          exact ⟨rfl, h⟩
        · skip
          refine WL.val (run_pickF rfl) rfl rfl ?_
          refine WL.val run_move rfl rfl ?_
          refine WL.val run_move rfl rfl ?_
          refine WL.dec (run_gtr rfl rfl) rfl rfl (fun c46 => ?_) (fun c46 => ?_)
          · skip
            refine WL.val (run_pickF rfl) rfl rfl ?_
            refine WL.val run_move rfl rfl ?_
            refine WL.skip rfl rfl ?_
            refine WL.skip rfl rfl ?_
            refine WL.val (run_pickT rfl) rfl rfl ?_
            refine WL.val run_move rfl rfl ?_
            refine WL.skip rfl rfl ?_
            refine WL.skip rfl rfl ?_
            refine WL.val (run_pickT rfl) rfl rfl ?_
            refine WL.val run_move rfl rfl ?_
            refine WL.skip rfl rfl ?_
            refine WL.skip rfl rfl ?_
            refine WL.val (run_pickT rfl) rfl rfl ?_
            refine WL.val run_move rfl rfl ?_
            refine WL.skip rfl rfl ?_
            refine WL.skip rfl rfl ?_
            refine WL.val (run_pickT rfl) rfl rfl ?_
            refine WL.val run_move rfl rfl ?_
            refine WL.skip rfl rfl ?_
            refine WL.skip rfl rfl ?_
            refine WL.skip rfl rfl ?_
            refine WL.skip rfl rfl ?_
            refine WL.val (run_pickT rfl) rfl rfl ?_
            refine WL.val run_move rfl rfl ?_
            refine WL.skip rfl rfl ?_
            refine WL.skip rfl rfl ?_
            refine WL.skip rfl rfl ?_
            refine WL.skip rfl rfl ?_
            refine WL.val (run_pickT rfl) rfl rfl ?_
            refine WL.val run_move rfl rfl ?_
            refine WL.skip rfl rfl ?_
            refine WL.skip rfl rfl ?_
            refine WL.skip rfl rfl ?_
            refine WL.skip rfl rfl ?_
            refine WL.skip rfl rfl ?_
            refine WL.skip rfl rfl ?_
            refine WL.skip rfl rfl ?_
            refine WL.skip rfl rfl ?_
            refine WL.skip rfl rfl ?_
            refine WL.skip rfl rfl ?_
            refine WL.skip rfl rfl ?_
            refine WL.skip rfl rfl ?_
            refine WL.val (run_pickT rfl) rfl rfl ?_
            refine WL.nil ?_
            refine W.condT rfl ?_
            refine W.seq ?_
            refine W.region ?_
            refine WL.val run_assign rfl rfl ?_
            refine WL.nil ?_
            refine W.ret ?_
            refine bodyQ.r1 (v := .bool _) Tryz.results5 rfl ?_
            -- path FFFT
            exact ⟨rfl, h⟩
          · skip
            refine WL.val (run_pickF rfl) rfl rfl ?_
            refine WL.val run_move rfl rfl ?_
            refine WL.val run_move rfl rfl ?_
            refine WL.dec (run_lss rfl rfl) rfl rfl (fun c50 => ?_) (fun c50 => ?_)
            · skip
              refine WL.val (run_pickF rfl) rfl rfl ?_
              refine WL.val run_move rfl rfl ?_
              refine WL.skip rfl rfl ?_
              refine WL.skip rfl rfl ?_
              refine WL.val (run_pickT rfl) rfl rfl ?_
              refine WL.val run_move rfl rfl ?_
              refine WL.skip rfl rfl ?_
              refine WL.skip rfl rfl ?_
              refine WL.val (run_pickT rfl) rfl rfl ?_
              refine WL.val run_move rfl rfl ?_
              refine WL.skip rfl rfl ?_
              refine WL.skip rfl rfl ?_
              refine WL.val (run_pickT rfl) rfl rfl ?_
              refine WL.val run_move rfl rfl ?_
              refine WL.skip rfl rfl ?_
              refine WL.skip rfl rfl ?_
              refine WL.skip rfl rfl ?_
              refine WL.skip rfl rfl ?_
              refine WL.val (run_pickT rfl) rfl rfl ?_
              refine WL.val run_move rfl rfl ?_
              refine WL.skip rfl rfl ?_
              refine WL.skip rfl rfl ?_
              refine WL.skip rfl rfl ?_
              refine WL.skip rfl rfl ?_
              refine WL.val (run_pickT rfl) rfl rfl ?_
              refine WL.val run_move rfl rfl ?_
              refine WL.skip rfl rfl ?_
              refine WL.skip rfl rfl ?_
              refine WL.skip rfl rfl ?_
              refine WL.skip rfl rfl ?_
              refine WL.skip rfl rfl ?_
              refine WL.skip rfl rfl ?_
              refine WL.skip rfl rfl ?_
              refine WL.skip rfl rfl ?_
              refine WL.skip rfl rfl ?_
              refine WL.skip rfl rfl ?_
              refine WL.skip rfl rfl ?_
              refine WL.skip rfl rfl ?_
              refine WL.val (run_pickT rfl) rfl rfl ?_
              refine WL.nil ?_
              refine W.condT rfl ?_
              refine W.seq ?_
              refine W.region ?_
              refine WL.val run_assign rfl rfl ?_
              refine WL.nil ?_
              refine W.ret ?_
              refine bodyQ.r1 (v := .bool _) Tryz.results5 rfl ?_
              -- path FFFFT
              exact ⟨rfl, h⟩
            · skip
              refine WL.val (run_pickF rfl) rfl rfl ?_
              refine WL.val run_move rfl rfl ?_
              refine WL.val run_move rfl rfl ?_
              refine WL.dec (run_lss rfl rfl) rfl rfl (fun c54 => ?_) (fun c54 => ?_)
              · skip
                refine WL.val (run_pickF rfl) rfl rfl ?_
                refine WL.val run_move rfl rfl ?_
                refine WL.skip rfl rfl ?_
                refine WL.skip rfl rfl ?_
                refine WL.val (run_pickT rfl) rfl rfl ?_
                refine WL.val run_move rfl rfl ?_
                refine WL.skip rfl rfl ?_
                refine WL.skip rfl rfl ?_
                refine WL.val (run_pickT rfl) rfl rfl ?_
                refine WL.val run_move rfl rfl ?_
                refine WL.skip rfl rfl ?_
                refine WL.skip rfl rfl ?_
                refine WL.skip rfl rfl ?_
                refine WL.skip rfl rfl ?_
                refine WL.val (run_pickT rfl) rfl rfl ?_
                refine WL.val run_move rfl rfl ?_
                refine WL.skip rfl rfl ?_
                refine WL.skip rfl rfl ?_
                refine WL.skip rfl rfl ?_
                refine WL.skip rfl rfl ?_
                refine WL.val (run_pickT rfl) rfl rfl ?_
                refine WL.val run_move rfl rfl ?_
                refine WL.skip rfl rfl ?_
                refine WL.skip rfl rfl ?_
                refine WL.skip rfl rfl ?_
                refine WL.skip rfl rfl ?_
                refine WL.skip rfl rfl ?_
                refine WL.skip rfl rfl ?_
                refine WL.skip rfl rfl ?_
                refine WL.skip rfl rfl ?_
                refine WL.skip rfl rfl ?_
                refine WL.skip rfl rfl ?_
                refine WL.skip rfl rfl ?_
                refine WL.skip rfl rfl ?_
                refine WL.val (run_pickT rfl) rfl rfl ?_
                refine WL.nil ?_
                refine W.condT rfl ?_
                refine W.seq ?_
                refine W.region ?_
                refine WL.val run_assign rfl rfl ?_
                refine WL.nil ?_
                refine W.ret ?_
                refine bodyQ.r1 (v := .bool _) Tryz.results5 rfl ?_
                -- path FFFFFT
                exact ⟨rfl, h⟩
              · skip
                refine WL.val (run_pickF rfl) rfl rfl ?_
                refine WL.val run_move rfl rfl ?_
                refine WL.val run_move rfl rfl ?_
                refine WL.dec (run_gtr rfl rfl) rfl rfl (fun c58 => ?_) (fun c58 => ?_)
                · skip
                  refine WL.val (run_pickF rfl) rfl rfl ?_
                  refine WL.val run_move rfl rfl ?_
                  refine WL.skip rfl rfl ?_
                  refine WL.skip rfl rfl ?_
                  refine WL.val (run_pickT rfl) rfl rfl ?_
                  refine WL.val run_move rfl rfl ?_
                  refine WL.skip rfl rfl ?_
                  refine WL.skip rfl rfl ?_
                  refine WL.skip rfl rfl ?_
                  refine WL.skip rfl rfl ?_
                  refine WL.val (run_pickT rfl) rfl rfl ?_
                  refine WL.val run_move rfl rfl ?_
                  refine WL.skip rfl rfl ?_
                  refine WL.skip rfl rfl ?_
                  refine WL.skip rfl rfl ?_
                  refine WL.skip rfl rfl ?_
                  refine WL.val (run_pickT rfl) rfl rfl ?_
                  refine WL.val run_move rfl rfl ?_
                  refine WL.skip rfl rfl ?_
                  refine WL.skip rfl rfl ?_
                  refine WL.skip rfl rfl ?_
                  refine WL.skip rfl rfl ?_
                  refine WL.skip rfl rfl ?_
                  refine WL.skip rfl rfl ?_
                  refine WL.skip rfl rfl ?_
                  refine WL.skip rfl rfl ?_
                  refine WL.skip rfl rfl ?_
                  refine WL.skip rfl rfl ?_
                  refine WL.skip rfl rfl ?_
                  refine WL.skip rfl rfl ?_
                  refine WL.val (run_pickT rfl) rfl rfl ?_
                  refine WL.nil ?_
                  refine W.condT rfl ?_
                  refine W.seq ?_
                  refine W.region ?_
                  refine WL.val run_assign rfl rfl ?_
                  refine WL.nil ?_
                  refine W.ret ?_
                  refine bodyQ.r1 (v := .bool _) Tryz.results5 rfl ?_
                  -- path FFFFFFT
                  exact ⟨rfl, h⟩
                · skip
                  refine WL.val (run_pickF rfl) rfl rfl ?_
                  refine WL.val run_move rfl rfl ?_
                  refine WL.val run_move rfl rfl ?_
                  refine WL.dec (run_gtr rfl rfl) rfl rfl (fun c62 => ?_) (fun c62 => ?_)
                  · skip
                    refine WL.val (run_pickF rfl) rfl rfl ?_
                    refine WL.val run_move rfl rfl ?_
                    refine WL.skip rfl rfl ?_
                    refine WL.skip rfl rfl ?_
                    refine WL.skip rfl rfl ?_
                    refine WL.skip rfl rfl ?_
                    refine WL.val (run_pickT rfl) rfl rfl ?_
                    refine WL.val run_move rfl rfl ?_
                    refine WL.skip rfl rfl ?_
                    refine WL.skip rfl rfl ?_
                    refine WL.skip rfl rfl ?_
                    refine WL.skip rfl rfl ?_
                    refine WL.val (run_pickT rfl) rfl rfl ?_
                    refine WL.val run_move rfl rfl ?_
                    refine WL.skip rfl rfl ?_
                    refine WL.skip rfl rfl ?_
                    refine WL.skip rfl rfl ?_
                    refine WL.skip rfl rfl ?_
                    refine WL.skip rfl rfl ?_
                    refine WL.skip rfl rfl ?_
                    refine WL.skip rfl rfl ?_
                    refine WL.skip rfl rfl ?_
                    refine WL.skip rfl rfl ?_
                    refine WL.skip rfl rfl ?_
                    refine WL.skip rfl rfl ?_
                    refine WL.skip rfl rfl ?_
                    refine WL.val (run_pickT rfl) rfl rfl ?_
                    refine WL.nil ?_
                    refine W.condT rfl ?_
                    refine W.seq ?_
                    refine W.region ?_
                    refine WL.val run_assign rfl rfl ?_
                    refine WL.nil ?_
                    refine W.ret ?_
                    refine bodyQ.r1 (v := .bool _) Tryz.results5 rfl ?_
                    -- path FFFFFFFT
                    exact ⟨rfl, h⟩
                  · skip
                    refine WL.val (run_pickF rfl) rfl rfl ?_
                    refine WL.val run_move rfl rfl ?_
                    refine WL.val run_move rfl rfl ?_
                    refine WL.val run_move rfl rfl ?_
                    refine WL.val (run_add rfl rfl (by omega) (by omega)) rfl rfl ?_
                    refine WL.dec (run_gtr rfl rfl) rfl rfl (fun c68 => ?_) (fun c68 => ?_)
                    · skip
                      refine WL.val (run_pickF rfl) rfl rfl ?_
                      refine WL.val run_move rfl rfl ?_
                      refine WL.skip rfl rfl ?_
                      refine WL.skip rfl rfl ?_
                      refine WL.skip rfl rfl ?_
                      refine WL.skip rfl rfl ?_
                      refine WL.val (run_pickT rfl) rfl rfl ?_
                      refine WL.val run_move rfl rfl ?_
                      refine WL.skip rfl rfl ?_
                      refine WL.skip rfl rfl ?_
                      refine WL.skip rfl rfl ?_
                      refine WL.skip rfl rfl ?_
                      refine WL.skip rfl rfl ?_
                      refine WL.skip rfl rfl ?_
                      refine WL.skip rfl rfl ?_
                      refine WL.skip rfl rfl ?_
                      refine WL.skip rfl rfl ?_
                      refine WL.skip rfl rfl ?_
                      refine WL.skip rfl rfl ?_
                      refine WL.skip rfl rfl ?_
                      refine WL.val (run_pickT rfl) rfl rfl ?_
                      refine WL.nil ?_
                      refine W.condT rfl ?_
                      refine W.seq ?_
                      refine W.region ?_
                      refine WL.val run_assign rfl rfl ?_
                      refine WL.nil ?_
                      refine W.ret ?_
                      refine bodyQ.r1 (v := .bool _) Tryz.results5 rfl ?_
                      -- path FFFFFFFFT
                      exact ⟨rfl, h⟩
                    · skip
                      refine WL.val (run_pickF rfl) rfl rfl ?_
                      refine WL.val run_move rfl rfl ?_
                      refine WL.val run_move rfl rfl ?_
                      refine WL.val run_move rfl rfl ?_
                      refine WL.val (run_add rfl rfl (by omega) (by omega)) rfl rfl ?_
                      refine WL.dec (run_gtr rfl rfl) rfl rfl (fun c74 => ?_) (fun c74 => ?_)
                      · skip
                        refine WL.val (run_pickF rfl) rfl rfl ?_
                        refine WL.val run_move rfl rfl ?_
                        refine WL.skip rfl rfl ?_
                        refine WL.skip rfl rfl ?_
                        refine WL.skip rfl rfl ?_
                        refine WL.skip rfl rfl ?_
                        refine WL.skip rfl rfl ?_
                        refine WL.skip rfl rfl ?_
                        refine WL.skip rfl rfl ?_
                        refine WL.skip rfl rfl ?_
                        refine WL.skip rfl rfl ?_
                        refine WL.skip rfl rfl ?_
                        refine WL.skip rfl rfl ?_
                        refine WL.skip rfl rfl ?_
                        refine WL.val (run_pickT rfl) rfl rfl ?_
                        refine WL.nil ?_
                        refine W.condT rfl ?_
                        refine W.seq ?_
                        refine W.region ?_
                        refine WL.val run_assign rfl rfl ?_
                        refine WL.nil ?_
                        refine W.ret ?_
                        refine bodyQ.r1 (v := .bool _) Tryz.results5 rfl ?_
                        -- path FFFFFFFFFT
                        exact ⟨rfl, h⟩
                      · skip
                        refine WL.val (run_pickF rfl) rfl rfl ?_
                        refine WL.val run_move rfl rfl ?_
                        refine WL.val run_move rfl rfl ?_
                        refine WL.val run_move rfl rfl ?_
                        refine WL.val run_move rfl rfl ?_
                        refine WL.val (run_add rfl rfl (by omega) (by omega)) rfl rfl ?_
                        refine WL.dec (run_lss rfl rfl) rfl rfl (fun c81 => ?_) (fun c81 => ?_)
                        · skip
                          refine WL.val run_move rfl rfl ?_
                          refine WL.val run_move rfl rfl ?_
                          refine WL.val run_move rfl rfl ?_
                          refine WL.val run_move rfl rfl ?_
                          refine WL.val (run_add rfl rfl (by omega) (by omega)) rfl rfl ?_
                          refine WL.val (run_lss rfl rfl) rfl rfl ?_
                          refine WL.val (run_pickT rfl) rfl rfl ?_
                          refine WL.val (run_pickF rfl) rfl rfl ?_
                          refine WL.nil ?_
                          refine W.condIf rfl (fun c9 => ?_) (fun c9 => ?_)
                          · skip
                            refine W.seq ?_
                            refine W.region ?_
                            refine WL.val run_assign rfl rfl ?_
                            refine WL.nil ?_
                            refine W.ret ?_
                            refine bodyQ.r1 (v := .bool _) Tryz.results5 rfl ?_
                            -- path FFFFFFFFFFTT
                            exact ⟨rfl, h⟩
                          · skip
                            refine W.skip ?_
                            -- to the cut, path FFFFFFFFFFTF
                            have ep := Int.eq_ofNat_of_zero_le (show 0 ≤ a_ by omega)
                            obtain ⟨p, hp0⟩ := ep
                            have eq := Int.eq_ofNat_of_zero_le (show 0 ≤ b_ by omega)
                            obtain ⟨q, hq0⟩ := eq
                            exact ⟨_, p, q, xs.length / 8, ys.length / 8, ⟨hp0, hq0, by omega, by omega, by omega, by omega, by omega, by omega, by omega⟩, mkE_of ⟨rfl, rfl, rfl, rfl, rfl, rfl, trivial⟩, h⟩
                        · skip
                          refine WL.val run_move rfl rfl ?_
                          refine WL.skip rfl rfl ?_
                          refine WL.skip rfl rfl ?_
                          refine WL.skip rfl rfl ?_
                          refine WL.skip rfl rfl ?_
                          refine WL.skip rfl rfl ?_
                          refine WL.val (run_pickF rfl) rfl rfl ?_
                          refine WL.val (run_pickF rfl) rfl rfl ?_
                          refine WL.nil ?_
                          refine W.condF rfl ?_
                          refine W.skip ?_
                          -- to the cut, path FFFFFFFFFFF
                          have ep := Int.eq_ofNat_of_zero_le (show 0 ≤ a_ by omega)
                          obtain ⟨p, hp0⟩ := ep
                          have eq := Int.eq_ofNat_of_zero_le (show 0 ≤ b_ by omega)
                          obtain ⟨q, hq0⟩ := eq
                          exact ⟨_, p, q, xs.length / 8, ys.length / 8, ⟨hp0, hq0, by omega, by omega, by omega, by omega, by omega, by omega, by omega⟩, mkE_of ⟨rfl, rfl, rfl, rfl, rfl, rfl, trivial⟩, h⟩
  · clear h
    rintro env w ⟨j, p, q, n, m, ⟨hp0, hq0, hxn, hym, hpn, hqm, hn16, hm16, hdis⟩, rfl, h⟩
    subst hp0
    subst hq0
    have en : xs.length / 8 = n := by omega
    have em : ys.length / 8 = m := by omega
    subst en
    subst em
    have hxs : xs.length ≤ 1000 := by omega
    have hys : ys.length ≤ 1000 := by omega
    have hall := apart_all hxn hym hpn hqm hdis
    refine W.seq ?_
    refine W.region ?_
    refine WL.eff (eff_call Tryz.call15 (unew_ok (pool := []) h)) rfl rfl ?_
    rintro _ w hv
    rcases hv with ⟨N, hN, h1N, hN2, bu, ms, rfl, h⟩ | ⟨hno, _, _⟩
    rotate_left
    · exact absurd (by decide) hno
    have ob_ : N = 32 := by omega
    obtain rfl := ob_
    refine WL.val run_move rfl rfl ?_
    refine WL.val (run_extract rfl rfl) rfl rfl ?_
    refine WL.val (run_extract rfl rfl) rfl rfl ?_
    refine WL.val run_assign rfl rfl ?_
    refine WL.val run_assign rfl rfl ?_
    refine WL.nil ?_
    refine W.seq ?_
    refine W.region ?_
    refine WL.eff (eff_call Tryz.call15 (unew_ok (pool := []) h)) rfl rfl ?_
    rintro _ w hv
    rcases hv with ⟨N, hN, h1N, hN2, bv, mv, rfl, h⟩ | ⟨hno, _, _⟩
    rotate_left
    · exact absurd (by decide) hno
    have ob_ : N = 32 := by omega
    obtain rfl := ob_
    have h : On W0 (UnP 84 146 152 bv [] mv ((newU 32).setS (newS 32)) :: UnP 84 146 152 bu [] ms ((newU 32).setS (newS 32)) :: _) w := h
    refine WL.val run_move rfl rfl ?_
    refine WL.val (run_extract rfl rfl) rfl rfl ?_
    refine WL.val (run_extract rfl rfl) rfl rfl ?_
    refine WL.val run_assign rfl rfl ?_
    refine WL.val run_assign rfl rfl ?_
    refine WL.nil ?_
    refine W.seq ?_
    refine W.region ?_
    refine WL.val run_move rfl rfl ?_
    refine WL.val run_move rfl rfl ?_
    refine WL.val run_move rfl rfl ?_
    refine WL.val (run_buildS (pl := [(0, 1), (1, 1), (2, 1), (3, 1), (4, 1), (5, 1), (6, 1), (7, 1)]) (out := [.int .i64 _, .int .i64 _, .int .i64 _, .slice _ _ _, .int .u64 _, .int .u64 _, .int .i64 _, .bool _]) Tryz.underlying25 Tryz.zeroValue25 (fun w => by kernel_rfl) rfl (⟨⟨_, _, rfl, rfl, by decide⟩, ⟨⟨_, _, rfl, rfl, by decide⟩, ⟨⟨_, _, rfl, rfl, by decide⟩, ⟨⟨_, _, rfl, rfl, by decide⟩, trivial⟩⟩⟩⟩) rfl) rfl rfl ?_
    refine WL.eff (eff_alloc h Tryz.zeroValue25 rfl) rfl rfl ?_
    rintro _ w ⟨b15, rfl, h⟩
    refine WL.eff (eff_storeN (vs := [.int .i64 _, .int .i64 _, .int .i64 _, .slice _ _ _, .int .u64 _, .int .u64 _, .int .i64 _, .bool _]) h Tryz.sizeOf25 rfl rfl rfl rfl rfl (fun k _ _ => free0 k)) rfl rfl ?_
    rintro _ w h
    try simp only [splice, List.take_zero, List.take_succ_cons, List.take_nil, List.drop_succ_cons, List.drop_zero, List.drop_nil, List.nil_append, List.cons_append, List.append_nil, List.length_cons, List.length_nil, Nat.zero_add, Nat.reduceAdd] at h
    refine WL.nil ?_
    refine W.seq ?_
    refine W.region ?_
    refine WL.val run_move rfl rfl ?_
    refine WL.val run_move rfl rfl ?_
    refine WL.val run_move rfl rfl ?_
    refine WL.val (run_buildS (pl := [(0, 1), (1, 1), (2, 1), (3, 1), (4, 1), (5, 1), (6, 1), (7, 1)]) (out := [.int .i64 _, .int .i64 _, .int .i64 _, .slice _ _ _, .int .u64 _, .int .u64 _, .int .i64 _, .bool _]) Tryz.underlying25 Tryz.zeroValue25 (fun w => by kernel_rfl) rfl (⟨⟨_, _, rfl, rfl, by decide⟩, ⟨⟨_, _, rfl, rfl, by decide⟩, ⟨⟨_, _, rfl, rfl, by decide⟩, ⟨⟨_, _, rfl, rfl, by decide⟩, trivial⟩⟩⟩⟩) rfl) rfl rfl ?_
    refine WL.eff (eff_alloc h Tryz.zeroValue25 rfl) rfl rfl ?_
    rintro _ w ⟨b16, rfl, h⟩
    refine WL.eff (eff_storeN (vs := [.int .i64 _, .int .i64 _, .int .i64 _, .slice _ _ _, .int .u64 _, .int .u64 _, .int .i64 _, .bool _]) h Tryz.sizeOf25 rfl rfl rfl rfl rfl (fun k _ _ => free0 k)) rfl rfl ?_
    rintro _ w h
    try simp only [splice, List.take_zero, List.take_succ_cons, List.take_nil, List.drop_succ_cons, List.drop_zero, List.drop_nil, List.nil_append, List.cons_append, List.append_nil, List.length_cons, List.length_nil, Nat.zero_add, Nat.reduceAdd] at h
    refine WL.nil ?_
    refine W.seq ?_
    refine W.region ?_
    refine WL.val run_move rfl rfl ?_
    refine WL.val (run_loadB (vs := [.int .i64 _, .int .i64 _, .int .i64 _, .slice _ _ _, .int .u64 _, .int .u64 _, .int .i64 _, .bool _]) h Tryz.isAgg25 Tryz.sizeOf25 rfl rfl rfl) rfl rfl ?_
    refine WL.eff (eff_call Tryz.call13 (do_ok (hh := 0) (kind := 3) (at_ := ((p : Nat) : Int)) (n := ((xs.length / 8 : Nat) : Int)) (data := xs) (key := 0) (new := 0) (typ := 0) (force := false) (u := ((newU 32).setS (newS 32))) (by decide) ((ap_ok (newS 32))).2 ((ap_ok (newS 32))).1 (h.fetch (UnP 84 146 152 bu [] ms ((newU 32).setS (newS 32)))) (Gives.to CX) (by omega))) rfl rfl ?_
    rintro _ w ⟨u1_, r1_, dv108, he, rfl, h⟩
    have he := he.symm.trans (ap_write (by decide) rfl hxn (by omega))
    simp only [Prod.mk.injEq] at he
    obtain ⟨rfl, rfl⟩ := he
    have of_ := Own.form h
    obtain ⟨ad108, cd108, hdv, _⟩ := of_
    subst hdv
    have h : On W0 (OwnB (.slice ad108 ([] : List UInt8).length cd108) ([] : List UInt8) :: _) w := h
    refine WL.eff (eff_alloc h Tryz.zeroValue36 rfl) rfl rfl ?_
    rintro _ w ⟨b17, rfl, h⟩
    refine WL.eff (eff_storeN (vs := [.int .i64 _, .int .i64 _, .int .i64 _, .slice _ _ _, .int .i64 _]) h Tryz.sizeOf36 rfl rfl rfl rfl rfl (fun k _ _ => free0 k)) rfl rfl ?_
    rintro _ w h
    try simp only [splice, List.take_zero, List.take_succ_cons, List.take_nil, List.drop_succ_cons, List.drop_zero, List.drop_nil, List.nil_append, List.cons_append, List.append_nil, List.length_cons, List.length_nil, Nat.zero_add, Nat.reduceAdd] at h
    refine WL.nil ?_
    refine W.seq ?_
    refine W.region ?_
    refine WL.val run_move rfl rfl ?_
    refine WL.val (run_loadB (vs := [.int .i64 _, .int .i64 _, .int .i64 _, .slice _ _ _, .int .u64 _, .int .u64 _, .int .i64 _, .bool _]) h Tryz.isAgg25 Tryz.sizeOf25 rfl rfl rfl) rfl rfl ?_
    refine WL.eff (eff_call Tryz.call13 (do_ok (hh := 1) (kind := 3) (at_ := ((q : Nat) : Int)) (n := ((ys.length / 8 : Nat) : Int)) (data := ys) (key := 0) (new := 0) (typ := 0) (force := false) (u := ((newU 32).setS (writeS (newS 32) p xs))) (by decide) ((ap_ok (writeS (newS 32) p xs))).2 ((ap_ok (writeS (newS 32) p xs))).1 (h.fetch (UnP 84 146 152 bu [] ms ((newU 32).setS (writeS (newS 32) p xs)))) (Gives.to CY) (by omega))) rfl rfl ?_
    rintro _ w ⟨u1_, r1_, dv111, he, rfl, h⟩
    have he := he.symm.trans (ap_write (by decide) rfl hym (by omega))
    simp only [Prod.mk.injEq] at he
    obtain ⟨rfl, rfl⟩ := he
    have of_ := Own.form h
    obtain ⟨ad111, cd111, hdv, _⟩ := of_
    subst hdv
    have h : On W0 (OwnB (.slice ad111 ([] : List UInt8).length cd111) ([] : List UInt8) :: _) w := h
    refine WL.eff (eff_alloc h Tryz.zeroValue36 rfl) rfl rfl ?_
    rintro _ w ⟨b18, rfl, h⟩
    refine WL.eff (eff_storeN (vs := [.int .i64 _, .int .i64 _, .int .i64 _, .slice _ _ _, .int .i64 _]) h Tryz.sizeOf36 rfl rfl rfl rfl rfl (fun k _ _ => free0 k)) rfl rfl ?_
    rintro _ w h
    try simp only [splice, List.take_zero, List.take_succ_cons, List.take_nil, List.drop_succ_cons, List.drop_zero, List.drop_nil, List.nil_append, List.cons_append, List.append_nil, List.length_cons, List.length_nil, Nat.zero_add, Nat.reduceAdd] at h
    refine WL.nil ?_
    refine W.seq ?_
    refine W.region ?_
    refine WL.val run_move rfl rfl ?_
    refine WL.val (run_loadB (vs := [.int .i64 _, .int .i64 _, .int .i64 _, .slice _ _ _, .int .u64 _, .int .u64 _, .int .i64 _, .bool _]) h Tryz.isAgg25 Tryz.sizeOf25 rfl rfl rfl) rfl rfl ?_
    refine WL.eff (eff_call Tryz.call13 (do_ok (hh := 1) (kind := 3) (at_ := ((q : Nat) : Int)) (n := ((ys.length / 8 : Nat) : Int)) (data := ys) (key := 0) (new := 0) (typ := 0) (force := false) (u := ((newU 32).setS (newS 32))) (by decide) ((ap_ok (newS 32))).2 ((ap_ok (newS 32))).1 (h.fetch (UnP 84 146 152 bv [] mv ((newU 32).setS (newS 32)))) (Gives.to CY) (by omega))) rfl rfl ?_
    rintro _ w ⟨u1_, r1_, dv114, he, rfl, h⟩
    have he := he.symm.trans (ap_write (by decide) rfl hym (by omega))
    simp only [Prod.mk.injEq] at he
    obtain ⟨rfl, rfl⟩ := he
    have of_ := Own.form h
    obtain ⟨ad114, cd114, hdv, _⟩ := of_
    subst hdv
    have h : On W0 (OwnB (.slice ad114 ([] : List UInt8).length cd114) ([] : List UInt8) :: _) w := h
    refine WL.eff (eff_alloc h Tryz.zeroValue36 rfl) rfl rfl ?_
    rintro _ w ⟨b19, rfl, h⟩
    refine WL.eff (eff_storeN (vs := [.int .i64 _, .int .i64 _, .int .i64 _, .slice _ _ _, .int .i64 _]) h Tryz.sizeOf36 rfl rfl rfl rfl rfl (fun k _ _ => free0 k)) rfl rfl ?_
    rintro _ w h
    try simp only [splice, List.take_zero, List.take_succ_cons, List.take_nil, List.drop_succ_cons, List.drop_zero, List.drop_nil, List.nil_append, List.cons_append, List.append_nil, List.length_cons, List.length_nil, Nat.zero_add, Nat.reduceAdd] at h
    refine WL.nil ?_
    refine W.seq ?_
    refine W.region ?_
    refine WL.val run_move rfl rfl ?_
    refine WL.val (run_loadB (vs := [.int .i64 _, .int .i64 _, .int .i64 _, .slice _ _ _, .int .u64 _, .int .u64 _, .int .i64 _, .bool _]) h Tryz.isAgg25 Tryz.sizeOf25 rfl rfl rfl) rfl rfl ?_
    refine WL.eff (eff_call Tryz.call13 (do_ok (hh := 0) (kind := 3) (at_ := ((p : Nat) : Int)) (n := ((xs.length / 8 : Nat) : Int)) (data := xs) (key := 0) (new := 0) (typ := 0) (force := false) (u := ((newU 32).setS (writeS (newS 32) q ys))) (by decide) ((ap_ok (writeS (newS 32) q ys))).2 ((ap_ok (writeS (newS 32) q ys))).1 (h.fetch (UnP 84 146 152 bv [] mv ((newU 32).setS (writeS (newS 32) q ys)))) (Gives.to CX) (by omega))) rfl rfl ?_
    rintro _ w ⟨u1_, r1_, dv117, he, rfl, h⟩
    have he := he.symm.trans (ap_write (by decide) rfl hxn (by omega))
    simp only [Prod.mk.injEq] at he
    obtain ⟨rfl, rfl⟩ := he
    have of_ := Own.form h
    obtain ⟨ad117, cd117, hdv, _⟩ := of_
    subst hdv
    have h : On W0 (OwnB (.slice ad117 ([] : List UInt8).length cd117) ([] : List UInt8) :: _) w := h
    refine WL.eff (eff_alloc h Tryz.zeroValue36 rfl) rfl rfl ?_
    rintro _ w ⟨b20, rfl, h⟩
    refine WL.eff (eff_storeN (vs := [.int .i64 _, .int .i64 _, .int .i64 _, .slice _ _ _, .int .i64 _]) h Tryz.sizeOf36 rfl rfl rfl rfl rfl (fun k _ _ => free0 k)) rfl rfl ?_
    rintro _ w h
    try simp only [splice, List.take_zero, List.take_succ_cons, List.take_nil, List.drop_succ_cons, List.drop_zero, List.drop_nil, List.nil_append, List.cons_append, List.append_nil, List.length_cons, List.length_nil, Nat.zero_add, Nat.reduceAdd] at h
    refine WL.nil ?_
    refine W.seq ?_
    refine W.region ?_
    refine WL.val (run_buildS (pl := [(0, 1), (1, 1), (2, 1), (3, 1), (4, 1), (5, 1), (6, 1), (7, 1)]) (out := [.int .i64 _, .int .i64 _, .int .i64 _, .slice _ _ _, .int .u64 _, .int .u64 _, .int .i64 _, .bool _]) Tryz.underlying25 Tryz.zeroValue25 (fun w => by kernel_rfl) rfl (⟨⟨_, _, rfl, rfl, by decide⟩, ⟨⟨_, _, rfl, rfl, by decide⟩, trivial⟩⟩) rfl) rfl rfl ?_
    refine WL.eff (eff_alloc h Tryz.zeroValue25 rfl) rfl rfl ?_
    rintro _ w ⟨b21, rfl, h⟩
    refine WL.eff (eff_storeN (vs := [.int .i64 _, .int .i64 _, .int .i64 _, .slice _ _ _, .int .u64 _, .int .u64 _, .int .i64 _, .bool _]) h Tryz.sizeOf25 rfl rfl rfl rfl rfl (fun k _ _ => free0 k)) rfl rfl ?_
    rintro _ w h
    try simp only [splice, List.take_zero, List.take_succ_cons, List.take_nil, List.drop_succ_cons, List.drop_zero, List.drop_nil, List.nil_append, List.cons_append, List.append_nil, List.length_cons, List.length_nil, Nat.zero_add, Nat.reduceAdd] at h
    refine WL.nil ?_
    refine W.seq ?_
    refine W.draw Tryz.follows h (fun w h => ?_)
    refine WT.pure 0 rfl (by kernel_rfl) (fun w' => (run_fieldAddr 0 Tryz.underlying36 rfl Tryz.sizeOf3 rfl rfl)) rfl rfl ?_
    refine WT.load1 1 rfl (by kernel_rfl) Tryz.isAgg3 rfl (h.cellB rfl) rfl rfl ?_
    refine WT.pure 2 rfl (by kernel_rfl) (fun w' => (run_fieldAddr 0 Tryz.underlying36 rfl Tryz.sizeOf3 rfl rfl)) rfl rfl ?_
    refine WT.load1 3 rfl (by kernel_rfl) Tryz.isAgg3 rfl (h.cellB rfl) rfl rfl ?_
    refine WT.pure 4 rfl (by kernel_rfl) (fun w' => (run_add rfl rfl (by decide) (by decide))) rfl rfl ?_
    refine WT.pure 5 rfl (by kernel_rfl) (fun w' => (run_fieldAddr 0 Tryz.underlying36 rfl Tryz.sizeOf3 rfl rfl)) rfl rfl ?_
    refine WT.load1 6 rfl (by kernel_rfl) Tryz.isAgg3 rfl (h.cellB rfl) rfl rfl ?_
    refine WT.pure 7 rfl (by kernel_rfl) (fun w' => (run_add rfl rfl (by decide) (by decide))) rfl rfl ?_
    refine WT.pure 8 rfl (by kernel_rfl) (fun w' => (run_fieldAddr 0 Tryz.underlying36 rfl Tryz.sizeOf3 rfl rfl)) rfl rfl ?_
    refine WT.load1 9 rfl (by kernel_rfl) Tryz.isAgg3 rfl (h.cellB rfl) rfl rfl ?_
    refine WT.pure 10 rfl (by kernel_rfl) (fun w' => (run_add rfl rfl (by decide) (by decide))) rfl rfl ?_
    refine WT.pure 11 rfl (by kernel_rfl) (fun w' => run_eqlT rfl rfl (rfl)) rfl rfl ?_
    refine WT.pure 12 rfl (by kernel_rfl) (fun w' => run_move) rfl rfl ?_
    refine WT.pure 13 rfl (by kernel_rfl) (fun w' => run_move) rfl rfl ?_
    refine WT.loadN (vs := [.int .i64 _, .int .i64 _, .int .i64 _, .slice _ _ _, .int .u64 _, .int .u64 _, .int .i64 _, .bool _]) 14 rfl (by kernel_rfl) Tryz.isAgg25 Tryz.sizeOf25 rfl rfl (h.rowV (n := 8) rfl) rfl rfl ?_
    refine WT.pure 16 rfl (by kernel_rfl) (fun w' => run_move) rfl rfl ?_
    refine WT.loadN (vs := [.int .i64 _, .int .i64 _, .int .i64 _, .slice _ _ _, .int .u64 _, .int .u64 _, .int .i64 _, .bool _]) 17 rfl (by kernel_rfl) Tryz.isAgg25 Tryz.sizeOf25 rfl rfl (h.rowV (n := 8) rfl) rfl rfl ?_
    refine WT.eff 15 [true, false, false, false, false, false] rfl (by kernel_rfl) (by kernel_rfl) (eff_call Tryz.call13 (do_ok (hh := 2) (kind := 2) (at_ := 0) (n := 32) (data := []) (key := 0) (new := 0) (typ := 0) (force := false) (u := ((newU 32).setS (writeS (writeS (newS 32) p xs) q ys))) (by decide) ((ap_ok (writeS (writeS (newS 32) p xs) q ys))).2 ((ap_ok (writeS (writeS (newS 32) p xs) q ys))).1 (h.fetch (UnP 84 146 152 bu [] ms ((newU 32).setS (writeS (writeS (newS 32) p xs) q ys)))) Gives.nilB (by decide))) rfl rfl ?_
    rintro _ w ⟨u1_, r1_, dv134, he, rfl, h⟩
    have he := he.symm.trans (ap_read (i := 2) (by decide) rfl)
    simp only [Prod.mk.injEq] at he
    obtain ⟨rfl, rfl⟩ := he
    have of_ := Own.form h
    obtain ⟨ad134, cd134, hdv, _⟩ := of_
    subst hdv
    have h : On W0 (OwnB (.slice ad134 ((partS (writeS (writeS (newS 32) p xs) q ys) 0 32)).length cd134) ((partS (writeS (writeS (newS 32) p xs) q ys) 0 32)) :: _) w := h
    refine ⟨⟨(h.rowV (n := 8) rfl), trivial⟩, ?_⟩
    refine WT.eff 18 [false] rfl (by kernel_rfl) (by kernel_rfl) (eff_call Tryz.call13 (do_ok (hh := 2) (kind := 2) (at_ := 0) (n := 32) (data := []) (key := 0) (new := 0) (typ := 0) (force := false) (u := ((newU 32).setS (writeS (writeS (newS 32) q ys) p xs))) (by decide) ((ap_ok (writeS (writeS (newS 32) q ys) p xs))).2 ((ap_ok (writeS (writeS (newS 32) q ys) p xs))).1 (h.fetch (UnP 84 146 152 bv [] mv ((newU 32).setS (writeS (writeS (newS 32) q ys) p xs)))) Gives.nilB (by decide))) rfl rfl ?_
    rintro _ w ⟨u1_, r1_, dv137, he, rfl, h⟩
    have he := he.symm.trans (ap_read (i := 2) (by decide) rfl)
    simp only [Prod.mk.injEq] at he
    obtain ⟨rfl, rfl⟩ := he
    have of_ := Own.form h
    obtain ⟨ad137, cd137, hdv, _⟩ := of_
    subst hdv
    have h : On W0 (OwnB (.slice ad137 ((partS (writeS (writeS (newS 32) q ys) p xs) 0 32)).length cd137) ((partS (writeS (writeS (newS 32) q ys) p xs) 0 32)) :: _) w := h
    refine ⟨trivial, ?_⟩
    refine WT.eff 19 [] rfl (by kernel_rfl) (by kernel_rfl) (eff_call Tryz.call16 (usameR_ok (s1 := 0) (k1 := 0) (c1 := 0) (i1 := 0) (d1 := partS (writeS (writeS (newS 32) p xs) q ys) 0 32) (s2 := 0) (k2 := 0) (c2 := 0) (i2 := 0) (d2 := partS (writeS (writeS (newS 32) q ys) p xs) 0 32) h (Gives.ownO (v := .slice ad134 (partS (writeS (writeS (newS 32) p xs) q ys) 0 32).length cd134)) (Gives.ownO (v := .slice ad137 (partS (writeS (writeS (newS 32) q ys) p xs) 0 32).length cd137)))) rfl rfl ?_
    rintro _ w ⟨hv, h⟩
    rw [hall] at hv
    have hv : _ = Value.bool true := hv.trans (congrArg Value.bool (decide_eq_true rfl))
    subst hv
    refine ⟨trivial, ?_⟩
    refine WT.pure 20 rfl (by kernel_rfl) (fun w' => (run_pickT rfl)) rfl rfl ?_
    refine WT.pure 21 rfl (by kernel_rfl) (fun w' => run_assign) rfl rfl ?_
    refine WT.done (by kernel_rfl) ?_
    refine W.ret ?_
    refine bodyQ.r1 (v := .bool _) Tryz.results5 rfl ?_
    -- path 
    exact ⟨rfl, h.to⟩

end Go.Proofs.YtdpakoefdpmebaaGreat
