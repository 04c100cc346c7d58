/-
  The contracts of reservations. Lines of walks printed by a program of the prover's.
-/
import Derived.Test.YtbfdkalcpacaaaaResvKnown
import Derived.Test.YtbfdkalcpacaaaaResvModel
import Derived.Test.YtbfdkalcpacaaaaSlBits
namespace Go.Proofs.Ytbfdkalcpacaaaa
open Go Go.Sl Go.Sl.RsM
set_option linter.unusedVariables false
set_option linter.unusedSimpArgs false
set_option maxHeartbeats 1000000
set_option maxRecDepth 8000
variable {W0 w : World} {L F : List HProp}


theorem keyI {b : Nat} {t : Tb} {x : Int} (h0 : 0 ≤ x) (h8 : x < 8) (h : On W0 (blk b t.cells 69 :: L) w) : Calls Try.prog 13 #[.pointer (some ⟨b, 0, none⟩), .int .i64 x] w (Ret fun v w' => v = .int .u64 (t.K x.toNat) ∧ On W0 (blk b t.cells 69 :: L) w') := by
  obtain ⟨i, rfl⟩ := Int.eq_ofNat_of_zero_le h0
  exact key_ok (by omega) h

theorem one_ok {al : Option Addr} {cl : Nat} {acts : List RsM.Act} (h : On W0 F w) (C : Gives F (Cells 5 (.slice al acts.length cl) acts.length (acts.flatMap RsM.Act.cells))) : Calls Try.prog 5 #[.slice al acts.length cl] w (Ret fun v w' => v = .bool true ∧ On W0 F w') := by
  refine enter Try.func5 rfl Try.ntmps5 rfl ?_
  refine W.seq ?_
  refine W.region ?_
  refine WL.val run_assign rfl rfl ?_
  refine WL.nil ?_
  refine W.seq ?_
  refine W.seq ?_
  refine W.region ?_
  refine WL.eff (eff_call Try.call7 (rknown_ok h)) rfl rfl ?_
  rintro _ w ⟨rfl, h⟩
  refine WL.val (run_not rfl) rfl rfl ?_
  refine WL.nil ?_
  refine W.condF rfl ?_
  refine W.skip ?_
  refine W.seq ?_
  refine W.seq ?_
  refine W.region ?_
  refine WL.val run_move rfl rfl ?_
  refine WL.val (run_lenSlice Try.underlying46 rfl) rfl rfl ?_
  refine WL.val (run_gtr rfl rfl) rfl rfl ?_
  refine WL.nil ?_
  refine W.condIf rfl (fun c7 => ?_) (fun c7 => ?_)
  · skip
    refine W.seq ?_
    refine W.region ?_
    refine WL.val run_assign rfl rfl ?_
    refine WL.nil ?_
    refine W.ret ?_
    refine bodyQ.r1 (v := .bool _) Try.results5 rfl ?_
    -- path T
    exact ⟨rfl, h⟩
  · skip
    refine W.skip ?_
    refine W.seq ?_
    refine W.region ?_
    refine WL.eff (eff_call Try.call8 (rnew_ok h)) rfl rfl ?_
    rintro _ w ⟨b, rfl, h⟩
    refine WL.val run_assign rfl rfl ?_
    refine WL.nil ?_
    refine W.seq ?_
    refine W.seq ?_
    refine W.region ?_
    refine WL.val run_assign rfl rfl ?_
    refine WL.nil ?_
    refine W.block ?_
    refine W.loop (fun (k : Nat) env w => ∃ (j : Env) (t : Tb), env = mkE j [(0, .slice al acts.length cl), (3, .pointer (some ⟨b, 0, none⟩)), (4, .int .i64 (k : Int))] ∧ k ≤ acts.length ∧ inv t ∧ On W0 (blk b t.cells 69 :: F) w) (fun k => acts.length - k) (0) ?_ ?_
    · exact ⟨_, newT, mkE_of ⟨rfl, rfl, rfl, trivial⟩, Nat.zero_le _, inv_new, h⟩
    · rintro k env w ⟨j, t, rfl, hk, hinv, h⟩
      refine W.seq ?_
      refine W.seq ?_
      refine W.region ?_
      refine WL.val run_move rfl rfl ?_
      refine WL.val run_move rfl rfl ?_
      refine WL.val (run_lenSlice Try.underlying46 rfl) rfl rfl ?_
      refine WL.val (run_lss rfl rfl) rfl rfl ?_
      refine WL.nil ?_
      refine W.condIf rfl (fun c16 => ?_) (fun c16 => ?_)
      · skip
        refine W.skip ?_
        refine W.seq ?_
        refine W.block ?_
        refine W.seq ?_
        have ob_ : ∃ a, acts[k]? = some a := ⟨acts[k]'(by omega), by simp⟩
        obtain ⟨a, hq⟩ := ob_
        have ob_ := (h.reads (Gives.to C)).addr (by omega)
        obtain ⟨ba, oa, rfl⟩ := ob_
        refine W.draw Try.follows h (fun w h => ?_)
        refine WT.pure 0 rfl (by kernel_rfl) (fun w' => run_move) rfl rfl ?_
        refine WT.pure 2 rfl (by kernel_rfl) (fun w' => run_move) rfl rfl ?_
        refine WT.pure 3 rfl (by kernel_rfl) (fun w' => run_move) rfl rfl ?_
        refine WT.pure 4 rfl (by kernel_rfl) (fun w' => (run_indexAddr Try.underlying46 Try.sizeOf51 rfl rfl (by omega) (by omega))) rfl rfl ?_
        refine WT.loadN 5 rfl (by kernel_rfl) Try.isAgg51 Try.sizeOf51 rfl rfl ((h.reads (Gives.to C)).elem (i := k) (vs := a.cells) (by omega) (drop_flatMap RsM.Act.cells 5 RsM.Act.cells_length acts _ _ hq)) rfl rfl ?_
        refine WT.eff 1 [true] rfl (by kernel_rfl) (by kernel_rfl) (eff_call Try.call17 (refnew_ok h)) rfl rfl ?_
        rintro _ w ⟨b', rfl, h⟩
        refine ⟨⟨((h.reads (Gives.to C)).elem (i := k) (vs := a.cells) (by omega) (drop_flatMap RsM.Act.cells 5 RsM.Act.cells_length acts _ _ hq)), trivial⟩, ?_⟩
        refine WT.eff 6 [false] rfl (by kernel_rfl) (by kernel_rfl) (eff_call Try.call16 (rdo_ok (t := t) (a := a) hinv h)) rfl rfl ?_
        rintro _ w ⟨⟨r, rfl⟩, t2, hinv2, h⟩
        refine ⟨trivial, ?_⟩
        refine WT.done (by kernel_rfl) ?_
        refine W.seq ?_
        refine W.region ?_
        refine WL.val run_move rfl rfl ?_
        refine WL.eff (eff_call Try.call12 (holder_ok h)) rfl rfl ?_
        rintro _ w ⟨rfl, h⟩
        refine WL.val run_move rfl rfl ?_
        refine WL.val (run_extract rfl rfl) rfl rfl ?_
        refine WL.val (run_extract rfl rfl) rfl rfl ?_
        refine WL.val run_assign rfl rfl ?_
        refine WL.val run_assign rfl rfl ?_
        refine WL.nil ?_
        refine W.seq ?_
        refine W.seq ?_
        refine W.region ?_
        refine WL.val run_move rfl rfl ?_
        refine WL.val (run_lss rfl rfl) rfl rfl ?_
        refine WL.nil ?_
        refine W.condIf rfl (fun c23 => ?_) (fun c23 => ?_)
        · skip
          refine W.seq ?_
          refine W.seq ?_
          have hm : t2.hold = -1 ∧ t2.typ = 0 := by
            rcases hinv2 with h1 | h1
            · exact h1
            · omega
          refine W.region ?_
          refine WL.val run_move rfl rfl ?_
          refine WL.val (run_neqF rfl rfl (hm.2)) rfl rfl ?_
          refine WL.val run_move rfl rfl ?_
          refine WL.val run_move rfl rfl ?_
          refine WL.val (run_neqF rfl rfl (hm.1)) rfl rfl ?_
          refine WL.val (run_pickF rfl) rfl rfl ?_
          refine WL.nil ?_
          refine W.condF rfl ?_
          refine W.skip ?_
          refine W.exit ?_
          refine W.region ?_
          refine WL.val run_move rfl rfl ?_
          refine WL.val (run_incN rfl rfl (by omega)) rfl rfl ?_
          refine WL.val run_assign rfl rfl ?_
          refine WL.nil ?_
          -- round, path FLTT
          exact ⟨k + 1, ⟨_, t2, mkE_of ⟨rfl, rfl, rfl, trivial⟩, by omega, hinv2, h⟩, by show acts.length - (k + 1) < acts.length - k; omega⟩
        · skip
          refine W.skip ?_
          refine W.seq ?_
          refine W.seq ?_
          have hm : 0 ≤ t2.hold ∧ t2.hold < 8 ∧ t2.K t2.hold.toNat ≠ 0 ∧ typedB t2.typ = true := by
            rcases hinv2 with h1 | h1
            · omega
            · exact h1
          obtain ⟨hm0, hm8, hmk, hmt⟩ := hm
          have hmt2 := typedB_iff.1 hmt
          refine W.region ?_
          refine WL.val run_move rfl rfl ?_
          refine WL.val (run_gtrF rfl rfl (by omega)) rfl rfl ?_
          refine WL.val run_move rfl rfl ?_
          refine WL.val run_move rfl rfl ?_
          refine WL.val run_move rfl rfl ?_
          refine WL.eff (eff_call Try.call13 (keyI hm0 hm8 h)) rfl rfl ?_
          rintro _ w ⟨rfl, h⟩
          refine WL.val (run_eqlF rfl rfl (hmk)) rfl rfl ?_
          refine WL.val (run_pickF rfl) rfl rfl ?_
          refine WL.val run_move rfl rfl ?_
          refine WL.val run_move rfl rfl ?_
          refine WL.dec (run_neq rfl rfl) rfl rfl (fun c51 => ?_) (fun c51 => ?_)
          · skip
            refine WL.val run_move rfl rfl ?_
            refine WL.val run_move rfl rfl ?_
            refine WL.dec (run_neq rfl rfl) rfl rfl (fun c54 => ?_) (fun c54 => ?_)
            · skip
              refine WL.val (run_pickT rfl) rfl rfl ?_
              refine WL.val run_move rfl rfl ?_
              refine WL.val run_move rfl rfl ?_
              refine WL.dec (run_neq rfl rfl) rfl rfl (fun c58 => ?_) (fun c58 => ?_)
              · skip
                refine WL.val (run_pickT rfl) rfl rfl ?_
                refine WL.val run_move rfl rfl ?_
                refine WL.val run_move rfl rfl ?_
                refine WL.dec (run_neq rfl rfl) rfl rfl (fun c62 => ?_) (fun c62 => ?_)
                · skip
                  exfalso; omega
                · skip
                  refine WL.val (run_pickT rfl) rfl rfl ?_
                  refine WL.val (run_pickF rfl) rfl rfl ?_
                  refine WL.val run_move rfl rfl ?_
                  refine WL.val run_move rfl rfl ?_
                  refine WL.val run_move rfl rfl ?_
                  refine WL.eff (eff_call Try.call18 (allows_ok (t := t2) h)) rfl rfl ?_
                  rintro _ w ⟨⟨r1, rfl, hr1⟩, h⟩
                  have hr2 : r1 = true := hr1.2 (.inl (.inr (.inl rfl)))
                  subst hr2
                  refine WL.val (run_not rfl) rfl rfl ?_
                  refine WL.val (run_pickF rfl) rfl rfl ?_
                  refine WL.nil ?_
                  refine W.condF rfl ?_
                  refine W.skip ?_
                  refine W.seq ?_
                  refine W.region ?_
                  refine WL.val run_assign rfl rfl ?_
                  refine WL.nil ?_
                  refine W.block ?_
                  refine W.loop (fun (q : Nat) env w => ∃ j, env = mkE j [(0, .slice (some ⟨ba, oa, none⟩) acts.length cl), (3, .pointer (some ⟨b, 0, none⟩)), (4, .int .i64 (k : Int)), (5, .int .i64 t2.hold), (6, .int .i64 t2.typ), (7, .int .i64 (q : Int))] ∧ q ≤ 8 ∧ On W0 (blk b t2.cells 69 :: F) w) (fun q => 8 - q) (0) ?_ ?_
                  · exact ⟨_, mkE_of ⟨rfl, rfl, rfl, rfl, rfl, rfl, trivial⟩, Nat.zero_le _, h⟩
                  · rintro q env w ⟨j, rfl, hq8, h⟩
                    refine W.seq ?_
                    refine W.seq ?_
                    refine W.region ?_
                    refine WL.val run_move rfl rfl ?_
                    refine WL.val (run_lss rfl rfl) rfl rfl ?_
                    refine WL.nil ?_
                    refine W.condIf rfl (fun c40 => ?_) (fun c40 => ?_)
                    · skip
                      refine W.skip ?_
                      refine W.seq ?_
                      refine W.block ?_
                      refine W.seq ?_
                      refine W.region ?_
                      refine WL.val run_move rfl rfl ?_
                      refine WL.val run_move rfl rfl ?_
                      refine WL.dec (run_eql rfl rfl) rfl rfl (fun c77 => ?_) (fun c77 => ?_)
                      · skip
                        refine WL.val run_move rfl rfl ?_
                        refine WL.skip rfl rfl ?_
                        refine WL.skip rfl rfl ?_
                        refine WL.skip rfl rfl ?_
                        refine WL.skip rfl rfl ?_
                        refine WL.skip rfl rfl ?_
                        refine WL.skip rfl rfl ?_
                        refine WL.skip rfl rfl ?_
                        refine WL.skip rfl rfl ?_
                        refine WL.val (run_pickT rfl) rfl rfl ?_
                        refine WL.val run_assign rfl rfl ?_
                        refine WL.nil ?_
                        refine W.seq ?_
                        refine W.region ?_
                        refine WL.val run_move rfl rfl ?_
                        refine WL.val run_move rfl rfl ?_
                        refine WL.eff (eff_call Try.call18 (allows_ok (t := t2) h)) rfl rfl ?_
                        rintro _ w ⟨⟨r1, rfl, hr1⟩, h⟩
                        rw [allow_w (by omega) hmt] at hr1
                        have hr2 : r1 = true := (by rw [hr1]; omega)
                        subst hr2
                        refine WL.val run_move rfl rfl ?_
                        refine WL.val (run_neqBoolF Try.underlying4 rfl rfl rfl) rfl rfl ?_
                        refine WL.val run_move rfl rfl ?_
                        refine WL.val run_move rfl rfl ?_
                        refine WL.val run_move rfl rfl ?_
                        refine WL.eff (eff_call Try.call18 (allows_ok (t := t2) h)) rfl rfl ?_
                        rintro _ w ⟨⟨r2, rfl, hr2⟩, h⟩
                        rw [allow_r (by omega) hmt] at hr2
                        refine WL.val run_move rfl rfl ?_
                        refine WL.val run_move rfl rfl ?_
                        refine WL.skip rfl rfl ?_
                        refine WL.skip rfl rfl ?_
                        refine WL.val (run_pickT rfl) rfl rfl ?_
                        refine WL.val run_move rfl rfl ?_
                        refine WL.skip rfl rfl ?_
                        refine WL.skip rfl rfl ?_
                        refine WL.val (run_pickT rfl) rfl rfl ?_
                        refine WL.val (run_neqBoolF Try.underlying4 rfl rfl (by rw [hr2]; omega)) rfl rfl ?_
                        refine WL.val (run_pickF rfl) rfl rfl ?_
                        refine WL.val run_move rfl rfl ?_
                        refine WL.val run_move rfl rfl ?_
                        refine WL.val run_move rfl rfl ?_
                        refine WL.eff (eff_call Try.call18 (allows_ok (t := t2) h)) rfl rfl ?_
                        rintro _ w ⟨⟨r3, rfl, hr3⟩, h⟩
                        have hr4 : r3 = true := hr3.2 (.inr (.inr (by omega)))
                        subst hr4
                        refine WL.val (run_not rfl) rfl rfl ?_
                        refine WL.val (run_pickF rfl) rfl rfl ?_
                        refine WL.nil ?_
                        refine W.condF rfl ?_
                        refine W.skip ?_
                        refine W.region ?_
                        refine WL.val run_move rfl rfl ?_
                        refine WL.val (run_incN rfl rfl (by omega)) rfl rfl ?_
                        refine WL.val run_assign rfl rfl ?_
                        refine WL.nil ?_
                        -- round, path FLTFTTTFLTT
                        exact ⟨q + 1, ⟨_, mkE_of ⟨rfl, rfl, rfl, rfl, rfl, rfl, trivial⟩, by omega, h⟩, by show 8 - (q + 1) < 8 - q; omega⟩
                      · skip
                        refine WL.val run_move rfl rfl ?_
                        refine WL.val run_move rfl rfl ?_
                        refine WL.dec (run_geq rfl rfl) rfl rfl (fun c80 => ?_) (fun c80 => ?_)
                        · skip
                          refine WL.val run_move rfl rfl ?_
                          refine WL.val run_move rfl rfl ?_
                          refine WL.val run_move rfl rfl ?_
                          refine WL.eff (eff_call Try.call13 (key_ok (i := q) (by omega) h)) rfl rfl ?_
                          rintro _ w ⟨rfl, h⟩
                          refine WL.dec (run_neq rfl rfl) rfl rfl (fun c85 => ?_) (fun c85 => ?_)
                          · skip
                            refine WL.val (run_pickT rfl) rfl rfl ?_
                            refine WL.val (run_pickF rfl) rfl rfl ?_
                            refine WL.val run_assign rfl rfl ?_
                            refine WL.nil ?_
                            refine W.seq ?_
                            refine W.region ?_
                            refine WL.val run_move rfl rfl ?_
                            refine WL.val run_move rfl rfl ?_
                            refine WL.eff (eff_call Try.call18 (allows_ok (t := t2) h)) rfl rfl ?_
                            rintro _ w ⟨⟨r1, rfl, hr1⟩, h⟩
                            rw [allow_w (by omega) hmt] at hr1
                            have hr2 : r1 = true := (by rw [hr1]; omega)
                            subst hr2
                            refine WL.val run_move rfl rfl ?_
                            refine WL.val (run_neqBoolF Try.underlying4 rfl rfl rfl) rfl rfl ?_
                            refine WL.val run_move rfl rfl ?_
                            refine WL.val run_move rfl rfl ?_
                            refine WL.val run_move rfl rfl ?_
                            refine WL.eff (eff_call Try.call18 (allows_ok (t := t2) h)) rfl rfl ?_
                            rintro _ w ⟨⟨r2, rfl, hr2⟩, h⟩
                            rw [allow_r (by omega) hmt] at hr2
                            refine WL.val run_move rfl rfl ?_
                            refine WL.val run_move rfl rfl ?_
                            refine WL.skip rfl rfl ?_
                            refine WL.skip rfl rfl ?_
                            refine WL.val (run_pickT rfl) rfl rfl ?_
                            refine WL.val run_move rfl rfl ?_
                            refine WL.skip rfl rfl ?_
                            refine WL.skip rfl rfl ?_
                            refine WL.val (run_pickT rfl) rfl rfl ?_
                            refine WL.val (run_neqBoolF Try.underlying4 rfl rfl (by rw [hr2]; omega)) rfl rfl ?_
                            refine WL.val (run_pickF rfl) rfl rfl ?_
                            refine WL.val run_move rfl rfl ?_
                            refine WL.val run_move rfl rfl ?_
                            refine WL.val run_move rfl rfl ?_
                            refine WL.eff (eff_call Try.call18 (allows_ok (t := t2) h)) rfl rfl ?_
                            rintro _ w ⟨⟨r3, rfl, hr3⟩, h⟩
                            have hr4 : r3 = true := hr3.2 (.inr (.inr (by omega)))
                            subst hr4
                            refine WL.val (run_not rfl) rfl rfl ?_
                            refine WL.val (run_pickF rfl) rfl rfl ?_
                            refine WL.nil ?_
                            refine W.condF rfl ?_
                            refine W.skip ?_
                            refine W.region ?_
                            refine WL.val run_move rfl rfl ?_
                            refine WL.val (run_incN rfl rfl (by omega)) rfl rfl ?_
                            refine WL.val run_assign rfl rfl ?_
                            refine WL.nil ?_
                            -- round, path FLTFTTTFLTFTT
                            exact ⟨q + 1, ⟨_, mkE_of ⟨rfl, rfl, rfl, rfl, rfl, rfl, trivial⟩, by omega, h⟩, by show 8 - (q + 1) < 8 - q; omega⟩
                          · skip
                            refine WL.val (run_pickT rfl) rfl rfl ?_
                            refine WL.val (run_pickF rfl) rfl rfl ?_
                            refine WL.val run_assign rfl rfl ?_
                            refine WL.nil ?_
                            refine W.seq ?_
                            refine W.region ?_
                            refine WL.val run_move rfl rfl ?_
                            refine WL.val run_move rfl rfl ?_
                            refine WL.eff (eff_call Try.call18 (allows_ok (t := t2) h)) rfl rfl ?_
                            rintro _ w ⟨⟨r1, rfl, hr1⟩, h⟩
                            rw [allow_w (by omega) hmt] at hr1
                            have hr2 : r1 = false := (by rw [← Bool.not_eq_true, hr1]; omega)
                            subst hr2
                            refine WL.val run_move rfl rfl ?_
                            refine WL.val (run_neqBoolF Try.underlying4 rfl rfl rfl) rfl rfl ?_
                            refine WL.val run_move rfl rfl ?_
                            refine WL.val run_move rfl rfl ?_
                            refine WL.val run_move rfl rfl ?_
                            refine WL.eff (eff_call Try.call18 (allows_ok (t := t2) h)) rfl rfl ?_
                            rintro _ w ⟨⟨r2, rfl, hr2⟩, h⟩
                            rw [allow_r (by omega) hmt] at hr2
                            refine WL.val run_move rfl rfl ?_
                            refine WL.val run_move rfl rfl ?_
                            refine WL.val run_move rfl rfl ?_
                            refine WL.dec (run_eql rfl rfl) rfl rfl (fun c100 => ?_) (fun c100 => ?_)
                            · skip
                              refine WL.val (run_pickF rfl) rfl rfl ?_
                              refine WL.val run_move rfl rfl ?_
                              refine WL.skip rfl rfl ?_
                              refine WL.skip rfl rfl ?_
                              refine WL.val (run_pickT rfl) rfl rfl ?_
                              refine WL.val (run_neqBoolF Try.underlying4 rfl rfl (by rw [hr2]; omega)) rfl rfl ?_
                              refine WL.val (run_pickF rfl) rfl rfl ?_
                              refine WL.val run_move rfl rfl ?_
                              refine WL.val run_move rfl rfl ?_
                              refine WL.val run_move rfl rfl ?_
                              refine WL.eff (eff_call Try.call18 (allows_ok (t := t2) h)) rfl rfl ?_
                              rintro _ w ⟨⟨r3, rfl, hr3⟩, h⟩
                              have hr4 : r3 = true := hr3.2 (.inr (.inr (by omega)))
                              subst hr4
                              refine WL.val (run_not rfl) rfl rfl ?_
                              refine WL.val (run_pickF rfl) rfl rfl ?_
                              refine WL.nil ?_
                              refine W.condF rfl ?_
                              refine W.skip ?_
                              refine W.region ?_
                              refine WL.val run_move rfl rfl ?_
                              refine WL.val (run_incN rfl rfl (by omega)) rfl rfl ?_
                              refine WL.val run_assign rfl rfl ?_
                              refine WL.nil ?_
                              -- round, path FLTFTTTFLTFTFT
                              exact ⟨q + 1, ⟨_, mkE_of ⟨rfl, rfl, rfl, rfl, rfl, rfl, trivial⟩, by omega, h⟩, by show 8 - (q + 1) < 8 - q; omega⟩
                            · skip
                              refine WL.val (run_pickF rfl) rfl rfl ?_
                              refine WL.val run_move rfl rfl ?_
                              refine WL.val run_move rfl rfl ?_
                              refine WL.dec (run_eql rfl rfl) rfl rfl (fun c104 => ?_) (fun c104 => ?_)
                              · skip
                                refine WL.val (run_pickF rfl) rfl rfl ?_
                                refine WL.val (run_neqBoolF Try.underlying4 rfl rfl (by rw [hr2]; omega)) rfl rfl ?_
                                refine WL.val (run_pickF rfl) rfl rfl ?_
                                refine WL.val run_move rfl rfl ?_
                                refine WL.val run_move rfl rfl ?_
                                refine WL.val run_move rfl rfl ?_
                                refine WL.eff (eff_call Try.call18 (allows_ok (t := t2) h)) rfl rfl ?_
                                rintro _ w ⟨⟨r3, rfl, hr3⟩, h⟩
                                have hr4 : r3 = true := hr3.2 (.inr (.inr (by omega)))
                                subst hr4
                                refine WL.val (run_not rfl) rfl rfl ?_
                                refine WL.val (run_pickF rfl) rfl rfl ?_
                                refine WL.nil ?_
                                refine W.condF rfl ?_
                                refine W.skip ?_
                                refine W.region ?_
                                refine WL.val run_move rfl rfl ?_
                                refine WL.val (run_incN rfl rfl (by omega)) rfl rfl ?_
                                refine WL.val run_assign rfl rfl ?_
                                refine WL.nil ?_
                                -- round, path FLTFTTTFLTFTFFT
                                exact ⟨q + 1, ⟨_, mkE_of ⟨rfl, rfl, rfl, rfl, rfl, rfl, trivial⟩, by omega, h⟩, by show 8 - (q + 1) < 8 - q; omega⟩
                              · skip
                                refine WL.val (run_pickF rfl) rfl rfl ?_
                                refine WL.val (run_neqBoolF Try.underlying4 rfl rfl (by rw [← Bool.not_eq_true, hr2]; omega)) rfl rfl ?_
                                refine WL.val (run_pickF rfl) rfl rfl ?_
                                refine WL.val run_move rfl rfl ?_
                                refine WL.val run_move rfl rfl ?_
                                refine WL.val run_move rfl rfl ?_
                                refine WL.eff (eff_call Try.call18 (allows_ok (t := t2) h)) rfl rfl ?_
                                rintro _ w ⟨⟨r3, rfl, hr3⟩, h⟩
                                have hr4 : r3 = true := hr3.2 (.inr (.inr (by omega)))
                                subst hr4
                                refine WL.val (run_not rfl) rfl rfl ?_
                                refine WL.val (run_pickF rfl) rfl rfl ?_
                                refine WL.nil ?_
                                refine W.condF rfl ?_
                                refine W.skip ?_
                                refine W.region ?_
                                refine WL.val run_move rfl rfl ?_
                                refine WL.val (run_incN rfl rfl (by omega)) rfl rfl ?_
                                refine WL.val run_assign rfl rfl ?_
                                refine WL.nil ?_
                                -- round, path FLTFTTTFLTFTFFF
                                exact ⟨q + 1, ⟨_, mkE_of ⟨rfl, rfl, rfl, rfl, rfl, rfl, trivial⟩, by omega, h⟩, by show 8 - (q + 1) < 8 - q; omega⟩
                        · skip
                          refine WL.val run_move rfl rfl ?_
                          refine WL.skip rfl rfl ?_
                          refine WL.skip rfl rfl ?_
                          refine WL.skip rfl rfl ?_
                          refine WL.skip rfl rfl ?_
                          refine WL.val (run_pickF rfl) rfl rfl ?_
                          refine WL.val (run_pickF rfl) rfl rfl ?_
                          refine WL.val run_assign rfl rfl ?_
                          refine WL.nil ?_
                          refine W.seq ?_
                          refine W.region ?_
                          refine WL.val run_move rfl rfl ?_
                          refine WL.val run_move rfl rfl ?_
                          refine WL.eff (eff_call Try.call18 (allows_ok (t := t2) h)) rfl rfl ?_
                          rintro _ w ⟨⟨r1, rfl, hr1⟩, h⟩
                          rw [allow_w (by omega) hmt] at hr1
                          have hr2 : r1 = false := (by rw [← Bool.not_eq_true, hr1]; omega)
                          subst hr2
                          refine WL.val run_move rfl rfl ?_
                          refine WL.val (run_neqBoolF Try.underlying4 rfl rfl rfl) rfl rfl ?_
                          refine WL.val run_move rfl rfl ?_
                          refine WL.val run_move rfl rfl ?_
                          refine WL.val run_move rfl rfl ?_
                          refine WL.eff (eff_call Try.call18 (allows_ok (t := t2) h)) rfl rfl ?_
                          rintro _ w ⟨⟨r2, rfl, hr2⟩, h⟩
                          rw [allow_r (by omega) hmt] at hr2
                          refine WL.val run_move rfl rfl ?_
                          refine WL.val run_move rfl rfl ?_
                          refine WL.val run_move rfl rfl ?_
                          refine WL.dec (run_eql rfl rfl) rfl rfl (fun c100 => ?_) (fun c100 => ?_)
                          · skip
                            refine WL.val (run_pickF rfl) rfl rfl ?_
                            refine WL.val run_move rfl rfl ?_
                            refine WL.skip rfl rfl ?_
                            refine WL.skip rfl rfl ?_
                            refine WL.val (run_pickT rfl) rfl rfl ?_
                            refine WL.val (run_neqBoolF Try.underlying4 rfl rfl (by rw [hr2]; omega)) rfl rfl ?_
                            refine WL.val (run_pickF rfl) rfl rfl ?_
                            refine WL.val run_move rfl rfl ?_
                            refine WL.val run_move rfl rfl ?_
                            refine WL.val run_move rfl rfl ?_
                            refine WL.eff (eff_call Try.call18 (allows_ok (t := t2) h)) rfl rfl ?_
                            rintro _ w ⟨⟨r3, rfl, hr3⟩, h⟩
                            have hr4 : r3 = true := hr3.2 (.inr (.inr (by omega)))
                            subst hr4
                            refine WL.val (run_not rfl) rfl rfl ?_
                            refine WL.val (run_pickF rfl) rfl rfl ?_
                            refine WL.nil ?_
                            refine W.condF rfl ?_
                            refine W.skip ?_
                            refine W.region ?_
                            refine WL.val run_move rfl rfl ?_
                            refine WL.val (run_incN rfl rfl (by omega)) rfl rfl ?_
                            refine WL.val run_assign rfl rfl ?_
                            refine WL.nil ?_
                            -- round, path FLTFTTTFLTFFT
                            exact ⟨q + 1, ⟨_, mkE_of ⟨rfl, rfl, rfl, rfl, rfl, rfl, trivial⟩, by omega, h⟩, by show 8 - (q + 1) < 8 - q; omega⟩
                          · skip
                            refine WL.val (run_pickF rfl) rfl rfl ?_
                            refine WL.val run_move rfl rfl ?_
                            refine WL.val run_move rfl rfl ?_
                            refine WL.dec (run_eql rfl rfl) rfl rfl (fun c104 => ?_) (fun c104 => ?_)
                            · skip
                              refine WL.val (run_pickF rfl) rfl rfl ?_
                              refine WL.val (run_neqBoolF Try.underlying4 rfl rfl (by rw [hr2]; omega)) rfl rfl ?_
                              refine WL.val (run_pickF rfl) rfl rfl ?_
                              refine WL.val run_move rfl rfl ?_
                              refine WL.val run_move rfl rfl ?_
                              refine WL.val run_move rfl rfl ?_
                              refine WL.eff (eff_call Try.call18 (allows_ok (t := t2) h)) rfl rfl ?_
                              rintro _ w ⟨⟨r3, rfl, hr3⟩, h⟩
                              have hr4 : r3 = true := hr3.2 (.inr (.inr (by omega)))
                              subst hr4
                              refine WL.val (run_not rfl) rfl rfl ?_
                              refine WL.val (run_pickF rfl) rfl rfl ?_
                              refine WL.nil ?_
                              refine W.condF rfl ?_
                              refine W.skip ?_
                              refine W.region ?_
                              refine WL.val run_move rfl rfl ?_
                              refine WL.val (run_incN rfl rfl (by omega)) rfl rfl ?_
                              refine WL.val run_assign rfl rfl ?_
                              refine WL.nil ?_
                              -- round, path FLTFTTTFLTFFFT
                              exact ⟨q + 1, ⟨_, mkE_of ⟨rfl, rfl, rfl, rfl, rfl, rfl, trivial⟩, by omega, h⟩, by show 8 - (q + 1) < 8 - q; omega⟩
                            · skip
                              refine WL.val (run_pickF rfl) rfl rfl ?_
                              refine WL.val (run_neqBoolF Try.underlying4 rfl rfl (by rw [← Bool.not_eq_true, hr2]; omega)) rfl rfl ?_
                              refine WL.val (run_pickF rfl) rfl rfl ?_
                              refine WL.val run_move rfl rfl ?_
                              refine WL.val run_move rfl rfl ?_
                              refine WL.val run_move rfl rfl ?_
                              refine WL.eff (eff_call Try.call18 (allows_ok (t := t2) h)) rfl rfl ?_
                              rintro _ w ⟨⟨r3, rfl, hr3⟩, h⟩
                              have hr4 : r3 = true := hr3.2 (.inr (.inr (by omega)))
                              subst hr4
                              refine WL.val (run_not rfl) rfl rfl ?_
                              refine WL.val (run_pickF rfl) rfl rfl ?_
                              refine WL.nil ?_
                              refine W.condF rfl ?_
                              refine W.skip ?_
                              refine W.region ?_
                              refine WL.val run_move rfl rfl ?_
                              refine WL.val (run_incN rfl rfl (by omega)) rfl rfl ?_
                              refine WL.val run_assign rfl rfl ?_
                              refine WL.nil ?_
                              -- round, path FLTFTTTFLTFFFF
                              exact ⟨q + 1, ⟨_, mkE_of ⟨rfl, rfl, rfl, rfl, rfl, rfl, trivial⟩, by omega, h⟩, by show 8 - (q + 1) < 8 - q; omega⟩
                    · skip
                      refine W.exit ?_
                      refine W.region ?_
                      refine WL.val run_move rfl rfl ?_
                      refine WL.val (run_incN rfl rfl (by omega)) rfl rfl ?_
                      refine WL.val run_assign rfl rfl ?_
                      refine WL.nil ?_
                      -- round, path FLTFTTTFLF
                      exact ⟨k + 1, ⟨_, t2, mkE_of ⟨rfl, rfl, rfl, trivial⟩, by omega, hinv2, h⟩, by show acts.length - (k + 1) < acts.length - k; omega⟩
              · skip
                refine WL.val (run_pickT rfl) rfl rfl ?_
                refine WL.val run_move rfl rfl ?_
                refine WL.skip rfl rfl ?_
                refine WL.skip rfl rfl ?_
                refine WL.val (run_pickF rfl) rfl rfl ?_
                refine WL.val (run_pickF rfl) rfl rfl ?_
                refine WL.val run_move rfl rfl ?_
                refine WL.val run_move rfl rfl ?_
                refine WL.val run_move rfl rfl ?_
                refine WL.eff (eff_call Try.call18 (allows_ok (t := t2) h)) rfl rfl ?_
                rintro _ w ⟨⟨r1, rfl, hr1⟩, h⟩
                have hr2 : r1 = true := hr1.2 (.inl (.inr (.inl rfl)))
                subst hr2
                refine WL.val (run_not rfl) rfl rfl ?_
                refine WL.val (run_pickF rfl) rfl rfl ?_
                refine WL.nil ?_
                refine W.condF rfl ?_
                refine W.skip ?_
                refine W.seq ?_
                refine W.region ?_
                refine WL.val run_assign rfl rfl ?_
                refine WL.nil ?_
                refine W.block ?_
                refine W.loop (fun (q : Nat) env w => ∃ j, env = mkE j [(0, .slice (some ⟨ba, oa, none⟩) acts.length cl), (3, .pointer (some ⟨b, 0, none⟩)), (4, .int .i64 (k : Int)), (5, .int .i64 t2.hold), (6, .int .i64 t2.typ), (7, .int .i64 (q : Int))] ∧ q ≤ 8 ∧ On W0 (blk b t2.cells 69 :: F) w) (fun q => 8 - q) (0) ?_ ?_
                · exact ⟨_, mkE_of ⟨rfl, rfl, rfl, rfl, rfl, rfl, trivial⟩, Nat.zero_le _, h⟩
                · rintro q env w ⟨j, rfl, hq8, h⟩
                  refine W.seq ?_
                  refine W.seq ?_
                  refine W.region ?_
                  refine WL.val run_move rfl rfl ?_
                  refine WL.val (run_lss rfl rfl) rfl rfl ?_
                  refine WL.nil ?_
                  refine W.condIf rfl (fun c40 => ?_) (fun c40 => ?_)
                  · skip
                    refine W.skip ?_
                    refine W.seq ?_
                    refine W.block ?_
                    refine W.seq ?_
                    refine W.region ?_
                    refine WL.val run_move rfl rfl ?_
                    refine WL.val run_move rfl rfl ?_
                    refine WL.dec (run_eql rfl rfl) rfl rfl (fun c77 => ?_) (fun c77 => ?_)
                    · skip
                      refine WL.val run_move rfl rfl ?_
                      refine WL.skip rfl rfl ?_
                      refine WL.skip rfl rfl ?_
                      refine WL.skip rfl rfl ?_
                      refine WL.skip rfl rfl ?_
                      refine WL.skip rfl rfl ?_
                      refine WL.skip rfl rfl ?_
                      refine WL.skip rfl rfl ?_
                      refine WL.skip rfl rfl ?_
                      refine WL.val (run_pickT rfl) rfl rfl ?_
                      refine WL.val run_assign rfl rfl ?_
                      refine WL.nil ?_
                      refine W.seq ?_
                      refine W.region ?_
                      refine WL.val run_move rfl rfl ?_
                      refine WL.val run_move rfl rfl ?_
                      refine WL.eff (eff_call Try.call18 (allows_ok (t := t2) h)) rfl rfl ?_
                      rintro _ w ⟨⟨r1, rfl, hr1⟩, h⟩
                      rw [allow_w (by omega) hmt] at hr1
                      have hr2 : r1 = true := (by rw [hr1]; omega)
                      subst hr2
                      refine WL.val run_move rfl rfl ?_
                      refine WL.val (run_neqBoolF Try.underlying4 rfl rfl rfl) rfl rfl ?_
                      refine WL.val run_move rfl rfl ?_
                      refine WL.val run_move rfl rfl ?_
                      refine WL.val run_move rfl rfl ?_
                      refine WL.eff (eff_call Try.call18 (allows_ok (t := t2) h)) rfl rfl ?_
                      rintro _ w ⟨⟨r2, rfl, hr2⟩, h⟩
                      rw [allow_r (by omega) hmt] at hr2
                      refine WL.val run_move rfl rfl ?_
                      refine WL.val run_move rfl rfl ?_
                      refine WL.skip rfl rfl ?_
                      refine WL.skip rfl rfl ?_
                      refine WL.val (run_pickT rfl) rfl rfl ?_
                      refine WL.val run_move rfl rfl ?_
                      refine WL.skip rfl rfl ?_
                      refine WL.skip rfl rfl ?_
                      refine WL.val (run_pickT rfl) rfl rfl ?_
                      refine WL.val (run_neqBoolF Try.underlying4 rfl rfl (by rw [hr2]; omega)) rfl rfl ?_
                      refine WL.val (run_pickF rfl) rfl rfl ?_
                      refine WL.val run_move rfl rfl ?_
                      refine WL.val run_move rfl rfl ?_
                      refine WL.val run_move rfl rfl ?_
                      refine WL.eff (eff_call Try.call18 (allows_ok (t := t2) h)) rfl rfl ?_
                      rintro _ w ⟨⟨r3, rfl, hr3⟩, h⟩
                      have hr4 : r3 = true := hr3.2 (.inr (.inr (by omega)))
                      subst hr4
                      refine WL.val (run_not rfl) rfl rfl ?_
                      refine WL.val (run_pickF rfl) rfl rfl ?_
                      refine WL.nil ?_
                      refine W.condF rfl ?_
                      refine W.skip ?_
                      refine W.region ?_
                      refine WL.val run_move rfl rfl ?_
                      refine WL.val (run_incN rfl rfl (by omega)) rfl rfl ?_
                      refine WL.val run_assign rfl rfl ?_
                      refine WL.nil ?_
                      -- round, path FLTFTTFLTT
                      exact ⟨q + 1, ⟨_, mkE_of ⟨rfl, rfl, rfl, rfl, rfl, rfl, trivial⟩, by omega, h⟩, by show 8 - (q + 1) < 8 - q; omega⟩
                    · skip
                      refine WL.val run_move rfl rfl ?_
                      refine WL.val run_move rfl rfl ?_
                      refine WL.dec (run_geq rfl rfl) rfl rfl (fun c80 => ?_) (fun c80 => ?_)
                      · skip
                        refine WL.val run_move rfl rfl ?_
                        refine WL.val run_move rfl rfl ?_
                        refine WL.val run_move rfl rfl ?_
                        refine WL.eff (eff_call Try.call13 (key_ok (i := q) (by omega) h)) rfl rfl ?_
                        rintro _ w ⟨rfl, h⟩
                        refine WL.dec (run_neq rfl rfl) rfl rfl (fun c85 => ?_) (fun c85 => ?_)
                        · skip
                          refine WL.val (run_pickT rfl) rfl rfl ?_
                          refine WL.val (run_pickF rfl) rfl rfl ?_
                          refine WL.val run_assign rfl rfl ?_
                          refine WL.nil ?_
                          refine W.seq ?_
                          refine W.region ?_
                          refine WL.val run_move rfl rfl ?_
                          refine WL.val run_move rfl rfl ?_
                          refine WL.eff (eff_call Try.call18 (allows_ok (t := t2) h)) rfl rfl ?_
                          rintro _ w ⟨⟨r1, rfl, hr1⟩, h⟩
                          rw [allow_w (by omega) hmt] at hr1
                          have hr2 : r1 = true := (by rw [hr1]; omega)
                          subst hr2
                          refine WL.val run_move rfl rfl ?_
                          refine WL.val (run_neqBoolF Try.underlying4 rfl rfl rfl) rfl rfl ?_
                          refine WL.val run_move rfl rfl ?_
                          refine WL.val run_move rfl rfl ?_
                          refine WL.val run_move rfl rfl ?_
                          refine WL.eff (eff_call Try.call18 (allows_ok (t := t2) h)) rfl rfl ?_
                          rintro _ w ⟨⟨r2, rfl, hr2⟩, h⟩
                          rw [allow_r (by omega) hmt] at hr2
                          refine WL.val run_move rfl rfl ?_
                          refine WL.val run_move rfl rfl ?_
                          refine WL.skip rfl rfl ?_
                          refine WL.skip rfl rfl ?_
                          refine WL.val (run_pickT rfl) rfl rfl ?_
                          refine WL.val run_move rfl rfl ?_
                          refine WL.skip rfl rfl ?_
                          refine WL.skip rfl rfl ?_
                          refine WL.val (run_pickT rfl) rfl rfl ?_
                          refine WL.val (run_neqBoolF Try.underlying4 rfl rfl (by rw [hr2]; omega)) rfl rfl ?_
                          refine WL.val (run_pickF rfl) rfl rfl ?_
                          refine WL.val run_move rfl rfl ?_
                          refine WL.val run_move rfl rfl ?_
                          refine WL.val run_move rfl rfl ?_
                          refine WL.eff (eff_call Try.call18 (allows_ok (t := t2) h)) rfl rfl ?_
                          rintro _ w ⟨⟨r3, rfl, hr3⟩, h⟩
                          have hr4 : r3 = true := hr3.2 (.inr (.inr (by omega)))
                          subst hr4
                          refine WL.val (run_not rfl) rfl rfl ?_
                          refine WL.val (run_pickF rfl) rfl rfl ?_
                          refine WL.nil ?_
                          refine W.condF rfl ?_
                          refine W.skip ?_
                          refine W.region ?_
                          refine WL.val run_move rfl rfl ?_
                          refine WL.val (run_incN rfl rfl (by omega)) rfl rfl ?_
                          refine WL.val run_assign rfl rfl ?_
                          refine WL.nil ?_
                          -- round, path FLTFTTFLTFTT
                          exact ⟨q + 1, ⟨_, mkE_of ⟨rfl, rfl, rfl, rfl, rfl, rfl, trivial⟩, by omega, h⟩, by show 8 - (q + 1) < 8 - q; omega⟩
                        · skip
                          refine WL.val (run_pickT rfl) rfl rfl ?_
                          refine WL.val (run_pickF rfl) rfl rfl ?_
                          refine WL.val run_assign rfl rfl ?_
                          refine WL.nil ?_
                          refine W.seq ?_
                          refine W.region ?_
                          refine WL.val run_move rfl rfl ?_
                          refine WL.val run_move rfl rfl ?_
                          refine WL.eff (eff_call Try.call18 (allows_ok (t := t2) h)) rfl rfl ?_
                          rintro _ w ⟨⟨r1, rfl, hr1⟩, h⟩
                          rw [allow_w (by omega) hmt] at hr1
                          have hr2 : r1 = false := (by rw [← Bool.not_eq_true, hr1]; omega)
                          subst hr2
                          refine WL.val run_move rfl rfl ?_
                          refine WL.val (run_neqBoolF Try.underlying4 rfl rfl rfl) rfl rfl ?_
                          refine WL.val run_move rfl rfl ?_
                          refine WL.val run_move rfl rfl ?_
                          refine WL.val run_move rfl rfl ?_
                          refine WL.eff (eff_call Try.call18 (allows_ok (t := t2) h)) rfl rfl ?_
                          rintro _ w ⟨⟨r2, rfl, hr2⟩, h⟩
                          rw [allow_r (by omega) hmt] at hr2
                          refine WL.val run_move rfl rfl ?_
                          refine WL.val run_move rfl rfl ?_
                          refine WL.val run_move rfl rfl ?_
                          refine WL.dec (run_eql rfl rfl) rfl rfl (fun c100 => ?_) (fun c100 => ?_)
                          · skip
                            refine WL.val (run_pickF rfl) rfl rfl ?_
                            refine WL.val run_move rfl rfl ?_
                            refine WL.skip rfl rfl ?_
                            refine WL.skip rfl rfl ?_
                            refine WL.val (run_pickT rfl) rfl rfl ?_
                            refine WL.val (run_neqBoolF Try.underlying4 rfl rfl (by rw [hr2]; omega)) rfl rfl ?_
                            refine WL.val (run_pickF rfl) rfl rfl ?_
                            refine WL.val run_move rfl rfl ?_
                            refine WL.val run_move rfl rfl ?_
                            refine WL.val run_move rfl rfl ?_
                            refine WL.eff (eff_call Try.call18 (allows_ok (t := t2) h)) rfl rfl ?_
                            rintro _ w ⟨⟨r3, rfl, hr3⟩, h⟩
                            have hr4 : r3 = true := hr3.2 (.inr (.inr (by omega)))
                            subst hr4
                            refine WL.val (run_not rfl) rfl rfl ?_
                            refine WL.val (run_pickF rfl) rfl rfl ?_
                            refine WL.nil ?_
                            refine W.condF rfl ?_
                            refine W.skip ?_
                            refine W.region ?_
                            refine WL.val run_move rfl rfl ?_
                            refine WL.val (run_incN rfl rfl (by omega)) rfl rfl ?_
                            refine WL.val run_assign rfl rfl ?_
                            refine WL.nil ?_
                            -- round, path FLTFTTFLTFTFT
                            exact ⟨q + 1, ⟨_, mkE_of ⟨rfl, rfl, rfl, rfl, rfl, rfl, trivial⟩, by omega, h⟩, by show 8 - (q + 1) < 8 - q; omega⟩
                          · skip
                            refine WL.val (run_pickF rfl) rfl rfl ?_
                            refine WL.val run_move rfl rfl ?_
                            refine WL.val run_move rfl rfl ?_
                            refine WL.dec (run_eql rfl rfl) rfl rfl (fun c104 => ?_) (fun c104 => ?_)
                            · skip
                              refine WL.val (run_pickF rfl) rfl rfl ?_
                              refine WL.val (run_neqBoolF Try.underlying4 rfl rfl (by rw [hr2]; omega)) rfl rfl ?_
                              refine WL.val (run_pickF rfl) rfl rfl ?_
                              refine WL.val run_move rfl rfl ?_
                              refine WL.val run_move rfl rfl ?_
                              refine WL.val run_move rfl rfl ?_
                              refine WL.eff (eff_call Try.call18 (allows_ok (t := t2) h)) rfl rfl ?_
                              rintro _ w ⟨⟨r3, rfl, hr3⟩, h⟩
                              have hr4 : r3 = true := hr3.2 (.inr (.inr (by omega)))
                              subst hr4
                              refine WL.val (run_not rfl) rfl rfl ?_
                              refine WL.val (run_pickF rfl) rfl rfl ?_
                              refine WL.nil ?_
                              refine W.condF rfl ?_
                              refine W.skip ?_
                              refine W.region ?_
                              refine WL.val run_move rfl rfl ?_
                              refine WL.val (run_incN rfl rfl (by omega)) rfl rfl ?_
                              refine WL.val run_assign rfl rfl ?_
                              refine WL.nil ?_
                              -- round, path FLTFTTFLTFTFFT
                              exact ⟨q + 1, ⟨_, mkE_of ⟨rfl, rfl, rfl, rfl, rfl, rfl, trivial⟩, by omega, h⟩, by show 8 - (q + 1) < 8 - q; omega⟩
                            · skip
                              refine WL.val (run_pickF rfl) rfl rfl ?_
                              refine WL.val (run_neqBoolF Try.underlying4 rfl rfl (by rw [← Bool.not_eq_true, hr2]; omega)) rfl rfl ?_
                              refine WL.val (run_pickF rfl) rfl rfl ?_
                              refine WL.val run_move rfl rfl ?_
                              refine WL.val run_move rfl rfl ?_
                              refine WL.val run_move rfl rfl ?_
                              refine WL.eff (eff_call Try.call18 (allows_ok (t := t2) h)) rfl rfl ?_
                              rintro _ w ⟨⟨r3, rfl, hr3⟩, h⟩
                              have hr4 : r3 = true := hr3.2 (.inr (.inr (by omega)))
                              subst hr4
                              refine WL.val (run_not rfl) rfl rfl ?_
                              refine WL.val (run_pickF rfl) rfl rfl ?_
                              refine WL.nil ?_
                              refine W.condF rfl ?_
                              refine W.skip ?_
                              refine W.region ?_
                              refine WL.val run_move rfl rfl ?_
                              refine WL.val (run_incN rfl rfl (by omega)) rfl rfl ?_
                              refine WL.val run_assign rfl rfl ?_
                              refine WL.nil ?_
                              -- round, path FLTFTTFLTFTFFF
                              exact ⟨q + 1, ⟨_, mkE_of ⟨rfl, rfl, rfl, rfl, rfl, rfl, trivial⟩, by omega, h⟩, by show 8 - (q + 1) < 8 - q; omega⟩
                      · skip
                        refine WL.val run_move rfl rfl ?_
                        refine WL.skip rfl rfl ?_
                        refine WL.skip rfl rfl ?_
                        refine WL.skip rfl rfl ?_
                        refine WL.skip rfl rfl ?_
                        refine WL.val (run_pickF rfl) rfl rfl ?_
                        refine WL.val (run_pickF rfl) rfl rfl ?_
                        refine WL.val run_assign rfl rfl ?_
                        refine WL.nil ?_
                        refine W.seq ?_
                        refine W.region ?_
                        refine WL.val run_move rfl rfl ?_
                        refine WL.val run_move rfl rfl ?_
                        refine WL.eff (eff_call Try.call18 (allows_ok (t := t2) h)) rfl rfl ?_
                        rintro _ w ⟨⟨r1, rfl, hr1⟩, h⟩
                        rw [allow_w (by omega) hmt] at hr1
                        have hr2 : r1 = false := (by rw [← Bool.not_eq_true, hr1]; omega)
                        subst hr2
                        refine WL.val run_move rfl rfl ?_
                        refine WL.val (run_neqBoolF Try.underlying4 rfl rfl rfl) rfl rfl ?_
                        refine WL.val run_move rfl rfl ?_
                        refine WL.val run_move rfl rfl ?_
                        refine WL.val run_move rfl rfl ?_
                        refine WL.eff (eff_call Try.call18 (allows_ok (t := t2) h)) rfl rfl ?_
                        rintro _ w ⟨⟨r2, rfl, hr2⟩, h⟩
                        rw [allow_r (by omega) hmt] at hr2
                        refine WL.val run_move rfl rfl ?_
                        refine WL.val run_move rfl rfl ?_
                        refine WL.val run_move rfl rfl ?_
                        refine WL.dec (run_eql rfl rfl) rfl rfl (fun c100 => ?_) (fun c100 => ?_)
                        · skip
                          refine WL.val (run_pickF rfl) rfl rfl ?_
                          refine WL.val run_move rfl rfl ?_
                          refine WL.skip rfl rfl ?_
                          refine WL.skip rfl rfl ?_
                          refine WL.val (run_pickT rfl) rfl rfl ?_
                          refine WL.val (run_neqBoolF Try.underlying4 rfl rfl (by rw [hr2]; omega)) rfl rfl ?_
                          refine WL.val (run_pickF rfl) rfl rfl ?_
                          refine WL.val run_move rfl rfl ?_
                          refine WL.val run_move rfl rfl ?_
                          refine WL.val run_move rfl rfl ?_
                          refine WL.eff (eff_call Try.call18 (allows_ok (t := t2) h)) rfl rfl ?_
                          rintro _ w ⟨⟨r3, rfl, hr3⟩, h⟩
                          have hr4 : r3 = true := hr3.2 (.inr (.inr (by omega)))
                          subst hr4
                          refine WL.val (run_not rfl) rfl rfl ?_
                          refine WL.val (run_pickF rfl) rfl rfl ?_
                          refine WL.nil ?_
                          refine W.condF rfl ?_
                          refine W.skip ?_
                          refine W.region ?_
                          refine WL.val run_move rfl rfl ?_
                          refine WL.val (run_incN rfl rfl (by omega)) rfl rfl ?_
                          refine WL.val run_assign rfl rfl ?_
                          refine WL.nil ?_
                          -- round, path FLTFTTFLTFFT
                          exact ⟨q + 1, ⟨_, mkE_of ⟨rfl, rfl, rfl, rfl, rfl, rfl, trivial⟩, by omega, h⟩, by show 8 - (q + 1) < 8 - q; omega⟩
                        · skip
                          refine WL.val (run_pickF rfl) rfl rfl ?_
                          refine WL.val run_move rfl rfl ?_
                          refine WL.val run_move rfl rfl ?_
                          refine WL.dec (run_eql rfl rfl) rfl rfl (fun c104 => ?_) (fun c104 => ?_)
                          · skip
                            refine WL.val (run_pickF rfl) rfl rfl ?_
                            refine WL.val (run_neqBoolF Try.underlying4 rfl rfl (by rw [hr2]; omega)) rfl rfl ?_
                            refine WL.val (run_pickF rfl) rfl rfl ?_
                            refine WL.val run_move rfl rfl ?_
                            refine WL.val run_move rfl rfl ?_
                            refine WL.val run_move rfl rfl ?_
                            refine WL.eff (eff_call Try.call18 (allows_ok (t := t2) h)) rfl rfl ?_
                            rintro _ w ⟨⟨r3, rfl, hr3⟩, h⟩
                            have hr4 : r3 = true := hr3.2 (.inr (.inr (by omega)))
                            subst hr4
                            refine WL.val (run_not rfl) rfl rfl ?_
                            refine WL.val (run_pickF rfl) rfl rfl ?_
                            refine WL.nil ?_
                            refine W.condF rfl ?_
                            refine W.skip ?_
                            refine W.region ?_
                            refine WL.val run_move rfl rfl ?_
                            refine WL.val (run_incN rfl rfl (by omega)) rfl rfl ?_
                            refine WL.val run_assign rfl rfl ?_
                            refine WL.nil ?_
                            -- round, path FLTFTTFLTFFFT
                            exact ⟨q + 1, ⟨_, mkE_of ⟨rfl, rfl, rfl, rfl, rfl, rfl, trivial⟩, by omega, h⟩, by show 8 - (q + 1) < 8 - q; omega⟩
                          · skip
                            refine WL.val (run_pickF rfl) rfl rfl ?_
                            refine WL.val (run_neqBoolF Try.underlying4 rfl rfl (by rw [← Bool.not_eq_true, hr2]; omega)) rfl rfl ?_
                            refine WL.val (run_pickF rfl) rfl rfl ?_
                            refine WL.val run_move rfl rfl ?_
                            refine WL.val run_move rfl rfl ?_
                            refine WL.val run_move rfl rfl ?_
                            refine WL.eff (eff_call Try.call18 (allows_ok (t := t2) h)) rfl rfl ?_
                            rintro _ w ⟨⟨r3, rfl, hr3⟩, h⟩
                            have hr4 : r3 = true := hr3.2 (.inr (.inr (by omega)))
                            subst hr4
                            refine WL.val (run_not rfl) rfl rfl ?_
                            refine WL.val (run_pickF rfl) rfl rfl ?_
                            refine WL.nil ?_
                            refine W.condF rfl ?_
                            refine W.skip ?_
                            refine W.region ?_
                            refine WL.val run_move rfl rfl ?_
                            refine WL.val (run_incN rfl rfl (by omega)) rfl rfl ?_
                            refine WL.val run_assign rfl rfl ?_
                            refine WL.nil ?_
                            -- round, path FLTFTTFLTFFFF
                            exact ⟨q + 1, ⟨_, mkE_of ⟨rfl, rfl, rfl, rfl, rfl, rfl, trivial⟩, by omega, h⟩, by show 8 - (q + 1) < 8 - q; omega⟩
                  · skip
                    refine W.exit ?_
                    refine W.region ?_
                    refine WL.val run_move rfl rfl ?_
                    refine WL.val (run_incN rfl rfl (by omega)) rfl rfl ?_
                    refine WL.val run_assign rfl rfl ?_
                    refine WL.nil ?_
                    -- round, path FLTFTTFLF
                    exact ⟨k + 1, ⟨_, t2, mkE_of ⟨rfl, rfl, rfl, trivial⟩, by omega, hinv2, h⟩, by show acts.length - (k + 1) < acts.length - k; omega⟩
            · skip
              refine WL.val (run_pickT rfl) rfl rfl ?_
              refine WL.val run_move rfl rfl ?_
              refine WL.skip rfl rfl ?_
              refine WL.skip rfl rfl ?_
              refine WL.val (run_pickF rfl) rfl rfl ?_
              refine WL.val run_move rfl rfl ?_
              refine WL.skip rfl rfl ?_
              refine WL.skip rfl rfl ?_
              refine WL.val (run_pickF rfl) rfl rfl ?_
              refine WL.val (run_pickF rfl) rfl rfl ?_
              refine WL.val run_move rfl rfl ?_
              refine WL.val run_move rfl rfl ?_
              refine WL.val run_move rfl rfl ?_
              refine WL.eff (eff_call Try.call18 (allows_ok (t := t2) h)) rfl rfl ?_
              rintro _ w ⟨⟨r1, rfl, hr1⟩, h⟩
              have hr2 : r1 = true := hr1.2 (.inl (.inr (.inl rfl)))
              subst hr2
              refine WL.val (run_not rfl) rfl rfl ?_
              refine WL.val (run_pickF rfl) rfl rfl ?_
              refine WL.nil ?_
              refine W.condF rfl ?_
              refine W.skip ?_
              refine W.seq ?_
              refine W.region ?_
              refine WL.val run_assign rfl rfl ?_
              refine WL.nil ?_
              refine W.block ?_
              refine W.loop (fun (q : Nat) env w => ∃ j, env = mkE j [(0, .slice (some ⟨ba, oa, none⟩) acts.length cl), (3, .pointer (some ⟨b, 0, none⟩)), (4, .int .i64 (k : Int)), (5, .int .i64 t2.hold), (6, .int .i64 t2.typ), (7, .int .i64 (q : Int))] ∧ q ≤ 8 ∧ On W0 (blk b t2.cells 69 :: F) w) (fun q => 8 - q) (0) ?_ ?_
              · exact ⟨_, mkE_of ⟨rfl, rfl, rfl, rfl, rfl, rfl, trivial⟩, Nat.zero_le _, h⟩
              · rintro q env w ⟨j, rfl, hq8, h⟩
                refine W.seq ?_
                refine W.seq ?_
                refine W.region ?_
                refine WL.val run_move rfl rfl ?_
                refine WL.val (run_lss rfl rfl) rfl rfl ?_
                refine WL.nil ?_
                refine W.condIf rfl (fun c40 => ?_) (fun c40 => ?_)
                · skip
                  refine W.skip ?_
                  refine W.seq ?_
                  refine W.block ?_
                  refine W.seq ?_
                  refine W.region ?_
                  refine WL.val run_move rfl rfl ?_
                  refine WL.val run_move rfl rfl ?_
                  refine WL.dec (run_eql rfl rfl) rfl rfl (fun c77 => ?_) (fun c77 => ?_)
                  · skip
                    refine WL.val run_move rfl rfl ?_
                    refine WL.skip rfl rfl ?_
                    refine WL.skip rfl rfl ?_
                    refine WL.skip rfl rfl ?_
                    refine WL.skip rfl rfl ?_
                    refine WL.skip rfl rfl ?_
                    refine WL.skip rfl rfl ?_
                    refine WL.skip rfl rfl ?_
                    refine WL.skip rfl rfl ?_
                    refine WL.val (run_pickT rfl) rfl rfl ?_
                    refine WL.val run_assign rfl rfl ?_
                    refine WL.nil ?_
                    refine W.seq ?_
                    refine W.region ?_
                    refine WL.val run_move rfl rfl ?_
                    refine WL.val run_move rfl rfl ?_
                    refine WL.eff (eff_call Try.call18 (allows_ok (t := t2) h)) rfl rfl ?_
                    rintro _ w ⟨⟨r1, rfl, hr1⟩, h⟩
                    rw [allow_w (by omega) hmt] at hr1
                    have hr2 : r1 = true := (by rw [hr1]; omega)
                    subst hr2
                    refine WL.val run_move rfl rfl ?_
                    refine WL.val (run_neqBoolF Try.underlying4 rfl rfl rfl) rfl rfl ?_
                    refine WL.val run_move rfl rfl ?_
                    refine WL.val run_move rfl rfl ?_
                    refine WL.val run_move rfl rfl ?_
                    refine WL.eff (eff_call Try.call18 (allows_ok (t := t2) h)) rfl rfl ?_
                    rintro _ w ⟨⟨r2, rfl, hr2⟩, h⟩
                    rw [allow_r (by omega) hmt] at hr2
                    refine WL.val run_move rfl rfl ?_
                    refine WL.val run_move rfl rfl ?_
                    refine WL.skip rfl rfl ?_
                    refine WL.skip rfl rfl ?_
                    refine WL.val (run_pickT rfl) rfl rfl ?_
                    refine WL.val run_move rfl rfl ?_
                    refine WL.skip rfl rfl ?_
                    refine WL.skip rfl rfl ?_
                    refine WL.val (run_pickT rfl) rfl rfl ?_
                    refine WL.val (run_neqBoolF Try.underlying4 rfl rfl (by rw [hr2]; omega)) rfl rfl ?_
                    refine WL.val (run_pickF rfl) rfl rfl ?_
                    refine WL.val run_move rfl rfl ?_
                    refine WL.val run_move rfl rfl ?_
                    refine WL.val run_move rfl rfl ?_
                    refine WL.eff (eff_call Try.call18 (allows_ok (t := t2) h)) rfl rfl ?_
                    rintro _ w ⟨⟨r3, rfl, hr3⟩, h⟩
                    have hr4 : r3 = true := hr3.2 (.inr (.inr (by omega)))
                    subst hr4
                    refine WL.val (run_not rfl) rfl rfl ?_
                    refine WL.val (run_pickF rfl) rfl rfl ?_
                    refine WL.nil ?_
                    refine W.condF rfl ?_
                    refine W.skip ?_
                    refine W.region ?_
                    refine WL.val run_move rfl rfl ?_
                    refine WL.val (run_incN rfl rfl (by omega)) rfl rfl ?_
                    refine WL.val run_assign rfl rfl ?_
                    refine WL.nil ?_
                    -- round, path FLTFTFLTT
                    exact ⟨q + 1, ⟨_, mkE_of ⟨rfl, rfl, rfl, rfl, rfl, rfl, trivial⟩, by omega, h⟩, by show 8 - (q + 1) < 8 - q; omega⟩
                  · skip
                    refine WL.val run_move rfl rfl ?_
                    refine WL.val run_move rfl rfl ?_
                    refine WL.dec (run_geq rfl rfl) rfl rfl (fun c80 => ?_) (fun c80 => ?_)
                    · skip
                      refine WL.val run_move rfl rfl ?_
                      refine WL.val run_move rfl rfl ?_
                      refine WL.val run_move rfl rfl ?_
                      refine WL.eff (eff_call Try.call13 (key_ok (i := q) (by omega) h)) rfl rfl ?_
                      rintro _ w ⟨rfl, h⟩
                      refine WL.dec (run_neq rfl rfl) rfl rfl (fun c85 => ?_) (fun c85 => ?_)
                      · skip
                        refine WL.val (run_pickT rfl) rfl rfl ?_
                        refine WL.val (run_pickF rfl) rfl rfl ?_
                        refine WL.val run_assign rfl rfl ?_
                        refine WL.nil ?_
                        refine W.seq ?_
                        refine W.region ?_
                        refine WL.val run_move rfl rfl ?_
                        refine WL.val run_move rfl rfl ?_
                        refine WL.eff (eff_call Try.call18 (allows_ok (t := t2) h)) rfl rfl ?_
                        rintro _ w ⟨⟨r1, rfl, hr1⟩, h⟩
                        rw [allow_w (by omega) hmt] at hr1
                        have hr2 : r1 = true := (by rw [hr1]; omega)
                        subst hr2
                        refine WL.val run_move rfl rfl ?_
                        refine WL.val (run_neqBoolF Try.underlying4 rfl rfl rfl) rfl rfl ?_
                        refine WL.val run_move rfl rfl ?_
                        refine WL.val run_move rfl rfl ?_
                        refine WL.val run_move rfl rfl ?_
                        refine WL.eff (eff_call Try.call18 (allows_ok (t := t2) h)) rfl rfl ?_
                        rintro _ w ⟨⟨r2, rfl, hr2⟩, h⟩
                        rw [allow_r (by omega) hmt] at hr2
                        refine WL.val run_move rfl rfl ?_
                        refine WL.val run_move rfl rfl ?_
                        refine WL.skip rfl rfl ?_
                        refine WL.skip rfl rfl ?_
                        refine WL.val (run_pickT rfl) rfl rfl ?_
                        refine WL.val run_move rfl rfl ?_
                        refine WL.skip rfl rfl ?_
                        refine WL.skip rfl rfl ?_
                        refine WL.val (run_pickT rfl) rfl rfl ?_
                        refine WL.val (run_neqBoolF Try.underlying4 rfl rfl (by rw [hr2]; omega)) rfl rfl ?_
                        refine WL.val (run_pickF rfl) rfl rfl ?_
                        refine WL.val run_move rfl rfl ?_
                        refine WL.val run_move rfl rfl ?_
                        refine WL.val run_move rfl rfl ?_
                        refine WL.eff (eff_call Try.call18 (allows_ok (t := t2) h)) rfl rfl ?_
                        rintro _ w ⟨⟨r3, rfl, hr3⟩, h⟩
                        have hr4 : r3 = true := hr3.2 (.inr (.inr (by omega)))
                        subst hr4
                        refine WL.val (run_not rfl) rfl rfl ?_
                        refine WL.val (run_pickF rfl) rfl rfl ?_
                        refine WL.nil ?_
                        refine W.condF rfl ?_
                        refine W.skip ?_
                        refine W.region ?_
                        refine WL.val run_move rfl rfl ?_
                        refine WL.val (run_incN rfl rfl (by omega)) rfl rfl ?_
                        refine WL.val run_assign rfl rfl ?_
                        refine WL.nil ?_
                        -- round, path FLTFTFLTFTT
                        exact ⟨q + 1, ⟨_, mkE_of ⟨rfl, rfl, rfl, rfl, rfl, rfl, trivial⟩, by omega, h⟩, by show 8 - (q + 1) < 8 - q; omega⟩
                      · skip
                        refine WL.val (run_pickT rfl) rfl rfl ?_
                        refine WL.val (run_pickF rfl) rfl rfl ?_
                        refine WL.val run_assign rfl rfl ?_
                        refine WL.nil ?_
                        refine W.seq ?_
                        refine W.region ?_
                        refine WL.val run_move rfl rfl ?_
                        refine WL.val run_move rfl rfl ?_
                        refine WL.eff (eff_call Try.call18 (allows_ok (t := t2) h)) rfl rfl ?_
                        rintro _ w ⟨⟨r1, rfl, hr1⟩, h⟩
                        rw [allow_w (by omega) hmt] at hr1
                        have hr2 : r1 = false := (by rw [← Bool.not_eq_true, hr1]; omega)
                        subst hr2
                        refine WL.val run_move rfl rfl ?_
                        refine WL.val (run_neqBoolF Try.underlying4 rfl rfl rfl) rfl rfl ?_
                        refine WL.val run_move rfl rfl ?_
                        refine WL.val run_move rfl rfl ?_
                        refine WL.val run_move rfl rfl ?_
                        refine WL.eff (eff_call Try.call18 (allows_ok (t := t2) h)) rfl rfl ?_
                        rintro _ w ⟨⟨r2, rfl, hr2⟩, h⟩
                        rw [allow_r (by omega) hmt] at hr2
                        refine WL.val run_move rfl rfl ?_
                        refine WL.val run_move rfl rfl ?_
                        refine WL.val run_move rfl rfl ?_
                        refine WL.dec (run_eql rfl rfl) rfl rfl (fun c100 => ?_) (fun c100 => ?_)
                        · skip
                          refine WL.val (run_pickF rfl) rfl rfl ?_
                          refine WL.val run_move rfl rfl ?_
                          refine WL.skip rfl rfl ?_
                          refine WL.skip rfl rfl ?_
                          refine WL.val (run_pickT rfl) rfl rfl ?_
                          refine WL.val (run_neqBoolF Try.underlying4 rfl rfl (by rw [hr2]; omega)) rfl rfl ?_
                          refine WL.val (run_pickF rfl) rfl rfl ?_
                          refine WL.val run_move rfl rfl ?_
                          refine WL.val run_move rfl rfl ?_
                          refine WL.val run_move rfl rfl ?_
                          refine WL.eff (eff_call Try.call18 (allows_ok (t := t2) h)) rfl rfl ?_
                          rintro _ w ⟨⟨r3, rfl, hr3⟩, h⟩
                          have hr4 : r3 = true := hr3.2 (.inr (.inr (by omega)))
                          subst hr4
                          refine WL.val (run_not rfl) rfl rfl ?_
                          refine WL.val (run_pickF rfl) rfl rfl ?_
                          refine WL.nil ?_
                          refine W.condF rfl ?_
                          refine W.skip ?_
                          refine W.region ?_
                          refine WL.val run_move rfl rfl ?_
                          refine WL.val (run_incN rfl rfl (by omega)) rfl rfl ?_
                          refine WL.val run_assign rfl rfl ?_
                          refine WL.nil ?_
                          -- round, path FLTFTFLTFTFT
                          exact ⟨q + 1, ⟨_, mkE_of ⟨rfl, rfl, rfl, rfl, rfl, rfl, trivial⟩, by omega, h⟩, by show 8 - (q + 1) < 8 - q; omega⟩
                        · skip
                          refine WL.val (run_pickF rfl) rfl rfl ?_
                          refine WL.val run_move rfl rfl ?_
                          refine WL.val run_move rfl rfl ?_
                          refine WL.dec (run_eql rfl rfl) rfl rfl (fun c104 => ?_) (fun c104 => ?_)
                          · skip
                            refine WL.val (run_pickF rfl) rfl rfl ?_
                            refine WL.val (run_neqBoolF Try.underlying4 rfl rfl (by rw [hr2]; omega)) rfl rfl ?_
                            refine WL.val (run_pickF rfl) rfl rfl ?_
                            refine WL.val run_move rfl rfl ?_
                            refine WL.val run_move rfl rfl ?_
                            refine WL.val run_move rfl rfl ?_
                            refine WL.eff (eff_call Try.call18 (allows_ok (t := t2) h)) rfl rfl ?_
                            rintro _ w ⟨⟨r3, rfl, hr3⟩, h⟩
                            have hr4 : r3 = true := hr3.2 (.inr (.inr (by omega)))
                            subst hr4
                            refine WL.val (run_not rfl) rfl rfl ?_
                            refine WL.val (run_pickF rfl) rfl rfl ?_
                            refine WL.nil ?_
                            refine W.condF rfl ?_
                            refine W.skip ?_
                            refine W.region ?_
                            refine WL.val run_move rfl rfl ?_
                            refine WL.val (run_incN rfl rfl (by omega)) rfl rfl ?_
                            refine WL.val run_assign rfl rfl ?_
                            refine WL.nil ?_
                            -- round, path FLTFTFLTFTFFT
                            exact ⟨q + 1, ⟨_, mkE_of ⟨rfl, rfl, rfl, rfl, rfl, rfl, trivial⟩, by omega, h⟩, by show 8 - (q + 1) < 8 - q; omega⟩
                          · skip
                            refine WL.val (run_pickF rfl) rfl rfl ?_
                            refine WL.val (run_neqBoolF Try.underlying4 rfl rfl (by rw [← Bool.not_eq_true, hr2]; omega)) rfl rfl ?_
                            refine WL.val (run_pickF rfl) rfl rfl ?_
                            refine WL.val run_move rfl rfl ?_
                            refine WL.val run_move rfl rfl ?_
                            refine WL.val run_move rfl rfl ?_
                            refine WL.eff (eff_call Try.call18 (allows_ok (t := t2) h)) rfl rfl ?_
                            rintro _ w ⟨⟨r3, rfl, hr3⟩, h⟩
                            have hr4 : r3 = true := hr3.2 (.inr (.inr (by omega)))
                            subst hr4
                            refine WL.val (run_not rfl) rfl rfl ?_
                            refine WL.val (run_pickF rfl) rfl rfl ?_
                            refine WL.nil ?_
                            refine W.condF rfl ?_
                            refine W.skip ?_
                            refine W.region ?_
                            refine WL.val run_move rfl rfl ?_
                            refine WL.val (run_incN rfl rfl (by omega)) rfl rfl ?_
                            refine WL.val run_assign rfl rfl ?_
                            refine WL.nil ?_
                            -- round, path FLTFTFLTFTFFF
                            exact ⟨q + 1, ⟨_, mkE_of ⟨rfl, rfl, rfl, rfl, rfl, rfl, trivial⟩, by omega, h⟩, by show 8 - (q + 1) < 8 - q; omega⟩
                    · skip
                      refine WL.val run_move rfl rfl ?_
                      refine WL.skip rfl rfl ?_
                      refine WL.skip rfl rfl ?_
                      refine WL.skip rfl rfl ?_
                      refine WL.skip rfl rfl ?_
                      refine WL.val (run_pickF rfl) rfl rfl ?_
                      refine WL.val (run_pickF rfl) rfl rfl ?_
                      refine WL.val run_assign rfl rfl ?_
                      refine WL.nil ?_
                      refine W.seq ?_
                      refine W.region ?_
                      refine WL.val run_move rfl rfl ?_
                      refine WL.val run_move rfl rfl ?_
                      refine WL.eff (eff_call Try.call18 (allows_ok (t := t2) h)) rfl rfl ?_
                      rintro _ w ⟨⟨r1, rfl, hr1⟩, h⟩
                      rw [allow_w (by omega) hmt] at hr1
                      have hr2 : r1 = false := (by rw [← Bool.not_eq_true, hr1]; omega)
                      subst hr2
                      refine WL.val run_move rfl rfl ?_
                      refine WL.val (run_neqBoolF Try.underlying4 rfl rfl rfl) rfl rfl ?_
                      refine WL.val run_move rfl rfl ?_
                      refine WL.val run_move rfl rfl ?_
                      refine WL.val run_move rfl rfl ?_
                      refine WL.eff (eff_call Try.call18 (allows_ok (t := t2) h)) rfl rfl ?_
                      rintro _ w ⟨⟨r2, rfl, hr2⟩, h⟩
                      rw [allow_r (by omega) hmt] at hr2
                      refine WL.val run_move rfl rfl ?_
                      refine WL.val run_move rfl rfl ?_
                      refine WL.val run_move rfl rfl ?_
                      refine WL.dec (run_eql rfl rfl) rfl rfl (fun c100 => ?_) (fun c100 => ?_)
                      · skip
                        refine WL.val (run_pickF rfl) rfl rfl ?_
                        refine WL.val run_move rfl rfl ?_
                        refine WL.skip rfl rfl ?_
                        refine WL.skip rfl rfl ?_
                        refine WL.val (run_pickT rfl) rfl rfl ?_
                        refine WL.val (run_neqBoolF Try.underlying4 rfl rfl (by rw [hr2]; omega)) rfl rfl ?_
                        refine WL.val (run_pickF rfl) rfl rfl ?_
                        refine WL.val run_move rfl rfl ?_
                        refine WL.val run_move rfl rfl ?_
                        refine WL.val run_move rfl rfl ?_
                        refine WL.eff (eff_call Try.call18 (allows_ok (t := t2) h)) rfl rfl ?_
                        rintro _ w ⟨⟨r3, rfl, hr3⟩, h⟩
                        have hr4 : r3 = true := hr3.2 (.inr (.inr (by omega)))
                        subst hr4
                        refine WL.val (run_not rfl) rfl rfl ?_
                        refine WL.val (run_pickF rfl) rfl rfl ?_
                        refine WL.nil ?_
                        refine W.condF rfl ?_
                        refine W.skip ?_
                        refine W.region ?_
                        refine WL.val run_move rfl rfl ?_
                        refine WL.val (run_incN rfl rfl (by omega)) rfl rfl ?_
                        refine WL.val run_assign rfl rfl ?_
                        refine WL.nil ?_
                        -- round, path FLTFTFLTFFT
                        exact ⟨q + 1, ⟨_, mkE_of ⟨rfl, rfl, rfl, rfl, rfl, rfl, trivial⟩, by omega, h⟩, by show 8 - (q + 1) < 8 - q; omega⟩
                      · skip
                        refine WL.val (run_pickF rfl) rfl rfl ?_
                        refine WL.val run_move rfl rfl ?_
                        refine WL.val run_move rfl rfl ?_
                        refine WL.dec (run_eql rfl rfl) rfl rfl (fun c104 => ?_) (fun c104 => ?_)
                        · skip
                          refine WL.val (run_pickF rfl) rfl rfl ?_
                          refine WL.val (run_neqBoolF Try.underlying4 rfl rfl (by rw [hr2]; omega)) rfl rfl ?_
                          refine WL.val (run_pickF rfl) rfl rfl ?_
                          refine WL.val run_move rfl rfl ?_
                          refine WL.val run_move rfl rfl ?_
                          refine WL.val run_move rfl rfl ?_
                          refine WL.eff (eff_call Try.call18 (allows_ok (t := t2) h)) rfl rfl ?_
                          rintro _ w ⟨⟨r3, rfl, hr3⟩, h⟩
                          have hr4 : r3 = true := hr3.2 (.inr (.inr (by omega)))
                          subst hr4
                          refine WL.val (run_not rfl) rfl rfl ?_
                          refine WL.val (run_pickF rfl) rfl rfl ?_
                          refine WL.nil ?_
                          refine W.condF rfl ?_
                          refine W.skip ?_
                          refine W.region ?_
                          refine WL.val run_move rfl rfl ?_
                          refine WL.val (run_incN rfl rfl (by omega)) rfl rfl ?_
                          refine WL.val run_assign rfl rfl ?_
                          refine WL.nil ?_
                          -- round, path FLTFTFLTFFFT
                          exact ⟨q + 1, ⟨_, mkE_of ⟨rfl, rfl, rfl, rfl, rfl, rfl, trivial⟩, by omega, h⟩, by show 8 - (q + 1) < 8 - q; omega⟩
                        · skip
                          refine WL.val (run_pickF rfl) rfl rfl ?_
                          refine WL.val (run_neqBoolF Try.underlying4 rfl rfl (by rw [← Bool.not_eq_true, hr2]; omega)) rfl rfl ?_
                          refine WL.val (run_pickF rfl) rfl rfl ?_
                          refine WL.val run_move rfl rfl ?_
                          refine WL.val run_move rfl rfl ?_
                          refine WL.val run_move rfl rfl ?_
                          refine WL.eff (eff_call Try.call18 (allows_ok (t := t2) h)) rfl rfl ?_
                          rintro _ w ⟨⟨r3, rfl, hr3⟩, h⟩
                          have hr4 : r3 = true := hr3.2 (.inr (.inr (by omega)))
                          subst hr4
                          refine WL.val (run_not rfl) rfl rfl ?_
                          refine WL.val (run_pickF rfl) rfl rfl ?_
                          refine WL.nil ?_
                          refine W.condF rfl ?_
                          refine W.skip ?_
                          refine W.region ?_
                          refine WL.val run_move rfl rfl ?_
                          refine WL.val (run_incN rfl rfl (by omega)) rfl rfl ?_
                          refine WL.val run_assign rfl rfl ?_
                          refine WL.nil ?_
                          -- round, path FLTFTFLTFFFF
                          exact ⟨q + 1, ⟨_, mkE_of ⟨rfl, rfl, rfl, rfl, rfl, rfl, trivial⟩, by omega, h⟩, by show 8 - (q + 1) < 8 - q; omega⟩
                · skip
                  refine W.exit ?_
                  refine W.region ?_
                  refine WL.val run_move rfl rfl ?_
                  refine WL.val (run_incN rfl rfl (by omega)) rfl rfl ?_
                  refine WL.val run_assign rfl rfl ?_
                  refine WL.nil ?_
                  -- round, path FLTFTFLF
                  exact ⟨k + 1, ⟨_, t2, mkE_of ⟨rfl, rfl, rfl, trivial⟩, by omega, hinv2, h⟩, by show acts.length - (k + 1) < acts.length - k; omega⟩
          · skip
            refine WL.val run_move rfl rfl ?_
            refine WL.skip rfl rfl ?_
            refine WL.skip rfl rfl ?_
            refine WL.val (run_pickF rfl) rfl rfl ?_
            refine WL.val run_move rfl rfl ?_
            refine WL.skip rfl rfl ?_
            refine WL.skip rfl rfl ?_
            refine WL.val (run_pickF rfl) rfl rfl ?_
            refine WL.val run_move rfl rfl ?_
            refine WL.skip rfl rfl ?_
            refine WL.skip rfl rfl ?_
            refine WL.val (run_pickF rfl) rfl rfl ?_
            refine WL.val (run_pickF rfl) rfl rfl ?_
            refine WL.val run_move rfl rfl ?_
            refine WL.val run_move rfl rfl ?_
            refine WL.val run_move rfl rfl ?_
            refine WL.eff (eff_call Try.call18 (allows_ok (t := t2) h)) rfl rfl ?_
            rintro _ w ⟨⟨r1, rfl, hr1⟩, h⟩
            have hr2 : r1 = true := hr1.2 (.inl (.inr (.inl rfl)))
            subst hr2
            refine WL.val (run_not rfl) rfl rfl ?_
            refine WL.val (run_pickF rfl) rfl rfl ?_
            refine WL.nil ?_
            refine W.condF rfl ?_
            refine W.skip ?_
            refine W.seq ?_
            refine W.region ?_
            refine WL.val run_assign rfl rfl ?_
            refine WL.nil ?_
            refine W.block ?_
            refine W.loop (fun (q : Nat) env w => ∃ j, env = mkE j [(0, .slice (some ⟨ba, oa, none⟩) acts.length cl), (3, .pointer (some ⟨b, 0, none⟩)), (4, .int .i64 (k : Int)), (5, .int .i64 t2.hold), (6, .int .i64 t2.typ), (7, .int .i64 (q : Int))] ∧ q ≤ 8 ∧ On W0 (blk b t2.cells 69 :: F) w) (fun q => 8 - q) (0) ?_ ?_
            · exact ⟨_, mkE_of ⟨rfl, rfl, rfl, rfl, rfl, rfl, trivial⟩, Nat.zero_le _, h⟩
            · rintro q env w ⟨j, rfl, hq8, h⟩
              refine W.seq ?_
              refine W.seq ?_
              refine W.region ?_
              refine WL.val run_move rfl rfl ?_
              refine WL.val (run_lss rfl rfl) rfl rfl ?_
              refine WL.nil ?_
              refine W.condIf rfl (fun c40 => ?_) (fun c40 => ?_)
              · skip
                refine W.skip ?_
                refine W.seq ?_
                refine W.block ?_
                refine W.seq ?_
                refine W.region ?_
                refine WL.val run_move rfl rfl ?_
                refine WL.val run_move rfl rfl ?_
                refine WL.dec (run_eql rfl rfl) rfl rfl (fun c77 => ?_) (fun c77 => ?_)
                · skip
                  refine WL.val run_move rfl rfl ?_
                  refine WL.skip rfl rfl ?_
                  refine WL.skip rfl rfl ?_
                  refine WL.skip rfl rfl ?_
                  refine WL.skip rfl rfl ?_
                  refine WL.skip rfl rfl ?_
                  refine WL.skip rfl rfl ?_
                  refine WL.skip rfl rfl ?_
                  refine WL.skip rfl rfl ?_
                  refine WL.val (run_pickT rfl) rfl rfl ?_
                  refine WL.val run_assign rfl rfl ?_
                  refine WL.nil ?_
                  refine W.seq ?_
                  refine W.region ?_
                  refine WL.val run_move rfl rfl ?_
                  refine WL.val run_move rfl rfl ?_
                  refine WL.eff (eff_call Try.call18 (allows_ok (t := t2) h)) rfl rfl ?_
                  rintro _ w ⟨⟨r1, rfl, hr1⟩, h⟩
                  rw [allow_w (by omega) hmt] at hr1
                  have hr2 : r1 = true := (by rw [hr1]; omega)
                  subst hr2
                  refine WL.val run_move rfl rfl ?_
                  refine WL.val (run_neqBoolF Try.underlying4 rfl rfl rfl) rfl rfl ?_
                  refine WL.val run_move rfl rfl ?_
                  refine WL.val run_move rfl rfl ?_
                  refine WL.val run_move rfl rfl ?_
                  refine WL.eff (eff_call Try.call18 (allows_ok (t := t2) h)) rfl rfl ?_
                  rintro _ w ⟨⟨r2, rfl, hr2⟩, h⟩
                  rw [allow_r (by omega) hmt] at hr2
                  refine WL.val run_move rfl rfl ?_
                  refine WL.val run_move rfl rfl ?_
                  refine WL.skip rfl rfl ?_
                  refine WL.skip rfl rfl ?_
                  refine WL.val (run_pickT rfl) rfl rfl ?_
                  refine WL.val run_move rfl rfl ?_
                  refine WL.skip rfl rfl ?_
                  refine WL.skip rfl rfl ?_
                  refine WL.val (run_pickT rfl) rfl rfl ?_
                  refine WL.val (run_neqBoolF Try.underlying4 rfl rfl (by rw [hr2]; omega)) rfl rfl ?_
                  refine WL.val (run_pickF rfl) rfl rfl ?_
                  refine WL.val run_move rfl rfl ?_
                  refine WL.val run_move rfl rfl ?_
                  refine WL.val run_move rfl rfl ?_
                  refine WL.eff (eff_call Try.call18 (allows_ok (t := t2) h)) rfl rfl ?_
                  rintro _ w ⟨⟨r3, rfl, hr3⟩, h⟩
                  have hr4 : r3 = true := hr3.2 (.inr (.inr (by omega)))
                  subst hr4
                  refine WL.val (run_not rfl) rfl rfl ?_
                  refine WL.val (run_pickF rfl) rfl rfl ?_
                  refine WL.nil ?_
                  refine W.condF rfl ?_
                  refine W.skip ?_
                  refine W.region ?_
                  refine WL.val run_move rfl rfl ?_
                  refine WL.val (run_incN rfl rfl (by omega)) rfl rfl ?_
                  refine WL.val run_assign rfl rfl ?_
                  refine WL.nil ?_
                  -- round, path FLTFFLTT
                  exact ⟨q + 1, ⟨_, mkE_of ⟨rfl, rfl, rfl, rfl, rfl, rfl, trivial⟩, by omega, h⟩, by show 8 - (q + 1) < 8 - q; omega⟩
                · skip
                  refine WL.val run_move rfl rfl ?_
                  refine WL.val run_move rfl rfl ?_
                  refine WL.dec (run_geq rfl rfl) rfl rfl (fun c80 => ?_) (fun c80 => ?_)
                  · skip
                    refine WL.val run_move rfl rfl ?_
                    refine WL.val run_move rfl rfl ?_
                    refine WL.val run_move rfl rfl ?_
                    refine WL.eff (eff_call Try.call13 (key_ok (i := q) (by omega) h)) rfl rfl ?_
                    rintro _ w ⟨rfl, h⟩
                    refine WL.dec (run_neq rfl rfl) rfl rfl (fun c85 => ?_) (fun c85 => ?_)
                    · skip
                      refine WL.val (run_pickT rfl) rfl rfl ?_
                      refine WL.val (run_pickF rfl) rfl rfl ?_
                      refine WL.val run_assign rfl rfl ?_
                      refine WL.nil ?_
                      refine W.seq ?_
                      refine W.region ?_
                      refine WL.val run_move rfl rfl ?_
                      refine WL.val run_move rfl rfl ?_
                      refine WL.eff (eff_call Try.call18 (allows_ok (t := t2) h)) rfl rfl ?_
                      rintro _ w ⟨⟨r1, rfl, hr1⟩, h⟩
                      rw [allow_w (by omega) hmt] at hr1
                      have hr2 : r1 = true := (by rw [hr1]; omega)
                      subst hr2
                      refine WL.val run_move rfl rfl ?_
                      refine WL.val (run_neqBoolF Try.underlying4 rfl rfl rfl) rfl rfl ?_
                      refine WL.val run_move rfl rfl ?_
                      refine WL.val run_move rfl rfl ?_
                      refine WL.val run_move rfl rfl ?_
                      refine WL.eff (eff_call Try.call18 (allows_ok (t := t2) h)) rfl rfl ?_
                      rintro _ w ⟨⟨r2, rfl, hr2⟩, h⟩
                      rw [allow_r (by omega) hmt] at hr2
                      refine WL.val run_move rfl rfl ?_
                      refine WL.val run_move rfl rfl ?_
                      refine WL.skip rfl rfl ?_
                      refine WL.skip rfl rfl ?_
                      refine WL.val (run_pickT rfl) rfl rfl ?_
                      refine WL.val run_move rfl rfl ?_
                      refine WL.skip rfl rfl ?_
                      refine WL.skip rfl rfl ?_
                      refine WL.val (run_pickT rfl) rfl rfl ?_
                      refine WL.val (run_neqBoolF Try.underlying4 rfl rfl (by rw [hr2]; omega)) rfl rfl ?_
                      refine WL.val (run_pickF rfl) rfl rfl ?_
                      refine WL.val run_move rfl rfl ?_
                      refine WL.val run_move rfl rfl ?_
                      refine WL.val run_move rfl rfl ?_
                      refine WL.eff (eff_call Try.call18 (allows_ok (t := t2) h)) rfl rfl ?_
                      rintro _ w ⟨⟨r3, rfl, hr3⟩, h⟩
                      have hr4 : r3 = true := hr3.2 (.inr (.inr (by omega)))
                      subst hr4
                      refine WL.val (run_not rfl) rfl rfl ?_
                      refine WL.val (run_pickF rfl) rfl rfl ?_
                      refine WL.nil ?_
                      refine W.condF rfl ?_
                      refine W.skip ?_
                      refine W.region ?_
                      refine WL.val run_move rfl rfl ?_
                      refine WL.val (run_incN rfl rfl (by omega)) rfl rfl ?_
                      refine WL.val run_assign rfl rfl ?_
                      refine WL.nil ?_
                      -- round, path FLTFFLTFTT
                      exact ⟨q + 1, ⟨_, mkE_of ⟨rfl, rfl, rfl, rfl, rfl, rfl, trivial⟩, by omega, h⟩, by show 8 - (q + 1) < 8 - q; omega⟩
                    · skip
                      refine WL.val (run_pickT rfl) rfl rfl ?_
                      refine WL.val (run_pickF rfl) rfl rfl ?_
                      refine WL.val run_assign rfl rfl ?_
                      refine WL.nil ?_
                      refine W.seq ?_
                      refine W.region ?_
                      refine WL.val run_move rfl rfl ?_
                      refine WL.val run_move rfl rfl ?_
                      refine WL.eff (eff_call Try.call18 (allows_ok (t := t2) h)) rfl rfl ?_
                      rintro _ w ⟨⟨r1, rfl, hr1⟩, h⟩
                      rw [allow_w (by omega) hmt] at hr1
                      have hr2 : r1 = false := (by rw [← Bool.not_eq_true, hr1]; omega)
                      subst hr2
                      refine WL.val run_move rfl rfl ?_
                      refine WL.val (run_neqBoolF Try.underlying4 rfl rfl rfl) rfl rfl ?_
                      refine WL.val run_move rfl rfl ?_
                      refine WL.val run_move rfl rfl ?_
                      refine WL.val run_move rfl rfl ?_
                      refine WL.eff (eff_call Try.call18 (allows_ok (t := t2) h)) rfl rfl ?_
                      rintro _ w ⟨⟨r2, rfl, hr2⟩, h⟩
                      rw [allow_r (by omega) hmt] at hr2
                      refine WL.val run_move rfl rfl ?_
                      refine WL.val run_move rfl rfl ?_
                      refine WL.val run_move rfl rfl ?_
                      refine WL.dec (run_eql rfl rfl) rfl rfl (fun c100 => ?_) (fun c100 => ?_)
                      · skip
                        refine WL.val (run_pickF rfl) rfl rfl ?_
                        refine WL.val run_move rfl rfl ?_
                        refine WL.skip rfl rfl ?_
                        refine WL.skip rfl rfl ?_
                        refine WL.val (run_pickT rfl) rfl rfl ?_
                        refine WL.val (run_neqBoolF Try.underlying4 rfl rfl (by rw [hr2]; omega)) rfl rfl ?_
                        refine WL.val (run_pickF rfl) rfl rfl ?_
                        refine WL.val run_move rfl rfl ?_
                        refine WL.val run_move rfl rfl ?_
                        refine WL.val run_move rfl rfl ?_
                        refine WL.eff (eff_call Try.call18 (allows_ok (t := t2) h)) rfl rfl ?_
                        rintro _ w ⟨⟨r3, rfl, hr3⟩, h⟩
                        have hr4 : r3 = true := hr3.2 (.inr (.inr (by omega)))
                        subst hr4
                        refine WL.val (run_not rfl) rfl rfl ?_
                        refine WL.val (run_pickF rfl) rfl rfl ?_
                        refine WL.nil ?_
                        refine W.condF rfl ?_
                        refine W.skip ?_
                        refine W.region ?_
                        refine WL.val run_move rfl rfl ?_
                        refine WL.val (run_incN rfl rfl (by omega)) rfl rfl ?_
                        refine WL.val run_assign rfl rfl ?_
                        refine WL.nil ?_
                        -- round, path FLTFFLTFTFT
                        exact ⟨q + 1, ⟨_, mkE_of ⟨rfl, rfl, rfl, rfl, rfl, rfl, trivial⟩, by omega, h⟩, by show 8 - (q + 1) < 8 - q; omega⟩
                      · skip
                        refine WL.val (run_pickF rfl) rfl rfl ?_
                        refine WL.val run_move rfl rfl ?_
                        refine WL.val run_move rfl rfl ?_
                        refine WL.dec (run_eql rfl rfl) rfl rfl (fun c104 => ?_) (fun c104 => ?_)
                        · skip
                          refine WL.val (run_pickF rfl) rfl rfl ?_
                          refine WL.val (run_neqBoolF Try.underlying4 rfl rfl (by rw [hr2]; omega)) rfl rfl ?_
                          refine WL.val (run_pickF rfl) rfl rfl ?_
                          refine WL.val run_move rfl rfl ?_
                          refine WL.val run_move rfl rfl ?_
                          refine WL.val run_move rfl rfl ?_
                          refine WL.eff (eff_call Try.call18 (allows_ok (t := t2) h)) rfl rfl ?_
                          rintro _ w ⟨⟨r3, rfl, hr3⟩, h⟩
                          have hr4 : r3 = true := hr3.2 (.inr (.inr (by omega)))
                          subst hr4
                          refine WL.val (run_not rfl) rfl rfl ?_
                          refine WL.val (run_pickF rfl) rfl rfl ?_
                          refine WL.nil ?_
                          refine W.condF rfl ?_
                          refine W.skip ?_
                          refine W.region ?_
                          refine WL.val run_move rfl rfl ?_
                          refine WL.val (run_incN rfl rfl (by omega)) rfl rfl ?_
                          refine WL.val run_assign rfl rfl ?_
                          refine WL.nil ?_
                          -- round, path FLTFFLTFTFFT
                          exact ⟨q + 1, ⟨_, mkE_of ⟨rfl, rfl, rfl, rfl, rfl, rfl, trivial⟩, by omega, h⟩, by show 8 - (q + 1) < 8 - q; omega⟩
                        · skip
                          refine WL.val (run_pickF rfl) rfl rfl ?_
                          refine WL.val (run_neqBoolF Try.underlying4 rfl rfl (by rw [← Bool.not_eq_true, hr2]; omega)) rfl rfl ?_
                          refine WL.val (run_pickF rfl) rfl rfl ?_
                          refine WL.val run_move rfl rfl ?_
                          refine WL.val run_move rfl rfl ?_
                          refine WL.val run_move rfl rfl ?_
                          refine WL.eff (eff_call Try.call18 (allows_ok (t := t2) h)) rfl rfl ?_
                          rintro _ w ⟨⟨r3, rfl, hr3⟩, h⟩
                          have hr4 : r3 = true := hr3.2 (.inr (.inr (by omega)))
                          subst hr4
                          refine WL.val (run_not rfl) rfl rfl ?_
                          refine WL.val (run_pickF rfl) rfl rfl ?_
                          refine WL.nil ?_
                          refine W.condF rfl ?_
                          refine W.skip ?_
                          refine W.region ?_
                          refine WL.val run_move rfl rfl ?_
                          refine WL.val (run_incN rfl rfl (by omega)) rfl rfl ?_
                          refine WL.val run_assign rfl rfl ?_
                          refine WL.nil ?_
                          -- round, path FLTFFLTFTFFF
                          exact ⟨q + 1, ⟨_, mkE_of ⟨rfl, rfl, rfl, rfl, rfl, rfl, trivial⟩, by omega, h⟩, by show 8 - (q + 1) < 8 - q; omega⟩
                  · skip
                    refine WL.val run_move rfl rfl ?_
                    refine WL.skip rfl rfl ?_
                    refine WL.skip rfl rfl ?_
                    refine WL.skip rfl rfl ?_
                    refine WL.skip rfl rfl ?_
                    refine WL.val (run_pickF rfl) rfl rfl ?_
                    refine WL.val (run_pickF rfl) rfl rfl ?_
                    refine WL.val run_assign rfl rfl ?_
                    refine WL.nil ?_
                    refine W.seq ?_
                    refine W.region ?_
                    refine WL.val run_move rfl rfl ?_
                    refine WL.val run_move rfl rfl ?_
                    refine WL.eff (eff_call Try.call18 (allows_ok (t := t2) h)) rfl rfl ?_
                    rintro _ w ⟨⟨r1, rfl, hr1⟩, h⟩
                    rw [allow_w (by omega) hmt] at hr1
                    have hr2 : r1 = false := (by rw [← Bool.not_eq_true, hr1]; omega)
                    subst hr2
                    refine WL.val run_move rfl rfl ?_
                    refine WL.val (run_neqBoolF Try.underlying4 rfl rfl rfl) rfl rfl ?_
                    refine WL.val run_move rfl rfl ?_
                    refine WL.val run_move rfl rfl ?_
                    refine WL.val run_move rfl rfl ?_
                    refine WL.eff (eff_call Try.call18 (allows_ok (t := t2) h)) rfl rfl ?_
                    rintro _ w ⟨⟨r2, rfl, hr2⟩, h⟩
                    rw [allow_r (by omega) hmt] at hr2
                    refine WL.val run_move rfl rfl ?_
                    refine WL.val run_move rfl rfl ?_
                    refine WL.val run_move rfl rfl ?_
                    refine WL.dec (run_eql rfl rfl) rfl rfl (fun c100 => ?_) (fun c100 => ?_)
                    · skip
                      refine WL.val (run_pickF rfl) rfl rfl ?_
                      refine WL.val run_move rfl rfl ?_
                      refine WL.skip rfl rfl ?_
                      refine WL.skip rfl rfl ?_
                      refine WL.val (run_pickT rfl) rfl rfl ?_
                      refine WL.val (run_neqBoolF Try.underlying4 rfl rfl (by rw [hr2]; omega)) rfl rfl ?_
                      refine WL.val (run_pickF rfl) rfl rfl ?_
                      refine WL.val run_move rfl rfl ?_
                      refine WL.val run_move rfl rfl ?_
                      refine WL.val run_move rfl rfl ?_
                      refine WL.eff (eff_call Try.call18 (allows_ok (t := t2) h)) rfl rfl ?_
                      rintro _ w ⟨⟨r3, rfl, hr3⟩, h⟩
                      have hr4 : r3 = true := hr3.2 (.inr (.inr (by omega)))
                      subst hr4
                      refine WL.val (run_not rfl) rfl rfl ?_
                      refine WL.val (run_pickF rfl) rfl rfl ?_
                      refine WL.nil ?_
                      refine W.condF rfl ?_
                      refine W.skip ?_
                      refine W.region ?_
                      refine WL.val run_move rfl rfl ?_
                      refine WL.val (run_incN rfl rfl (by omega)) rfl rfl ?_
                      refine WL.val run_assign rfl rfl ?_
                      refine WL.nil ?_
                      -- round, path FLTFFLTFFT
                      exact ⟨q + 1, ⟨_, mkE_of ⟨rfl, rfl, rfl, rfl, rfl, rfl, trivial⟩, by omega, h⟩, by show 8 - (q + 1) < 8 - q; omega⟩
                    · skip
                      refine WL.val (run_pickF rfl) rfl rfl ?_
                      refine WL.val run_move rfl rfl ?_
                      refine WL.val run_move rfl rfl ?_
                      refine WL.dec (run_eql rfl rfl) rfl rfl (fun c104 => ?_) (fun c104 => ?_)
                      · skip
                        refine WL.val (run_pickF rfl) rfl rfl ?_
                        refine WL.val (run_neqBoolF Try.underlying4 rfl rfl (by rw [hr2]; omega)) rfl rfl ?_
                        refine WL.val (run_pickF rfl) rfl rfl ?_
                        refine WL.val run_move rfl rfl ?_
                        refine WL.val run_move rfl rfl ?_
                        refine WL.val run_move rfl rfl ?_
                        refine WL.eff (eff_call Try.call18 (allows_ok (t := t2) h)) rfl rfl ?_
                        rintro _ w ⟨⟨r3, rfl, hr3⟩, h⟩
                        have hr4 : r3 = true := hr3.2 (.inr (.inr (by omega)))
                        subst hr4
                        refine WL.val (run_not rfl) rfl rfl ?_
                        refine WL.val (run_pickF rfl) rfl rfl ?_
                        refine WL.nil ?_
                        refine W.condF rfl ?_
                        refine W.skip ?_
                        refine W.region ?_
                        refine WL.val run_move rfl rfl ?_
                        refine WL.val (run_incN rfl rfl (by omega)) rfl rfl ?_
                        refine WL.val run_assign rfl rfl ?_
                        refine WL.nil ?_
                        -- round, path FLTFFLTFFFT
                        exact ⟨q + 1, ⟨_, mkE_of ⟨rfl, rfl, rfl, rfl, rfl, rfl, trivial⟩, by omega, h⟩, by show 8 - (q + 1) < 8 - q; omega⟩
                      · skip
                        refine WL.val (run_pickF rfl) rfl rfl ?_
                        refine WL.val (run_neqBoolF Try.underlying4 rfl rfl (by rw [← Bool.not_eq_true, hr2]; omega)) rfl rfl ?_
                        refine WL.val (run_pickF rfl) rfl rfl ?_
                        refine WL.val run_move rfl rfl ?_
                        refine WL.val run_move rfl rfl ?_
                        refine WL.val run_move rfl rfl ?_
                        refine WL.eff (eff_call Try.call18 (allows_ok (t := t2) h)) rfl rfl ?_
                        rintro _ w ⟨⟨r3, rfl, hr3⟩, h⟩
                        have hr4 : r3 = true := hr3.2 (.inr (.inr (by omega)))
                        subst hr4
                        refine WL.val (run_not rfl) rfl rfl ?_
                        refine WL.val (run_pickF rfl) rfl rfl ?_
                        refine WL.nil ?_
                        refine W.condF rfl ?_
                        refine W.skip ?_
                        refine W.region ?_
                        refine WL.val run_move rfl rfl ?_
                        refine WL.val (run_incN rfl rfl (by omega)) rfl rfl ?_
                        refine WL.val run_assign rfl rfl ?_
                        refine WL.nil ?_
                        -- round, path FLTFFLTFFFF
                        exact ⟨q + 1, ⟨_, mkE_of ⟨rfl, rfl, rfl, rfl, rfl, rfl, trivial⟩, by omega, h⟩, by show 8 - (q + 1) < 8 - q; omega⟩
              · skip
                refine W.exit ?_
                refine W.region ?_
                refine WL.val run_move rfl rfl ?_
                refine WL.val (run_incN rfl rfl (by omega)) rfl rfl ?_
                refine WL.val run_assign rfl rfl ?_
                refine WL.nil ?_
                -- round, path FLTFFLF
                exact ⟨k + 1, ⟨_, t2, mkE_of ⟨rfl, rfl, rfl, trivial⟩, by omega, hinv2, h⟩, by show acts.length - (k + 1) < acts.length - k; omega⟩
      · skip
        refine W.exit ?_
        refine W.seq ?_
        refine W.region ?_
        refine WL.val run_assign rfl rfl ?_
        refine WL.nil ?_
        refine W.ret ?_
        refine bodyQ.r1 (v := .bool _) Try.results5 rfl ?_
        -- path FLF
        exact ⟨rfl, h.to⟩

end Go.Proofs.Ytbfdkalcpacaaaa
